/- The walks of SameDigraphs, of the reference's Doubled and TwoWay, of euler's TwoWay where it errs. -/
import Derived.Test.YtlnhocgjgmhfgaaGreatDoorPk35
import Derived.Laws.StructEq
import Derived.Laws.Tables
import Derived.Laws.Cover2
namespace Go.Proofs.YtlnhocgjgmhfgaaGreatDoor
open Go.RowKit
set_option maxRecDepth 100000

theorem eqArc (a b c d e f : Int) (w : World) : (Op.equalIn 10000 83 (.agg #[.int .i64 a, .int .i64 b, .int .i64 c]) (.agg #[.int .i64 d, .int .i64 e, .int .i64 f])).run Tryz.prog w = .ok (a == d && (b == e && c == f)) w := by
  have u3 := Tryz.underlying3
  have a3 := Tryz.isAgg3
  have z3 := Tryz.sizeOf3
  have hS : Tryz.prog.underlying 83 = some (.struct (Tryz.prog.fieldsOf 83)) := by kernel_rfl
  have hp : Tryz.prog.stoodInHeld 83 = false := by kernel_rfl
  rw [show (10000 : Nat) = 9999 + 1 from rfl, run_equalIn_agg w 9999 83 _ _ hS hp]
  simp only [Program.fieldsOf, Tryz.underlying83]
  go_simp
  by_cases h1 : a = d <;> by_cases h2 : b = e <;> by_cases h3 : c = f <;> simp [h1, h2, h3]
set_option maxHeartbeats 2000000 in
theorem SameDig_same (w : World) (n : Int) (v u : Value) (es : List (Int × Int × Int)) (hv : SlK e3 3 w v es) (hu : SlK e3 3 w u es) :
    Calls Tryz.prog 11 #[.agg #[.int .i64 n, v], .agg #[.int .i64 n, u]] w (Rets fun r w' => r = .bool true ∧ Below w.heap.size w w') := by
  obtain ⟨a, b, o, c, rfl, hi, hp, hc, hm⟩ := hv.open elemArc
  obtain ⟨a', b', o', c', rfl, hi', hp', hc', hm'⟩ := hu.open elemArc
  clear hv hu
  unfold maxLen at hm hm'
  obtain ⟨D, hD⟩ : ∃ D, w.heap.size = D := ⟨_, rfl⟩
  obtain ⟨W1, hW1⟩ : ∃ W, w.alloc (.cells #[.int .i64 n, .slice a es.length c] 28) = W := ⟨_, rfl⟩
  obtain ⟨W, hW⟩ : ∃ W, W1.alloc (.cells #[.int .i64 n, .slice a' es.length c'] 28) = W := ⟨_, rfl⟩
  have hs1 : W1.heap.size = D + 1 := by rw [← hW1, World.size_alloc, hD]
  have k1 : Blk W1 D [.int .i64 n, .slice a es.length c] 28 := by rw [← hW1, ← hD]; exact Blk.new w _ _
  have HK1 := Lib.hid (show Blk W D [.int .i64 n, .slice a es.length c] 28 by rw [← hW]; exact k1.alloc _)
  have HK2 := Lib.hid (show Blk W (D + 1) [.int .i64 n, .slice a' es.length c'] 28 by rw [← hW, ← hs1]; exact Blk.new W1 _ _)
  have HB := Lib.hid (show Below D w W by
    have q1 : Below D w W1 := by rw [← hW1, ← hD]; exact (Below.refl _ w).alloc (Nat.le_refl _) _
    rw [← hW]; exact q1.alloc (by rw [hs1]; omega) _)
  have HWW := Lib.hid (show (w.alloc (.cells #[.int .i64 n, .slice a es.length c] 28)).alloc (.cells #[.int .i64 n, .slice a' es.length c'] 28) = W by rw [hW1, hW])
  have HB0 := Lib.hid (Below.refl W.heap.size W)
  have HDD := Lib.hid hD
  have c0 := HK1.out.cell 0 _ rfl; have c1 := HK1.out.cell 1 _ rfl; have d0 := HK2.out.cell 0 _ rfl; have d1 := HK2.out.cell 1 _ rfl
  have cl := HK1.out.lt; have dl := HK2.out.lt
  clear k1 hs1 hW1 hW
  go_enter Tryz.func11, Tryz.ntmps11
  go_wp2
  rw [HWW.out]
  clear c0 c1 d0 d1 cl dl
  go_loopw [5] (fun i wr => ∃ k : Nat, k ≤ es.length ∧ i = .int .i64 k ∧ Hid (Below W.heap.size W wr)) (fun i _ => es.length - (intOf i).toNat)
  case atStart => exact ⟨0, Nat.zero_le _, rfl, HB0⟩
  case round =>
    clear HB0
    obtain ⟨k, hk, rfl, hB⟩ := hrel
    have hK1 := HK1.out.below hB.out (Nat.le_refl _); have hK2 := HK2.out.below hB.out (Nat.le_refl _)
    have c0 := hK1.cell 0 _ rfl; have c1 := hK1.cell 1 _ rfl; have d0 := hK2.cell 0 _ rfl; have d1 := hK2.cell 1 _ rfl
    have cl := hK1.lt; have dl := hK2.lt
    have HQ := Lib.hid (HB.out.trans (hB.out.mono (by rw [← HDD.out]; exact HB.out.size)))
    clear hK1 hK2
    by_cases hkn : k < es.length
    · obtain ⟨⟨x, y, z⟩, hx⟩ : ∃ x, es[k] = x := ⟨_, rfl⟩
      have h1 : wr.cell? ⟨b, o + k * 3, none⟩ = some (.int .i64 x) := hp.at HQ.out (Nat.le_of_eq hD) k hkn 0 _ (by rw [hx]; rfl)
      have h2 : wr.cell? ⟨b, o + k * 3 + 1, none⟩ = some (.int .i64 y) := hp.at HQ.out (Nat.le_of_eq hD) k hkn 1 _ (by rw [hx]; rfl)
      have h3 : wr.cell? ⟨b, o + k * 3 + 2, none⟩ = some (.int .i64 z) := hp.at HQ.out (Nat.le_of_eq hD) k hkn 2 _ (by rw [hx]; rfl)
      have h4 : wr.cell? ⟨b', o' + k * 3, none⟩ = some (.int .i64 x) := hp'.at HQ.out (Nat.le_of_eq hD) k hkn 0 _ (by rw [hx]; rfl)
      have h5 : wr.cell? ⟨b', o' + k * 3 + 1, none⟩ = some (.int .i64 y) := hp'.at HQ.out (Nat.le_of_eq hD) k hkn 1 _ (by rw [hx]; rfl)
      have h6 : wr.cell? ⟨b', o' + k * 3 + 2, none⟩ = some (.int .i64 z) := hp'.at HQ.out (Nat.le_of_eq hD) k hkn 2 _ (by rw [hx]; rfl)
      have q1 : (0 : Int) ≤ (k : Int) := by omega
      have q2 : (k : Int) < (es.length : Int) := by omega
      have heq := fun W : World => eqArc x y z x y z W
      simp only [beq_self_eq_true, Bool.and_self] at heq
      clear hx
      go_wp2_with fail
      go_quiet (fail)
      have b3 := below_drewN hB.out nq
      go_wp2
      go_roundw
      case rel => exact ⟨k + 1, by omega, by go_num, Lib.hid b3⟩
      case measure => simp [intOf]; omega
    · obtain rfl : k = es.length := by omega
      go_wp2
      go_ret
      exact ⟨_, rfl, rfl, by first | exact HQ.out | (rw [hD]; exact HQ.out)⟩

set_option maxHeartbeats 4000000 in
theorem rDoubled_any (w : World) (n : Nat) (v : Value) (ns : List (Nat × Nat × Nat)) (hn : n ≤ 12) (hm : ∀ x ∈ ns, x.2.2 ≤ 50) (hv : SlK e3 3 w v (ns.map n3)) :
    Calls Tryz.prog 41 #[.agg #[.int .i64 (n : Nat), v]] w (Rets fun r w' => ∃ u, r = .agg #[.int .i64 (n : Nat), u] ∧ SlK e3 3 w' u ((dblD n ns n).map n3) ∧ Below w.heap.size w w') := by
  have HV := Lib.hid hv; have HM := Lib.hid hm
  obtain ⟨ad, c, rfl⟩ := hv.form
  rw [List.length_map] at HV ⊢
  obtain ⟨D, hD⟩ : ∃ D, w.heap.size = D := ⟨_, rfl⟩
  obtain ⟨W1, hW1⟩ : ∃ W, w.alloc (.cells #[.int .i64 (n : Nat), .slice ad ns.length c] 24) = W := ⟨_, rfl⟩
  obtain ⟨W2, hW2⟩ : ∃ W, W1.alloc (.cells #[.int .i64 0, .slice none 0 0] 28) = W := ⟨_, rfl⟩
  obtain ⟨W, hW⟩ : ∃ W, W2.alloc (.cells #[.int .i64 (n : Nat), .slice none 0 0] 28) = W := ⟨_, rfl⟩
  have s1 : W1.heap.size = D + 1 := by rw [← hW1, World.size_alloc, hD]
  have s2 : W2.heap.size = D + 1 + 1 := by rw [← hW2, World.size_alloc, s1]
  have s3 : W.heap.size = D + 1 + 1 + 1 := by rw [← hW, World.size_alloc, s2]
  have k1 : Blk W1 D [.int .i64 (n : Nat), .slice ad ns.length c] 24 := by rw [← hW1, ← hD]; exact Blk.new w _ _
  have k2 : Blk W2 D [.int .i64 (n : Nat), .slice ad ns.length c] 24 := by rw [← hW2]; exact k1.alloc _
  have r2 : Blk W2 (D + 1) [.int .i64 0, .slice none 0 0] 28 := by rw [← hW2, ← s1]; exact Blk.new W1 _ _
  have HG := Lib.hid (show Blk W D [.int .i64 (n : Nat), .slice ad ns.length c] 24 by rw [← hW]; exact k2.alloc _)
  have HR := Lib.hid (show Blk W (D + 1) [.int .i64 0, .slice none 0 0] 28 by rw [← hW]; exact r2.alloc _)
  have HX0 := Lib.hid (show Blk W (D + 1 + 1) [.int .i64 (n : Nat), .slice none 0 0] 28 by rw [← hW, ← s2]; exact Blk.new W2 _ _)
  have HB0 := Lib.hid (show Below D w W by
    have q1 : Below D w W1 := by rw [← hW1, ← hD]; exact (Below.refl _ w).alloc (Nat.le_refl _) _
    have q2 : Below D w W2 := by rw [← hW2]; exact q1.alloc (by rw [s1]; omega) _
    rw [← hW]; exact q2.alloc (by rw [s2]; omega) _)
  have HWW := Lib.hid (show ((w.alloc (.cells #[.int .i64 (n : Nat), .slice ad ns.length c] 24)).alloc (.cells #[.int .i64 0, .slice none 0 0] 28)).alloc (.cells #[.int .i64 (n : Nat), .slice none 0 0] 28) = W by rw [hW1, hW2, hW])
  have HO0 : Hid (W.ownsRow (D + 1 + 1 + 1) 83 3 (.slice none 0 0) (dblD n ns 0).length ((dblD n ns 0).flatMap t3)) := Lib.hid (World.ownsRow_nil _ _ _ _)
  have HB1 := Lib.hid (Below.refl (D + 1 + 1) W)
  have HS3 := Lib.hid s3; have HDD := Lib.hid hD
  clear k1 k2 r2 s1 s2 s3 hW1 hW2 hW hv hm
  go_enter Tryz.func41, Tryz.ntmps41
  go_wp2
  try rw [HWW.out]
  try rw [hD]
  go_loopw [4, 5, 6] (fun i b6 b7 wr => ∃ (k : Nat) (U : Value), k ≤ n ∧ i = .int .i64 k ∧ Hid (Blk wr (D + 1 + 1) [.int .i64 (n : Nat), U] 28) ∧ Hid (wr.ownsRow (D + 1 + 1 + 1) 83 3 U (dblD n ns k).length ((dblD n ns k).flatMap t3)) ∧ Hid (Below (D + 1 + 1) W wr)) (fun i _ _ _ => n - (intOf i).toNat)
  case atStart => exact ⟨0, _, Nat.zero_le _, rfl, HX0, HO0, HB1⟩
  case round =>
    clear HX0 HO0 HB1
    obtain ⟨k, U, hk, rfl, hX, hO, hB⟩ := hrel
    have hGr : Blk wr D [.int .i64 (n : Nat), .slice ad ns.length c] 24 := (hB.out.block D (by omega)).trans HG.out
    have g0 := hGr.cell 0 _ rfl; have gl := hGr.lt
    clear hGr
    by_cases hkn : k < n
    · have HO1 : Hid (wr.ownsRow (D + 1 + 1 + 1) 83 3 U (dblD n ns k ++ rowD ns k 0).length ((dblD n ns k ++ rowD ns k 0).flatMap t3)) := Lib.hid (by simpa [rowD] using hO.out)
      have HSUC := Lib.hid (dblD_succ n ns k)
      have hdl : (dblD n ns k).length ≤ 12 * k := dblD_len n ns k hn
      obtain ⟨Z, hZ⟩ : ∃ Z, dblD n ns k = Z := ⟨_, rfl⟩
      rw [hZ] at HO1 HSUC hdl
      have HDL := Lib.hid hdl
      clear hZ hO hdl
      go_wp2
      clear g0 gl
      go_loopw [5, 6] (fun i b6 wr => ∃ (j : Nat) (U : Value), j ≤ n ∧ i = .int .i64 j ∧ Hid (Blk wr (D + 1 + 1) [.int .i64 (n : Nat), U] 28) ∧ Hid (wr.ownsRow (D + 1 + 1 + 1) 83 3 U (Z ++ rowD ns k j).length ((Z ++ rowD ns k j).flatMap t3)) ∧ Hid (Below (D + 1 + 1) W wr)) (fun i _ _ => n - (intOf i).toNat)
      case atStart => exact ⟨0, _, Nat.zero_le _, rfl, hX, HO1, hB⟩
      case round =>
        clear HO1 hX hB
        obtain ⟨j, U, hj, rfl, hX, hO, hB⟩ := hrel
        have hGr : Blk wr D [.int .i64 (n : Nat), .slice ad ns.length c] 24 := (hB.out.block D (by omega)).trans HG.out
        have HGr := Lib.hid hGr
        have g0 := hGr.cell 0 _ rfl; have g1 := hGr.cell 1 _ rfl; have gl := hGr.lt
        clear hGr
        by_cases hjn : j < n
        · have HQ := Lib.hid (show Below D w wr from HB0.out.trans (hB.out.mono (by omega)))
          have HVr := Lib.hid (HV.out.below HQ.out (Nat.le_of_eq hD))
          obtain ⟨ua, uc, rfl⟩ := own_formK hO.out
          have HST := Lib.hid (rowD_succ ns k j)
          have hrl := rowD_len ns k j
          have hbl := btw_le k j ns HM.out
          have hdl := HDL.out
          have hln : (Z ++ rowD ns k j).length ≤ 12 * k + j := by rw [List.length_append]; omega
          obtain ⟨Y, hY⟩ : ∃ Y, Z ++ rowD ns k j = Y := ⟨_, rfl⟩
          have HAS := Lib.hid (fun l => show Z ++ (rowD ns k j ++ l) = Y ++ l by rw [← List.append_assoc, hY])
          rw [hY] at hO hln hX
          have hws : D + 1 + 1 + 1 ≤ wr.heap.size := by have := hB.out.size; have := HS3.out; omega
          clear hY hrl hdl
          obtain ⟨m, hm⟩ : ∃ m, btw k j ns = m := ⟨_, rfl⟩
          rw [hm] at hbl
          have HBT := Lib.hid (fun (W' : World) (h : SlK e3 3 W' (.slice ad ns.length c) (ns.map n3)) => show Calls Tryz.prog 67 #[.agg #[.int .i64 (n : Nat), .slice ad ns.length c], .int .i64 (k : Nat), .int .i64 (j : Nat)] W' (Rets fun r w' => r = .int .i64 (m : Nat) ∧ Below W'.heap.size W' w') from by rw [← hm]; exact Between_any W' n _ ns k j h)
          have HDE := Lib.hid (dbt_self ns k); have HDN := Lib.hid (fun h : k ≠ j => dbt_ne ns h)
          rw [hm] at HDN
          by_cases hkj : k = j
          · subst hkj
            have HD2 := Lib.hid (show dbt ns k k = 2 * m by rw [HDE.out, hm])
            have e1 : ((k : Int) == (k : Int)) = true := by simp
            clear hm
            by_cases hm0 : m = 0
            · subst hm0
              have HST2 := Lib.hid (show rowD ns k (k + 1) = rowD ns k k by rw [HST.out, HD2.out]; simp)
              go_wp2_with (go_at_call 67; (with_reducible refine (HBT.out _ HVr.out).mono ?_); rintro e w1 ⟨v, rfl, rfl, hb1⟩; have HX1 := Lib.hid (hX.out.below hb1 (Nat.le_refl _)); have HO1 := Lib.hid (own_below hO.out hb1 (Nat.le_refl _)); have HB1 := Lib.hid (hB.out.trans (hb1.mono (by have := HS3.out; have := hB.out.size; omega))); have x1 := HX1.out.cell 1 _ rfl; have xl := HX1.out.lt; have hs1 : D + 1 + 1 + 1 ≤ w1.heap.size := Nat.le_trans hws hb1.size; clear hb1)
              clear HBT
              go_roundw
              case rel => exact ⟨k + 1, _, by omega, by go_num, HX1, Lib.hid (by rw [HST2.out]; have := HAS.out []; simp only [List.append_nil] at this; rw [this]; exact HO1.out), HB1⟩
              case measure => simp [intOf]; omega
            · have e2 : decide ((0 : Int) < (m : Int) * 2) = true := by simp; omega
              have e3' : (0 : Int) < (m : Int) * 2 := by omega
              have HNV := Lib.hid (show t3 (k, k, 2 * m) = [.int .i64 (k : Nat), .int .i64 (k : Nat), .int .i64 ((m : Int) * 2)] by simp only [t3, n3, e3]; rw [show ((2 * m : Nat) : Int) = (m : Int) * 2 by omega])
              have HST2 := Lib.hid (show rowD ns k (k + 1) = rowD ns k k ++ [(k, k, 2 * m)] by rw [HST.out, HD2.out, if_pos (by omega)])
              clear hm0
              go_wp2_with (first
                | (at_builtin; go_loud (refine appM (w0 := w1) (W := w1) (m := 1) (news := [.int .i64 (k : Nat), .int .i64 (k : Nat), .int .i64 ((m : Int) * 2)]) elemArc rfl (.tmp 34) (.tmp 39) rfl (by rfl) (by rfl) HO1.out (Below.refl (D + 1 + 1 + 1) w1) (Nat.le_refl _) hs1 rfl (by intro u hu; simp only [List.mem_cons, List.not_mem_nil, or_false] at hu; rcases hu with rfl | rfl | rfl <;> rfl) (by omega) (by unfold maxLen; omega) ?_); intro v' w5 hown' hb'; obtain ⟨va, vc, rfl⟩ := own_formK hown'; have HX5 := Lib.hid (show Blk w5 (D + 1 + 1) _ 28 from (hb'.block (D + 1 + 1) (Nat.lt_succ_self _)).trans HX1.out); have HO5 := Lib.hid hown'; have HB5 := Lib.hid hb'; clear hown' hb'; have f1 := HX5.out.free 1; have k1 := HX5.out.cell 1 _ rfl; have kl := HX5.out.lt)
                | (go_at_call 67; (with_reducible refine (HBT.out _ HVr.out).mono ?_); rintro e w1 ⟨v, rfl, rfl, hb1⟩; have HX1 := Lib.hid (hX.out.below hb1 (Nat.le_refl _)); have HO1 := Lib.hid (own_below hO.out hb1 (Nat.le_refl _)); have HB1 := Lib.hid (hB.out.trans (hb1.mono (by have := HS3.out; have := hB.out.size; omega))); have x1 := HX1.out.cell 1 _ rfl; have xl := HX1.out.lt; have hs1 : D + 1 + 1 + 1 ≤ w1.heap.size := Nat.le_trans hws hb1.size; clear hb1))
              have HX6 := Lib.hid (HX5.out.set 1 (.slice va (Y.length + 1) vc))
              have HO6 := Lib.hid (own_otherK (g := D + 1 + 1) (j := 1) (u := .slice va (Y.length + 1) vc) HO5.out (fun e => absurd (own_ge HO5.out _ e) (by omega)))
              have HB6 := Lib.hid ((HB1.out.trans (HB5.out.mono (by omega))).setCell (p := ⟨D + 1 + 1, 1, none⟩) (Nat.le_refl _) (.slice va (Y.length + 1) vc))
              clear f1 k1 kl
              go_wp2
              go_roundw
              case rel => exact ⟨k + 1, _, by omega, by go_num, HX6, Lib.hid (by rw [HST2.out, HAS.out, List.length_append, flat_snoc, HNV.out]; exact HO6.out), HB6⟩
              case measure => simp [intOf]; omega
          · have HD2 := Lib.hid (HDN.out hkj)
            have e1 : ((k : Int) == (j : Int)) = false := by simp; omega
            have e1' : (k == j) = false := by simp [hkj]
            clear hm
            by_cases hm0 : m = 0
            · subst hm0
              have HST2 := Lib.hid (show rowD ns k (j + 1) = rowD ns k j by rw [HST.out, HD2.out]; simp)
              go_wp2_with (go_at_call 67; (with_reducible refine (HBT.out _ HVr.out).mono ?_); rintro e w1 ⟨v, rfl, rfl, hb1⟩; have HX1 := Lib.hid (hX.out.below hb1 (Nat.le_refl _)); have HO1 := Lib.hid (own_below hO.out hb1 (Nat.le_refl _)); have HB1 := Lib.hid (hB.out.trans (hb1.mono (by have := HS3.out; have := hB.out.size; omega))); have x1 := HX1.out.cell 1 _ rfl; have xl := HX1.out.lt; have hs1 : D + 1 + 1 + 1 ≤ w1.heap.size := Nat.le_trans hws hb1.size; clear hb1)
              clear HBT
              go_roundw
              case rel => exact ⟨j + 1, _, by omega, by go_num, HX1, Lib.hid (by rw [HST2.out]; have := HAS.out []; simp only [List.append_nil] at this; rw [this]; exact HO1.out), HB1⟩
              case measure => simp [intOf]; omega
            · have e2 : decide ((0 : Int) < (m : Int)) = true := by simp; omega
              have e3' : (0 : Int) < (m : Int) := by omega
              have e4 : 0 < m := by omega
              have HNV : Hid (t3 (k, j, m) = [.int .i64 (k : Nat), .int .i64 (j : Nat), .int .i64 (m : Nat)]) := Lib.hid rfl
              have HST2 := Lib.hid (show rowD ns k (j + 1) = rowD ns k j ++ [(k, j, m)] by rw [HST.out, HD2.out, if_pos (by omega)])
              clear hm0
              go_wp2_with (first
                | (at_builtin; go_loud (refine appM (w0 := w1) (W := w1) (m := 1) (news := [.int .i64 (k : Nat), .int .i64 (j : Nat), .int .i64 (m : Nat)]) elemArc rfl (.tmp 34) (.tmp 39) rfl (by rfl) (by rfl) HO1.out (Below.refl (D + 1 + 1 + 1) w1) (Nat.le_refl _) hs1 rfl (by intro u hu; simp only [List.mem_cons, List.not_mem_nil, or_false] at hu; rcases hu with rfl | rfl | rfl <;> rfl) (by omega) (by unfold maxLen; omega) ?_); intro v' w5 hown' hb'; obtain ⟨va, vc, rfl⟩ := own_formK hown'; have HX5 := Lib.hid (show Blk w5 (D + 1 + 1) _ 28 from (hb'.block (D + 1 + 1) (Nat.lt_succ_self _)).trans HX1.out); have HO5 := Lib.hid hown'; have HB5 := Lib.hid hb'; clear hown' hb'; have f1 := HX5.out.free 1; have k1 := HX5.out.cell 1 _ rfl; have kl := HX5.out.lt)
                | (go_at_call 67; (with_reducible refine (HBT.out _ HVr.out).mono ?_); rintro e w1 ⟨v, rfl, rfl, hb1⟩; have HX1 := Lib.hid (hX.out.below hb1 (Nat.le_refl _)); have HO1 := Lib.hid (own_below hO.out hb1 (Nat.le_refl _)); have HB1 := Lib.hid (hB.out.trans (hb1.mono (by have := HS3.out; have := hB.out.size; omega))); have x1 := HX1.out.cell 1 _ rfl; have xl := HX1.out.lt; have hs1 : D + 1 + 1 + 1 ≤ w1.heap.size := Nat.le_trans hws hb1.size; clear hb1))
              have HX6 := Lib.hid (HX5.out.set 1 (.slice va (Y.length + 1) vc))
              have HO6 := Lib.hid (own_otherK (g := D + 1 + 1) (j := 1) (u := .slice va (Y.length + 1) vc) HO5.out (fun e => absurd (own_ge HO5.out _ e) (by omega)))
              have HB6 := Lib.hid ((HB1.out.trans (HB5.out.mono (by omega))).setCell (p := ⟨D + 1 + 1, 1, none⟩) (Nat.le_refl _) (.slice va (Y.length + 1) vc))
              clear f1 k1 kl
              go_wp2
              go_roundw
              case rel => exact ⟨j + 1, _, by omega, by go_num, HX6, Lib.hid (by rw [HST2.out, HAS.out, List.length_append, flat_snoc, HNV.out]; exact HO6.out), HB6⟩
              case measure => simp [intOf]; omega
        · obtain rfl : j = n := by omega
          go_wp2
          go_roundw
          case rel => exact ⟨k + 1, _, by omega, by go_num, hX, Lib.hid (by rw [HSUC.out]; exact hO.out), hB⟩
          case measure => simp [intOf]; omega
    · obtain rfl : k = n := by omega
      have hRr : Blk wr (D + 1) [.int .i64 0, .slice none 0 0] 28 := (hB.out.block (D + 1) (by omega)).trans HR.out
      have HRr := Lib.hid hRr
      obtain ⟨ua, uc, rfl⟩ := own_formK hO.out
      have x0 := hX.out.cell 0 _ rfl; have x1 := hX.out.cell 1 _ rfl; have xl := hX.out.lt
      have r0 := hRr.cell 0 _ rfl; have r1 := hRr.cell 1 _ rfl; have rl := hRr.lt; have f0 := hRr.free 0; have f1 := hRr.free 1
      clear hRr
      obtain ⟨Z, hZ⟩ : ∃ Z, dblD k ns k = Z := ⟨_, rfl⟩
      rw [hZ] at hO x1
      have HZ := Lib.hid hZ
      clear hZ
      go_wp2
      have HR4 := (HRr.out.set 0 (.int .i64 (k : Nat))).set 1 (.slice ua Z.length uc)
      have hO4 : ((wr.setCell ⟨D + 1, 0, none⟩ (.int .i64 (k : Nat))).setCell ⟨D + 1, 1, none⟩ (.slice ua Z.length uc)).ownsRow D 83 3 (.slice ua Z.length uc) Z.length (Z.flatMap t3) :=
        own_baseK (own_otherK (own_otherK hO.out (fun e => by have := own_ge hO.out _ e; omega)) (fun e => by have := own_ge hO.out _ e; omega)) (by omega)
      have hB4 := ((HB0.out.trans (hB.out.mono (by omega))).setCell (p := ⟨D + 1, 0, none⟩) (by simp) (.int .i64 (k : Nat))).setCell (p := ⟨D + 1, 1, none⟩) (by simp) (.slice ua Z.length uc)
      obtain ⟨w4, hw4⟩ : ∃ w4, (wr.setCell ⟨D + 1, 0, none⟩ (.int .i64 (k : Nat))).setCell ⟨D + 1, 1, none⟩ (.slice ua Z.length uc) = w4 := ⟨_, rfl⟩
      rw [hw4] at HR4 hO4 hB4 ⊢
      have z0 := HR4.cell 0 _ rfl
      have z1 := HR4.cell 1 _ rfl
      exact bodyPost_ret (v := .agg #[.int .i64 (k : Nat), .slice ua Z.length uc]) (by simp [results, Tryz.results41, go_sem, z0, z1]) rfl ⟨_, rfl, _, rfl, (by rw [HZ.out]; exact SlK.ofOwns e3_len (show w4.ownsRow D 83 3 (.slice ua Z.length uc) Z.length ((Z.map n3).flatMap e3) by rw [List.flatMap_map]; exact hO4) (List.length_map _).symm), (by first | exact hB4 | (rw [hD]; exact hB4))⟩
end Go.Proofs.YtlnhocgjgmhfgaaGreatDoor
