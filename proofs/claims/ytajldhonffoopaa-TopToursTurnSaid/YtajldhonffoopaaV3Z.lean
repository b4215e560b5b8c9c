/- The walk of TopToursTurn. -/
import Derived.Test.YtajldhonffoopaaPk4
namespace Go.Proofs.Ytajldhonffoopaa
open Go.RowKit
set_option maxRecDepth 100000

set_option maxHeartbeats 4000000 in
theorem TopToursTurn_any (w : World) (n : Int) (v : Value) (es : List (Int × Int × Int)) (at_ : Int) (rv : Value) (us : List Int) (hv : SlK e3 3 w v es) (hu : SlK iz 1 w rv us) :
    Calls Try.prog 3 #[.agg #[.int .i64 n, v], .agg #[.int .i64 at_, rv]] w (Rets fun r w' => r = .bool true ∧ Below w.heap.size w w') := by
  have HV := Lib.hid hv; have HU := Lib.hid hu
  obtain ⟨ad, c, rfl⟩ := hv.form
  obtain ⟨ru, cu, rfl⟩ := hu.form
  obtain ⟨W1, hW1⟩ : ∃ W, w.alloc (.cells #[.int .i64 n, .slice ad es.length c] 24) = W := ⟨_, rfl⟩
  obtain ⟨W, hW⟩ : ∃ W, W1.alloc (.cells #[.int .i64 at_, .slice ru us.length cu] 27) = W := ⟨_, rfl⟩
  have z1 : W1.heap.size = w.heap.size + 1 := by rw [← hW1, World.size_alloc]
  have z2 : W.heap.size = w.heap.size + 1 + 1 := by rw [← hW, World.size_alloc, z1]
  have k1 : Blk W1 w.heap.size [.int .i64 n, .slice ad es.length c] 24 := by rw [← hW1]; exact Blk.new w _ _
  have HG := Lib.hid (show Blk W w.heap.size [.int .i64 n, .slice ad es.length c] 24 by rw [← hW]; exact k1.alloc _)
  have HX := Lib.hid (show Blk W (w.heap.size + 1) [.int .i64 at_, .slice ru us.length cu] 27 by rw [← hW, ← z1]; exact Blk.new W1 _ _)
  have HQ := Lib.hid (show Below w.heap.size w W by
    have q1 : Below w.heap.size w W1 := by rw [← hW1]; exact (Below.refl _ w).alloc (Nat.le_refl _) _
    rw [← hW]; exact q1.alloc q1.size _)
  have HW : Hid ((w.alloc (.cells #[.int .i64 n, .slice ad es.length c] 24)).alloc (.cells #[.int .i64 at_, .slice ru us.length cu] 27) = W) := Lib.hid (by rw [hW1, hW])
  have HVW := Lib.hid (HV.out.below HQ.out (Nat.le_refl _))
  clear k1 hW1 hW z1 hv hu
  by_cases hsm : smallB n es 5 8 = true
  rotate_left
  · have HS := Lib.hid (show smallB n es 5 8 = false by simpa using hsm)
    clear hsm
    go_enter Try.func3, Try.ntmps3
    go_wp2_with (first
      | (go_at_call 4; rw [HW.out]; (with_reducible refine (FewTrees_any W n _ es HVW.out).mono ?_); rintro e w1 ⟨v, rfl, rfl, hb⟩; rw [HS.out]; have HB1 := Lib.hid hb; clear hb)
      | (go_at_call 7; (with_reducible refine (casePlain_ok _).mono ?_); rintro e w2 ⟨v, rfl, rfl, hb⟩; have HB2 := Lib.hid hb; clear hb))
    go_ret
    exact ⟨_, rfl, rfl, HQ.out.trans ((HB1.out.trans (HB2.out.mono HB1.out.size)).mono HQ.out.size)⟩
  have HS := Lib.hid hsm
  by_cases hc : chkG n es = 0
  rotate_left
  · have hne : (chkG n es == 0) = false := by rw [beq_eq_false_iff_ne]; exact hc
    obtain ⟨z, hz⟩ : ∃ z, chkG n es = z := ⟨_, rfl⟩
    rw [hz] at hne hc
    have HZ := Lib.hid hz
    clear hz hsm
    go_enter Try.func3, Try.ntmps3
    go_wp2_with (first
      | (go_at_call 4; rw [HW.out]; (with_reducible refine (FewTrees_any W n _ es HVW.out).mono ?_); rintro e w1 ⟨v, rfl, rfl, hb⟩; rw [HS.out]; have HB1 := Lib.hid hb; clear hb; obtain ⟨g0, g1, hlg⟩ := hs_of HG.out HB1.out)
      | (go_at_call 5; (with_reducible refine (rGCheck_any w1 n _ es (HVW.out.below HB1.out (Nat.le_refl _))).mono ?_); rintro e w2 ⟨v, rfl, rfl, hb⟩; rw [HZ.out]; have HB2 := Lib.hid (HB1.out.trans (hb.mono HB1.out.size)); clear hb)
      | (go_at_call 7; (with_reducible refine (casePlain_ok _).mono ?_); rintro e w3 ⟨v, rfl, rfl, hb⟩; have HB3 := Lib.hid (HB2.out.trans (hb.mono HB2.out.size)); clear hb))
    go_ret
    exact ⟨_, rfl, rfl, HQ.out.trans (HB3.out.mono HQ.out.size)⟩
  have HC := Lib.hid hc
  by_cases hul : (20 : Int) < (us.length : Int)
  · clear hc hsm
    go_enter Try.func3, Try.ntmps3
    go_wp2_with (first
      | (go_at_call 4; rw [HW.out]; (with_reducible refine (FewTrees_any W n _ es HVW.out).mono ?_); rintro e w1 ⟨v, rfl, rfl, hb⟩; rw [HS.out]; have HB1 := Lib.hid hb; clear hb; obtain ⟨g0, g1, hlg⟩ := hs_of HG.out HB1.out)
      | (go_at_call 5; (with_reducible refine (rGCheck_any w1 n _ es (HVW.out.below HB1.out (Nat.le_refl _))).mono ?_); rintro e w2 ⟨v, rfl, rfl, hb⟩; rw [HC.out]; have HB2 := Lib.hid (HB1.out.trans (hb.mono HB1.out.size)); clear hb; obtain ⟨x0, x1, hlx⟩ := hs_of HX.out HB2.out)
      | (go_at_call 7; (with_reducible refine (casePlain_ok _).mono ?_); rintro e w3 ⟨v, rfl, rfl, hb⟩; have HB3 := Lib.hid (HB2.out.trans (hb.mono HB2.out.size)); clear hb))
    go_ret
    exact ⟨_, rfl, rfl, HQ.out.trans (HB3.out.mono HQ.out.size)⟩
  obtain ⟨ns, hRG⟩ := rg_of hc
  have he := hRG.eq
  subst he
  obtain ⟨N, rfl⟩ : ∃ N : Nat, n = (N : Int) := ⟨n.toNat, by have := hRG.pos; omega⟩
  exact Turn_main w N _ ns at_ _ us HV.out HU.out hRG hc hsm hul
end Go.Proofs.Ytajldhonffoopaa
