/- The walk of the reference's Bezout. -/
import Derived.Test.YtcjcknncajinpaaGreatDoorRE
import Derived.Test.YtcjcknncajinpaaGreatDoorIY0
namespace Go.Proofs.YtcjcknncajinpaaGreatDoor
open Go.RowKit
set_option maxRecDepth 100000

set_option maxHeartbeats 1000000 in
theorem rBezout_err (w : World) (s t : ByteArray) (hs : s.size ≤ 1000000) (ht : t.size ≤ 1000000) (h : chks [s, t] ≠ 0) :
    Calls Tryz.prog 12 #[.string s, .string t] w (Rets fun v w' => v = .tuple #[.string ⟨#[]⟩, .string ⟨#[]⟩, .string ⟨#[]⟩, .int .i64 (chks [s, t])] ∧ Below w.heap.size w w') := by
  have hne : (chks [s, t] != 0) = true := by simp [h]
  clear h
  go_enter Tryz.func12, Tryz.ntmps12
  go_wp2_with (go_at_call 31; (with_reducible refine (rchecked_any _ s t hs ht).mono ?_); rintro e w1 ⟨v, rfl, rfl, rfl⟩)
  refine bodyPost_ret (v := .tuple #[.string ⟨#[]⟩, .string ⟨#[]⟩, .string ⟨#[]⟩, .int .i64 (chks [s, t])]) (by simp [results, Tryz.results12, go_sem]) rfl ?_
  exact ⟨_, rfl, rfl, Below.refl _ _⟩

theorem ord_zero (w : World) (x : Int) (hx : dn x ≤ 90000) : Calls Tryz.prog 47 #[.string (txt x), .string ⟨#[48]⟩] w (Rets fun v w' => v = .int .i64 x.sign ∧ Below w.heap.size w w') := by
  have := Order_any w x 0 hx (by unfold dn; rw [show Int.natAbs 0 = 0 from rfl, digs_zero]; simp)
  rw [txt0, Int.sub_zero] at this
  exact this
theorem sign_bd (x : Int) : -1 ≤ x.sign ∧ x.sign ≤ 1 := by
  rcases Int.lt_trichotomy x 0 with h | h | h
  · rw [Int.sign_eq_neg_one_of_neg h]; omega
  · rw [h]; decide
  · rw [Int.sign_eq_one_of_pos h]; omega
set_option maxHeartbeats 1000000 in
theorem rBezout_zero (w : World) (x : Int) (hx : Good (txt x) x) :
    Calls Tryz.prog 12 #[.string (txt x), .string (txt 0)] w (Rets fun v w' => v = .tuple #[.string (txt (x.natAbs : Int)), .string (txt x.sign), .string ⟨#[48]⟩, .int .i64 0] ∧ Below w.heap.size w w') := by
  have hg0 : Good (txt 0) 0 := by rw [txt0]; exact g0
  have h0 : chks [txt x, txt 0] = 0 := by rw [chks_pair, hx.chk, hg0.chk]; rfl
  have HX := Lib.hid hx; have H0 := Lib.hid h0; have HG := Lib.hid hg0
  have HGC := Lib.hid (show ((Nat.gcd x.natAbs (Int.natAbs 0) : Nat) : Int) = (x.natAbs : Int) by rw [show Int.natAbs 0 = 0 from rfl, Nat.gcd_zero_right])
  have HSG := Lib.hid (sign_bd x)
  have hz0 := txt_z0
  clear hx h0 hg0
  go_enter Tryz.func12, Tryz.ntmps12
  go_wp2_with (first
    | (go_at_call 31; (with_reducible refine (rchecked_any _ _ _ (by have := HX.out.size; omega) (by have := HG.out.size; omega)).mono ?_); rintro e w1 ⟨v, rfl, rfl, rfl⟩; rw [H0.out])
    | (go_at_call 45; (with_reducible refine (Common_any _ x 0 (by have := HX.out.dn; omega) (by have := HG.out.dn; omega)).mono ?_); rintro e w2 ⟨v, rfl, rfl, hb2⟩; rw [HGC.out])
    | (go_at_call 47; (with_reducible refine (ord_zero _ x (by have := HX.out.dn; omega)).mono ?_); rintro e w3 ⟨v, rfl, rfl, hb3⟩; have b3 := hb2.trans (hb3.mono hb2.size))
    | (go_at_call 46; (with_reducible refine (rOf_any _ x.sign (by have := HSG.out; omega) (by have := HSG.out; omega)).mono ?_); rintro e w4 ⟨v, rfl, rfl, hb4⟩; have b4 := b3.trans (hb4.mono b3.size)))
  refine bodyPost_ret (v := .tuple #[.string (txt (x.natAbs : Int)), .string (txt x.sign), .string ⟨#[48]⟩, .int .i64 0]) (by simp [results, Tryz.results12, go_sem]) rfl ?_
  exact ⟨_, rfl, rfl, b4⟩

theorem CoInv.start2 (a M : Int) (h : 0 < M) : CoInv a M M (Int.fmod a M) 0 1 := by
  have h1 := (CoInv.start a M h).step (by omega)
  have h2 := fmod_bd a M h
  rw [Int.fmod_eq_of_lt h2.1 h2.2, Int.mul_zero, Int.sub_zero] at h1
  exact h1
theorem CoInv.dns {a M r rest s nx : Int} (h : CoInv a M r rest s nx) {K : Nat} (hK : dn M ≤ K) : dn r ≤ K ∧ dn rest ≤ K ∧ dn s ≤ K ∧ dn nx ≤ K :=
  ⟨Nat.le_trans (dn_le (by have := h.pos; have := h.r0; have := h.rM; omega)) hK, Nat.le_trans (dn_le (by have := h.pos; have := h.e0; have := h.eM; omega)) hK,
    Nat.le_trans (dn_le (by have := h.pos; have := h.sM; omega)) hK, Nat.le_trans (dn_le (by have := h.pos; have := h.nM; omega)) hK⟩

set_option maxHeartbeats 4000000 in
theorem rBezout_ok (w : World) (x y : Int) (hx : Good (txt x) x) (hy : Good (txt y) y) (hy0 : y ≠ 0) :
    Calls Tryz.prog 12 #[.string (txt x), .string (txt y)] w (Rets fun v w' => v = .tuple #[.string (txt (Int.gcd x y : Int)), .string (txt (cox x y)), .string (txt (Int.fdiv ((Int.gcd x y : Int) - x * cox x y) y)), .int .i64 0] ∧ Below w.heap.size w w') := by
  have h0 : chks [txt x, txt y] = 0 := by rw [chks_pair, hx.chk, hy.chk]; rfl
  have hM : (0 : Int) < (y.natAbs : Int) := by omega
  obtain ⟨M, hMe⟩ : ∃ M : Int, (y.natAbs : Int) = M := ⟨_, rfl⟩
  rw [hMe] at hM
  have hdM : dn M ≤ 1024 := by rw [← hMe, dn_abs]; exact hy.dn
  obtain ⟨g, hg⟩ : ∃ g : Int, ((Nat.gcd x.natAbs y.natAbs : Nat) : Int) = g := ⟨_, rfl⟩
  have hgM : (Int.gcd x M : Int) = g := by rw [← hg, ← hMe]; simp [Int.gcd]
  have hgp : 0 < g := by
    have : 0 < Nat.gcd x.natAbs y.natAbs := Nat.gcd_pos_of_pos_right _ (by omega)
    omega
  have hdg : dn g ≤ 1024 := by
    have h1 : Nat.gcd x.natAbs y.natAbs ≤ y.natAbs := Nat.le_of_dvd (by omega) (Nat.gcd_dvd_right _ _)
    exact Nat.le_trans (dn_le (by omega)) hdM
  have HX := Lib.hid hx; have HY := Lib.hid hy; have H0 := Lib.hid h0; have HY0 := Lib.hid hy0; have HM := Lib.hid hM; have HME := Lib.hid hMe; have HDM := Lib.hid hdM; have HG := Lib.hid hg; have HGM := Lib.hid hgM; have HGP := Lib.hid hgp; have HDG := Lib.hid hdg
  have hne := txt_ne0 hy0
  clear hx hy h0 hy0 hM hMe hdM hg hgM hgp hdg
  go_enter Tryz.func12, Tryz.ntmps12
  go_wp2_with (first
    | (go_at_call 31; (with_reducible refine (rchecked_any _ _ _ (by have := HX.out.size; omega) (by have := HY.out.size; omega)).mono ?_); rintro e w1 ⟨v, rfl, rfl, rfl⟩; rw [H0.out])
    | (go_at_call 45; (with_reducible refine (Common_any _ x y (by have := HX.out.dn; omega) (by have := HY.out.dn; omega)).mono ?_); rintro e w2 ⟨v, rfl, rfl, hb2⟩; rw [HG.out]; have b := hb2)
    | (go_at_call 23; (with_reducible refine (Positive_any _ y (by have := HY.out.dn; omega)).mono ?_); rintro e w3 ⟨v, rfl, rfl, hb3⟩; rw [HME.out]; have b := b.trans (hb3.mono b.size))
    | (go_at_call 33; (with_reducible refine (Rest_any _ x M (by have := HX.out.dn; omega) (by have := HDM.out; omega) (by have := HM.out; omega)).mono ?_); rintro e w4 ⟨v, rfl, rfl, hb4⟩; have b := b.trans (hb4.mono b.size)))
  go_loopw [10, 11, 12, 13] (fun rv nv xv mv wr => ∃ R N s nx : Int, Hid (rv = .string (txt R)) ∧ Hid (nv = .string (txt N)) ∧ Hid (xv = .string (txt s)) ∧ Hid (mv = .string (txt nx)) ∧ Hid (CoInv x M R N s nx) ∧ Below w.heap.size w wr) (fun _ nv _ _ _ => (rdZ nv).natAbs)
  case atStart => exact ⟨M, Int.fmod x M, 0, 1, Lib.hid rfl, Lib.hid rfl, Lib.hid (by rw [txt0]), Lib.hid (by rw [← g1.eq]), Lib.hid (CoInv.start2 x M HM.out), b⟩
  case round =>
    obtain ⟨R, N, s, nx, h1, h2, h3, h4, hC, hb⟩ := hrel
    obtain rfl := h1.out
    obtain rfl := h2.out
    obtain rfl := h3.out
    obtain rfl := h4.out
    clear h1 h2 h3 h4
    by_cases hN : N = 0
    · subst hN
      have hz0 := txt_z0
      have hst := hC.out.stop
      have hR : R = g := by rw [hst.1, HGM.out]
      have hcx : cox x y = Int.fmod s (Int.fdiv M g) := cox_eq HY0.out (CoInv.isCo (by
        rw [HME.out, HGM.out]
        have := hst.2.2.2.2
        rw [hR] at this
        exact this))
      have hdv : 0 < Int.fdiv M g := by have := hst.2.2.1; rwa [hR] at this
      have hds := (hC.out.dns (Nat.le_refl (dn M))).2.2.1
      have hdd : dn (Int.fdiv M g) ≤ 2049 := by have h7 := dn_fdiv M g (by have := HGP.out; omega); have := HDM.out; have := HDG.out; omega
      have hdc : dn (Int.fmod s (Int.fdiv M g)) ≤ 2049 := Nat.le_trans (dn_fmod s _ (by omega)) hdd
      have HCX := Lib.hid hcx.symm
      have HDV := Lib.hid hdv; have HDS := Lib.hid hds; have HDD := Lib.hid hdd; have HDC := Lib.hid hdc
      have HMU := Lib.hid (dn_mul x (Int.fmod s (Int.fdiv M g)))
      have HSU := Lib.hid (dn_sub g (x * Int.fmod s (Int.fdiv M g)))
      have HGE := Lib.hid (show g = (Int.gcd x y : Int) by rw [← HG.out]; rfl)
      clear hst hR hcx hdv hds hdd hdc
      go_wp2_with (first
        | (go_at_call 23; (with_reducible refine (Positive_any _ y (by have := HY.out.dn; omega)).mono ?_); rintro e w3 ⟨v, rfl, rfl, hb3⟩; rw [HME.out]; have hb := hb.trans (hb3.mono hb.size))
        | (go_at_call 32; (with_reducible refine (Down_any _ M g (by have := HDM.out; omega) (by have := HDG.out; omega) (by have := HGP.out; omega)).mono ?_); rintro e w4 ⟨v, rfl, rfl, hb4⟩; have hb := hb.trans (hb4.mono hb.size))
        | (go_at_call 33; (with_reducible refine (Rest_any _ s (Int.fdiv M g) (by have := HDM.out; have := HDS.out; omega) (by have := HDD.out; omega) (by have := HDV.out; omega)).mono ?_); rintro e w5 ⟨v, rfl, rfl, hb5⟩; have hb := hb.trans (hb5.mono hb.size))
        | (go_at_call 49; (with_reducible refine (Times_any _ x (Int.fmod s (Int.fdiv M g)) (by have := HX.out.dn; omega) (by have := HDC.out; omega)).mono ?_); rintro e w6 ⟨v, rfl, rfl, hb6⟩; have hb := hb.trans (hb6.mono hb.size))
        | (go_at_call 48; (with_reducible refine (Less_any _ g (x * Int.fmod s (Int.fdiv M g)) (by have := HDG.out; omega) (by have := HX.out.dn; have := HDC.out; have := HMU.out; omega)).mono ?_); rintro e w7 ⟨v, rfl, rfl, hb7⟩; have hb := hb.trans (hb7.mono hb.size))
        | (go_at_call 32; (with_reducible refine (Down_any _ (g - x * Int.fmod s (Int.fdiv M g)) y (by have := HDG.out; have := HX.out.dn; have := HDC.out; have := HMU.out; have := HSU.out; omega) (by have := HY.out.dn; omega) HY0.out).mono ?_); rintro e w8 ⟨v, rfl, rfl, hb8⟩; have hb := hb.trans (hb8.mono hb.size)))
      refine bodyPost_ret (v := .tuple #[.string (txt g), .string (txt (Int.fmod s (Int.fdiv M g))), .string (txt (Int.fdiv (g - x * Int.fmod s (Int.fdiv M g)) y)), .int .i64 0]) (by simp [results, Tryz.results12, go_sem]) rfl ?_
      exact ⟨_, rfl, by rw [HCX.out, HGE.out], hb⟩
    · have hne2 := txt_ne0 hN
      have hst := hC.out.step hN
      have hds := hC.out.dns HDM.out
      have hdq := dn_fdiv R N hN
      have HST := Lib.hid hst; have HDS := Lib.hid hds; have HN := Lib.hid hN; have HDQ := Lib.hid hdq
      have HE := Lib.hid (show R - Int.fdiv R N * N = Int.fmod R N by have := Int.fmod_add_mul_fdiv R N; rw [Int.mul_comm] at this; omega)
      have HM1 := Lib.hid (dn_mul (Int.fdiv R N) N); have HM2 := Lib.hid (dn_mul (Int.fdiv R N) nx)
      clear hst hds hN hdq
      go_wp2_with (first
        | (go_at_call 32; (with_reducible refine (Down_any _ R N (by have := HDS.out.1; omega) (by have := HDS.out.2.1; omega) HN.out).mono ?_); rintro e w4 ⟨v, rfl, rfl, hb4⟩; have hb := hb.trans (hb4.mono hb.size))
        | (go_at_call 49; (with_reducible refine (Times_any _ (Int.fdiv R N) N (by have := HDQ.out; have := HDS.out; omega) (by have := HDS.out; omega)).mono ?_); rintro e w6 ⟨v, rfl, rfl, hb6⟩; have hb := hb.trans (hb6.mono hb.size))
        | (go_at_call 48; (with_reducible refine (Less_any _ R (Int.fdiv R N * N) (by have := HDS.out; omega) (by have := HDQ.out; have := HDS.out; have := HM1.out; omega)).mono ?_); rintro e w7 ⟨v, rfl, rfl, hb7⟩; rw [HE.out]; have hb := hb.trans (hb7.mono hb.size))
        | (go_at_call 49; (with_reducible refine (Times_any _ (Int.fdiv R N) nx (by have := HDQ.out; have := HDS.out; omega) (by have := HDS.out; omega)).mono ?_); rintro e w6 ⟨v, rfl, rfl, hb6⟩; have hb := hb.trans (hb6.mono hb.size))
        | (go_at_call 48; (with_reducible refine (Less_any _ s (Int.fdiv R N * nx) (by have := HDS.out; omega) (by have := HDQ.out; have := HDS.out; have := HM2.out; omega)).mono ?_); rintro e w7 ⟨v, rfl, rfl, hb7⟩; have hb := hb.trans (hb7.mono hb.size)))
      go_roundw
      case rel => exact ⟨N, Int.fmod R N, nx, s - Int.fdiv R N * nx, Lib.hid rfl, Lib.hid rfl, Lib.hid rfl, Lib.hid rfl, HST, hb⟩
      case measure => rw [rdZ_eq, rdZ_eq]; exact fmod_abs R N HN.out
end Go.Proofs.YtcjcknncajinpaaGreatDoor
