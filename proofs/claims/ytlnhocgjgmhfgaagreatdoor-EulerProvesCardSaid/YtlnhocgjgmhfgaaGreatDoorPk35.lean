/- The walks of euler's Trees and Tours, where the walk of rooted serves. Plain: the two-way digraph of a right graph. Examples of the Euler laws: the digraph Double, the graph Triangle and its two-way digraph. Plain: the two-way digraph as the reference lists it. Plain: a unicycle of the two-way digraph is back behind a full tour. Plain: a unicycle that is walked along stays one; the way of as many steps as there are arcs is a tour, on every Eulerian digraph. The walk of euler's Verify, at lists of single arcs that are tours or have another length. -/
import Derived.Test.YtlnhocgjgmhfgaaGreatDoorPk34
import Derived.Test.YtlnhocgjgmhfgaaGreatDoorPk14
import Derived.Test.YtlnhocgjgmhfgaaGreatDoorPk6
import Derived.Test.YtlnhocgjgmhfgaaGreatDoorPk7
import Derived.Test.YtlnhocgjgmhfgaaGreatDoorPk36
import Derived.Test.YtlnhocgjgmhfgaaGreatDoorPk11
import Derived.WalkSpells
import Derived.BigQuiet
import Derived.Test.YtlnhocgjgmhfgaaGreatDoorPk15
namespace Go.Proofs.YtlnhocgjgmhfgaaGreatDoor
open Go.RowKit
set_option maxRecDepth 100000

def atN (n rt : Nat) : List Nat := (List.range n).filter fun s => !isR rt s
theorem ints_range (k : Nat) : ints (List.range (k + 1)) = ints (List.range k) ++ [.int .i64 (k : Nat)] := by rw [List.range_succ]; simp [ints]
set_option maxHeartbeats 4000000 in
theorem Trees_ok (w : World) (n : Nat) (v : Value) (ns : List (Nat × Nat × Nat)) (rt : Nat) (hR : RD n ns) (hv : SlK e3 3 w v (ns.map n3)) (hl : ns.length ≤ 500) (hrt : rt < n) (hk1 : 1 ≤ (atN n rt).length) (hk6 : (atN n rt).length ≤ 6) (he : Env w) :
    Calls Tryz.prog 35 #[.agg #[.int .i64 (n : Nat), v], .int .i64 (rt : Nat)] w (Rets fun r w' => r = .tuple #[.string (txt (det (atN n rt).length (rtM (atN n rt) ns))), .int .i64 0] ∧ Below w.heap.size w w') := by
  have HR := Lib.hid hR; have HV := Lib.hid hv; have HE := Lib.hid he
  have HM := Lib.hid (show ∀ x ∈ ns, x.2.2 ≤ 50 from fun x hx => (hR.rng x hx).2.2.2)
  have n12 := hR.le
  obtain ⟨ad, c, rfl⟩ := hv.form
  rw [List.length_map] at HV ⊢
  obtain ⟨D, hD⟩ : ∃ D, w.heap.size = D := ⟨_, rfl⟩
  obtain ⟨W, hW⟩ : ∃ W, w.alloc (.cells #[.int .i64 (n : Nat), .slice ad ns.length c] 28) = W := ⟨_, rfl⟩
  have hWs : W.heap.size = D + 1 := by rw [← hW, ← hD]; simp
  have HK0 := Lib.hid (show Blk W D [.int .i64 (n : Nat), .slice ad ns.length c] 28 by rw [← hW, ← hD]; exact Blk.new w _ _)
  have HB0 := Lib.hid (show Below D w W by rw [← hW, ← hD]; exact (Below.refl _ w).alloc (Nat.le_refl _) _)
  have HV0 := Lib.hid (HV.out.below HB0.out (Nat.le_of_eq hD))
  have HW := Lib.hid hW
  have k0 := HK0.out.cell 0 _ rfl; have k1 := HK0.out.cell 1 _ rfl; have kl := HK0.out.lt
  have d1 : decide ((rt : Int) < 0) = false := by simp only [decide_eq_false_iff_not]; omega
  have d2 : decide ((n : Int) ≤ (rt : Int)) = false := by simp only [decide_eq_false_iff_not]; omega
  have d3 : decide (n ≤ rt) = false := by simp only [decide_eq_false_iff_not]; omega
  have HK1 := Lib.hid hk1; have HK6 := Lib.hid hk6
  obtain ⟨TX, hTX⟩ : ∃ t, txt (det (atN n rt).length (rtM (atN n rt) ns)) = t := ⟨_, rfl⟩
  have HRT := Lib.hid (fun (W' : World) (u : Value) (h1 : SlK e3 3 W' (.slice ad ns.length c) (ns.map n3)) (h2 : Sl eJ W' u (List.range n)) (h3 : Env W') => show Calls Tryz.prog 59 #[.agg #[.int .i64 (n : Nat), .slice ad ns.length c], .int .i64 (rt : Nat), u] W' (Rets fun r w' => r = .tuple #[.string TX, .int .i64 0] ∧ Below W'.heap.size W' w') from by
    rw [← hTX]
    exact rooted_ok W' n _ ns rt u (List.range n) (atN n rt) h1 h2 HM.out hl (by rw [List.length_range]; omega) rfl HK1.out HK6.out h3)
  rw [hTX]
  clear hv hR hW hWs he hk1 hk6 hTX
  go_enter Tryz.func35, Tryz.ntmps35
  go_wp2_with ((go_at_call 46); rw [HW.out]; (with_reducible refine (NCheck_ok W n _ ns HR.out HV0.out).mono ?_); rintro e w1 ⟨v, rfl, rfl, hb⟩; have HB1 := Lib.hid (HB0.out.trans (hb.mono (by rw [← hD]; exact HB0.out.size))); have HK2 := Lib.hid (HK0.out.below hb (Nat.le_refl _)); have k0 := HK2.out.cell 0 _ rfl; have k1 := HK2.out.cell 1 _ rfl; have kl := HK2.out.lt; clear hb)
  clear k0 k1 kl HK0 HB0 HV0
  have HZ := Lib.hid HK2.out.lt
  go_loopw [7, 24] (fun s q wr => ∃ k : Nat, k ≤ n ∧ q = .int .i64 k ∧ Hid (wr.ownsRow (D + 1) 3 1 s k (ints (List.range k))) ∧ Hid (Blk wr D [.int .i64 (n : Nat), .slice ad ns.length c] 28) ∧ Hid (Below D w wr)) (fun _ q _ => n - (intOf q).toNat)
  case atStart => exact ⟨0, Nat.zero_le _, rfl, Lib.hid (World.ownsRow_nil _ _ _ _), HK2, HB1⟩
  case round =>
    clear HK2 HB1
    obtain ⟨k, hk, rfl, hO, hK, hB⟩ := hrel
    obtain ⟨sa, sc, rfl⟩ := own_formK hO.out
    have hge := own_ge hO.out
    have hsz := hK.out.lt
    by_cases hkn : k < n
    · go_wp2_with (at_builtin; refine appMG (w0 := wr) (W := w) (B := D) (m := 1) (news := [.int .i64 (k : Nat)]) elemI rfl _ _ rfl rfl rfl hO.out hB.out (Nat.le_succ D) hsz rfl (by intro u hu; simp at hu; subst hu; rfl) (by omega) (by unfold maxLen; omega) ?_; intro v' w3 hown' hb3 hg2 hat2; obtain ⟨va, vc, rfl⟩ := own_formK hown'; have HO3 := Lib.hid hown'; have HG3 := Lib.hid hg2; have HB3 := Lib.hid hb3; clear hown' hg2 hb3 hat2)
      go_roundw
      case rel => exact ⟨k + 1, by omega, by go_num, Lib.hid (by rw [ints_range]; exact HO3.out), Lib.hid ((HG3.out.block D (by rw [World.size_alloc]; omega) (fun e => by have := hge D e.symm; omega)).trans (hK.out.alloc (.cells [Value.int .i64 (k : Nat)].toArray 3))), HB3⟩
      case measure => simp [intOf]; omega
    · obtain rfl : n = k := by omega
      have HSL := Lib.hid (show Sl eJ wr (.slice sa n sc) (List.range n) from Sl.ofOwns hO.out)
      have HVW := Lib.hid (HV.out.below hB.out (Nat.le_of_eq hD))
      have HEW := Lib.hid (HE.out.below hB.out (Nat.le_of_eq hD))
      have k0 := hK.out.cell 0 _ rfl; have k1 := hK.out.cell 1 _ rfl; have kl := hK.out.lt
      go_wp2_with ((go_at_call 59); (with_reducible refine (HRT.out wr _ HVW.out HSL.out HEW.out).mono ?_); rintro e w9 ⟨v9, rfl, rfl, hb9⟩; have HQ9 := Lib.hid (hB.out.trans (hb9.mono (by rw [← hD]; exact hB.out.size))); clear hb9)
      go_ret2
      exact ⟨_, rfl, rfl, by rw [hD]; exact HQ9.out⟩
set_option maxHeartbeats 4000000 in
theorem Tours_ok (w : World) (n : Nat) (v : Value) (ns : List (Nat × Nat × Nat)) (hR : RD n ns) (hv : SlK e3 3 w v (ns.map n3)) (hl : ns.length ≤ 500) (hE : EulC n ns) (hdeg : degAt (·.1) n ns ns.length = List.replicate n 2) (hk1 : 1 ≤ (atN n 0).length) (hk6 : (atN n 0).length ≤ 6) (he : Env w) :
    Calls Tryz.prog 34 #[.agg #[.int .i64 (n : Nat), v]] w (Rets fun r w' => r = .tuple #[.string (txt (det (atN n 0).length (rtM (atN n 0) ns))), .int .i64 0] ∧ Below w.heap.size w w') := by
  have HR := Lib.hid hR; have HV := Lib.hid hv; have HEN := Lib.hid he; have HEU := Lib.hid hE
  have HM := Lib.hid (show ∀ x ∈ ns, x.2.2 ≤ 50 from fun x hx => (hR.rng x hx).2.2.2)
  have n12 := hR.le
  have n1 := hR.pos
  obtain ⟨ad, c, rfl⟩ := hv.form
  rw [List.length_map] at HV ⊢
  obtain ⟨D, hD⟩ : ∃ D, w.heap.size = D := ⟨_, rfl⟩
  obtain ⟨W, hW⟩ : ∃ W, w.alloc (.cells #[.int .i64 (n : Nat), .slice ad ns.length c] 28) = W := ⟨_, rfl⟩
  have hWs : W.heap.size = D + 1 := by rw [← hW, ← hD]; simp
  have HK0 := Lib.hid (show Blk W D [.int .i64 (n : Nat), .slice ad ns.length c] 28 by rw [← hW, ← hD]; exact Blk.new w _ _)
  have HB0 := Lib.hid (show Below D w W by rw [← hW, ← hD]; exact (Below.refl _ w).alloc (Nat.le_refl _) _)
  have HV0 := Lib.hid (HV.out.below HB0.out (Nat.le_of_eq hD))
  have HW := Lib.hid hW
  have k0 := HK0.out.cell 0 _ rfl; have k1 := HK0.out.cell 1 _ rfl; have kl := HK0.out.lt
  have HK1 := Lib.hid hk1; have HK6 := Lib.hid hk6; have HDG := Lib.hid hdeg
  obtain ⟨TX, hTX⟩ : ∃ t, txt (det (atN n 0).length (rtM (atN n 0) ns)) = t := ⟨_, rfl⟩
  have HRT := Lib.hid (fun (W' : World) (u : Value) (h1 : SlK e3 3 W' (.slice ad ns.length c) (ns.map n3)) (h2 : Sl eJ W' u (List.range n)) (h3 : Env W') => show Calls Tryz.prog 59 #[.agg #[.int .i64 (n : Nat), .slice ad ns.length c], .int .i64 0, u] W' (Rets fun r w' => r = .tuple #[.string TX, .int .i64 0] ∧ Below W'.heap.size W' w') from by
    rw [← hTX]
    exact rooted_ok W' n _ ns 0 u (List.range n) (atN n 0) h1 h2 HM.out hl (by rw [List.length_range]; omega) rfl HK1.out HK6.out h3)
  rw [hTX]
  clear hv hR hW hWs he hk1 hk6 hTX hE hdeg
  go_enter Tryz.func34, Tryz.ntmps34
  go_wp2_with (first
    | (go_at_call 53; (with_reducible refine (degrees_ok w2 n _ ns HR.out HV2.out (by omega)).mono ?_); rintro e w3 ⟨v, rfl, A, B, rfl, hA, hB9, hrest⟩; have HDB := Lib.hid hrest; have HA := Lib.hid hA; clear hA hB9 hrest)
    | (go_at_call 47; (with_reducible refine (eulerian_ok w1 n _ ns HR.out HV1.out (by omega)).mono ?_); rintro e w2 ⟨v, rfl, tt, rfl, hb2, ht2⟩; have HB2 := Lib.hid (HB1.out.trans (hb2.mono (by rw [← hD]; exact HB1.out.size))); have HK2 := Lib.hid (HK9.out.below hb2 (Nat.le_refl _)); have HV2 := Lib.hid (HV1.out.below hb2 (Nat.le_refl _)); have htt := ht2.2 HEU.out; subst htt; have k0 := HK2.out.cell 0 _ rfl; have k1 := HK2.out.cell 1 _ rfl; have kl := HK2.out.lt; clear hb2 ht2)
    | (go_at_call 46; rw [HW.out]; (with_reducible refine (NCheck_ok W n _ ns HR.out HV0.out).mono ?_); rintro e w1 ⟨v, rfl, rfl, hb⟩; have HB1 := Lib.hid (HB0.out.trans (hb.mono (by rw [← hD]; exact HB0.out.size))); have HK9 := Lib.hid (HK0.out.below hb (Nat.le_refl _)); have HV1 := Lib.hid (HV0.out.below hb (Nat.le_refl _)); have k0 := HK9.out.cell 0 _ rfl; have k1 := HK9.out.cell 1 _ rfl; have kl := HK9.out.lt; clear hb))
  clear k0 k1 kl HK0 HB0 HV0 HK9 HB1 HV1
  obtain ⟨hA0, hB0, hb3⟩ := HDB.out
  have HB3 := Lib.hid (HB2.out.trans (hb3.mono (by rw [← hD]; exact HB2.out.size)))
  have HK3 := Lib.hid (HK2.out.below hb3 (Nat.le_refl _))
  rw [HDG.out] at HA
  obtain ⟨E, hEE⟩ : ∃ E, w3.heap.size = E := ⟨_, rfl⟩
  have HEE := Lib.hid hEE
  have HAE := Lib.hid (show A < E by rw [← hEE]; exact HA.out.lt)
  have HDE := Lib.hid (show D < E by rw [← hEE]; exact HK3.out.lt)
  clear hA0 hB0 hb3 HDB hEE
  go_loopw [7, 30] (fun s q wr => ∃ k : Nat, k ≤ n ∧ q = .int .i64 k ∧ Hid (wr.ownsRow E 3 1 s k (ints (List.range k))) ∧ Hid (Below E w3 wr)) (fun _ q _ => n - (intOf q).toNat)
  case atStart => exact ⟨0, Nat.zero_le _, rfl, Lib.hid (World.ownsRow_nil _ _ _ _), Lib.hid (by rw [← HEE.out]; exact Below.refl _ _)⟩
  case round =>
    obtain ⟨k, hk, rfl, hO, hB⟩ := hrel
    obtain ⟨sa, sc, rfl⟩ := own_formK hO.out
    have hsz : E ≤ wr.heap.size := by rw [← HEE.out]; exact hB.out.size
    by_cases hkn : k < n
    · have hAr := HA.out.below hB.out (Nat.le_of_eq HEE.out)
      have c0 : wr.cell? ⟨A, k, none⟩ = some (.int .i64 2) := hAr.cell k _ (by rw [ints_at _ k (by simp; exact hkn)]; simp)
      have al := hAr.lt
      have p1 : (0 : Int) ≤ (k : Int) := by omega
      have p2 : (k : Int) < (n : Int) := by omega
      go_wp2_with (at_builtin; refine appMG (w0 := wr) (W := w3) (B := E) (m := 1) (news := [.int .i64 (k : Nat)]) elemI rfl _ _ rfl rfl rfl hO.out hB.out (Nat.le_refl E) hsz rfl (by intro u hu; simp at hu; subst hu; rfl) (by omega) (by unfold maxLen; omega) ?_; intro v' w4 hown' hb4 hg4 hat4; obtain ⟨va, vc, rfl⟩ := own_formK hown'; have HO4 := Lib.hid hown'; have HB4 := Lib.hid hb4; clear hown' hg4 hb4 hat4)
      go_roundw
      case rel => exact ⟨k + 1, by omega, by go_num, Lib.hid (by rw [ints_range]; exact HO4.out), HB4⟩
      case measure => simp [intOf]; omega
    · obtain rfl : n = k := by omega
      have HSL := Lib.hid (show Sl eJ wr (.slice sa n sc) (List.range n) from Sl.ofOwns hO.out)
      have HBD := Lib.hid (show Below D w wr from HB3.out.trans (hB.out.mono (Nat.le_of_lt HDE.out)))
      have HKr := Lib.hid (HK3.out.below hB.out (Nat.le_of_eq HEE.out))
      have HAr := Lib.hid (HA.out.below hB.out (Nat.le_of_eq HEE.out))
      have HVW := Lib.hid (HV.out.below HBD.out (Nat.le_of_eq hD))
      have HEW := Lib.hid (HEN.out.below HBD.out (Nat.le_of_eq hD))
      obtain ⟨sa', ob, oo, oc', hform, hoi, hop, -, -⟩ := HSL.out.open elemI
      rw [List.length_range] at hform hoi
      simp only [Value.slice.injEq, true_and] at hform
      obtain ⟨rfl, rfl⟩ := hform
      have HOP := Lib.hid hop
      have hcell : ∀ w', Below wr.heap.size wr w' → w'.cell? ⟨D, 0, none⟩ = some (.int .i64 (n : Nat)) ∧ w'.cell? ⟨D, 1, none⟩ = some (.slice ad ns.length c) ∧ w'.cell? ⟨ob, oo, none⟩ = some (.int .i64 0) := fun w' hb => by
        refine ⟨(HKr.out.below hb (Nat.le_refl _)).cell 0 _ rfl, (HKr.out.below hb (Nat.le_refl _)).cell 1 _ rfl, ?_⟩
        have := HOP.out.at hb (Nat.le_refl _) 0 (by rw [List.length_range]; omega)
        simpa [eJ] using this
      have HC := Lib.hid hcell
      have HBd := Lib.hid (show Below wr.heap.size wr wr.drew from (Below.refl _ wr).drew)
      have HS1 := Lib.hid (hcell wr.drew HBd.out)
      have d1 : 0 < n := by omega
      have d2 : (0 : Int) < (n : Int) := by omega
      clear hO hB hop hcell
      go_wp2_with fail
      go_region_held3 (fun w' => w'.cell? ⟨D, 0, none⟩ = some (.int .i64 (n : Nat)) ∧ w'.cell? ⟨D, 1, none⟩ = some (.slice ad ns.length c) ∧ w'.cell? ⟨ob, oo, none⟩ = some (.int .i64 0))
        ((first
          | with_reducible exact HS1.out
          | with_reducible assumption))
        ((go_at_call 59; (with_reducible refine (HRT.out wr.drew _ (HVW.out.below HBd.out (Nat.le_refl _)) (HSL.out.below HBd.out (Nat.le_refl _)) (HEW.out.below HBd.out (Nat.le_refl _))).mono ?_); rintro e w9 ⟨v9, rfl, rfl, hb9⟩; have HB9 := Lib.hid (HBd.out.trans (hb9.mono HBd.out.size)); have hs9 := HC.out w9 HB9.out; clear hb9))
      rename_i hHeld
      clear hs9 hHeld HS1 HBd
      have HSL9 := Lib.hid (HSL.out.below HB9.out (Nat.le_refl _))
      have HAr9 := Lib.hid (HAr.out.below HB9.out (Nat.le_refl _))
      have HQ9 := Lib.hid (HBD.out.trans (HB9.out.mono (by rw [← hD]; exact HBD.out.size)))
      go_wp2
      go_loopw [10, 11, 14, 53] (fun a b k q wr => ∃ j : Nat, j ≤ n ∧ q = .int .i64 j ∧ a = .string TX ∧ b = .int .i64 0 ∧ wr = w9) (fun _ _ _ q _ => n - (intOf q).toNat)
      case atStart => exact ⟨0, Nat.zero_le _, rfl, rfl, rfl, rfl⟩
      case round =>
        obtain ⟨j, hj, rfl, rfl, rfl, hw⟩ := hrel
        subst hw
        obtain ⟨wq, hwq⟩ : ∃ wq, wq = wr := ⟨_, rfl⟩
        subst hwq
        by_cases hjn : j < n
        · have hop := HOP.out.at HB9.out (Nat.le_refl _) j (by rw [List.length_range]; exact hjn)
          rw [List.getElem_range] at hop
          have c0 : (_ : World).cell? ⟨ob, oo + j, none⟩ = some (.int .i64 (j : Nat)) := hop
          have c1 := HAr9.out.cell j (.int .i64 2) (by rw [ints_at _ j (by simp; exact hjn)]; simp)
          have al := HAr9.out.lt
          have p1 : (0 : Int) ≤ (j : Int) := by omega
          have p2 : (j : Int) < (n : Int) := by omega
          clear hop
          go_wp2
          go_loopw [10, 11, 14] (fun a b k wr => a = .string TX ∧ b = .int .i64 0 ∧ k = .int .i64 2 ∧ wr = wq) (fun _ _ _ _ => 0)
          case atStart => exact ⟨rfl, rfl, rfl, rfl⟩
          case round =>
            obtain ⟨rfl, rfl, rfl, hw2⟩ := hrel
            subst hw2
            go_wp2
            go_roundw
            case rel => exact ⟨j + 1, by omega, by go_num, rfl, rfl, trivial⟩
            case measure => simp [intOf]; omega
        · obtain rfl : n = j := by omega
          go_wp2
          go_ret2
          exact ⟨_, rfl, rfl, by rw [hD]; exact HQ9.out⟩
end Go.Proofs.YtlnhocgjgmhfgaaGreatDoor

namespace Go.Proofs.YtlnhocgjgmhfgaaGreatDoor
open Go.RowKit

theorem tw_keys {n : Int} {es : List (Int × Int × Int)} {ns : List (Nat × Nat × Nat)} (h : RG n es ns) : (tw ns).Pairwise fun x y => ¬ (x.1 = y.1 ∧ x.2.1 = y.2.1) := by
  unfold tw
  rw [List.pairwise_flatMap]
  refine ⟨fun x hx => ?_, ?_⟩
  · unfold tw1
    split
    · simp
    · rename_i hne
      simp only [List.pairwise_cons, List.mem_singleton, List.not_mem_nil, false_implies, implies_true, List.Pairwise.nil, and_true]
      intro y hy
      subst hy
      simp only; omega
  · refine (List.Pairwise.and_mem.1 h.asc).imp ?_
    rintro x y ⟨hx, hy, hlt⟩ u hu v hv
    have h1 := (h.rng x hx).2.2.2.2
    have h2 := (h.rng y hy).2.2.2.2
    unfold tw1 at hu hv
    split at hu <;> split at hv <;> simp at hu hv
    · subst hu hv; simp only; omega
    · subst hu; rcases hv with rfl | rfl <;> (simp only; omega)
    · subst hv; rcases hu with rfl | rfl <;> (simp only; omega)
    · rcases hu with rfl | rfl <;> rcases hv with rfl | rfl <;> (simp only; omega)
theorem tw_rng {n : Nat} {es : List (Int × Int × Int)} {ns : List (Nat × Nat × Nat)} (h : RG (n : Int) es ns) (hb : ∀ x ∈ ns, x.1 = x.2.1 → 2 * x.2.2 ≤ 50) : ∀ x ∈ tw ns, x.1 < n ∧ x.2.1 < n ∧ 1 ≤ x.2.2 ∧ x.2.2 ≤ 50 := by
  intro x hx
  simp only [tw, List.mem_flatMap] at hx
  obtain ⟨y, hy, hx⟩ := hx
  have h1 := h.rng y hy
  have h2 := hb y hy
  unfold tw1 at hx
  split at hx
  · rename_i he
    have h3 := h2 he
    simp at hx; subst hx; simp only; omega
  · simp at hx; rcases hx with rfl | rfl <;> (simp only; omega)
/-- What TwoWay answers is a right digraph. -/
theorem tw_rd {n : Nat} {es : List (Int × Int × Int)} {ns ys : List (Nat × Nat × Nat)} (h : RG (n : Int) es ns) (hb : ∀ x ∈ ns, x.1 = x.2.1 → 2 * x.2.2 ≤ 50) (hp : ys.Perm (tw ns)) (hs : ys.Pairwise fun x y => ¬ (y.1 < x.1 ∨ (y.1 = x.1 ∧ y.2.1 < x.2.1))) : RD n ys := by
  refine ⟨by have := h.pos; omega, by have := h.le; omega, fun x hx => tw_rng h hb x (hp.mem_iff.1 hx), ?_⟩
  have hk : ys.Pairwise fun x y => ¬ (x.1 = y.1 ∧ x.2.1 = y.2.1) := (hp.pairwise_iff (fun h e => h ⟨e.1.symm, e.2.symm⟩)).2 (tw_keys h)
  refine (hs.and hk).imp ?_
  rintro x y ⟨h1, h2⟩
  omega
end Go.Proofs.YtlnhocgjgmhfgaaGreatDoor

namespace Go.Proofs.YtlnhocgjgmhfgaaGreatDoor
open Go.RowKit
set_option maxRecDepth 100000

def dbl : List (Nat × Nat × Nat) := [(0, 1, 2), (1, 0, 2)]
def tri : List (Nat × Nat × Nat) := [(0, 1, 1), (0, 2, 1), (1, 2, 1)]
def tri2 : List (Nat × Nat × Nat) := [(0, 1, 1), (0, 2, 1), (1, 0, 1), (1, 2, 1), (2, 0, 1), (2, 1, 1)]

theorem dbl_rd : RD 2 dbl := ⟨by decide, by decide, by decide, by unfold dbl; simp⟩
theorem tri2_rd : RD 3 tri2 := ⟨by decide, by decide, by decide, by unfold tri2; simp⟩
theorem tri_rg : RG 3 (tri.map n3) tri := ⟨rfl, by decide, by decide, by decide, by unfold tri; simp⟩
theorem dbl_eul : EulC 2 dbl := by
  refine ⟨by unfold dbl; simp, by decide, fun l hE hT _ i x h1 h2 => ?_⟩
  have hT0 : Tr l 0 := hT
  have hT1 : Tr l 1 := hE.clo 0 (0, 1) rfl rfl hT0 (tr_rep 2 0)
  match i, h1 with
  | 0, h1 => simp [ends1, dbl] at h1; subst h1; exact hT0
  | 1, h1 => simp [ends1, dbl] at h1; subst h1; exact hT1
  | i + 2, h1 => simp [ends1, dbl] at h1
theorem tri2_eul : EulC 3 tri2 := by
  refine ⟨by unfold tri2; simp, by decide, fun l hE hT _ i x h1 h2 => ?_⟩
  have hT0 : Tr l 0 := hT
  have hT1 : Tr l 1 := hE.clo 0 (0, 1) rfl rfl hT0 (tr_rep 3 0)
  have hT2 : Tr l 2 := hE.clo 1 (0, 2) rfl rfl hT0 (tr_rep 3 0)
  match i, h1 with
  | 0, h1 => simp [ends1, tri2] at h1; subst h1; exact hT0
  | 1, h1 => simp [ends1, tri2] at h1; subst h1; exact hT0
  | 2, h1 => simp [ends1, tri2] at h1; subst h1; exact hT1
  | 3, h1 => simp [ends1, tri2] at h1; subst h1; exact hT1
  | 4, h1 => simp [ends1, tri2] at h1; subst h1; exact hT2
  | 5, h1 => simp [ends1, tri2] at h1; subst h1; exact hT2
  | i + 6, h1 => simp [ends1, tri2] at h1
theorem dbl_good : GoodU 2 (sgl dbl) 0 [0, 0] := by
  refine ⟨by decide, rfl, fun v hv => ?_, fun v hv => ?_, fun v hv => ?_⟩
  · match v, hv with
    | 0, _ => decide
    | 1, _ => decide
  · match v, hv with
    | 0, _ => decide
    | 1, _ => decide
  · match v, hv with
    | 0, _ => exact ⟨0, rfl⟩
    | 1, _ => exact ⟨1, by decide⟩
theorem dbl_run : Rot.run (sgl dbl) (rot [0, 0]) 0 4 = (0, [1, 3, 0, 2]) := by decide
theorem dbl_rotK : rotK (sgl dbl) [0, 0] 2 [1, 3, 0, 2] = [0, 0] := by decide
theorem tri_ys {ys : List (Nat × Nat × Nat)} (hp : ys.Perm (tw tri)) (hs : ys.Pairwise fun x y => ¬ (y.1 < x.1 ∨ (y.1 = x.1 ∧ y.2.1 < x.2.1))) : ys = tri2 := by
  have h2 : (tw tri).Perm tri2 := by decide
  have hp2 := hp.trans h2
  have h1 : ∀ x ∈ tri2, x.2.2 = 1 := by decide
  refine List.Perm.eq_of_pairwise (fun a b ha hb h3 h4 => ?_) hs ?_ hp2
  · have := h1 a (hp2.mem_iff.1 ha)
    have := h1 b hb
    obtain ⟨a1, a2, a3⟩ := a; obtain ⟨b1, b2, b3⟩ := b
    simp only [Prod.mk.injEq] at *
    omega
  · unfold tri2; simp
theorem dbl_det : txt (det (atN 2 0).length (rtM (atN 2 0) dbl)) = ⟨#[50]⟩ := by decide +kernel
theorem tri2_det : txt (det (atN 3 0).length (rtM (atN 3 0) tri2)) = ⟨#[51]⟩ := by decide +kernel

set_option maxHeartbeats 2000000 in
theorem Double_any (w : World) : Calls Tryz.prog 33 #[] w (Rets fun v w' => ∃ u, v = .agg #[.int .i64 2, u] ∧ SlK e3 3 w' u (dbl.map n3) ∧ Below w.heap.size w w') := by
  have HO := Lib.hid (fun o : Obj => show ((w.alloc o).alloc (.cells #[.int .i64 0, .int .i64 1, .int .i64 2, .int .i64 1, .int .i64 0, .int .i64 2] 83)).ownsRow 0 83 3 (.slice (some ⟨w.heap.size + 1, 0, none⟩) 2 2) 2 ((dbl.map n3).flatMap e3) by
    refine ⟨rfl, .inr ⟨w.heap.size + 1, 2, #[.int .i64 0, .int .i64 1, .int .i64 2, .int .i64 1, .int .i64 0, .int .i64 2], rfl, Nat.zero_le _, ?_, by omega, by unfold maxLen; omega, rfl, rfl⟩⟩
    have := heap_alloc_new (w.alloc o) (.cells #[.int .i64 0, .int .i64 1, .int .i64 2, .int .i64 1, .int .i64 0, .int .i64 2] 83)
    rw [World.size_alloc] at this
    exact this)
  go_enter Tryz.func33, Tryz.ntmps33
  go_wp2
  have HK := (Blk.new w [.int .i64 2, .slice (some ⟨w.heap.size + 1, 0, none⟩) 2 2] 28).alloc (.cells #[.int .i64 0, .int .i64 1, .int .i64 2, .int .i64 1, .int .i64 0, .int .i64 2] 83)
  have y0 := HK.cell 0 _ rfl; have y1 := HK.cell 1 _ rfl
  refine bodyPost_ret (v := .agg #[.int .i64 2, .slice (some ⟨w.heap.size + 1, 0, none⟩) 2 2]) (by simp [results, Tryz.results33, go_sem, y0, y1]) rfl ⟨_, rfl, _, rfl, SlK.ofOwns e3_len (HO.out _) rfl, ((Below.refl _ w).alloc (Nat.le_refl _) _).alloc (by simp) _⟩

set_option maxHeartbeats 2000000 in
theorem Triangle_any (w : World) : Calls Tryz.prog 36 #[] w (Rets fun v w' => ∃ u, v = .agg #[.int .i64 3, u] ∧ SlK e3 3 w' u (tri.map n3) ∧ Below w.heap.size w w') := by
  have HO := Lib.hid (fun o : Obj => show ((w.alloc o).alloc (.cells #[.int .i64 0, .int .i64 1, .int .i64 1, .int .i64 0, .int .i64 2, .int .i64 1, .int .i64 1, .int .i64 2, .int .i64 1] 81)).ownsRow 0 81 3 (.slice (some ⟨w.heap.size + 1, 0, none⟩) 3 3) 3 ((tri.map n3).flatMap e3) by
    refine ⟨rfl, .inr ⟨w.heap.size + 1, 3, #[.int .i64 0, .int .i64 1, .int .i64 1, .int .i64 0, .int .i64 2, .int .i64 1, .int .i64 1, .int .i64 2, .int .i64 1], rfl, Nat.zero_le _, ?_, by omega, by unfold maxLen; omega, rfl, rfl⟩⟩
    have := heap_alloc_new (w.alloc o) (.cells #[.int .i64 0, .int .i64 1, .int .i64 1, .int .i64 0, .int .i64 2, .int .i64 1, .int .i64 1, .int .i64 2, .int .i64 1] 81)
    rw [World.size_alloc] at this
    exact this)
  go_enter Tryz.func36, Tryz.ntmps36
  go_wp2
  have HK := (Blk.new w [.int .i64 3, .slice (some ⟨w.heap.size + 1, 0, none⟩) 3 3] 24).alloc (.cells #[.int .i64 0, .int .i64 1, .int .i64 1, .int .i64 0, .int .i64 2, .int .i64 1, .int .i64 1, .int .i64 2, .int .i64 1] 81)
  have y0 := HK.cell 0 _ rfl; have y1 := HK.cell 1 _ rfl
  refine bodyPost_ret (v := .agg #[.int .i64 3, .slice (some ⟨w.heap.size + 1, 0, none⟩) 3 3]) (by simp [results, Tryz.results36, go_sem, y0, y1]) rfl ⟨_, rfl, _, rfl, SlK.ofOwns e3_len (HO.out _) rfl, ((Below.refl _ w).alloc (Nat.le_refl _) _).alloc (by simp) _⟩

theorem sgl_dbl : sgl dbl = [(0, 1), (0, 1), (1, 0), (1, 0)] := rfl
theorem sgl_tri2 : sgl tri2 = [(0, 1), (0, 2), (1, 0), (1, 2), (2, 0), (2, 1)] := rfl

theorem dTour (w : World) (v : Value) (hv : SlK e3 3 w v (dbl.map n3)) :
    Calls Tryz.prog 31 #[.agg #[.int .i64 2, v]] w (Rets fun r w' => ∃ u, r = .tuple #[u, .int .i64 0] ∧ SlK i1 1 w' u [0, 2, 1, 3] ∧ Below w.heap.size w w') :=
  Tour_ok w 2 v dbl _ dbl_rd hv (by decide) dbl_eul (by decide) (by decide) (by rw [sgl_dbl]; exact tour_ex1)
theorem tTour (w : World) (v : Value) (hv : SlK e3 3 w v (tri2.map n3)) :
    Calls Tryz.prog 31 #[.agg #[.int .i64 3, v]] w (Rets fun r w' => ∃ u, r = .tuple #[u, .int .i64 0] ∧ SlK i1 1 w' u [0, 2, 1, 5, 3, 4] ∧ Below w.heap.size w w') :=
  Tour_ok w 3 v tri2 _ tri2_rd hv (by decide) tri2_eul (by decide) (by decide) (by rw [sgl_tri2]; exact tour_ex2)
theorem dTours (w : World) (v : Value) (hv : SlK e3 3 w v (dbl.map n3)) (he : Env w) :
    Calls Tryz.prog 34 #[.agg #[.int .i64 2, v]] w (Rets fun r w' => r = .tuple #[.string ⟨#[50]⟩, .int .i64 0] ∧ Below w.heap.size w w') := by
  rw [← dbl_det]
  exact Tours_ok w 2 v dbl dbl_rd hv (by decide) dbl_eul (by decide) (by decide) (by decide) he
theorem tTours (w : World) (v : Value) (hv : SlK e3 3 w v (tri2.map n3)) (he : Env w) :
    Calls Tryz.prog 34 #[.agg #[.int .i64 3, v]] w (Rets fun r w' => r = .tuple #[.string ⟨#[51]⟩, .int .i64 0] ∧ Below w.heap.size w w') := by
  rw [← tri2_det]
  exact Tours_ok w 3 v tri2 tri2_rd hv (by decide) tri2_eul (by decide) (by decide) (by decide) he
theorem dTrees (w : World) (v : Value) (hv : SlK e3 3 w v (dbl.map n3)) (he : Env w) :
    Calls Tryz.prog 35 #[.agg #[.int .i64 2, v], .int .i64 0] w (Rets fun r w' => r = .tuple #[.string ⟨#[50]⟩, .int .i64 0] ∧ Below w.heap.size w w') := by
  rw [← dbl_det]
  exact Trees_ok w 2 v dbl 0 dbl_rd hv (by decide) (by decide) (by decide) (by decide) he
theorem tTrees (w : World) (v : Value) (hv : SlK e3 3 w v (tri2.map n3)) (he : Env w) :
    Calls Tryz.prog 35 #[.agg #[.int .i64 3, v], .int .i64 0] w (Rets fun r w' => r = .tuple #[.string ⟨#[51]⟩, .int .i64 0] ∧ Below w.heap.size w w') := by
  rw [← tri2_det]
  exact Trees_ok w 3 v tri2 0 tri2_rd hv (by decide) (by decide) (by decide) (by decide) he
theorem triTwo (w : World) (v : Value) (hv : SlK e3 3 w v (tri.map n3)) :
    Calls Tryz.prog 9 #[.agg #[.int .i64 3, v]] w (Rets fun r w' => ∃ u, r = .tuple #[.agg #[.int .i64 3, u], .int .i64 0] ∧ SlK e3 3 w' u (tri2.map n3) ∧ Below w.heap.size w w') := by
  refine (TwoWay_ok w 3 v _ tri hv tri_rg (by decide) (by decide) (by decide)).mono ?_
  rintro r w1 ⟨x, hx, u, ys, rfl, hp, hs, ho, hb⟩
  have := tri_ys hp hs
  subst this
  exact ⟨_, hx, u, rfl, SlK.ofOwns e3_len (show w1.ownsRow w.heap.size _ 3 u (tri2.map n3).length ((tri2.map n3).flatMap e3) from ho) rfl, hb⟩
theorem dWalk (w : World) (v u : Value) (hv : SlK e3 3 w v (dbl.map n3)) (hu : SlK iz 1 w u [0, 0]) :
    Calls Tryz.prog 13 #[.agg #[.int .i64 2, v], .agg #[.int .i64 0, u], .int .i64 4] w (Rets fun r w' => ∃ x y, r = .tuple #[.agg #[.int .i64 0, x], y, .int .i64 0] ∧ SlK iz 1 w' x [0, 0] ∧ SlK i1 1 w' y [1, 3, 0, 2] ∧ Below w.heap.size w w') := by
  refine (EWalk_ok w 2 v dbl 0 u [0, 0] 4 dbl_rd hv (by decide) hu dbl_eul dbl_good (by decide)).mono ?_
  rintro r w1 ⟨z, hz, q, cap, way, rfl, h1, h2, hb⟩
  rw [dbl_run] at h1 h2 hz
  rw [dbl_rotK] at h1
  exact ⟨_, hz, _, _, rfl, SlK.ofOwns (fun _ => rfl) (show w1.ownsRow w.heap.size _ 1 _ ([0, 0] : List Int).length (([0, 0] : List Int).flatMap iz) from h1) rfl, SlK.ofOwns i1_len (show w1.ownsRow w.heap.size _ 1 _ ([1, 3, 0, 2] : List Nat).length (([1, 3, 0, 2] : List Nat).flatMap i1) from h2) rfl, hb⟩
end Go.Proofs.YtlnhocgjgmhfgaaGreatDoor

namespace Go.Proofs.YtlnhocgjgmhfgaaGreatDoor
open Go.RowKit

def dbt (ns : List (Nat × Nat × Nat)) (a b : Nat) : Nat := if a = b then 2 * btw a b ns else btw a b ns
theorem dbt_self (ns : List (Nat × Nat × Nat)) (a : Nat) : dbt ns a a = 2 * btw a a ns := by simp [dbt]
theorem dbt_ne (ns : List (Nat × Nat × Nat)) {a b : Nat} (h : a ≠ b) : dbt ns a b = btw a b ns := by simp [dbt, h]
/-- The arcs out of a, to the first b vertices. -/
def rowD (ns : List (Nat × Nat × Nat)) (a b : Nat) : List (Nat × Nat × Nat) := (List.range b).flatMap fun j => if 0 < dbt ns a j then [(a, j, dbt ns a j)] else []
def dblD (n : Nat) (ns : List (Nat × Nat × Nat)) (k : Nat) : List (Nat × Nat × Nat) := (List.range k).flatMap fun a => rowD ns a n
theorem rowD_succ (ns : List (Nat × Nat × Nat)) (a b : Nat) : rowD ns a (b + 1) = rowD ns a b ++ (if 0 < dbt ns a b then [(a, b, dbt ns a b)] else []) := by
  unfold rowD; rw [List.range_succ, List.flatMap_append]; simp
theorem dblD_succ (n : Nat) (ns : List (Nat × Nat × Nat)) (k : Nat) : dblD n ns (k + 1) = dblD n ns k ++ rowD ns k n := by
  unfold dblD; rw [List.range_succ, List.flatMap_append]; simp
theorem mem_rowD {ns : List (Nat × Nat × Nat)} {a b : Nat} {x : Nat × Nat × Nat} : x ∈ rowD ns a b ↔ x.1 = a ∧ x.2.1 < b ∧ x.2.2 = dbt ns a x.2.1 ∧ 0 < x.2.2 := by
  unfold rowD
  rw [List.mem_flatMap]
  constructor
  · rintro ⟨j, hj, hx⟩
    split at hx
    · rename_i h
      rw [List.mem_singleton] at hx
      subst hx
      exact ⟨rfl, List.mem_range.1 hj, rfl, h⟩
    · cases hx
  · rintro ⟨h1, h2, h3, h4⟩
    refine ⟨x.2.1, List.mem_range.2 h2, ?_⟩
    rw [← h3, if_pos h4, List.mem_singleton, ← h1]
theorem mem_dblD {n : Nat} {ns : List (Nat × Nat × Nat)} {k : Nat} {x : Nat × Nat × Nat} : x ∈ dblD n ns k ↔ x.1 < k ∧ x.2.1 < n ∧ x.2.2 = dbt ns x.1 x.2.1 ∧ 0 < x.2.2 := by
  unfold dblD
  rw [List.mem_flatMap]
  constructor
  · rintro ⟨a, ha, hx⟩
    obtain ⟨rfl, h2, h3, h4⟩ := mem_rowD.1 hx
    exact ⟨List.mem_range.1 ha, h2, h3, h4⟩
  · rintro ⟨h1, h2, h3, h4⟩
    exact ⟨x.1, List.mem_range.2 h1, mem_rowD.2 ⟨rfl, h2, h3, h4⟩⟩
theorem rowD_len (ns : List (Nat × Nat × Nat)) (a : Nat) : ∀ b, (rowD ns a b).length ≤ b
  | 0 => by simp [rowD]
  | b + 1 => by
    have := rowD_len ns a b
    rw [rowD_succ, List.length_append]
    split <;> simp <;> omega
theorem dblD_len (n : Nat) (ns : List (Nat × Nat × Nat)) : ∀ k, n ≤ 12 → (dblD n ns k).length ≤ 12 * k
  | 0, _ => by simp [dblD]
  | k + 1, h => by
    have := dblD_len n ns k h
    have := rowD_len ns k n
    rw [dblD_succ, List.length_append]
    omega
def ltK (x y : Nat × Nat × Nat) : Prop := x.1 < y.1 ∨ (x.1 = y.1 ∧ x.2.1 < y.2.1)
theorem rowD_asc (ns : List (Nat × Nat × Nat)) (a : Nat) : ∀ b, (rowD ns a b).Pairwise ltK
  | 0 => by simp [rowD]
  | b + 1 => by
    rw [rowD_succ]
    refine List.pairwise_append.2 ⟨rowD_asc ns a b, ?_, fun x hx y hy => ?_⟩
    · split <;> simp
    · obtain ⟨h1, h2, -, -⟩ := mem_rowD.1 hx
      split at hy
      · rw [List.mem_singleton] at hy
        subst hy
        exact .inr ⟨h1, h2⟩
      · cases hy
theorem dblD_asc (n : Nat) (ns : List (Nat × Nat × Nat)) : ∀ k, (dblD n ns k).Pairwise ltK
  | 0 => by simp [dblD]
  | k + 1 => by
    rw [dblD_succ]
    refine List.pairwise_append.2 ⟨dblD_asc n ns k, rowD_asc ns k n, fun x hx y hy => .inl ?_⟩
    have h1 := (mem_dblD.1 hx).1
    have h2 := (mem_rowD.1 hy).1
    omega
theorem asc_ext : ∀ (l m : List (Nat × Nat × Nat)), l.Pairwise ltK → m.Pairwise ltK → (∀ x, x ∈ l ↔ x ∈ m) → l = m
  | [], [], _, _, _ => rfl
  | [], y :: m, _, _, h => by have := (h y).2 (by simp); cases this
  | x :: l, [], _, _, h => by have := (h x).1 (by simp); cases this
  | x :: l, y :: m, hl, hm, h => by
    obtain ⟨h1, h2⟩ := List.pairwise_cons.1 hl
    obtain ⟨h3, h4⟩ := List.pairwise_cons.1 hm
    have e : x = y := by
      rcases List.mem_cons.1 ((h x).1 (by simp)) with e | hx
      · exact e
      · rcases List.mem_cons.1 ((h y).2 (by simp)) with e | hy
        · exact e.symm
        · have a := h3 x hx
          have b := h1 y hy
          unfold ltK at a b
          omega
    subst e
    rw [asc_ext l m h2 h4 fun z => ?_]
    have hn1 : ∀ z ∈ l, z ≠ x := fun z hz e => by subst e; have := h1 z hz; unfold ltK at this; omega
    have hn2 : ∀ z ∈ m, z ≠ x := fun z hz e => by subst e; have := h3 z hz; unfold ltK at this; omega
    constructor
    · intro hz
      exact (List.mem_cons.1 ((h z).1 (List.mem_cons_of_mem _ hz))).resolve_left (hn1 z hz)
    · intro hz
      exact (List.mem_cons.1 ((h z).2 (List.mem_cons_of_mem _ hz))).resolve_left (hn2 z hz)
theorem btw_of {a b : Nat} : ∀ {ns : List (Nat × Nat × Nat)}, ns.Pairwise ltK → ∀ x ∈ ns, isB a b x = true → btw a b ns = x.2.2
  | y :: l, hp, x, hx, hb => by
    obtain ⟨h1, h2⟩ := List.pairwise_cons.1 hp
    unfold btw
    by_cases e : isB a b y = true
    · rw [if_pos e]
      rcases List.mem_cons.1 hx with rfl | hx
      · rfl
      · have := h1 x hx
        unfold ltK at this
        simp only [isB, decide_eq_true_eq] at e hb
        omega
    · rw [if_neg e]
      rcases List.mem_cons.1 hx with rfl | hx
      · exact absurd hb e
      · exact btw_of h2 x hx hb
theorem btw_ex {a b : Nat} : ∀ {ns : List (Nat × Nat × Nat)}, 0 < btw a b ns → ∃ x ∈ ns, isB a b x = true ∧ x.2.2 = btw a b ns
  | [], h => absurd h (by simp [btw])
  | y :: l, h => by
    unfold btw at h ⊢
    by_cases e : isB a b y = true
    · rw [if_pos e]; exact ⟨y, by simp, e, rfl⟩
    · rw [if_neg e] at h ⊢
      obtain ⟨x, hx, h1, h2⟩ := btw_ex h
      exact ⟨x, List.mem_cons_of_mem _ hx, h1, h2⟩
theorem mem_tw_dbl {n : Nat} {es : List (Int × Int × Int)} {ns : List (Nat × Nat × Nat)} (hR : RG (n : Int) es ns) (x : Nat × Nat × Nat) : x ∈ tw ns ↔ x ∈ dblD n ns n := by
  have hasc : ns.Pairwise ltK := hR.asc
  rw [mem_dblD]
  constructor
  · intro hx
    obtain ⟨⟨p, q, m⟩, hy, hx⟩ := List.mem_flatMap.1 hx
    have hr := hR.rng _ hy
    simp only at hr
    obtain ⟨r1, r2, r3, r4, r5⟩ := hr
    have hb : btw p q ns = m := btw_of hasc (p, q, m) hy (by simp only [isB, decide_eq_true_eq]; omega)
    have hb2 : btw q p ns = m := btw_of hasc (p, q, m) hy (by simp only [isB, decide_eq_true_eq]; omega)
    unfold tw1 at hx
    by_cases e : p = q
    · subst e
      rw [if_pos rfl, List.mem_singleton] at hx
      subst hx
      show p < n ∧ p < n ∧ 2 * m = dbt ns p p ∧ 0 < 2 * m
      rw [dbt_self, hb]
      omega
    · simp only [e, if_false, List.mem_cons, List.not_mem_nil, or_false] at hx
      rcases hx with rfl | rfl
      · show p < n ∧ q < n ∧ m = dbt ns p q ∧ 0 < m
        rw [dbt_ne ns e, hb]; omega
      · show q < n ∧ p < n ∧ m = dbt ns q p ∧ 0 < m
        rw [dbt_ne ns (Ne.symm e), hb2]; omega
  · rintro ⟨h1, h2, h3, h4⟩
    obtain ⟨a, b, m⟩ := x
    simp only at h1 h2 h3 h4
    have hpos : 0 < btw a b ns := by
      rw [h3] at h4
      unfold dbt at h4
      split at h4 <;> omega
    obtain ⟨⟨p, q, k⟩, hy, hb, hk⟩ := btw_ex hpos
    simp only [isB, decide_eq_true_eq] at hb
    simp only at hk
    refine List.mem_flatMap.2 ⟨(p, q, k), hy, ?_⟩
    unfold tw1
    by_cases e : a = b
    · subst e
      have e1 : p = a := by have := hb.1; rw [Nat.min_self] at this; exact this
      have e2 : q = a := by have := hb.2; rw [Nat.max_self] at this; exact this
      subst e1
      subst e2
      rw [dbt_self] at h3
      rw [if_pos rfl, List.mem_singleton, h3, hk]
    · have hpq : p ≠ q := by omega
      rw [dbt_ne ns e] at h3
      simp only [hpq, if_false, List.mem_cons, Prod.mk.injEq, List.not_mem_nil, or_false]
      omega
theorem tw_dbl {n : Nat} {es : List (Int × Int × Int)} {ns ys : List (Nat × Nat × Nat)} (hR : RG (n : Int) es ns) (hb : ∀ x ∈ ns, x.1 = x.2.1 → 2 * x.2.2 ≤ 50) (hp : ys.Perm (tw ns)) (hs : ys.Pairwise fun x y => ¬ (y.1 < x.1 ∨ (y.1 = x.1 ∧ y.2.1 < x.2.1))) : ys = dblD n ns n :=
  asc_ext _ _ (tw_rd hR hb hp hs).asc (dblD_asc n ns n) fun x => by rw [hp.mem_iff, mem_tw_dbl hR]
theorem dbl_many {n : Nat} {es : List (Int × Int × Int)} {ns : List (Nat × Nat × Nat)} (hR : RG (n : Int) es ns) : (∀ x ∈ ns, x.1 = x.2.1 → 2 * x.2.2 ≤ 50) ↔ ∀ x ∈ dblD n ns n, x.2.2 ≤ 50 := by
  constructor
  · intro h x hx
    obtain ⟨⟨p, q, m⟩, hy, hx⟩ := List.mem_flatMap.1 ((mem_tw_dbl hR x).2 hx)
    have hr := hR.rng _ hy
    have hh := h _ hy
    simp only at hr hh
    unfold tw1 at hx
    by_cases e : p = q
    · simp only [e, if_true, List.mem_singleton] at hx
      subst hx
      simp only; exact hh e
    · simp only [e, if_false, List.mem_cons, List.not_mem_nil, or_false] at hx
      rcases hx with rfl | rfl <;> (simp only; omega)
  · intro h x hx e
    have := h (x.1, x.1, 2 * x.2.2) ((mem_tw_dbl hR _).1 (List.mem_flatMap.2 ⟨x, hx, by unfold tw1; rw [if_pos e]; simp⟩))
    exact this
end Go.Proofs.YtlnhocgjgmhfgaaGreatDoor

namespace Go.Proofs.YtlnhocgjgmhfgaaGreatDoor
open Go.RowKit

theorem cnt_range (p : Nat × Nat → Bool) (es : List (Nat × Nat)) : (List.range es.length).countP (fun e => p (es.getD e (0, 0))) = es.countP p := by
  have h : es = (List.range es.length).map fun e => es.getD e (0, 0) := by
    apply List.ext_getElem (by simp)
    intro i h1 h2
    simp [List.getD_eq_getElem?_getD, h1]
  conv => rhs; rw [h]
  rw [List.countP_map]
  rfl
theorem sgl_perm {a b : List (Nat × Nat × Nat)} (h : a.Perm b) : (sgl a).Perm (sgl b) := List.Perm.flatMap_right _ h
theorem ptrs_it {n : Nat} {ss : List (Nat × Nat)} {us : List Int} (hn : n ≤ 12) (hp : ∀ v, v < n → (ptK ss us n).getD v 0 < n) : ∀ (i v : Nat), v < n → Rot.ptrs ss (rot us) i v = it (ptK ss us n) i v
  | 0, _, _ => rfl
  | i + 1, v, hv => by
    have h1 := hp v hv
    show Rot.ptrs ss (rot us) i (Rot.ptr ss (rot us) v) = it (ptK ss us n) (i + 1) v
    rw [it_succ', ptK_get ss us n v hv hn] at *
    exact ptrs_it hn hp i _ h1
/-- The law in plain words. -/
theorem tour_home {n a : Nat} {es : List (Int × Int × Int)} {ns ys : List (Nat × Nat × Nat)} {us : List Int} (h : RG (n : Int) es ns) (hp : ys.Perm (tw ns)) (hR : RD n ys) (hG : GoodU n (sgl ys) a us) :
    (sgl ys).length = 2 * (sgl ns).length ∧ (Rot.run (sgl ys) (rot us) a (sgl ys).length).1 = a ∧ (Rot.run (sgl ys) (rot us) a (sgl ys).length).2.Perm (List.range (sgl ys).length) ∧
      (us = (rotK (sgl ys) us n (Rot.run (sgl ys) (rot us) a (sgl ys).length).2).map fun (x : Nat) => (x : Int)) ∧ ∀ v, v < n → Rot.cntS (sgl ys) (Rot.run (sgl ys) (rot us) a (sgl ys).length).2 v = degN n v ns := by
  have hpp := sgl_perm hp
  have hrg := sgl_rng hR
  have n12 := hR.le
  have hplt := ptK_lt n12 hrg hG.rng
  have hS : ∀ v, Rot.cntS (sgl ys) (List.range (sgl ys).length) v = (ns.map (dg1 v)).sum := fun v => by
    rw [← cnt_tw (fun y => y.1 == v) (dg1 v) (cntS_tw1 v) ns, ← hpp.countP_eq, ← cnt_range]; rfl
  have hT : ∀ v, Rot.cntT (sgl ys) (List.range (sgl ys).length) v = (ns.map (dg1 v)).sum := fun v => by
    rw [← cnt_tw (fun y => y.2 == v) (dg1 v) (cntT_tw1 v) ns, ← hpp.countP_eq, ← cnt_range]; rfl
  have hsrc : ∀ e, e < (sgl ys).length → Rot.src (sgl ys) e < n ∧ Rot.trg (sgl ys) e < n := fun e he => by
    have := hrg _ (List.getElem_mem he)
    unfold Rot.src Rot.trg
    rw [List.getD_eq_getElem?_getD, List.getElem?_eq_getElem he]
    exact this
  have hr : ∀ v, v < n → rot us v < (Rot.outs (sgl ys) v).length := fun v hv => by
    have := hG.rng v hv
    unfold rot; omega
  obtain ⟨h1, h2, h3⟩ := Rot.home (es := sgl ys) (r := rot us) (a := a) (n := n) (fun e he => (hsrc e he).1) (fun e he => (hsrc e he).2) hG.pos (fun v _ => by rw [hT, Rot.outs_len, hS]) hr (fun v hv => by
    obtain ⟨i, hi⟩ := hG.uni v hv
    exact ⟨i, by rw [ptrs_it n12 hplt i v hv]; exact hi⟩) hG.at_lt
  refine ⟨by rw [hpp.length_eq, len_tw], h1, h2, ?_, fun v hv => by
    rw [h3, Rot.outs_len, hS, degN_sum v hv (fun x hx => by have := h.rng x hx; omega) h.asc]⟩
  have e1 : rotK (sgl ys) us n (Rot.run (sgl ys) (rot us) a (sgl ys).length).2 = rotK (sgl ys) us n [] := by
    unfold rotK
    apply List.map_congr_left
    intro v _
    rw [h3, Nat.add_mod_right]; rfl
  rw [e1]
  exact rotK_zero hG
end Go.Proofs.YtlnhocgjgmhfgaaGreatDoor

namespace Go.Proofs.YtlnhocgjgmhfgaaGreatDoor
open Go.RowKit

theorem cnt_sgl (f : Nat × Nat × Nat → Nat) (g : Nat × Nat → Nat) (hfg : ∀ x : Nat × Nat × Nat, g (x.1, x.2.1) = f x) (v : Nat) : ∀ ns : List (Nat × Nat × Nat), (sgl ns).countP (fun y => g y == v) = ((ns.filter fun x => decide (f x = v)).map fun x => x.2.2).sum
  | [] => rfl
  | x :: l => by
    have e2 : sgl (x :: l) = List.replicate x.2.2 (x.1, x.2.1) ++ sgl l := by simp [sgl]
    rw [e2, List.countP_append, cnt_rep, hfg, cnt_sgl f g hfg v l, List.filter_cons]
    by_cases h : f x = v <;> simp [h]
theorem eul_bal {n : Nat} {ns : List (Nat × Nat × Nat)} (hE : EulC n ns) (v : Nat) (hv : v < n) : Rot.cntT (sgl ns) (List.range (sgl ns).length) v = (Rot.outs (sgl ns) v).length := by
  have e0 := congrArg (fun l => l.getD v 0) hE.2.1
  have e : ((ns.filter fun x => decide (x.1 = v)).map fun x => x.2.2).sum = ((ns.filter fun x => decide (x.2.1 = v)).map fun x => x.2.2).sum := by
    simpa [degAt, List.getD_eq_getElem?_getD, hv] using e0
  have h1 : Rot.cntT (sgl ns) (List.range (sgl ns).length) v = (sgl ns).countP (fun y => y.2 == v) := cnt_range (fun y => y.2 == v) (sgl ns)
  have h2 : Rot.cntS (sgl ns) (List.range (sgl ns).length) v = (sgl ns).countP (fun y => y.1 == v) := cnt_range (fun y => y.1 == v) (sgl ns)
  rw [Rot.outs_len, h1, h2, cnt_sgl (·.2.1) (·.2) (fun _ => rfl), cnt_sgl (·.1) (·.1) (fun _ => rfl), e]

def natI (l : List Nat) : List Int := l.map fun (x : Nat) => (x : Int)
theorem natI_get (l : List Nat) (v : Nat) : (natI l).getD v 0 = (l.getD v 0 : Nat) := by
  unfold natI
  rw [List.getD_eq_getElem?_getD, List.getD_eq_getElem?_getD, List.getElem?_map]
  cases l[v]? <;> simp
theorem rot_natI (l : List Nat) (v : Nat) : rot (natI l) v = l.getD v 0 := by
  unfold rot; rw [natI_get]; simp
theorem getD_setN (l : List Nat) (v y u : Nat) (h : v < l.length) : (l.set v y).getD u 0 = if u = v then y else l.getD u 0 := by
  rw [List.getD_eq_getElem?_getD, List.getD_eq_getElem?_getD]
  by_cases e : u = v
  · subst e; simp [h]
  · rw [List.getElem?_set_ne (fun e2 => e e2.symm), if_neg e]
theorem uni_step {p q : List Nat} {n a b : Nat} (hp : ∀ v, v < n → p.getD v 0 < n) (hb : q.getD a 0 = b) (he : ∀ v, v < n → v ≠ a → q.getD v 0 = p.getD v 0) : ∀ i v, v < n → it p i v = a → ∃ j, it q j v = b
  | 0, v, _, h => ⟨1, by
      have h : v = a := h
      subst h; exact hb⟩
  | i + 1, v, hv, h => by
    by_cases e : v = a
    · subst e; exact ⟨1, hb⟩
    · rw [it_succ'] at h
      obtain ⟨j, hj⟩ := uni_step hp hb he i _ (hp v hv) h
      exact ⟨j + 1, by rw [it_succ', he v hv e]; exact hj⟩
theorem good_run {n a : Nat} {ss : List (Nat × Nat)} {us : List Int} (hn : n ≤ 12) (h : GoodU n ss a us) (hrg : ∀ x ∈ ss, x.1 < n ∧ x.2 < n) : ∀ k, GoodU n ss (Rot.run ss (rot us) a k).1 (natI (rotK ss us n (Rot.run ss (rot us) a k).2))
  | 0 => by
    have e := rotK_zero h
    show GoodU n ss a (natI (rotK ss us n []))
    unfold natI
    rw [← e]; exact h
  | k + 1 => by
    have ih := good_run hn h hrg k
    obtain ⟨⟨v, l⟩, hr⟩ : ∃ y, Rot.run ss (rot us) a k = y := ⟨_, rfl⟩
    rw [hr] at ih
    have hv : v < n := ih.at_lt
    obtain ⟨x, e, z1, z2, h1, hx, h2, he, hxl, h3, hz, hz2, hrun, hrot⟩ := run_step hn h hrg hr hv
    rw [hrun, hrot]
    have ih2 : GoodU n ss v (natI (rotK ss us n l)) := ih
    have hRl := rotK_len ss us n l
    obtain ⟨R, hR⟩ : ∃ R, rotK ss us n l = R := ⟨_, rfl⟩
    obtain ⟨y, hy⟩ : ∃ y, (x + 1) % (Rot.outs ss v).length = y := ⟨_, rfl⟩
    rw [hR] at hRl ih2 ⊢
    simp only [hy] at h2 he ⊢
    have hvR : v < R.length := by omega
    have htr : Rot.trg ss ((Rot.outs ss v).getD y 0) = z2 := by
      rw [List.getD_eq_getElem?_getD, List.getElem?_eq_getElem h2, he]
      unfold Rot.trg
      rw [List.getD_eq_getElem?_getD]
      simp [h3, hz]
    have hrng : ∀ u, u < n → 0 ≤ (natI (R.set v y)).getD u 0 ∧ (natI (R.set v y)).getD u 0 < (Rot.outs ss u).length := fun u hu => by
      rw [natI_get, getD_setN R v y u hvR]
      split
      · rename_i e2; subst e2; omega
      · have := ih2.rng u hu
        rw [natI_get] at this
        omega
    refine ⟨hz2, by simp [natI, hRl], h.pos, hrng, fun u hu => ?_⟩
    obtain ⟨i, hi⟩ := ih2.uni u hu
    refine uni_step (p := ptK ss (natI R) n) (ptK_lt hn hrg ih2.rng) ?_ (fun t ht hne => ?_) i u hu hi
    · rw [ptK_get ss _ n v hv hn]
      unfold Rot.ptr
      rw [rot_natI, getD_setN R v y v hvR, if_pos rfl, htr]
    · rw [ptK_get ss _ n t ht hn, ptK_get ss _ n t ht hn]
      unfold Rot.ptr
      rw [rot_natI, rot_natI, getD_setN R v y t hvR, if_neg hne]
theorem run_way {n a : Nat} {ss : List (Nat × Nat)} {us : List Int} (hn : n ≤ 12) (h : GoodU n ss a us) (hrg : ∀ x ∈ ss, x.1 < n ∧ x.2 < n) : ∀ k, (Rot.run ss (rot us) a k).2.length = k ∧ ∀ j, j < k → ∃ e, (Rot.run ss (rot us) a k).2[j]? = some e ∧ Rot.src ss e = (Rot.run ss (rot us) a j).1 ∧ Rot.trg ss e = (Rot.run ss (rot us) a (j + 1)).1
  | 0 => ⟨rfl, fun j hj => absurd hj (Nat.not_lt_zero _)⟩
  | k + 1 => by
    obtain ⟨i1, i2⟩ := run_way hn h hrg k
    have ih := (good_run hn h hrg k).at_lt
    obtain ⟨⟨v, l⟩, hr⟩ : ∃ y, Rot.run ss (rot us) a k = y := ⟨_, rfl⟩
    rw [hr] at i1 i2 ih
    have i1 : l.length = k := i1
    obtain ⟨x, e, z1, z2, h1, hx, h2, he, hxl, h3, hz, hz2, hrun, hrot⟩ := run_step hn h hrg hr ih
    have hl : (Rot.run ss (rot us) a (k + 1)).2 = l ++ [e] := by rw [hrun]
    rw [hl]
    refine ⟨by simp [i1], fun j hj => ?_⟩
    rcases Nat.lt_or_ge j k with h4 | h4
    · obtain ⟨e', a1, a2, a3⟩ := i2 j h4
      exact ⟨e', by rw [List.getElem?_append_left (by omega)]; exact a1, a2, a3⟩
    · obtain rfl : j = k := by omega
      refine ⟨e, by rw [List.getElem?_append_right (by omega)]; simp [i1], ?_, ?_⟩
      · have : e ∈ Rot.outs ss v := by rw [← he]; exact List.getElem_mem h2
        rw [(Rot.outs_mem.1 this).2, hr]
      · rw [hrun]
        unfold Rot.trg
        rw [List.getD_eq_getElem?_getD]
        simp [h3, hz]

/-- A list of arcs that is a tour. -/
def TourL (ss : List (Nat × Nat)) (l : List Nat) : Prop := l.length = ss.length ∧ 0 < l.length ∧ l.Nodup ∧ (∀ e ∈ l, e < ss.length) ∧ ∀ i, i < l.length → Rot.trg ss (l.getD i 0) = Rot.src ss (l.getD ((i + 1) % l.length) 0)
theorem sgl_pos {n : Nat} {ns : List (Nat × Nat × Nat)} (hR : RD n ns) (hE : EulC n ns) : 0 < (sgl ns).length := by
  obtain ⟨h1, -⟩ := hE
  rcases ns with _ | ⟨x, l⟩
  · exact absurd rfl h1
  · have := (hR.rng x (List.mem_cons_self ..)).2.2.1
    have e2 : sgl (x :: l) = List.replicate x.2.2 (x.1, x.2.1) ++ sgl l := by simp [sgl]
    rw [e2, List.length_append, List.length_replicate]; omega
/-- The round trip of a unicycle on an Eulerian digraph. -/
theorem eul_home {n a : Nat} {ns : List (Nat × Nat × Nat)} {us : List Int} (hR : RD n ns) (hE : EulC n ns) (hG : GoodU n (sgl ns) a us) :
    (Rot.run (sgl ns) (rot us) a (sgl ns).length).1 = a ∧ TourL (sgl ns) (Rot.run (sgl ns) (rot us) a (sgl ns).length).2 ∧ us = natI (rotK (sgl ns) us n (Rot.run (sgl ns) (rot us) a (sgl ns).length).2) := by
  have hrg := sgl_rng hR
  have n12 := hR.le
  have hplt := ptK_lt n12 hrg hG.rng
  have hsrc : ∀ e, e < (sgl ns).length → Rot.src (sgl ns) e < n ∧ Rot.trg (sgl ns) e < n := fun e he => by
    have := hrg _ (List.getElem_mem he)
    unfold Rot.src Rot.trg
    rw [List.getD_eq_getElem?_getD, List.getElem?_eq_getElem he]
    exact this
  have hr : ∀ v, v < n → rot us v < (Rot.outs (sgl ns) v).length := fun v hv => by
    have := hG.rng v hv
    unfold rot; omega
  obtain ⟨h1, h2, h3⟩ := Rot.home (es := sgl ns) (r := rot us) (a := a) (n := n) (fun e he => (hsrc e he).1) (fun e he => (hsrc e he).2) hG.pos (fun v hv => eul_bal hE v hv) hr (fun v hv => by
    obtain ⟨i, hi⟩ := hG.uni v hv
    exact ⟨i, by rw [ptrs_it n12 hplt i v hv]; exact hi⟩) hG.at_lt
  obtain ⟨w1, w2⟩ := run_way n12 hG hrg (sgl ns).length
  have hp := sgl_pos hR hE
  obtain ⟨m, hm⟩ : ∃ m, (sgl ns).length = m := ⟨_, rfl⟩
  rw [hm] at h1 h2 h3 w1 w2 hp ⊢
  refine ⟨h1, ⟨by rw [w1, hm], by rw [w1]; exact hp, h2.nodup_iff.2 List.nodup_range, fun e he => by rw [hm]; exact List.mem_range.1 (h2.mem_iff.1 he), fun i hi => ?_⟩, ?_⟩
  · rw [w1] at hi ⊢
    obtain ⟨e, a1, a2, a3⟩ := w2 i hi
    have e1 : (Rot.run (sgl ns) (rot us) a m).2.getD i 0 = e := by rw [List.getD_eq_getElem?_getD, a1]; rfl
    rw [e1, a3]
    obtain ⟨e', b1, b2, b3⟩ := w2 ((i + 1) % m) (Nat.mod_lt _ hp)
    have e2 : (Rot.run (sgl ns) (rot us) a m).2.getD ((i + 1) % m) 0 = e' := by rw [List.getD_eq_getElem?_getD, b1]; rfl
    rw [e2, b2]
    rcases Nat.lt_or_ge (i + 1) m with h4 | h4
    · rw [Nat.mod_eq_of_lt h4]
    · obtain rfl : m = i + 1 := by omega
      rw [Nat.mod_self, h1]; rfl
  · have e1 : rotK (sgl ns) us n (Rot.run (sgl ns) (rot us) a m).2 = rotK (sgl ns) us n [] := by
      unfold rotK
      apply List.map_congr_left
      intro v _
      rw [h3, Nat.add_mod_right]; rfl
    rw [e1]
    exact rotK_zero hG
end Go.Proofs.YtlnhocgjgmhfgaaGreatDoor

namespace Go.Proofs.YtlnhocgjgmhfgaaGreatDoor
open Go.RowKit
set_option maxRecDepth 100000

def marks (m : Nat) (l : List Nat) (k : Nat) : List Bool := (List.range m).map fun i => (l.take k).contains i
theorem marks_len (m : Nat) (l : List Nat) (k : Nat) : (marks m l k).length = m := by simp [marks]
theorem marks_zero (m : Nat) (l : List Nat) : marks m l 0 = List.replicate m false := by
  apply List.ext_getElem <;> simp [marks]
theorem marks_at {m : Nat} {l : List Nat} {k : Nat} (hn : l.Nodup) (hk : k < l.length) (h : l[k] < (marks m l k).length) : (marks m l k)[l[k]] = false := by
  simp only [marks, List.getElem_map, List.getElem_range]
  rw [Bool.eq_false_iff]
  intro hc
  rw [List.contains_iff_mem, List.mem_iff_getElem] at hc
  obtain ⟨i, hi, he⟩ := hc
  rw [List.length_take] at hi
  rw [List.getElem_take] at he
  have := Rot.nodup_inj hn (by omega) hk he
  omega
theorem marks_succ {m : Nat} {l : List Nat} {k : Nat} (hk : k < l.length) : (marks m l k).set l[k] true = marks m l (k + 1) := by
  apply List.ext_getElem (by simp [marks])
  intro i h1 h2
  rw [List.getElem_set]
  simp only [marks, List.getElem_map, List.getElem_range, List.take_succ_eq_append_getElem hk]
  by_cases e : l[k] = i
  · rw [if_pos e]; simp [e]
  · rw [if_neg e]
    rw [Bool.eq_iff_iff, List.contains_iff_mem, List.contains_iff_mem, List.mem_append, List.mem_singleton]
    exact ⟨.inl, fun h => h.resolve_right fun e2 => e e2.symm⟩

set_option maxHeartbeats 4000000 in
theorem Verify_ok (w : World) (n : Nat) (v lv : Value) (ns : List (Nat × Nat × Nat)) (l : List Nat) (K : Int) (hR : RD n ns) (hv : SlK e3 3 w v (ns.map n3)) (hl : ns.length ≤ 1000) (hlv : SlK i1 1 w lv l) (hr : ∀ e ∈ l, e < (sgl ns).length) (hll : l.length ≤ 4096) (hp0 : 0 < (sgl ns).length)
    (hT : (l.length = (sgl ns).length ∧ TourL (sgl ns) l ∧ K = 0) ∨ (l.length ≠ (sgl ns).length ∧ K = 16)) :
    Calls Tryz.prog 29 #[.agg #[.int .i64 (n : Nat), v], lv] w (Rets fun r w' => r = .int .i64 K ∧ Below w.heap.size w w') := by
  obtain ⟨ad, c, rfl⟩ := hv.form
  obtain ⟨la, lb, lo, lc, rfl, hli, hlp, hlc, hlm⟩ := hlv.open elemI
  unfold maxLen at hlm
  have hnl : (ns.map n3).length = ns.length := List.length_map _
  rw [hnl] at hv ⊢
  have n12 := hR.le
  have n1 := hR.pos
  have HR := Lib.hid hR; have HV := Lib.hid hv; have HLP := Lib.hid hlp; have HLR := Lib.hid hr; have HT := Lib.hid hT
  have HM := Lib.hid (show ∀ x ∈ ns, x.2.2 ≤ 50 from fun x hx => (hR.rng x hx).2.2.2)
  have hSL := sgl_le ns HM.out ns.length
  rw [List.take_length] at hSL
  obtain ⟨D, hD⟩ : ∃ D, w.heap.size = D := ⟨_, rfl⟩
  obtain ⟨W, hW⟩ : ∃ W, w.alloc (.cells #[.int .i64 (n : Nat), .slice ad ns.length c] 28) = W := ⟨_, rfl⟩
  have HK0 := Lib.hid (show Blk W D [.int .i64 (n : Nat), .slice ad ns.length c] 28 by rw [← hW, ← hD]; exact Blk.new w _ _)
  have HB0 := Lib.hid (show Below D w W by rw [← hW, ← hD]; exact (Below.refl _ w).alloc (Nat.le_refl _) _)
  have HV0 := Lib.hid (HV.out.below HB0.out (Nat.le_of_eq hD))
  have HW := Lib.hid hW
  have k0 := HK0.out.cell 0 _ rfl; have k1 := HK0.out.cell 1 _ rfl; have kl := HK0.out.lt
  have d1 : decide ((4096 : Int) < (l.length : Int)) = false := by simp only [decide_eq_false_iff_not]; omega
  have d2 : decide (4096 < l.length) = false := by simp only [decide_eq_false_iff_not]; omega
  obtain ⟨SS, hSS⟩ : ∃ SS, sgl ns = SS := ⟨_, rfl⟩
  have HSS := Lib.hid hSS
  rw [hSS] at hp0 hSL HLR HT
  clear hv hlv hr hR hT hW hlp hSS
  go_enter Tryz.func29, Tryz.ntmps29
  go_wp2_with (first
    | (go_at_call 43; (with_reducible refine (arcs_ok w1 n _ ns HV1.out HM.out (by omega)).mono ?_); rintro e w2 ⟨v, rfl, hO, hb2⟩; rw [HSS.out] at hO; obtain ⟨ea, ec, rfl⟩ := own_formK hO; have HE := Lib.hid (SlK.ofOwns p2_len hO rfl); have HB2 := Lib.hid (HB1.out.trans (hb2.mono (by rw [← hD]; exact HB1.out.size))); clear hO hb2)
    | (go_at_call 46; rw [HW.out]; (with_reducible refine (NCheck_ok W n _ ns HR.out HV0.out).mono ?_); rintro e w1 ⟨v, rfl, rfl, hb⟩; have HB1 := Lib.hid (HB0.out.trans (hb.mono (by rw [← hD]; exact HB0.out.size))); have HK1 := Lib.hid (HK0.out.below hb (Nat.le_refl _)); have HV1 := Lib.hid (HV0.out.below hb (Nat.le_refl _)); have k0 := HK1.out.cell 0 _ rfl; have k1 := HK1.out.cell 1 _ rfl; have kl := HK1.out.lt; clear hb))
  clear k0 k1 kl
  obtain ⟨ea', eb, eo, ec', hform, hie, hep, hec, hecm⟩ := HE.out.open elemEnds
  simp only [Value.slice.injEq, true_and] at hform
  obtain ⟨rfl, rfl⟩ := hform
  have HEP := Lib.hid hep
  have hebl := hep.1 (by omega)
  have hsz2 := HB2.out.size
  clear hep
  go_loopw [24] (fun i wr => ∃ k : Nat, k ≤ l.length ∧ i = .int .i64 k ∧ Hid (Below w2.heap.size w2 wr)) (fun i _ => l.length - (intOf i).toNat)
  case atStart => exact ⟨0, Nat.zero_le _, rfl, Lib.hid (Below.refl _ _)⟩
  case round =>
    obtain ⟨k, hk, rfl, hB⟩ := hrel
    have hqw := HB2.out.trans (hB.out.mono (by rw [← hD]; exact hsz2))
    have HQW := Lib.hid hqw
    by_cases hkn : k < l.length
    · obtain ⟨x, hx⟩ : ∃ x, l[k] = x := ⟨_, rfl⟩
      have hxr : x < SS.length := by rw [← hx]; exact HLR.out _ (List.getElem_mem hkn)
      have x0 : wr.cell? ⟨lb, lo + k, none⟩ = some (.int .i64 (x : Nat)) := by
        have := HLP.out.at hqw (Nat.le_of_eq hD) k hkn 0 (.int .i64 (x : Nat)) (by rw [hx]; rfl)
        rwa [Nat.mul_one, Nat.add_zero] at this
      have hbl := (HLP.out.below hqw (Nat.le_of_eq hD)).1 (by omega)
      have q0 : (0 : Int) ≤ (k : Int) := by omega
      have q1 : (k : Int) < (l.length : Int) := by omega
      have e1 : decide ((x : Int) < 0) = false := by simp only [decide_eq_false_iff_not]; omega
      have e2 : decide ((SS.length : Int) ≤ (x : Int)) = false := by simp only [decide_eq_false_iff_not]; omega
      have e3 : decide (SS.length ≤ x) = false := by simp only [decide_eq_false_iff_not]; omega
      clear hx hqw
      go_wp2
      go_roundw
      case rel => exact ⟨k + 1, by omega, by go_num, hB⟩
      case measure => simp [intOf]; omega
    · obtain rfl : k = l.length := by omega
      rcases HT.out with ⟨h1, h2, rfl⟩ | ⟨h1, rfl⟩
      rotate_left
      · have hne : ((l.length : Int) == (SS.length : Int)) = false := by rw [beq_eq_false_iff_ne]; omega
        clear h1 hqw
        go_wp2
        go_ret
        exact ⟨_, rfl, rfl, by first | exact HQW.out | (rw [hD]; exact HQW.out)⟩
      · have hne : ((l.length : Int) = (SS.length : Int)) := by omega
        have hnn : ((l.length : Int) == (SS.length : Int)) = true := by rw [beq_iff_eq]; omega
        have hz0 : ((l.length : Int) == 0) = false := by rw [beq_eq_false_iff_ne]; omega
        have HTL := Lib.hid h2
        have HLE := Lib.hid h1
        have hsB := hB.out.size
        have hqs := hqw.size
        obtain ⟨U, hU⟩ : ∃ U, wr.heap.size = U := ⟨_, rfl⟩
        have HUU := Lib.hid hU
        have hs2U : w2.heap.size ≤ U := by omega
        have hsDU : D ≤ U := by omega
        have HBB := Lib.hid hB.out
        have hbl := (HLP.out.below hqw (Nat.le_of_eq hD)).1 (by omega)
        clear h1 h2 hqw hB hU hsB hqs HB2 HE
        go_wp2_with (at_make; refine mkN elemB rfl _ _ rfl SS.length rfl rfl rfl rfl (by omega) (by unfold maxLen; omega) (Below.refl wr.heap.size wr) (Nat.le_refl _) rfl ?_; intro w5 hown hb5 hb5'; rw [HUU.out] at hown hb5 ⊢; have hU5 := blk_of_own hown; rw [show List.replicate SS.length (Value.bool false) = bools (marks SS.length l 0) by rw [marks_zero]; simp [bools]] at hU5; have HU5 := Lib.hid hU5; have HB25 := Lib.hid (HBB.out.trans (hb5.mono hs2U)); have HBD5 := Lib.hid (HQW.out.trans (hb5.mono hsDU)); clear hown hb5 hb5' hU5)
        go_loopw [52] (fun i wr => ∃ k : Nat, k ≤ l.length ∧ i = .int .i64 k ∧ Hid (Blk wr U (bools (marks SS.length l k)) 4) ∧ Hid (Below U w5 wr)) (fun i _ => l.length - (intOf i).toNat)
        case atStart => exact ⟨0, Nat.zero_le _, rfl, HU5, Lib.hid (Below.refl _ _)⟩
        case round =>
          obtain ⟨k, hk, rfl, hU, hB⟩ := hrel
          have hq2 := HB25.out.trans (hB.out.mono hs2U)
          have hqD := HBD5.out.trans (hB.out.mono hsDU)
          have HQD := Lib.hid hqD
          by_cases hkn : k < l.length
          · obtain ⟨t1, t2, t3, t4, t5⟩ := HTL.out
            obtain ⟨j, hj⟩ : ∃ j, (k + 1) % l.length = j := ⟨_, rfl⟩
            have hjl : j < l.length := by rw [← hj]; exact Nat.mod_lt _ t2
            have t6 := t5 k hkn
            rw [hj] at t6
            obtain ⟨x, hx⟩ : ∃ x, l[k] = x := ⟨_, rfl⟩
            obtain ⟨y, hy⟩ : ∃ y, l[j] = y := ⟨_, rfl⟩
            have hxr : x < SS.length := by rw [← hx]; exact HLR.out _ (List.getElem_mem hkn)
            have hyr : y < SS.length := by rw [← hy]; exact HLR.out _ (List.getElem_mem hjl)
            obtain ⟨⟨p, z⟩, hpx⟩ : ∃ q, SS[x] = q := ⟨_, rfl⟩
            obtain ⟨⟨z', p'⟩, hpy⟩ : ∃ q, SS[y] = q := ⟨_, rfl⟩
            have e1 : l.getD k 0 = x := by rw [List.getD_eq_getElem?_getD, List.getElem?_eq_getElem hkn, hx]; rfl
            have e2 : l.getD j 0 = y := by rw [List.getD_eq_getElem?_getD, List.getElem?_eq_getElem hjl, hy]; rfl
            rw [e1, e2] at t6
            unfold Rot.trg Rot.src at t6
            rw [List.getD_eq_getElem?_getD, List.getElem?_eq_getElem hxr, List.getD_eq_getElem?_getD, List.getElem?_eq_getElem hyr, hpx, hpy] at t6
            simp only [Option.getD_some] at t6
            subst t6
            have x0 : wr.cell? ⟨lb, lo + k, none⟩ = some (.int .i64 (x : Nat)) := by
              have := HLP.out.at hqD (Nat.le_of_eq hD) k hkn 0 (.int .i64 (x : Nat)) (by rw [hx]; rfl)
              rwa [Nat.mul_one, Nat.add_zero] at this
            have y0 : wr.cell? ⟨lb, lo + j, none⟩ = some (.int .i64 (y : Nat)) := by
              have := HLP.out.at hqD (Nat.le_of_eq hD) j hjl 0 (.int .i64 (y : Nat)) (by rw [hy]; rfl)
              rwa [Nat.mul_one, Nat.add_zero] at this
            have a1 : wr.cell? ⟨eb, eo + x * 2 + 1, none⟩ = some (.int .i64 (z : Nat)) := HEP.out.at hq2 (Nat.le_refl _) x hxr 1 _ (by rw [hpx]; rfl)
            have a0 : wr.cell? ⟨eb, eo + y * 2, none⟩ = some (.int .i64 (z : Nat)) := HEP.out.at hq2 (Nat.le_refl _) y hyr 0 _ (by rw [hpy]; rfl)
            have hbl2 := (HLP.out.below hqD (Nat.le_of_eq hD)).1 (by omega)
            have hel2 := (HEP.out.below hq2 (Nat.le_refl _)).1 (by omega)
            have hml : x < (marks SS.length l k).length := by rw [marks_len]; exact hxr
            have hma : (marks SS.length l k)[x] = false := by
              have := marks_at (m := SS.length) t3 hkn (by rw [marks_len, hx]; exact hxr)
              simpa only [hx] using this
            have HMS := Lib.hid (show (marks SS.length l k).set x true = marks SS.length l (k + 1) by
              have := marks_succ (m := SS.length) hkn
              rwa [hx] at this)
            have u0 : wr.cell? ⟨U, x, none⟩ = some (.bool false) := hU.out.cell x _ (by rw [bools_at _ x hml, hma])
            have uf := hU.out.free x
            have ul := hU.out.lt
            have q0 : (0 : Int) ≤ (k : Int) := by omega
            have q1 : (k : Int) < (l.length : Int) := by omega
            have q2 : (0 : Int) ≤ (x : Int) := by omega
            have q3 : (x : Int) < (SS.length : Int) := by omega
            have q4 : (0 : Int) ≤ (y : Int) := by omega
            have q5 : (y : Int) < (SS.length : Int) := by omega
            have q6 : (0 : Int) ≤ (j : Int) := by omega
            have q7 : (j : Int) < (l.length : Int) := by omega
            have hTne : ¬ (l.length : Int) = 0 := by omega
            have hmod : Int.tmod ((k : Int) + 1) (l.length : Int) = (j : Int) := by
              rw [← hj]; rw [show (k : Int) + 1 = ((k + 1 : Nat) : Int) by simp]; rfl
            have hlS : l.length = SS.length := HLE.out
            have q8 : (k : Int) < (SS.length : Int) := by omega
            have q9 : (j : Int) < (SS.length : Int) := by omega
            have hTn2 : ¬ (SS.length : Int) = 0 := by omega
            have hmo2 : Int.tmod ((k : Int) + 1) (SS.length : Int) = (j : Int) := by rw [← hlS]; exact hmod
            clear hlS
            have HBU := Lib.hid hU.out; have HBX := Lib.hid hB.out
            clear t1 t2 t3 t4 t5 hj hx hy hpx hpy e1 e2 hml hma hU hB hq2 hqD
            go_wp2_with fail
            go_quiet (fail)
            go_wp2
            go_roundw
            case rel => exact ⟨k + 1, by omega, by go_num, Lib.hid (by rw [← HMS.out, ← bools_set]; exact (HBU.out.drewN _).set x (.bool true)), Lib.hid ((below_drewN HBX.out nq).setCell (p := ⟨U, x, none⟩) (Nat.le_refl U) _)⟩
            case measure => simp [intOf]; omega
          · obtain rfl : k = l.length := by omega
            clear hqD hq2
            go_wp2
            go_ret
            exact ⟨_, rfl, rfl, by first | exact HQD.out | (rw [hD]; exact HQD.out)⟩
end Go.Proofs.YtlnhocgjgmhfgaaGreatDoor
