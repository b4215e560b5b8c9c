/- The walk of euler's rooted. -/
import Derived.Test.YtlnhocgjgmhfgaaGreatDoorPk17
import Derived.Test.YtlnhocgjgmhfgaaGreatDoorPk33
namespace Go.Proofs.YtlnhocgjgmhfgaaGreatDoor
open Go.RowKit
set_option maxRecDepth 100000

/-- The matrix while the arcs are counted. -/
def rtS (at_ : List Nat) (A : Mat) (x : Nat × Nat × Nat) : Mat :=
  if x.1 ∈ at_ ∧ x.1 ≠ x.2.1 then (if x.2.1 ∈ at_ then addM (addM A (at_.findIdx (isR x.1)) (at_.findIdx (isR x.1)) x.2.2) (at_.findIdx (isR x.1)) (at_.findIdx (isR x.2.1)) (-(x.2.2 : Int)) else addM A (at_.findIdx (isR x.1)) (at_.findIdx (isR x.1)) x.2.2) else A
def rtM (at_ : List Nat) (l : List (Nat × Nat × Nat)) : Mat := l.foldl (rtS at_) fun _ _ => 0
theorem rtM_take (at_ : List Nat) {ns : List (Nat × Nat × Nat)} {j : Nat} (h : j < ns.length) : rtM at_ (ns.take (j + 1)) = rtS at_ (rtM at_ (ns.take j)) ns[j] := by
  unfold rtM
  rw [List.take_succ_eq_append_getElem h, List.foldl_append]
  rfl
theorem addM_bd {A : Mat} {B D d : Int} (h : ∀ i k, -B ≤ A i k ∧ A i k ≤ B) (hd : -D ≤ d ∧ d ≤ D) (r c : Nat) : ∀ i k, -(B + D) ≤ addM A r c d i k ∧ addM A r c d i k ≤ B + D := fun i k => by
  have := h i k
  unfold addM
  split <;> omega
theorem rtM_bd (at_ : List Nat) : ∀ (ns : List (Nat × Nat × Nat)), (∀ x ∈ ns, x.2.2 ≤ 50) → ∀ j, j ≤ ns.length → ∀ i k, -(100 * (j : Int)) ≤ rtM at_ (ns.take j) i k ∧ rtM at_ (ns.take j) i k ≤ 100 * (j : Int) := by
  intro ns hm j
  induction j with
  | zero => intro _ i k; simp [rtM]
  | succ j ih =>
    intro hj
    have hjn : j < ns.length := by omega
    have h1 := ih (by omega)
    have h2 := hm _ (List.getElem_mem hjn)
    rw [rtM_take at_ hjn]
    have e : (100 * ((j + 1 : Nat) : Int)) = 100 * (j : Int) + 50 + 50 := by omega
    rw [e]
    unfold rtS
    intro i k
    split
    · split
      · exact addM_bd (addM_bd h1 (D := 50) (by omega) _ _) (D := 50) (by omega) _ _ i k
      · have := addM_bd h1 (D := 50) (d := (ns[j].2.2 : Int)) (by omega) (at_.findIdx (isR ns[j].1)) (at_.findIdx (isR ns[j].1)) i k
        omega
    · have := h1 i k
      omega
theorem gridL_txt1 (n : Nat) (A : Mat) : (gridL n A).map txt = cellsF n n A := by simp [gridL, cellsF, Function.comp_def]
theorem idx_lt {at_ : List Nat} {x : Nat} (h : x ∈ at_) : at_.findIdx (isR x) < at_.length := List.findIdx_lt_length_of_exists ⟨x, h, by simp [isR]⟩
theorem idxN_yes {at_ : List Nat} {x : Nat} (h : x ∈ at_) : idxN at_ x = (at_.findIdx (isR x) : Nat) := by unfold idxN; rw [if_pos h]
theorem idxN_no {at_ : List Nat} {x : Nat} (h : x ∉ at_) : idxN at_ x = -1 := by unfold idxN; rw [if_neg h]
theorem makeS_grid {k : Nat} (hk : k ≤ 16) (A : Mat) : makeS (k : Int) (k : Int) (gridL k A) = ⟨k, k, cellsF k k A, 0⟩ := by
  have hs : sideB (k : Int) = true := (sideB_iff _).2 ⟨by omega, by omega⟩
  unfold makeS
  rw [if_pos hs, if_pos hs, if_pos (by rw [gridL_len]; exact Int.natCast_mul _ _), gridL_txt1]
theorem gridL_eZ {k r c : Nat} {A : Mat} {w : World} {base g cap : Nat} (h : w.ownsRow base 3 1 (.slice (some ⟨g, 0, none⟩) (k * k) cap) (k * k) ((gridL k A).map eZ)) (hr : r < k) (hc : c < k) : w.cell? ⟨g, r * k + c, none⟩ = some (.int .i64 (A r c)) ∧ w.frozen? ⟨g, r * k + c, none⟩ = false := by
  have hl : r * k + c < (gridL k A).length := by rw [gridL_len]; exact place_lt hr hc
  obtain ⟨h1, h2⟩ := own_get h hl
  rw [gridL_get A hc hl] at h1
  exact ⟨h1, h2⟩
set_option maxHeartbeats 8000000 in
theorem rooted_ok (w : World) (n : Nat) (v : Value) (ns : List (Nat × Nat × Nat)) (rt : Nat) (ov : Value) (on at_ : List Nat) (hv : SlK e3 3 w v (ns.map n3)) (hon : Sl eJ w ov on) (hm : ∀ x ∈ ns, x.2.2 ≤ 50) (hl : ns.length ≤ 500) (hol : on.length ≤ 100) (hat : (on.filter fun s => !isR rt s) = at_) (hk1 : 1 ≤ at_.length) (hk6 : at_.length ≤ 6) (he : Env w) :
    Calls Tryz.prog 59 #[.agg #[.int .i64 (n : Nat), v], .int .i64 (rt : Nat), ov] w (Rets fun r w' => r = .tuple #[.string (txt (det at_.length (rtM at_ ns))), .int .i64 0] ∧ Below w.heap.size w w') := by
  have HV := Lib.hid hv
  obtain ⟨ad, eb, eo, c, rfl, hi, hp, hcc, hcm⟩ := hv.open elemArc
  have hnl : (ns.map n3).length = ns.length := List.length_map _
  rw [hnl] at HV hi hcc ⊢
  have HNL := Lib.hid hnl
  unfold maxLen at hcm
  have HM := Lib.hid hm; have HP := Lib.hid hp; have HAT := Lib.hid hat
  obtain ⟨oa, oc, rfl⟩ := sl_form hon
  have HON := Lib.hid hon
  obtain ⟨D, hD⟩ : ∃ D, w.heap.size = D := ⟨_, rfl⟩
  obtain ⟨W, hW⟩ : ∃ W, (w.alloc (.cells #[.int .i64 (n : Nat), .slice ad ns.length c] 28)).alloc (.cells #[.int .i64 (rt : Nat)] 3) = W := ⟨_, rfl⟩
  have hWs : W.heap.size = D + 2 := by rw [← hW, ← hD]; simp
  have HK0 := Lib.hid (show Blk W D [.int .i64 (n : Nat), .slice ad ns.length c] 28 by rw [← hW, ← hD]; exact (Blk.new w _ _).alloc _)
  have HR0 := Lib.hid (show Blk W (D + 1) [.int .i64 (rt : Nat)] 3 by rw [← hW, ← hD]; exact Blk.at1 w _ _ _)
  have HB0 := Lib.hid (show Below D w W by rw [← hW, ← hD]; exact ((Below.refl _ w).alloc (Nat.le_refl _) _).alloc (by simp) _)
  have HW := Lib.hid hW; have HWS := Lib.hid hWs
  have HON0 := Lib.hid (HON.out.below HB0.out (Nat.le_of_eq hD))
  have HEW := Lib.hid he
  obtain ⟨k, hk⟩ : ∃ k, at_.length = k := ⟨_, rfl⟩
  have HKL := Lib.hid hk
  rw [hk] at hk1 hk6 ⊢
  have hkk : k * k ≤ 6 * 6 := Nat.mul_le_mul hk6 hk6
  obtain ⟨KK, hKK⟩ : ∃ KK, k * k = KK := ⟨_, rfl⟩
  have HKK := Lib.hid hKK
  have e1 : IntKind.i64.wrap ((k : Int) * (k : Int)) = (KK : Int) := by rw [← Int.natCast_mul, hKK, IntKind.wrap_i64]; omega
  rw [hKK] at hkk
  clear hKK
  have k0 := HK0.out.cell 0 _ rfl; have k1 := HK0.out.cell 1 _ rfl; have kl := HK0.out.lt
  clear hv hW hWs hm hp hnl hat hon he hk
  go_enter Tryz.func59, Tryz.ntmps59
  have hebD : 0 < ns.length → eb < D := fun h => by rw [← hD]; exact HP.out.1 (by rw [HNL.out]; exact h)
  go_wp2_with (first
    | (at_make; refine mkN elemI rfl _ _ rfl KK rfl rfl rfl rfl (by omega) (by unfold maxLen; omega) (Below.refl w3.heap.size w3) (Nat.le_refl _) rfl ?_; intro w5 hown hb5 hb5'; obtain ⟨U, hU⟩ : ∃ U, w3.heap.size = U := ⟨_, rfl⟩; have HUU := Lib.hid hU; have HDU := Lib.hid (show D < U by (rw [← hU]; exact HK3.out.lt)); rw [hU] at hown hb5 ⊢; clear hU; have HO5 := Lib.hid (show w5.ownsRow U 3 1 (.slice (some ⟨U, 0, none⟩) KK KK) KK ((gridL k (rtM at_ (ns.take 0))).map eZ) from ownsRow_cast hown rfl (by rw [← HKK.out]; show List.replicate (k * k) (Value.int .i64 0) = (gridL k fun _ _ => 0).map eZ; rw [gridL_zero]; simp [eZ])); have HB5 := Lib.hid hb5; have HK5 := Lib.hid (HK3.out.below hb5 (Nat.le_of_eq HUU.out)); have k0 := HK5.out.cell 0 _ rfl; have k1 := HK5.out.cell 1 _ rfl; have kl := HK5.out.lt; clear hown hb5 hb5')
    | (go_at_call 72; (with_reducible refine (deleteN_any w2 _ on (D + 2) rt (D + 1) (HR2.out.cell 0 _ rfl) (Nat.lt_succ_self _) HO2.out hol9.out).mono ?_); rintro e w3 ⟨v3, rfl, hs3, hb3⟩; rw [HAT.out] at hs3; obtain ⟨ta, tc, rfl⟩ : ∃ a c, v3 = .slice a k c := (by have h9 := sl_form hs3; rwa [HKL.out] at h9); have HS3 := Lib.hid hs3; have HB3 := Lib.hid (HB2.out.trans (hb3.mono (Nat.le_add_right D 2))); have HK3 := Lib.hid (show Blk w3 D [.int .i64 (n : Nat), .slice ad ns.length c] 28 from (hb3.block D (by omega)).trans HK2.out); have HE3 := Lib.hid (HEW.out.below HB3.out (Nat.le_of_eq hD)); have k0 := HK3.out.cell 0 _ rfl; have k1 := HK3.out.cell 1 _ rfl; have kl := HK3.out.lt; clear hs3 hb3)
    | (go_at_call 44; rw [HW.out]; (with_reducible refine (cloneN_any W _ on HON0.out (by omega)).mono ?_); rintro e w2 ⟨v2, rfl, hs2, hb2⟩; rw [HWS.out] at hs2; obtain ⟨ca, cc, rfl⟩ := own_formK hs2; have HO2 := Lib.hid hs2; have HB2 := Lib.hid (HB0.out.trans (hb2.mono (by rw [HWS.out]; exact Nat.le_add_right D 2))); have HK2 := Lib.hid (HK0.out.below hb2 (Nat.le_refl _)); have HR2 := Lib.hid (HR0.out.below hb2 (Nat.le_refl _)); have hol9 := Lib.hid (show on.length ≤ 1000000 from Nat.le_trans hol (by omega)); clear hs2 hb2))
  clear k0 k1 kl
  go_loopw [30] (fun q wr => ∃ j : Nat, j ≤ ns.length ∧ q = .int .i64 j ∧ Hid (wr.ownsRow U 3 1 (.slice (some ⟨U, 0, none⟩) KK KK) KK ((gridL k (rtM at_ (ns.take j))).map eZ)) ∧ Hid (Below U w3 wr)) (fun q _ => ns.length - (intOf q).toNat)
  case atStart => exact ⟨0, Nat.zero_le _, rfl, HO5, HB5⟩
  case round =>
    clear HO5 HB5 HK5
    obtain ⟨j, hj, rfl, hO, hB⟩ := hrel
    have hBD : Below D w wr := HB3.out.trans (hB.out.mono (Nat.le_of_lt HDU.out))
    have HBD := Lib.hid hBD
    by_cases hjn : j < ns.length
    · obtain ⟨⟨a, b, m⟩, hx⟩ : ∃ x, ns[j] = x := ⟨_, rfl⟩
      have hjm : j < (ns.map n3).length := by rw [HNL.out]; exact hjn
      have hm50 := HM.out _ (List.getElem_mem hjn)
      rw [hx] at hm50
      simp only at hm50
      have hex : (ns.map n3)[j] = ((a : Int), (b : Int), (m : Int)) := by rw [List.getElem_map, hx]; rfl
      have hebd := hebD (by omega)
      have hbb : ∀ q, wr.cell? ⟨eb, q, none⟩ = w.cell? ⟨eb, q, none⟩ := fun q => World.cell?_of_block (a := ⟨eb, q, none⟩) (hBD.block eb hebd)
      have a0 : wr.cell? ⟨eb, eo + j * 3, none⟩ = some (.int .i64 (a : Nat)) := (hbb _).trans (HP.out.2 j hjm 0 _ (by rw [hex]; rfl))
      have a1 : wr.cell? ⟨eb, eo + j * 3 + 1, none⟩ = some (.int .i64 (b : Nat)) := (hbb _).trans (HP.out.2 j hjm 1 _ (by rw [hex]; rfl))
      have a2 : wr.cell? ⟨eb, eo + j * 3 + 2, none⟩ = some (.int .i64 (m : Nat)) := (hbb _).trans (HP.out.2 j hjm 2 _ (by rw [hex]; rfl))
      have hUl : U < wr.heap.size := (hO.out.lt U rfl).2
      have hlw : eb < wr.heap.size := by have := HDU.out; omega
      have q1 : (0 : Int) ≤ (j : Int) := by omega
      have q2 : (j : Int) < (ns.length : Int) := by omega
      have HT := Lib.hid (rtM_take at_ hjn)
      rw [hx] at HT
      have hbd := rtM_bd at_ ns HM.out j (by omega)
      obtain ⟨A, hA⟩ : ∃ A, rtM at_ (ns.take j) = A := ⟨_, rfl⟩
      rw [hA] at HT hbd hO
      have HBA := Lib.hid (show ∀ i q, -50000 ≤ A i q ∧ A i q ≤ 50000 from fun i q => by have := hbd i q; omega)
      obtain ⟨g, hg⟩ : ∃ g, wr.heap.size = g := ⟨_, rfl⟩
      obtain ⟨X, hX⟩ : ∃ X, wr.alloc (.cells #[.int .i64 (a : Nat), .int .i64 (b : Nat), .int .i64 (m : Nat)] 83) = X := ⟨_, rfl⟩
      have HX := Lib.hid hX; have HGE := Lib.hid hg
      have HKX := Lib.hid (show Blk X g [.int .i64 (a : Nat), .int .i64 (b : Nat), .int .i64 (m : Nat)] 83 by rw [← hX, ← hg]; exact Blk.new wr _ _)
      have HOX := Lib.hid (show X.ownsRow U 3 1 (.slice (some ⟨U, 0, none⟩) KK KK) KK ((gridL k A).map eZ) by rw [← hX]; exact hO.out.alloc _)
      have HBX := Lib.hid (show Below U w3 X by rw [← hX]; exact hB.out.alloc (by omega) _)
      have HSX := Lib.hid (show Sl eJ X (.slice ta k tc) at_ from HS3.out.below HBX.out (Nat.le_of_eq HUU.out))
      have HGU := Lib.hid (show U < g by rw [← hg]; exact hUl)
      have x0 := HKX.out.cell 0 _ rfl; have x1 := HKX.out.cell 1 _ rfl; have x2 := HKX.out.cell 2 _ rfl; have xl := HKX.out.lt
      clear hx hex hbb hA hbd hBD hg hX
      by_cases hamem : a ∈ at_
      rotate_left
      · have HI := Lib.hid (idxN_no hamem)
        have HN := Lib.hid (show rtM at_ (ns.take (j + 1)) = A by rw [HT.out]; unfold rtS; rw [if_neg (fun h => hamem h.1)])
        clear hamem
        go_wp2_with ((go_at_call 74); rw [HX.out, HGE.out]; (with_reducible refine (IndexN_any X _ at_ a HSX.out).mono ?_); rintro e w7 ⟨v7, rfl, rfl, rfl⟩; rw [HI.out])
        go_roundw
        case rel => exact ⟨j + 1, by omega, by go_num, Lib.hid (by rw [HN.out]; exact HOX.out), HBX⟩
        case measure => simp [intOf]; omega
      · have HI := Lib.hid (idxN_yes hamem)
        have hil := idx_lt hamem
        rw [HKL.out] at hil
        obtain ⟨i, hii⟩ : ∃ i, at_.findIdx (isR a) = i := ⟨_, rfl⟩
        rw [hii] at HI hil
        have d1 : decide ((i : Int) < 0) = false := by simp only [decide_eq_false_iff_not]; omega
        by_cases hab : a = b
        · have hne : ((a : Int) == (b : Int)) = true := by simp [hab]
          have HN := Lib.hid (show rtM at_ (ns.take (j + 1)) = A by rw [HT.out]; unfold rtS; rw [if_neg (fun h => h.2 hab)])
          clear hab hamem hii
          go_wp2_with ((go_at_call 74); rw [HX.out, HGE.out]; (with_reducible refine (IndexN_any X _ at_ a HSX.out).mono ?_); rintro e w7 ⟨v7, rfl, rfl, rfl⟩; rw [HI.out])
          go_roundw
          case rel => exact ⟨j + 1, by omega, by go_num, Lib.hid (by rw [HN.out]; exact HOX.out), HBX⟩
          case measure => simp [intOf]; omega
        · have hne : ((a : Int) == (b : Int)) = false := by simp; omega
          have hpl := place_lt hil hil
          rw [HKK.out] at hpl
          obtain ⟨P, hP⟩ : ∃ P, i * k = P := ⟨_, rfl⟩
          obtain ⟨Q, hQ⟩ : ∃ Q, P + i = Q := ⟨_, rfl⟩
          have HPP := Lib.hid hP; have HQQ := Lib.hid hQ
          rw [hP, hQ] at hpl
          have e2 : IntKind.i64.wrap ((i : Int) * (k : Int)) = (P : Int) := by rw [← Int.natCast_mul, hP, IntKind.wrap_i64]; omega
          have e3 : IntKind.i64.wrap ((P : Int) + (i : Int)) = (Q : Int) := by rw [IntKind.wrap_i64]; omega
          obtain ⟨z, hz⟩ : ∃ z, A i i = z := ⟨_, rfl⟩
          have HZ := Lib.hid hz
          have hzb := HBA.out i i
          rw [hz] at hzb
          have e4 : IntKind.i64.wrap (z + (m : Int)) = z + (m : Int) := by rw [IntKind.wrap_i64]; omega
          have HG1 := Lib.hid (show X.cell? ⟨U, Q, none⟩ = some (.int .i64 z) ∧ X.frozen? ⟨U, Q, none⟩ = false by
            have h9 := HOX.out
            rw [← HKK.out] at h9
            have := gridL_eZ h9 hil hil
            rwa [hP, hQ, hz] at this)
          have p1 : (0 : Int) ≤ (Q : Int) := by omega
          have p2 : (Q : Int) < (KK : Int) := by omega
          have hneab := Lib.hid (show a ≠ b from hab)
          clear hab hP hQ hz hzb
          go_wp2_with ((go_at_call 74); rw [HX.out, HGE.out]; (with_reducible refine (IndexN_any X _ at_ a HSX.out).mono ?_); rintro e w7 ⟨v7, rfl, rfl, rfl⟩; rw [HI.out])
          have hS := (⟨HG1.out.1, HKX.out.cell 2 _ rfl⟩ : X.drew.cell? ⟨U, Q, none⟩ = some (.int .i64 z) ∧ X.drew.cell? ⟨g, 2, none⟩ = some (.int .i64 (m : Nat)))
          refine wp_regionJ (S := fun w' => w'.cell? ⟨U, Q, none⟩ = some (.int .i64 z) ∧ w'.cell? ⟨g, 2, none⟩ = some (.int .i64 (m : Nat))) (A := fun i => decide (i < 12)) (by kernel_rfl) ?_
          refine wpAnyJ_take (i := 0) (oi := { dst := some 47, op := .move (.tmp 10), type := _, pos := _, after := _, guard := _ }) (v := ?_) rfl (by kernel_rfl) (by kernel_rfl) (by kernel_rfl) (early_sat (by kernel_rfl)) (fun _ _ _ h => h) (Or.inl ⟨by rfl, ?_⟩) hS ?_
          rotate_left
          · intro wl hSw
            obtain ⟨s0, s1⟩ := hSw
            go_simp
            with_reducible rfl
          simp only [Act.put, List.setIfInBounds_toArray, List.set_cons_zero, List.set_cons_succ]
          refine wpAnyJ_take (i := 1) (oi := { dst := some 48, op := .move (.tmp 13), type := _, pos := _, after := _, guard := _ }) (v := ?_) rfl (by kernel_rfl) (by kernel_rfl) (by kernel_rfl) (early_sat (by kernel_rfl)) (fun _ _ _ h => h) (Or.inl ⟨by rfl, ?_⟩) hS ?_
          rotate_left
          · intro wl hSw
            obtain ⟨s0, s1⟩ := hSw
            go_simp
            with_reducible rfl
          simp only [Act.put, List.setIfInBounds_toArray, List.set_cons_zero, List.set_cons_succ]
          refine wpAnyJ_take (i := 2) (oi := { dst := some 49, op := .move (.tmp 9), type := _, pos := _, after := _, guard := _ }) (v := ?_) rfl (by kernel_rfl) (by kernel_rfl) (by kernel_rfl) (early_sat (by kernel_rfl)) (fun _ _ _ h => h) (Or.inl ⟨by rfl, ?_⟩) hS ?_
          rotate_left
          · intro wl hSw
            obtain ⟨s0, s1⟩ := hSw
            go_simp
            with_reducible rfl
          simp only [Act.put, List.setIfInBounds_toArray, List.set_cons_zero, List.set_cons_succ]
          refine wpAnyJ_take (i := 3) (oi := { dst := some 50, op := .binOp _ _ (.tmp 48) (.tmp 49) _, type := _, pos := _, after := _, guard := _ }) (v := ?_) rfl (by kernel_rfl) (by kernel_rfl) (by kernel_rfl) (early_sat (by kernel_rfl)) (fun _ _ _ h => h) (Or.inl ⟨by rfl, ?_⟩) hS ?_
          rotate_left
          · intro wl hSw
            obtain ⟨s0, s1⟩ := hSw
            go_simp
            with_reducible rfl
          simp only [Act.put, List.setIfInBounds_toArray, List.set_cons_zero, List.set_cons_succ]
          refine wpAnyJ_take (i := 4) (oi := { dst := some 51, op := .move (.tmp 13), type := _, pos := _, after := _, guard := _ }) (v := ?_) rfl (by kernel_rfl) (by kernel_rfl) (by kernel_rfl) (early_sat (by kernel_rfl)) (fun _ _ _ h => h) (Or.inl ⟨by rfl, ?_⟩) hS ?_
          rotate_left
          · intro wl hSw
            obtain ⟨s0, s1⟩ := hSw
            go_simp
            with_reducible rfl
          simp only [Act.put, List.setIfInBounds_toArray, List.set_cons_zero, List.set_cons_succ]
          refine wpAnyJ_take (i := 5) (oi := { dst := some 52, op := .binOp _ _ (.tmp 50) (.tmp 51) _, type := _, pos := _, after := _, guard := _ }) (v := ?_) rfl (by kernel_rfl) (by kernel_rfl) (by kernel_rfl) (early_sat (by kernel_rfl)) (fun _ _ _ h => h) (Or.inl ⟨by rfl, ?_⟩) hS ?_
          rotate_left
          · intro wl hSw
            obtain ⟨s0, s1⟩ := hSw
            go_simp
            with_reducible rfl
          simp only [Act.put, List.setIfInBounds_toArray, List.set_cons_zero, List.set_cons_succ]
          refine wpAnyJ_take (i := 6) (oi := { dst := some 53, op := .indexAddr _ (.tmp 47) (.tmp 52), type := _, pos := _, after := _, guard := _ }) (v := ?_) rfl (by kernel_rfl) (by kernel_rfl) (by kernel_rfl) (early_sat (by kernel_rfl)) (fun _ _ _ h => h) (Or.inl ⟨by rfl, ?_⟩) hS ?_
          rotate_left
          · intro wl hSw
            obtain ⟨s0, s1⟩ := hSw
            go_simp
            with_reducible rfl
          simp only [Act.put, List.setIfInBounds_toArray, List.set_cons_zero, List.set_cons_succ]
          refine wpAnyJ_take (i := 7) (oi := { dst := some 54, op := .load _ (.tmp 53), type := _, pos := _, after := _, guard := _ }) (v := ?_) rfl (by kernel_rfl) (by kernel_rfl) (by kernel_rfl) (early_sat (by kernel_rfl)) (fun _ _ _ h => h) (Or.inl ⟨by rfl, ?_⟩) hS ?_
          rotate_left
          · intro wl hSw
            obtain ⟨s0, s1⟩ := hSw
            go_simp
            with_reducible rfl
          simp only [Act.put, List.setIfInBounds_toArray, List.set_cons_zero, List.set_cons_succ]
          refine wpAnyJ_take (i := 8) (oi := { dst := some 55, op := .fieldAddr _ (.tmp 12) 2, type := _, pos := _, after := _, guard := _ }) (v := ?_) rfl (by kernel_rfl) (by kernel_rfl) (by kernel_rfl) (early_sat (by kernel_rfl)) (fun _ _ _ h => h) (Or.inl ⟨by rfl, ?_⟩) hS ?_
          rotate_left
          · intro wl hSw
            obtain ⟨s0, s1⟩ := hSw
            go_simp
            with_reducible rfl
          simp only [Act.put, List.setIfInBounds_toArray, List.set_cons_zero, List.set_cons_succ]
          refine wpAnyJ_take (i := 9) (oi := { dst := some 56, op := .load _ (.tmp 55), type := _, pos := _, after := _, guard := _ }) (v := ?_) rfl (by kernel_rfl) (by kernel_rfl) (by kernel_rfl) (early_sat (by kernel_rfl)) (fun _ _ _ h => h) (Or.inl ⟨by rfl, ?_⟩) hS ?_
          rotate_left
          · intro wl hSw
            obtain ⟨s0, s1⟩ := hSw
            go_simp
            with_reducible rfl
          simp only [Act.put, List.setIfInBounds_toArray, List.set_cons_zero, List.set_cons_succ]
          refine wpAnyJ_take (i := 10) (oi := { dst := some 57, op := .binOp _ _ (.tmp 54) (.tmp 56) _, type := _, pos := _, after := _, guard := _ }) (v := ?_) rfl (by kernel_rfl) (by kernel_rfl) (by kernel_rfl) (early_sat (by kernel_rfl)) (fun _ _ _ h => h) (Or.inl ⟨by rfl, ?_⟩) hS ?_
          rotate_left
          · intro wl hSw
            obtain ⟨s0, s1⟩ := hSw
            go_simp
            with_reducible rfl
          simp only [Act.put, List.setIfInBounds_toArray, List.set_cons_zero, List.set_cons_succ]
          refine wpAnyJ_take (i := 11) (oi := { dst := some 58, op := .indexAddr _ (.tmp 47) (.tmp 52), type := _, pos := _, after := _, guard := _ }) (v := ?_) rfl (by kernel_rfl) (by kernel_rfl) (by kernel_rfl) (early_sat (by kernel_rfl)) (fun _ _ _ h => h) (Or.inl ⟨by rfl, ?_⟩) hS ?_
          rotate_left
          · intro wl hSw
            obtain ⟨s0, s1⟩ := hSw
            go_simp
            with_reducible rfl
          simp only [Act.put, List.setIfInBounds_toArray, List.set_cons_zero, List.set_cons_succ]
          have fz := HG1.out.2
          change X.drew.frozen? ⟨U, Q, none⟩ = false at fz
          refine wpAnyJ_only (i := 12) (o := { dst := none, op := .store _ (.tmp 58) (.tmp 57), type := _, pos := _, after := _, guard := _ }) (by kernel_rfl) rfl (fun K hK => ?_)
          go_simp
          refine hK.out _ _ (fun h => absurd h (by decide)) ?_
          try simp only [Act.put, List.setIfInBounds_toArray, List.set_cons_zero, List.set_cons_succ]
          clear hK K
          refine wpAnyJ_done (by kernel_rfl) ?_ _
          clear hS fz
          obtain ⟨Y, hY⟩ : ∃ Y, (X.setCell ⟨U, Q, none⟩ (.int .i64 (z + (m : Int)))).drew = Y := ⟨_, rfl⟩
          have HY := Lib.hid hY
          have HOB := own_put HOX.out HBX.out (Nat.le_refl U) Q (z + (m : Int)) (.int .i64 (z + (m : Int))) rfl
          obtain ⟨A2, hA2⟩ : ∃ A2, addM A i i m = A2 := ⟨_, rfl⟩
          have HA2 := Lib.hid hA2
          have HOY := Lib.hid (show Y.ownsRow U 3 1 (.slice (some ⟨U, 0, none⟩) KK KK) KK ((gridL k A2).map eZ) by
            have h9 := HOB.1
            have hpq : i * k + i < (gridL k A).length := by rw [gridL_len]; exact place_lt hil hil
            have h8 := gridL_add A (m : Int) hil hpq
            rw [hA2, HZ.out, HPP.out, HQQ.out] at h8
            rw [h8] at h9
            rw [← hY]; exact h9)
          have HBY := Lib.hid (show Below U w3 Y by rw [← hY]; exact HOB.2.drew)
          have HKY := Lib.hid (show Blk Y g [.int .i64 (a : Nat), .int .i64 (b : Nat), .int .i64 (m : Nat)] 83 by rw [← hY]; exact HKX.out.setCell (by have := HGU.out; omega) _)
          have HSY := Lib.hid (show Sl eJ Y (.slice ta k tc) at_ from HS3.out.below HBY.out (Nat.le_of_eq HUU.out))
          have HBA2 := Lib.hid (show ∀ i q, -51000 ≤ A2 i q ∧ A2 i q ≤ 51000 from fun r q => by
            rw [← hA2]
            have := addM_bd HBA.out (D := 1000) (d := (m : Int)) (by omega) i i r q
            omega)
          rw [hY]
          have y0 := HKY.out.cell 0 _ rfl; have y1 := HKY.out.cell 1 _ rfl; have y2 := HKY.out.cell 2 _ rfl; have yl := HKY.out.lt
          clear hY HOB hA2 x0 x1 x2 xl HOX HBX HSX HKX HG1
          by_cases hbmem : b ∈ at_
          rotate_left
          · have HI2 := Lib.hid (idxN_no hbmem)
            have HN := Lib.hid (show rtM at_ (ns.take (j + 1)) = A2 by rw [HT.out]; unfold rtS; rw [if_pos ⟨hamem, hneab.out⟩, if_neg hbmem, hii]; exact HA2.out)
            clear hbmem hamem hii
            go_wp2_with ((go_at_call 74); (with_reducible refine (IndexN_any Y _ at_ b HSY.out).mono ?_); rintro e w7 ⟨v7, rfl, rfl, rfl⟩; rw [HI2.out])
            go_roundw
            case rel => exact ⟨j + 1, by omega, by go_num, Lib.hid (by rw [HN.out]; exact HOY.out), HBY⟩
            case measure => simp [intOf]; omega
          · have HI2 := Lib.hid (idxN_yes hbmem)
            have hil2 := idx_lt hbmem
            rw [HKL.out] at hil2
            obtain ⟨i2, hii2⟩ : ∃ i, at_.findIdx (isR b) = i := ⟨_, rfl⟩
            rw [hii2] at HI2 hil2
            have HN := Lib.hid (show rtM at_ (ns.take (j + 1)) = addM A2 i i2 (-(m : Int)) by rw [HT.out]; unfold rtS; rw [if_pos ⟨hamem, hneab.out⟩, if_pos hbmem, hii, hii2, HA2.out])
            have d2 : decide ((0 : Int) ≤ (i2 : Int)) = true := by simp only [decide_eq_true_eq]; omega
            have d3 : (0 : Int) ≤ (i2 : Int) := by omega
            have hpl2 := place_lt hil hil2
            rw [HKK.out, HPP.out] at hpl2
            obtain ⟨Q2, hQ2⟩ : ∃ Q, P + i2 = Q := ⟨_, rfl⟩
            have HQ2 := Lib.hid hQ2
            rw [hQ2] at hpl2
            have e5 : IntKind.i64.wrap ((P : Int) + (i2 : Int)) = (Q2 : Int) := by rw [IntKind.wrap_i64]; omega
            obtain ⟨z2, hz2⟩ : ∃ z, A2 i i2 = z := ⟨_, rfl⟩
            have HZ2 := Lib.hid hz2
            have hzb2 := HBA2.out i i2
            rw [hz2] at hzb2
            have e6 : IntKind.i64.wrap (z2 - (m : Int)) = z2 - (m : Int) := by rw [IntKind.wrap_i64]; omega
            have HG2 := Lib.hid (show Y.cell? ⟨U, Q2, none⟩ = some (.int .i64 z2) ∧ Y.frozen? ⟨U, Q2, none⟩ = false by
              have h9 := HOY.out
              rw [← HKK.out] at h9
              have := gridL_eZ h9 hil hil2
              rwa [HPP.out, hQ2, hz2] at this)
            have p3 : (0 : Int) ≤ (Q2 : Int) := by omega
            have p4 : (Q2 : Int) < (KK : Int) := by omega
            clear hbmem hamem hii hii2 hQ2 hz2 hzb2
            go_wp2_with ((go_at_call 74); (with_reducible refine (IndexN_any Y _ at_ b HSY.out).mono ?_); rintro e w7 ⟨v7, rfl, rfl, rfl⟩; rw [HI2.out])
            have hS := (⟨HG2.out.1, HKY.out.cell 2 _ rfl⟩ : Y.drew.cell? ⟨U, Q2, none⟩ = some (.int .i64 z2) ∧ Y.drew.cell? ⟨g, 2, none⟩ = some (.int .i64 (m : Nat)))
            refine wp_regionJ (S := fun w' => w'.cell? ⟨U, Q2, none⟩ = some (.int .i64 z2) ∧ w'.cell? ⟨g, 2, none⟩ = some (.int .i64 (m : Nat))) (A := fun i => decide (i < 12)) (by kernel_rfl) ?_
            refine wpAnyJ_take (i := 0) (oi := { dst := some 65, op := .move (.tmp 10), type := _, pos := _, after := _, guard := _ }) (v := ?_) rfl (by kernel_rfl) (by kernel_rfl) (by kernel_rfl) (early_sat (by kernel_rfl)) (fun _ _ _ h => h) (Or.inl ⟨by rfl, ?_⟩) hS ?_
            rotate_left
            · intro wl hSw
              obtain ⟨s0, s1⟩ := hSw
              go_simp
              with_reducible rfl
            simp only [Act.put, List.setIfInBounds_toArray, List.set_cons_zero, List.set_cons_succ]
            refine wpAnyJ_take (i := 1) (oi := { dst := some 66, op := .move (.tmp 13), type := _, pos := _, after := _, guard := _ }) (v := ?_) rfl (by kernel_rfl) (by kernel_rfl) (by kernel_rfl) (early_sat (by kernel_rfl)) (fun _ _ _ h => h) (Or.inl ⟨by rfl, ?_⟩) hS ?_
            rotate_left
            · intro wl hSw
              obtain ⟨s0, s1⟩ := hSw
              go_simp
              with_reducible rfl
            simp only [Act.put, List.setIfInBounds_toArray, List.set_cons_zero, List.set_cons_succ]
            refine wpAnyJ_take (i := 2) (oi := { dst := some 67, op := .move (.tmp 9), type := _, pos := _, after := _, guard := _ }) (v := ?_) rfl (by kernel_rfl) (by kernel_rfl) (by kernel_rfl) (early_sat (by kernel_rfl)) (fun _ _ _ h => h) (Or.inl ⟨by rfl, ?_⟩) hS ?_
            rotate_left
            · intro wl hSw
              obtain ⟨s0, s1⟩ := hSw
              go_simp
              with_reducible rfl
            simp only [Act.put, List.setIfInBounds_toArray, List.set_cons_zero, List.set_cons_succ]
            refine wpAnyJ_take (i := 3) (oi := { dst := some 68, op := .binOp _ _ (.tmp 66) (.tmp 67) _, type := _, pos := _, after := _, guard := _ }) (v := ?_) rfl (by kernel_rfl) (by kernel_rfl) (by kernel_rfl) (early_sat (by kernel_rfl)) (fun _ _ _ h => h) (Or.inl ⟨by rfl, ?_⟩) hS ?_
            rotate_left
            · intro wl hSw
              obtain ⟨s0, s1⟩ := hSw
              go_simp
              with_reducible rfl
            simp only [Act.put, List.setIfInBounds_toArray, List.set_cons_zero, List.set_cons_succ]
            refine wpAnyJ_take (i := 4) (oi := { dst := some 69, op := .move (.tmp 14), type := _, pos := _, after := _, guard := _ }) (v := ?_) rfl (by kernel_rfl) (by kernel_rfl) (by kernel_rfl) (early_sat (by kernel_rfl)) (fun _ _ _ h => h) (Or.inl ⟨by rfl, ?_⟩) hS ?_
            rotate_left
            · intro wl hSw
              obtain ⟨s0, s1⟩ := hSw
              go_simp
              with_reducible rfl
            simp only [Act.put, List.setIfInBounds_toArray, List.set_cons_zero, List.set_cons_succ]
            refine wpAnyJ_take (i := 5) (oi := { dst := some 70, op := .binOp _ _ (.tmp 68) (.tmp 69) _, type := _, pos := _, after := _, guard := _ }) (v := ?_) rfl (by kernel_rfl) (by kernel_rfl) (by kernel_rfl) (early_sat (by kernel_rfl)) (fun _ _ _ h => h) (Or.inl ⟨by rfl, ?_⟩) hS ?_
            rotate_left
            · intro wl hSw
              obtain ⟨s0, s1⟩ := hSw
              go_simp
              with_reducible rfl
            simp only [Act.put, List.setIfInBounds_toArray, List.set_cons_zero, List.set_cons_succ]
            refine wpAnyJ_take (i := 6) (oi := { dst := some 71, op := .indexAddr _ (.tmp 65) (.tmp 70), type := _, pos := _, after := _, guard := _ }) (v := ?_) rfl (by kernel_rfl) (by kernel_rfl) (by kernel_rfl) (early_sat (by kernel_rfl)) (fun _ _ _ h => h) (Or.inl ⟨by rfl, ?_⟩) hS ?_
            rotate_left
            · intro wl hSw
              obtain ⟨s0, s1⟩ := hSw
              go_simp
              with_reducible rfl
            simp only [Act.put, List.setIfInBounds_toArray, List.set_cons_zero, List.set_cons_succ]
            refine wpAnyJ_take (i := 7) (oi := { dst := some 72, op := .load _ (.tmp 71), type := _, pos := _, after := _, guard := _ }) (v := ?_) rfl (by kernel_rfl) (by kernel_rfl) (by kernel_rfl) (early_sat (by kernel_rfl)) (fun _ _ _ h => h) (Or.inl ⟨by rfl, ?_⟩) hS ?_
            rotate_left
            · intro wl hSw
              obtain ⟨s0, s1⟩ := hSw
              go_simp
              with_reducible rfl
            simp only [Act.put, List.setIfInBounds_toArray, List.set_cons_zero, List.set_cons_succ]
            refine wpAnyJ_take (i := 8) (oi := { dst := some 73, op := .fieldAddr _ (.tmp 12) 2, type := _, pos := _, after := _, guard := _ }) (v := ?_) rfl (by kernel_rfl) (by kernel_rfl) (by kernel_rfl) (early_sat (by kernel_rfl)) (fun _ _ _ h => h) (Or.inl ⟨by rfl, ?_⟩) hS ?_
            rotate_left
            · intro wl hSw
              obtain ⟨s0, s1⟩ := hSw
              go_simp
              with_reducible rfl
            simp only [Act.put, List.setIfInBounds_toArray, List.set_cons_zero, List.set_cons_succ]
            refine wpAnyJ_take (i := 9) (oi := { dst := some 74, op := .load _ (.tmp 73), type := _, pos := _, after := _, guard := _ }) (v := ?_) rfl (by kernel_rfl) (by kernel_rfl) (by kernel_rfl) (early_sat (by kernel_rfl)) (fun _ _ _ h => h) (Or.inl ⟨by rfl, ?_⟩) hS ?_
            rotate_left
            · intro wl hSw
              obtain ⟨s0, s1⟩ := hSw
              go_simp
              with_reducible rfl
            simp only [Act.put, List.setIfInBounds_toArray, List.set_cons_zero, List.set_cons_succ]
            refine wpAnyJ_take (i := 10) (oi := { dst := some 75, op := .binOp _ _ (.tmp 72) (.tmp 74) _, type := _, pos := _, after := _, guard := _ }) (v := ?_) rfl (by kernel_rfl) (by kernel_rfl) (by kernel_rfl) (early_sat (by kernel_rfl)) (fun _ _ _ h => h) (Or.inl ⟨by rfl, ?_⟩) hS ?_
            rotate_left
            · intro wl hSw
              obtain ⟨s0, s1⟩ := hSw
              go_simp
              with_reducible rfl
            simp only [Act.put, List.setIfInBounds_toArray, List.set_cons_zero, List.set_cons_succ]
            refine wpAnyJ_take (i := 11) (oi := { dst := some 76, op := .indexAddr _ (.tmp 65) (.tmp 70), type := _, pos := _, after := _, guard := _ }) (v := ?_) rfl (by kernel_rfl) (by kernel_rfl) (by kernel_rfl) (early_sat (by kernel_rfl)) (fun _ _ _ h => h) (Or.inl ⟨by rfl, ?_⟩) hS ?_
            rotate_left
            · intro wl hSw
              obtain ⟨s0, s1⟩ := hSw
              go_simp
              with_reducible rfl
            simp only [Act.put, List.setIfInBounds_toArray, List.set_cons_zero, List.set_cons_succ]
            have fz := HG2.out.2
            change Y.drew.frozen? ⟨U, Q2, none⟩ = false at fz
            refine wpAnyJ_only (i := 12) (o := { dst := none, op := .store _ (.tmp 76) (.tmp 75), type := _, pos := _, after := _, guard := _ }) (by kernel_rfl) rfl (fun K hK => ?_)
            go_simp
            refine hK.out _ _ (fun h => absurd h (by decide)) ?_
            try simp only [Act.put, List.setIfInBounds_toArray, List.set_cons_zero, List.set_cons_succ]
            clear hK K
            refine wpAnyJ_done (by kernel_rfl) ?_ _
            clear hS fz
            have HOB := own_put HOY.out HBY.out (Nat.le_refl U) Q2 (z2 - (m : Int)) (.int .i64 (z2 - (m : Int))) rfl
            go_wp2
            go_roundw
            case rel =>
              refine ⟨j + 1, by omega, by go_num, Lib.hid ?_, Lib.hid HOB.2.drew⟩
              have h9 := HOB.1
              have hpq : i * k + i2 < (gridL k A2).length := by rw [gridL_len]; exact place_lt hil hil2
              have h8 := gridL_add A2 (-(m : Int)) hil2 hpq
              rw [HZ2.out, HPP.out, HQ2.out] at h8
              rw [HN.out, ← h8]
              exact h9
            case measure => simp [intOf]; omega
    · obtain rfl : ns.length = j := by omega
      rw [List.take_length] at hO
      obtain ⟨A, hA⟩ : ∃ A, rtM at_ ns = A := ⟨_, rfl⟩
      have hbd := rtM_bd at_ ns HM.out ns.length (Nat.le_refl _)
      rw [List.take_length, hA] at hbd
      rw [hA] at hO
      have hdn : ∀ i q, i < k → q < k → dn (A i q) ≤ 58 := fun i q _ _ => Nat.le_trans (dn_six (by have := hbd i q; omega)) (by omega)
      have HSL := Lib.hid (show Sl eZ wr (.slice (some ⟨U, 0, none⟩) KK KK) (gridL k A) from Sl.ofOwns hO.out)
      have HEw := Lib.hid (HEW.out.below HBD.out (Nat.le_of_eq hD))
      have HMK := Lib.hid (fun (W' : World) (u : Value) (h1 : Sl eZ W' u (gridL k A)) (h2 : Env W') => show Calls Tryz.prog 75 #[.int .i64 (k : Nat), .int .i64 (k : Nat), u] W' (RetM W' (k : Int) (k : Int) (cellsF k k A) 0) from by
        have h3 : ∀ z ∈ gridL k A, -9223372036854775808 ≤ z ∧ z ≤ 9223372036854775807 := fun z hz => by
          obtain ⟨t, -, rfl⟩ := List.mem_map.1 hz
          have := hbd (t / k) (t % k)
          omega
        have := Make_any W' (k : Int) (k : Int) u (gridL k A) h1 h3 h2
        rw [makeS_grid (by omega)] at this
        exact this)
      have HDT := Lib.hid (fun (W' : World) (u : Value) (h1 : Sl eS W' u (cellsF k k A)) (h2 : Env W') => show Calls Tryz.prog 76 #[.agg #[.int .i64 (k : Nat), .int .i64 (k : Nat), u]] W' (Rets fun v w' => v = .tuple #[.string (txt (det k A)), .int .i64 0] ∧ Below W'.heap.size W' w') from det_call h1 rfl hk6 (D := 58) (by omega) hdn h2)
      obtain ⟨XS, hXS⟩ : ∃ XS, cellsF k k A = XS := ⟨_, rfl⟩
      rw [hXS] at HMK HDT
      obtain ⟨DT, hDT⟩ : ∃ t, txt (det k A) = t := ⟨_, rfl⟩
      rw [hDT] at HDT
      have HFIN := Lib.hid (show txt (det k (rtM at_ ns)) = DT by rw [hA]; exact hDT)
      clear hA hbd hdn hXS hDT hO
      go_wp2_with (first
        | (go_at_call 76; (with_reducible refine (HDT.out _ _ HS8.out HE8.out).mono ?_); rintro e w9 ⟨v9, rfl, rfl, hb9⟩; have HQ9 := Lib.hid (HQ8.out.trans (hb9.mono (by rw [← hD]; exact HQ8.out.size))); clear hb9)
        | (go_at_call 75; (with_reducible refine (HMK.out _ _ HSL.out HEw.out).mono ?_); rintro e w8 ⟨v8, rfl, u8, rfl, hs8, hb8⟩; obtain ⟨ma, mc, rfl⟩ := sl_form hs8; have g8 := hb8.alloc hb8.size (.cells #[.int .i64 (k : Nat), .int .i64 (k : Nat), .slice ma XS.length mc] 128); have HS8 := Lib.hid (hs8.below ((Below.refl w8.heap.size w8).alloc (Nat.le_refl _) (.cells #[.int .i64 (k : Nat), .int .i64 (k : Nat), .slice ma XS.length mc] 128)) (Nat.le_refl _)); have HE8 := Lib.hid (HEw.out.below g8 (Nat.le_refl _)); have HQ8 := Lib.hid (HBD.out.trans (g8.mono (by rw [← hD]; exact HBD.out.size))); have HM8 := Lib.hid (Blk.new w8 [.int .i64 (k : Nat), .int .i64 (k : Nat), .slice ma XS.length mc] 128); have m0 := HM8.out.cell 0 _ rfl; have m1 := HM8.out.cell 1 _ rfl; have m2 := HM8.out.cell 2 _ rfl; have ml := HM8.out.lt; clear hs8 hb8 g8))
      go_ret2
      exact ⟨_, rfl, (by rw [HFIN.out]; rfl), by rw [hD]; exact HQ9.out⟩
end Go.Proofs.YtlnhocgjgmhfgaaGreatDoor
