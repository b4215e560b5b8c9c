/- The walks of laplacian's minor, Reduced, Cofactor, Trees. The walk of euler's rooted. The walks of euler's Trees and Tours, where the walk of rooted serves. The walk of euler's Tour. Plain: the two-way digraph of a right graph. Examples of the Euler laws: the digraph Double, the graph Triangle and its two-way digraph. The walk of the Euler law's awake: the chapter's examples. What the rows' lists of package-level variables give; a world for the witnesses. Graphs and unicycles as arguments: opened by their cells. -/
import Derived.Test.YtlnhocgjgmhfgaaGreatDoorPk11
import Derived.Test.YtlnhocgjgmhfgaaGreatDoorPk4
import Derived.Test.YtlnhocgjgmhfgaaGreatDoorPk3
import Derived.Test.YtlnhocgjgmhfgaaGreatDoorPk1
import Derived.Test.YtlnhocgjgmhfgaaGreatDoorPk2
import Derived.WalkSpells
import Derived.BigQuiet
import Derived.Deep.CutRange
import Derived.Test.YtlnhocgjgmhfgaaGreatDoorCards
import Derived.Test.YtlnhocgjgmhfgaaGreatDoorTie
import Derived.Test.YtlnhocgjgmhfgaaGreatDoorPk5
import Derived.ProofKit
import Derived.OpenShut
import Derived.Deep.DeepHandedRow
import Derived.Deep.DeepWitnessRowRef
import Derived.Lib.LaidTab
import Derived.Stop.LaidErr
import Derived.Carry
import Derived.ChangeOld
import Derived.ChangeSlices
import Derived.Deep.Strs
import Derived.Deep.Slices
namespace Go.Proofs.YtlnhocgjgmhfgaaGreatDoor
open Go.RowKit Go.Shelf
set_option maxRecDepth 100000

theorem dn_six {z : Int} (h : -100000 ≤ z ∧ z ≤ 100000) : dn z ≤ 6 := by
  unfold dn
  refine Nat.le_trans (digs_len_mono _ (by omega) (show z.natAbs ≤ 100000 by omega)) ?_
  rw [digs_len _ _ _ (by omega)]
  decide
theorem dn_lap {ns : List (Nat × Nat × Nat)} (h : ∀ x ∈ ns, x.2.2 ≤ 50) (hl : ns.length ≤ 1000) (i k : Nat) : dn (lap ns i k) ≤ 6 := by
  have := Bd.lap h i k
  exact dn_six (by omega)
theorem min_cells {n : Nat} {A : Mat} {i k : Int} (hn : n ≤ 16) (hn1 : 1 ≤ n) (h : ∀ i k, dn (A i k) ≤ 6) (hi : 0 ≤ i ∧ i < n) (hk : 0 ≤ k ∧ k < n) :
    minS n n (cellsF n n A) i k = ⟨((n - 1 : Nat) : Int), ((n - 1 : Nat) : Int), cellsF (n - 1) (n - 1) (mnr A i.toNat k.toNat), 0⟩ := by
  have hrm := rm_cells (r := n) (c := n) (D := 6) (A := A) hn hn (by omega) (fun i k _ _ => h i k)
  have ht : MthereS n n (cellsF n n A) i k = 0 := by
    unfold MthereS
    rw [if_pos hrm.mchk, if_neg (by omega)]
  unfold minS
  rw [if_pos ht]
  have e1 : (n : Int) - 1 = ((n - 1 : Nat) : Int) := by omega
  rw [e1]
  congr 1
  show cellsF (n - 1) (n - 1) (mnr (matF n (cellsF n n A)) i.toNat k.toNat) = _
  refine cellsF_congr fun a b ha hb => ?_
  have h1 := sk_lt (r := i.toNat) ha
  have h2 := sk_lt (r := k.toNat) hb
  exact matF_cells (by omega) (by omega) (bigD (Nat.le_trans (h _ _) (by omega)))
/-- What minor answers. -/
def lminS (n : Int) (es : List (Int × Int × Int)) (i k : Int) : MR :=
  if chkG n es = 0 then (if (0 ≤ i ∧ i < n) ∧ (0 ≤ k ∧ k < n) then ⟨((n.toNat - 1 : Nat) : Int), ((n.toNat - 1 : Nat) : Int), cellsF (n.toNat - 1) (n.toNat - 1) (mnr (lap (nsOf es)) i.toNat k.toNat), 0⟩ else .bad 2) else .bad (chkG n es)
end Go.Proofs.YtlnhocgjgmhfgaaGreatDoor

namespace Go.Proofs.YtlnhocgjgmhfgaaGreatDoor
open Go.RowKit
set_option maxRecDepth 100000

/-- The matrix while the arcs are counted. -/
def rtS (at_ : List Nat) (A : Mat) (x : Nat × Nat × Nat) : Mat :=
  if x.1 ∈ at_ ∧ x.1 ≠ x.2.1 then (if x.2.1 ∈ at_ then addM (addM A (at_.findIdx (isR x.1)) (at_.findIdx (isR x.1)) x.2.2) (at_.findIdx (isR x.1)) (at_.findIdx (isR x.2.1)) (-(x.2.2 : Int)) else addM A (at_.findIdx (isR x.1)) (at_.findIdx (isR x.1)) x.2.2) else A
def rtM (at_ : List Nat) (l : List (Nat × Nat × Nat)) : Mat := l.foldl (rtS at_) fun _ _ => 0
theorem rtM_take (at_ : List Nat) {ns : List (Nat × Nat × Nat)} {j : Nat} (h : j < ns.length) : rtM at_ (ns.take (j + 1)) = rtS at_ (rtM at_ (ns.take j)) ns[j] := by
  unfold rtM
  rw [List.take_succ_eq_append_getElem h, List.foldl_append]
  rfl
theorem addM_bd {A : Mat} {B D d : Int} (h : ∀ i k, -B ≤ A i k ∧ A i k ≤ B) (hd : -D ≤ d ∧ d ≤ D) (r c : Nat) : ∀ i k, -(B + D) ≤ addM A r c d i k ∧ addM A r c d i k ≤ B + D := fun i k => by
  have := h i k
  unfold addM
  split <;> omega
theorem rtM_bd (at_ : List Nat) : ∀ (ns : List (Nat × Nat × Nat)), (∀ x ∈ ns, x.2.2 ≤ 50) → ∀ j, j ≤ ns.length → ∀ i k, -(100 * (j : Int)) ≤ rtM at_ (ns.take j) i k ∧ rtM at_ (ns.take j) i k ≤ 100 * (j : Int) := by
  intro ns hm j
  induction j with
  | zero => intro _ i k; simp [rtM]
  | succ j ih =>
    intro hj
    have hjn : j < ns.length := by omega
    have h1 := ih (by omega)
    have h2 := hm _ (List.getElem_mem hjn)
    rw [rtM_take at_ hjn]
    have e : (100 * ((j + 1 : Nat) : Int)) = 100 * (j : Int) + 50 + 50 := by omega
    rw [e]
    unfold rtS
    intro i k
    split
    · split
      · exact addM_bd (addM_bd h1 (D := 50) (by omega) _ _) (D := 50) (by omega) _ _ i k
      · have := addM_bd h1 (D := 50) (d := (ns[j].2.2 : Int)) (by omega) (at_.findIdx (isR ns[j].1)) (at_.findIdx (isR ns[j].1)) i k
        omega
    · have := h1 i k
      omega
theorem gridL_txt1 (n : Nat) (A : Mat) : (gridL n A).map txt = cellsF n n A := by simp [gridL, cellsF, Function.comp_def]
theorem idx_lt {at_ : List Nat} {x : Nat} (h : x ∈ at_) : at_.findIdx (isR x) < at_.length := List.findIdx_lt_length_of_exists ⟨x, h, by simp [isR]⟩
theorem idxN_yes {at_ : List Nat} {x : Nat} (h : x ∈ at_) : idxN at_ x = (at_.findIdx (isR x) : Nat) := by unfold idxN; rw [if_pos h]
theorem idxN_no {at_ : List Nat} {x : Nat} (h : x ∉ at_) : idxN at_ x = -1 := by unfold idxN; rw [if_neg h]
theorem makeS_grid {k : Nat} (hk : k ≤ 16) (A : Mat) : makeS (k : Int) (k : Int) (gridL k A) = ⟨k, k, cellsF k k A, 0⟩ := by
  have hs : sideB (k : Int) = true := (sideB_iff _).2 ⟨by omega, by omega⟩
  unfold makeS
  rw [if_pos hs, if_pos hs, if_pos (by rw [gridL_len]; exact Int.natCast_mul _ _), gridL_txt1]
theorem gridL_eZ {k r c : Nat} {A : Mat} {w : World} {base g cap : Nat} (h : w.ownsRow base 3 1 (.slice (some ⟨g, 0, none⟩) (k * k) cap) (k * k) ((gridL k A).map eZ)) (hr : r < k) (hc : c < k) : w.cell? ⟨g, r * k + c, none⟩ = some (.int .i64 (A r c)) ∧ w.frozen? ⟨g, r * k + c, none⟩ = false := by
  have hl : r * k + c < (gridL k A).length := by rw [gridL_len]; exact place_lt hr hc
  obtain ⟨h1, h2⟩ := own_get h hl
  rw [gridL_get A hc hl] at h1
  exact ⟨h1, h2⟩
set_option maxHeartbeats 8000000 in
theorem rooted_ok (w : World) (n : Nat) (v : Value) (ns : List (Nat × Nat × Nat)) (rt : Nat) (ov : Value) (on at_ : List Nat) (hv : SlK e3 3 w v (ns.map n3)) (hon : Sl eJ w ov on) (hm : ∀ x ∈ ns, x.2.2 ≤ 50) (hl : ns.length ≤ 500) (hol : on.length ≤ 100) (hat : (on.filter fun s => !isR rt s) = at_) (hk1 : 1 ≤ at_.length) (hk6 : at_.length ≤ 6) (he : Env w) :
    Calls Tryz.prog 59 #[.agg #[.int .i64 (n : Nat), v], .int .i64 (rt : Nat), ov] w (Rets fun r w' => r = .tuple #[.string (txt (det at_.length (rtM at_ ns))), .int .i64 0] ∧ Below w.heap.size w w') := by
  have HV := Lib.hid hv
  obtain ⟨ad, eb, eo, c, rfl, hi, hp, hcc, hcm⟩ := hv.open elemArc
  have hnl : (ns.map n3).length = ns.length := List.length_map _
  rw [hnl] at HV hi hcc ⊢
  have HNL := Lib.hid hnl
  unfold maxLen at hcm
  have HM := Lib.hid hm; have HP := Lib.hid hp; have HAT := Lib.hid hat
  obtain ⟨oa, oc, rfl⟩ := sl_form hon
  have HON := Lib.hid hon
  obtain ⟨D, hD⟩ : ∃ D, w.heap.size = D := ⟨_, rfl⟩
  obtain ⟨W, hW⟩ : ∃ W, (w.alloc (.cells #[.int .i64 (n : Nat), .slice ad ns.length c] 28)).alloc (.cells #[.int .i64 (rt : Nat)] 3) = W := ⟨_, rfl⟩
  have hWs : W.heap.size = D + 2 := by rw [← hW, ← hD]; simp
  have HK0 := Lib.hid (show Blk W D [.int .i64 (n : Nat), .slice ad ns.length c] 28 by rw [← hW, ← hD]; exact (Blk.new w _ _).alloc _)
  have HR0 := Lib.hid (show Blk W (D + 1) [.int .i64 (rt : Nat)] 3 by rw [← hW, ← hD]; exact Blk.at1 w _ _ _)
  have HB0 := Lib.hid (show Below D w W by rw [← hW, ← hD]; exact ((Below.refl _ w).alloc (Nat.le_refl _) _).alloc (by simp) _)
  have HW := Lib.hid hW; have HWS := Lib.hid hWs
  have HON0 := Lib.hid (HON.out.below HB0.out (Nat.le_of_eq hD))
  have HEW := Lib.hid he
  obtain ⟨k, hk⟩ : ∃ k, at_.length = k := ⟨_, rfl⟩
  have HKL := Lib.hid hk
  rw [hk] at hk1 hk6 ⊢
  have hkk : k * k ≤ 6 * 6 := Nat.mul_le_mul hk6 hk6
  obtain ⟨KK, hKK⟩ : ∃ KK, k * k = KK := ⟨_, rfl⟩
  have HKK := Lib.hid hKK
  have e1 : IntKind.i64.wrap ((k : Int) * (k : Int)) = (KK : Int) := by rw [← Int.natCast_mul, hKK, IntKind.wrap_i64]; omega
  rw [hKK] at hkk
  clear hKK
  have k0 := HK0.out.cell 0 _ rfl; have k1 := HK0.out.cell 1 _ rfl; have kl := HK0.out.lt
  clear hv hW hWs hm hp hnl hat hon he hk
  go_enter Tryz.func59, Tryz.ntmps59
  have hebD : 0 < ns.length → eb < D := fun h => by rw [← hD]; exact HP.out.1 (by rw [HNL.out]; exact h)
  go_wp2_with (first
    | (at_make; refine mkN elemI rfl _ _ rfl KK rfl rfl rfl rfl (by omega) (by unfold maxLen; omega) (Below.refl w3.heap.size w3) (Nat.le_refl _) rfl ?_; intro w5 hown hb5 hb5'; obtain ⟨U, hU⟩ : ∃ U, w3.heap.size = U := ⟨_, rfl⟩; have HUU := Lib.hid hU; have HDU := Lib.hid (show D < U by (rw [← hU]; exact HK3.out.lt)); rw [hU] at hown hb5 ⊢; clear hU; have HO5 := Lib.hid (show w5.ownsRow U 3 1 (.slice (some ⟨U, 0, none⟩) KK KK) KK ((gridL k (rtM at_ (ns.take 0))).map eZ) from ownsRow_cast hown rfl (by rw [← HKK.out]; show List.replicate (k * k) (Value.int .i64 0) = (gridL k fun _ _ => 0).map eZ; rw [gridL_zero]; simp [eZ])); have HB5 := Lib.hid hb5; have HK5 := Lib.hid (HK3.out.below hb5 (Nat.le_of_eq HUU.out)); have k0 := HK5.out.cell 0 _ rfl; have k1 := HK5.out.cell 1 _ rfl; have kl := HK5.out.lt; clear hown hb5 hb5')
    | (go_at_call 72; (with_reducible refine (deleteN_any w2 _ on (D + 2) rt (D + 1) (HR2.out.cell 0 _ rfl) (Nat.lt_succ_self _) HO2.out hol9.out).mono ?_); rintro e w3 ⟨v3, rfl, hs3, hb3⟩; rw [HAT.out] at hs3; obtain ⟨ta, tc, rfl⟩ : ∃ a c, v3 = .slice a k c := (by have h9 := sl_form hs3; rwa [HKL.out] at h9); have HS3 := Lib.hid hs3; have HB3 := Lib.hid (HB2.out.trans (hb3.mono (Nat.le_add_right D 2))); have HK3 := Lib.hid (show Blk w3 D [.int .i64 (n : Nat), .slice ad ns.length c] 28 from (hb3.block D (by omega)).trans HK2.out); have HE3 := Lib.hid (HEW.out.below HB3.out (Nat.le_of_eq hD)); have k0 := HK3.out.cell 0 _ rfl; have k1 := HK3.out.cell 1 _ rfl; have kl := HK3.out.lt; clear hs3 hb3)
    | (go_at_call 44; rw [HW.out]; (with_reducible refine (cloneN_any W _ on HON0.out (by omega)).mono ?_); rintro e w2 ⟨v2, rfl, hs2, hb2⟩; rw [HWS.out] at hs2; obtain ⟨ca, cc, rfl⟩ := own_formK hs2; have HO2 := Lib.hid hs2; have HB2 := Lib.hid (HB0.out.trans (hb2.mono (by rw [HWS.out]; exact Nat.le_add_right D 2))); have HK2 := Lib.hid (HK0.out.below hb2 (Nat.le_refl _)); have HR2 := Lib.hid (HR0.out.below hb2 (Nat.le_refl _)); have hol9 := Lib.hid (show on.length ≤ 1000000 from Nat.le_trans hol (by omega)); clear hs2 hb2))
  clear k0 k1 kl
  go_loopw [30] (fun q wr => ∃ j : Nat, j ≤ ns.length ∧ q = .int .i64 j ∧ Hid (wr.ownsRow U 3 1 (.slice (some ⟨U, 0, none⟩) KK KK) KK ((gridL k (rtM at_ (ns.take j))).map eZ)) ∧ Hid (Below U w3 wr)) (fun q _ => ns.length - (intOf q).toNat)
  case atStart => exact ⟨0, Nat.zero_le _, rfl, HO5, HB5⟩
  case round =>
    clear HO5 HB5 HK5
    obtain ⟨j, hj, rfl, hO, hB⟩ := hrel
    have hBD : Below D w wr := HB3.out.trans (hB.out.mono (Nat.le_of_lt HDU.out))
    have HBD := Lib.hid hBD
    by_cases hjn : j < ns.length
    · obtain ⟨⟨a, b, m⟩, hx⟩ : ∃ x, ns[j] = x := ⟨_, rfl⟩
      have hjm : j < (ns.map n3).length := by rw [HNL.out]; exact hjn
      have hm50 := HM.out _ (List.getElem_mem hjn)
      rw [hx] at hm50
      simp only at hm50
      have hex : (ns.map n3)[j] = ((a : Int), (b : Int), (m : Int)) := by rw [List.getElem_map, hx]; rfl
      have hebd := hebD (by omega)
      have hbb : ∀ q, wr.cell? ⟨eb, q, none⟩ = w.cell? ⟨eb, q, none⟩ := fun q => World.cell?_of_block (a := ⟨eb, q, none⟩) (hBD.block eb hebd)
      have a0 : wr.cell? ⟨eb, eo + j * 3, none⟩ = some (.int .i64 (a : Nat)) := (hbb _).trans (HP.out.2 j hjm 0 _ (by rw [hex]; rfl))
      have a1 : wr.cell? ⟨eb, eo + j * 3 + 1, none⟩ = some (.int .i64 (b : Nat)) := (hbb _).trans (HP.out.2 j hjm 1 _ (by rw [hex]; rfl))
      have a2 : wr.cell? ⟨eb, eo + j * 3 + 2, none⟩ = some (.int .i64 (m : Nat)) := (hbb _).trans (HP.out.2 j hjm 2 _ (by rw [hex]; rfl))
      have hUl : U < wr.heap.size := (hO.out.lt U rfl).2
      have hlw : eb < wr.heap.size := by have := HDU.out; omega
      have q1 : (0 : Int) ≤ (j : Int) := by omega
      have q2 : (j : Int) < (ns.length : Int) := by omega
      have HT := Lib.hid (rtM_take at_ hjn)
      rw [hx] at HT
      have hbd := rtM_bd at_ ns HM.out j (by omega)
      obtain ⟨A, hA⟩ : ∃ A, rtM at_ (ns.take j) = A := ⟨_, rfl⟩
      rw [hA] at HT hbd hO
      have HBA := Lib.hid (show ∀ i q, -50000 ≤ A i q ∧ A i q ≤ 50000 from fun i q => by have := hbd i q; omega)
      obtain ⟨g, hg⟩ : ∃ g, wr.heap.size = g := ⟨_, rfl⟩
      obtain ⟨X, hX⟩ : ∃ X, wr.alloc (.cells #[.int .i64 (a : Nat), .int .i64 (b : Nat), .int .i64 (m : Nat)] 83) = X := ⟨_, rfl⟩
      have HX := Lib.hid hX; have HGE := Lib.hid hg
      have HKX := Lib.hid (show Blk X g [.int .i64 (a : Nat), .int .i64 (b : Nat), .int .i64 (m : Nat)] 83 by rw [← hX, ← hg]; exact Blk.new wr _ _)
      have HOX := Lib.hid (show X.ownsRow U 3 1 (.slice (some ⟨U, 0, none⟩) KK KK) KK ((gridL k A).map eZ) by rw [← hX]; exact hO.out.alloc _)
      have HBX := Lib.hid (show Below U w3 X by rw [← hX]; exact hB.out.alloc (by omega) _)
      have HSX := Lib.hid (show Sl eJ X (.slice ta k tc) at_ from HS3.out.below HBX.out (Nat.le_of_eq HUU.out))
      have HGU := Lib.hid (show U < g by rw [← hg]; exact hUl)
      have x0 := HKX.out.cell 0 _ rfl; have x1 := HKX.out.cell 1 _ rfl; have x2 := HKX.out.cell 2 _ rfl; have xl := HKX.out.lt
      clear hx hex hbb hA hbd hBD hg hX
      by_cases hamem : a ∈ at_
      rotate_left
      · have HI := Lib.hid (idxN_no hamem)
        have HN := Lib.hid (show rtM at_ (ns.take (j + 1)) = A by rw [HT.out]; unfold rtS; rw [if_neg (fun h => hamem h.1)])
        clear hamem
        go_wp2_with ((go_at_call 74); rw [HX.out, HGE.out]; (with_reducible refine (IndexN_any X _ at_ a HSX.out).mono ?_); rintro e w7 ⟨v7, rfl, rfl, rfl⟩; rw [HI.out])
        go_roundw
        case rel => exact ⟨j + 1, by omega, by go_num, Lib.hid (by rw [HN.out]; exact HOX.out), HBX⟩
        case measure => simp [intOf]; omega
      · have HI := Lib.hid (idxN_yes hamem)
        have hil := idx_lt hamem
        rw [HKL.out] at hil
        obtain ⟨i, hii⟩ : ∃ i, at_.findIdx (isR a) = i := ⟨_, rfl⟩
        rw [hii] at HI hil
        have d1 : decide ((i : Int) < 0) = false := by simp only [decide_eq_false_iff_not]; omega
        by_cases hab : a = b
        · have hne : ((a : Int) == (b : Int)) = true := by simp [hab]
          have HN := Lib.hid (show rtM at_ (ns.take (j + 1)) = A by rw [HT.out]; unfold rtS; rw [if_neg (fun h => h.2 hab)])
          clear hab hamem hii
          go_wp2_with ((go_at_call 74); rw [HX.out, HGE.out]; (with_reducible refine (IndexN_any X _ at_ a HSX.out).mono ?_); rintro e w7 ⟨v7, rfl, rfl, rfl⟩; rw [HI.out])
          go_roundw
          case rel => exact ⟨j + 1, by omega, by go_num, Lib.hid (by rw [HN.out]; exact HOX.out), HBX⟩
          case measure => simp [intOf]; omega
        · have hne : ((a : Int) == (b : Int)) = false := by simp; omega
          have hpl := place_lt hil hil
          rw [HKK.out] at hpl
          obtain ⟨P, hP⟩ : ∃ P, i * k = P := ⟨_, rfl⟩
          obtain ⟨Q, hQ⟩ : ∃ Q, P + i = Q := ⟨_, rfl⟩
          have HPP := Lib.hid hP; have HQQ := Lib.hid hQ
          rw [hP, hQ] at hpl
          have e2 : IntKind.i64.wrap ((i : Int) * (k : Int)) = (P : Int) := by rw [← Int.natCast_mul, hP, IntKind.wrap_i64]; omega
          have e3 : IntKind.i64.wrap ((P : Int) + (i : Int)) = (Q : Int) := by rw [IntKind.wrap_i64]; omega
          obtain ⟨z, hz⟩ : ∃ z, A i i = z := ⟨_, rfl⟩
          have HZ := Lib.hid hz
          have hzb := HBA.out i i
          rw [hz] at hzb
          have e4 : IntKind.i64.wrap (z + (m : Int)) = z + (m : Int) := by rw [IntKind.wrap_i64]; omega
          have HG1 := Lib.hid (show X.cell? ⟨U, Q, none⟩ = some (.int .i64 z) ∧ X.frozen? ⟨U, Q, none⟩ = false by
            have h9 := HOX.out
            rw [← HKK.out] at h9
            have := gridL_eZ h9 hil hil
            rwa [hP, hQ, hz] at this)
          have p1 : (0 : Int) ≤ (Q : Int) := by omega
          have p2 : (Q : Int) < (KK : Int) := by omega
          have hneab := Lib.hid (show a ≠ b from hab)
          clear hab hP hQ hz hzb
          go_wp2_with ((go_at_call 74); rw [HX.out, HGE.out]; (with_reducible refine (IndexN_any X _ at_ a HSX.out).mono ?_); rintro e w7 ⟨v7, rfl, rfl, rfl⟩; rw [HI.out])
          have hS := (⟨HG1.out.1, HKX.out.cell 2 _ rfl⟩ : X.drew.cell? ⟨U, Q, none⟩ = some (.int .i64 z) ∧ X.drew.cell? ⟨g, 2, none⟩ = some (.int .i64 (m : Nat)))
          refine wp_regionJ (S := fun w' => w'.cell? ⟨U, Q, none⟩ = some (.int .i64 z) ∧ w'.cell? ⟨g, 2, none⟩ = some (.int .i64 (m : Nat))) (A := fun i => decide (i < 12)) (by kernel_rfl) ?_
          refine wpAnyJ_take (i := 0) (oi := { dst := some 47, op := .move (.tmp 10), type := _, pos := _, after := _, guard := _ }) (v := ?_) rfl (by kernel_rfl) (by kernel_rfl) (by kernel_rfl) (early_sat (by kernel_rfl)) (fun _ _ _ h => h) (Or.inl ⟨by rfl, ?_⟩) hS ?_
          rotate_left
          · intro wl hSw
            obtain ⟨s0, s1⟩ := hSw
            go_simp
            with_reducible rfl
          simp only [Act.put, List.setIfInBounds_toArray, List.set_cons_zero, List.set_cons_succ]
          refine wpAnyJ_take (i := 1) (oi := { dst := some 48, op := .move (.tmp 13), type := _, pos := _, after := _, guard := _ }) (v := ?_) rfl (by kernel_rfl) (by kernel_rfl) (by kernel_rfl) (early_sat (by kernel_rfl)) (fun _ _ _ h => h) (Or.inl ⟨by rfl, ?_⟩) hS ?_
          rotate_left
          · intro wl hSw
            obtain ⟨s0, s1⟩ := hSw
            go_simp
            with_reducible rfl
          simp only [Act.put, List.setIfInBounds_toArray, List.set_cons_zero, List.set_cons_succ]
          refine wpAnyJ_take (i := 2) (oi := { dst := some 49, op := .move (.tmp 9), type := _, pos := _, after := _, guard := _ }) (v := ?_) rfl (by kernel_rfl) (by kernel_rfl) (by kernel_rfl) (early_sat (by kernel_rfl)) (fun _ _ _ h => h) (Or.inl ⟨by rfl, ?_⟩) hS ?_
          rotate_left
          · intro wl hSw
            obtain ⟨s0, s1⟩ := hSw
            go_simp
            with_reducible rfl
          simp only [Act.put, List.setIfInBounds_toArray, List.set_cons_zero, List.set_cons_succ]
          refine wpAnyJ_take (i := 3) (oi := { dst := some 50, op := .binOp _ _ (.tmp 48) (.tmp 49) _, type := _, pos := _, after := _, guard := _ }) (v := ?_) rfl (by kernel_rfl) (by kernel_rfl) (by kernel_rfl) (early_sat (by kernel_rfl)) (fun _ _ _ h => h) (Or.inl ⟨by rfl, ?_⟩) hS ?_
          rotate_left
          · intro wl hSw
            obtain ⟨s0, s1⟩ := hSw
            go_simp
            with_reducible rfl
          simp only [Act.put, List.setIfInBounds_toArray, List.set_cons_zero, List.set_cons_succ]
          refine wpAnyJ_take (i := 4) (oi := { dst := some 51, op := .move (.tmp 13), type := _, pos := _, after := _, guard := _ }) (v := ?_) rfl (by kernel_rfl) (by kernel_rfl) (by kernel_rfl) (early_sat (by kernel_rfl)) (fun _ _ _ h => h) (Or.inl ⟨by rfl, ?_⟩) hS ?_
          rotate_left
          · intro wl hSw
            obtain ⟨s0, s1⟩ := hSw
            go_simp
            with_reducible rfl
          simp only [Act.put, List.setIfInBounds_toArray, List.set_cons_zero, List.set_cons_succ]
          refine wpAnyJ_take (i := 5) (oi := { dst := some 52, op := .binOp _ _ (.tmp 50) (.tmp 51) _, type := _, pos := _, after := _, guard := _ }) (v := ?_) rfl (by kernel_rfl) (by kernel_rfl) (by kernel_rfl) (early_sat (by kernel_rfl)) (fun _ _ _ h => h) (Or.inl ⟨by rfl, ?_⟩) hS ?_
          rotate_left
          · intro wl hSw
            obtain ⟨s0, s1⟩ := hSw
            go_simp
            with_reducible rfl
          simp only [Act.put, List.setIfInBounds_toArray, List.set_cons_zero, List.set_cons_succ]
          refine wpAnyJ_take (i := 6) (oi := { dst := some 53, op := .indexAddr _ (.tmp 47) (.tmp 52), type := _, pos := _, after := _, guard := _ }) (v := ?_) rfl (by kernel_rfl) (by kernel_rfl) (by kernel_rfl) (early_sat (by kernel_rfl)) (fun _ _ _ h => h) (Or.inl ⟨by rfl, ?_⟩) hS ?_
          rotate_left
          · intro wl hSw
            obtain ⟨s0, s1⟩ := hSw
            go_simp
            with_reducible rfl
          simp only [Act.put, List.setIfInBounds_toArray, List.set_cons_zero, List.set_cons_succ]
          refine wpAnyJ_take (i := 7) (oi := { dst := some 54, op := .load _ (.tmp 53), type := _, pos := _, after := _, guard := _ }) (v := ?_) rfl (by kernel_rfl) (by kernel_rfl) (by kernel_rfl) (early_sat (by kernel_rfl)) (fun _ _ _ h => h) (Or.inl ⟨by rfl, ?_⟩) hS ?_
          rotate_left
          · intro wl hSw
            obtain ⟨s0, s1⟩ := hSw
            go_simp
            with_reducible rfl
          simp only [Act.put, List.setIfInBounds_toArray, List.set_cons_zero, List.set_cons_succ]
          refine wpAnyJ_take (i := 8) (oi := { dst := some 55, op := .fieldAddr _ (.tmp 12) 2, type := _, pos := _, after := _, guard := _ }) (v := ?_) rfl (by kernel_rfl) (by kernel_rfl) (by kernel_rfl) (early_sat (by kernel_rfl)) (fun _ _ _ h => h) (Or.inl ⟨by rfl, ?_⟩) hS ?_
          rotate_left
          · intro wl hSw
            obtain ⟨s0, s1⟩ := hSw
            go_simp
            with_reducible rfl
          simp only [Act.put, List.setIfInBounds_toArray, List.set_cons_zero, List.set_cons_succ]
          refine wpAnyJ_take (i := 9) (oi := { dst := some 56, op := .load _ (.tmp 55), type := _, pos := _, after := _, guard := _ }) (v := ?_) rfl (by kernel_rfl) (by kernel_rfl) (by kernel_rfl) (early_sat (by kernel_rfl)) (fun _ _ _ h => h) (Or.inl ⟨by rfl, ?_⟩) hS ?_
          rotate_left
          · intro wl hSw
            obtain ⟨s0, s1⟩ := hSw
            go_simp
            with_reducible rfl
          simp only [Act.put, List.setIfInBounds_toArray, List.set_cons_zero, List.set_cons_succ]
          refine wpAnyJ_take (i := 10) (oi := { dst := some 57, op := .binOp _ _ (.tmp 54) (.tmp 56) _, type := _, pos := _, after := _, guard := _ }) (v := ?_) rfl (by kernel_rfl) (by kernel_rfl) (by kernel_rfl) (early_sat (by kernel_rfl)) (fun _ _ _ h => h) (Or.inl ⟨by rfl, ?_⟩) hS ?_
          rotate_left
          · intro wl hSw
            obtain ⟨s0, s1⟩ := hSw
            go_simp
            with_reducible rfl
          simp only [Act.put, List.setIfInBounds_toArray, List.set_cons_zero, List.set_cons_succ]
          refine wpAnyJ_take (i := 11) (oi := { dst := some 58, op := .indexAddr _ (.tmp 47) (.tmp 52), type := _, pos := _, after := _, guard := _ }) (v := ?_) rfl (by kernel_rfl) (by kernel_rfl) (by kernel_rfl) (early_sat (by kernel_rfl)) (fun _ _ _ h => h) (Or.inl ⟨by rfl, ?_⟩) hS ?_
          rotate_left
          · intro wl hSw
            obtain ⟨s0, s1⟩ := hSw
            go_simp
            with_reducible rfl
          simp only [Act.put, List.setIfInBounds_toArray, List.set_cons_zero, List.set_cons_succ]
          have fz := HG1.out.2
          change X.drew.frozen? ⟨U, Q, none⟩ = false at fz
          refine wpAnyJ_only (i := 12) (o := { dst := none, op := .store _ (.tmp 58) (.tmp 57), type := _, pos := _, after := _, guard := _ }) (by kernel_rfl) rfl (fun K hK => ?_)
          go_simp
          refine hK.out _ _ (fun h => absurd h (by decide)) ?_
          try simp only [Act.put, List.setIfInBounds_toArray, List.set_cons_zero, List.set_cons_succ]
          clear hK K
          refine wpAnyJ_done (by kernel_rfl) ?_ _
          clear hS fz
          obtain ⟨Y, hY⟩ : ∃ Y, (X.setCell ⟨U, Q, none⟩ (.int .i64 (z + (m : Int)))).drew = Y := ⟨_, rfl⟩
          have HY := Lib.hid hY
          have HOB := own_put HOX.out HBX.out (Nat.le_refl U) Q (z + (m : Int)) (.int .i64 (z + (m : Int))) rfl
          obtain ⟨A2, hA2⟩ : ∃ A2, addM A i i m = A2 := ⟨_, rfl⟩
          have HA2 := Lib.hid hA2
          have HOY := Lib.hid (show Y.ownsRow U 3 1 (.slice (some ⟨U, 0, none⟩) KK KK) KK ((gridL k A2).map eZ) by
            have h9 := HOB.1
            have hpq : i * k + i < (gridL k A).length := by rw [gridL_len]; exact place_lt hil hil
            have h8 := gridL_add A (m : Int) hil hpq
            rw [hA2, HZ.out, HPP.out, HQQ.out] at h8
            rw [h8] at h9
            rw [← hY]; exact h9)
          have HBY := Lib.hid (show Below U w3 Y by rw [← hY]; exact HOB.2.drew)
          have HKY := Lib.hid (show Blk Y g [.int .i64 (a : Nat), .int .i64 (b : Nat), .int .i64 (m : Nat)] 83 by rw [← hY]; exact HKX.out.setCell (by have := HGU.out; omega) _)
          have HSY := Lib.hid (show Sl eJ Y (.slice ta k tc) at_ from HS3.out.below HBY.out (Nat.le_of_eq HUU.out))
          have HBA2 := Lib.hid (show ∀ i q, -51000 ≤ A2 i q ∧ A2 i q ≤ 51000 from fun r q => by
            rw [← hA2]
            have := addM_bd HBA.out (D := 1000) (d := (m : Int)) (by omega) i i r q
            omega)
          rw [hY]
          have y0 := HKY.out.cell 0 _ rfl; have y1 := HKY.out.cell 1 _ rfl; have y2 := HKY.out.cell 2 _ rfl; have yl := HKY.out.lt
          clear hY HOB hA2 x0 x1 x2 xl HOX HBX HSX HKX HG1
          by_cases hbmem : b ∈ at_
          rotate_left
          · have HI2 := Lib.hid (idxN_no hbmem)
            have HN := Lib.hid (show rtM at_ (ns.take (j + 1)) = A2 by rw [HT.out]; unfold rtS; rw [if_pos ⟨hamem, hneab.out⟩, if_neg hbmem, hii]; exact HA2.out)
            clear hbmem hamem hii
            go_wp2_with ((go_at_call 74); (with_reducible refine (IndexN_any Y _ at_ b HSY.out).mono ?_); rintro e w7 ⟨v7, rfl, rfl, rfl⟩; rw [HI2.out])
            go_roundw
            case rel => exact ⟨j + 1, by omega, by go_num, Lib.hid (by rw [HN.out]; exact HOY.out), HBY⟩
            case measure => simp [intOf]; omega
          · have HI2 := Lib.hid (idxN_yes hbmem)
            have hil2 := idx_lt hbmem
            rw [HKL.out] at hil2
            obtain ⟨i2, hii2⟩ : ∃ i, at_.findIdx (isR b) = i := ⟨_, rfl⟩
            rw [hii2] at HI2 hil2
            have HN := Lib.hid (show rtM at_ (ns.take (j + 1)) = addM A2 i i2 (-(m : Int)) by rw [HT.out]; unfold rtS; rw [if_pos ⟨hamem, hneab.out⟩, if_pos hbmem, hii, hii2, HA2.out])
            have d2 : decide ((0 : Int) ≤ (i2 : Int)) = true := by simp only [decide_eq_true_eq]; omega
            have d3 : (0 : Int) ≤ (i2 : Int) := by omega
            have hpl2 := place_lt hil hil2
            rw [HKK.out, HPP.out] at hpl2
            obtain ⟨Q2, hQ2⟩ : ∃ Q, P + i2 = Q := ⟨_, rfl⟩
            have HQ2 := Lib.hid hQ2
            rw [hQ2] at hpl2
            have e5 : IntKind.i64.wrap ((P : Int) + (i2 : Int)) = (Q2 : Int) := by rw [IntKind.wrap_i64]; omega
            obtain ⟨z2, hz2⟩ : ∃ z, A2 i i2 = z := ⟨_, rfl⟩
            have HZ2 := Lib.hid hz2
            have hzb2 := HBA2.out i i2
            rw [hz2] at hzb2
            have e6 : IntKind.i64.wrap (z2 - (m : Int)) = z2 - (m : Int) := by rw [IntKind.wrap_i64]; omega
            have HG2 := Lib.hid (show Y.cell? ⟨U, Q2, none⟩ = some (.int .i64 z2) ∧ Y.frozen? ⟨U, Q2, none⟩ = false by
              have h9 := HOY.out
              rw [← HKK.out] at h9
              have := gridL_eZ h9 hil hil2
              rwa [HPP.out, hQ2, hz2] at this)
            have p3 : (0 : Int) ≤ (Q2 : Int) := by omega
            have p4 : (Q2 : Int) < (KK : Int) := by omega
            clear hbmem hamem hii hii2 hQ2 hz2 hzb2
            go_wp2_with ((go_at_call 74); (with_reducible refine (IndexN_any Y _ at_ b HSY.out).mono ?_); rintro e w7 ⟨v7, rfl, rfl, rfl⟩; rw [HI2.out])
            have hS := (⟨HG2.out.1, HKY.out.cell 2 _ rfl⟩ : Y.drew.cell? ⟨U, Q2, none⟩ = some (.int .i64 z2) ∧ Y.drew.cell? ⟨g, 2, none⟩ = some (.int .i64 (m : Nat)))
            refine wp_regionJ (S := fun w' => w'.cell? ⟨U, Q2, none⟩ = some (.int .i64 z2) ∧ w'.cell? ⟨g, 2, none⟩ = some (.int .i64 (m : Nat))) (A := fun i => decide (i < 12)) (by kernel_rfl) ?_
            refine wpAnyJ_take (i := 0) (oi := { dst := some 65, op := .move (.tmp 10), type := _, pos := _, after := _, guard := _ }) (v := ?_) rfl (by kernel_rfl) (by kernel_rfl) (by kernel_rfl) (early_sat (by kernel_rfl)) (fun _ _ _ h => h) (Or.inl ⟨by rfl, ?_⟩) hS ?_
            rotate_left
            · intro wl hSw
              obtain ⟨s0, s1⟩ := hSw
              go_simp
              with_reducible rfl
            simp only [Act.put, List.setIfInBounds_toArray, List.set_cons_zero, List.set_cons_succ]
            refine wpAnyJ_take (i := 1) (oi := { dst := some 66, op := .move (.tmp 13), type := _, pos := _, after := _, guard := _ }) (v := ?_) rfl (by kernel_rfl) (by kernel_rfl) (by kernel_rfl) (early_sat (by kernel_rfl)) (fun _ _ _ h => h) (Or.inl ⟨by rfl, ?_⟩) hS ?_
            rotate_left
            · intro wl hSw
              obtain ⟨s0, s1⟩ := hSw
              go_simp
              with_reducible rfl
            simp only [Act.put, List.setIfInBounds_toArray, List.set_cons_zero, List.set_cons_succ]
            refine wpAnyJ_take (i := 2) (oi := { dst := some 67, op := .move (.tmp 9), type := _, pos := _, after := _, guard := _ }) (v := ?_) rfl (by kernel_rfl) (by kernel_rfl) (by kernel_rfl) (early_sat (by kernel_rfl)) (fun _ _ _ h => h) (Or.inl ⟨by rfl, ?_⟩) hS ?_
            rotate_left
            · intro wl hSw
              obtain ⟨s0, s1⟩ := hSw
              go_simp
              with_reducible rfl
            simp only [Act.put, List.setIfInBounds_toArray, List.set_cons_zero, List.set_cons_succ]
            refine wpAnyJ_take (i := 3) (oi := { dst := some 68, op := .binOp _ _ (.tmp 66) (.tmp 67) _, type := _, pos := _, after := _, guard := _ }) (v := ?_) rfl (by kernel_rfl) (by kernel_rfl) (by kernel_rfl) (early_sat (by kernel_rfl)) (fun _ _ _ h => h) (Or.inl ⟨by rfl, ?_⟩) hS ?_
            rotate_left
            · intro wl hSw
              obtain ⟨s0, s1⟩ := hSw
              go_simp
              with_reducible rfl
            simp only [Act.put, List.setIfInBounds_toArray, List.set_cons_zero, List.set_cons_succ]
            refine wpAnyJ_take (i := 4) (oi := { dst := some 69, op := .move (.tmp 14), type := _, pos := _, after := _, guard := _ }) (v := ?_) rfl (by kernel_rfl) (by kernel_rfl) (by kernel_rfl) (early_sat (by kernel_rfl)) (fun _ _ _ h => h) (Or.inl ⟨by rfl, ?_⟩) hS ?_
            rotate_left
            · intro wl hSw
              obtain ⟨s0, s1⟩ := hSw
              go_simp
              with_reducible rfl
            simp only [Act.put, List.setIfInBounds_toArray, List.set_cons_zero, List.set_cons_succ]
            refine wpAnyJ_take (i := 5) (oi := { dst := some 70, op := .binOp _ _ (.tmp 68) (.tmp 69) _, type := _, pos := _, after := _, guard := _ }) (v := ?_) rfl (by kernel_rfl) (by kernel_rfl) (by kernel_rfl) (early_sat (by kernel_rfl)) (fun _ _ _ h => h) (Or.inl ⟨by rfl, ?_⟩) hS ?_
            rotate_left
            · intro wl hSw
              obtain ⟨s0, s1⟩ := hSw
              go_simp
              with_reducible rfl
            simp only [Act.put, List.setIfInBounds_toArray, List.set_cons_zero, List.set_cons_succ]
            refine wpAnyJ_take (i := 6) (oi := { dst := some 71, op := .indexAddr _ (.tmp 65) (.tmp 70), type := _, pos := _, after := _, guard := _ }) (v := ?_) rfl (by kernel_rfl) (by kernel_rfl) (by kernel_rfl) (early_sat (by kernel_rfl)) (fun _ _ _ h => h) (Or.inl ⟨by rfl, ?_⟩) hS ?_
            rotate_left
            · intro wl hSw
              obtain ⟨s0, s1⟩ := hSw
              go_simp
              with_reducible rfl
            simp only [Act.put, List.setIfInBounds_toArray, List.set_cons_zero, List.set_cons_succ]
            refine wpAnyJ_take (i := 7) (oi := { dst := some 72, op := .load _ (.tmp 71), type := _, pos := _, after := _, guard := _ }) (v := ?_) rfl (by kernel_rfl) (by kernel_rfl) (by kernel_rfl) (early_sat (by kernel_rfl)) (fun _ _ _ h => h) (Or.inl ⟨by rfl, ?_⟩) hS ?_
            rotate_left
            · intro wl hSw
              obtain ⟨s0, s1⟩ := hSw
              go_simp
              with_reducible rfl
            simp only [Act.put, List.setIfInBounds_toArray, List.set_cons_zero, List.set_cons_succ]
            refine wpAnyJ_take (i := 8) (oi := { dst := some 73, op := .fieldAddr _ (.tmp 12) 2, type := _, pos := _, after := _, guard := _ }) (v := ?_) rfl (by kernel_rfl) (by kernel_rfl) (by kernel_rfl) (early_sat (by kernel_rfl)) (fun _ _ _ h => h) (Or.inl ⟨by rfl, ?_⟩) hS ?_
            rotate_left
            · intro wl hSw
              obtain ⟨s0, s1⟩ := hSw
              go_simp
              with_reducible rfl
            simp only [Act.put, List.setIfInBounds_toArray, List.set_cons_zero, List.set_cons_succ]
            refine wpAnyJ_take (i := 9) (oi := { dst := some 74, op := .load _ (.tmp 73), type := _, pos := _, after := _, guard := _ }) (v := ?_) rfl (by kernel_rfl) (by kernel_rfl) (by kernel_rfl) (early_sat (by kernel_rfl)) (fun _ _ _ h => h) (Or.inl ⟨by rfl, ?_⟩) hS ?_
            rotate_left
            · intro wl hSw
              obtain ⟨s0, s1⟩ := hSw
              go_simp
              with_reducible rfl
            simp only [Act.put, List.setIfInBounds_toArray, List.set_cons_zero, List.set_cons_succ]
            refine wpAnyJ_take (i := 10) (oi := { dst := some 75, op := .binOp _ _ (.tmp 72) (.tmp 74) _, type := _, pos := _, after := _, guard := _ }) (v := ?_) rfl (by kernel_rfl) (by kernel_rfl) (by kernel_rfl) (early_sat (by kernel_rfl)) (fun _ _ _ h => h) (Or.inl ⟨by rfl, ?_⟩) hS ?_
            rotate_left
            · intro wl hSw
              obtain ⟨s0, s1⟩ := hSw
              go_simp
              with_reducible rfl
            simp only [Act.put, List.setIfInBounds_toArray, List.set_cons_zero, List.set_cons_succ]
            refine wpAnyJ_take (i := 11) (oi := { dst := some 76, op := .indexAddr _ (.tmp 65) (.tmp 70), type := _, pos := _, after := _, guard := _ }) (v := ?_) rfl (by kernel_rfl) (by kernel_rfl) (by kernel_rfl) (early_sat (by kernel_rfl)) (fun _ _ _ h => h) (Or.inl ⟨by rfl, ?_⟩) hS ?_
            rotate_left
            · intro wl hSw
              obtain ⟨s0, s1⟩ := hSw
              go_simp
              with_reducible rfl
            simp only [Act.put, List.setIfInBounds_toArray, List.set_cons_zero, List.set_cons_succ]
            have fz := HG2.out.2
            change Y.drew.frozen? ⟨U, Q2, none⟩ = false at fz
            refine wpAnyJ_only (i := 12) (o := { dst := none, op := .store _ (.tmp 76) (.tmp 75), type := _, pos := _, after := _, guard := _ }) (by kernel_rfl) rfl (fun K hK => ?_)
            go_simp
            refine hK.out _ _ (fun h => absurd h (by decide)) ?_
            try simp only [Act.put, List.setIfInBounds_toArray, List.set_cons_zero, List.set_cons_succ]
            clear hK K
            refine wpAnyJ_done (by kernel_rfl) ?_ _
            clear hS fz
            have HOB := own_put HOY.out HBY.out (Nat.le_refl U) Q2 (z2 - (m : Int)) (.int .i64 (z2 - (m : Int))) rfl
            go_wp2
            go_roundw
            case rel =>
              refine ⟨j + 1, by omega, by go_num, Lib.hid ?_, Lib.hid HOB.2.drew⟩
              have h9 := HOB.1
              have hpq : i * k + i2 < (gridL k A2).length := by rw [gridL_len]; exact place_lt hil hil2
              have h8 := gridL_add A2 (-(m : Int)) hil2 hpq
              rw [HZ2.out, HPP.out, HQ2.out] at h8
              rw [HN.out, ← h8]
              exact h9
            case measure => simp [intOf]; omega
    · obtain rfl : ns.length = j := by omega
      rw [List.take_length] at hO
      obtain ⟨A, hA⟩ : ∃ A, rtM at_ ns = A := ⟨_, rfl⟩
      have hbd := rtM_bd at_ ns HM.out ns.length (Nat.le_refl _)
      rw [List.take_length, hA] at hbd
      rw [hA] at hO
      have hdn : ∀ i q, i < k → q < k → dn (A i q) ≤ 58 := fun i q _ _ => Nat.le_trans (dn_six (by have := hbd i q; omega)) (by omega)
      have HSL := Lib.hid (show Sl eZ wr (.slice (some ⟨U, 0, none⟩) KK KK) (gridL k A) from Sl.ofOwns hO.out)
      have HEw := Lib.hid (HEW.out.below HBD.out (Nat.le_of_eq hD))
      have HMK := Lib.hid (fun (W' : World) (u : Value) (h1 : Sl eZ W' u (gridL k A)) (h2 : Env W') => show Calls Tryz.prog 75 #[.int .i64 (k : Nat), .int .i64 (k : Nat), u] W' (RetM W' (k : Int) (k : Int) (cellsF k k A) 0) from by
        have h3 : ∀ z ∈ gridL k A, -9223372036854775808 ≤ z ∧ z ≤ 9223372036854775807 := fun z hz => by
          obtain ⟨t, -, rfl⟩ := List.mem_map.1 hz
          have := hbd (t / k) (t % k)
          omega
        have := Make_any W' (k : Int) (k : Int) u (gridL k A) h1 h3 h2
        rw [makeS_grid (by omega)] at this
        exact this)
      have HDT := Lib.hid (fun (W' : World) (u : Value) (h1 : Sl eS W' u (cellsF k k A)) (h2 : Env W') => show Calls Tryz.prog 76 #[.agg #[.int .i64 (k : Nat), .int .i64 (k : Nat), u]] W' (Rets fun v w' => v = .tuple #[.string (txt (det k A)), .int .i64 0] ∧ Below W'.heap.size W' w') from det_call h1 rfl hk6 (D := 58) (by omega) hdn h2)
      obtain ⟨XS, hXS⟩ : ∃ XS, cellsF k k A = XS := ⟨_, rfl⟩
      rw [hXS] at HMK HDT
      obtain ⟨DT, hDT⟩ : ∃ t, txt (det k A) = t := ⟨_, rfl⟩
      rw [hDT] at HDT
      have HFIN := Lib.hid (show txt (det k (rtM at_ ns)) = DT by rw [hA]; exact hDT)
      clear hA hbd hdn hXS hDT hO
      go_wp2_with (first
        | (go_at_call 76; (with_reducible refine (HDT.out _ _ HS8.out HE8.out).mono ?_); rintro e w9 ⟨v9, rfl, rfl, hb9⟩; have HQ9 := Lib.hid (HQ8.out.trans (hb9.mono (by rw [← hD]; exact HQ8.out.size))); clear hb9)
        | (go_at_call 75; (with_reducible refine (HMK.out _ _ HSL.out HEw.out).mono ?_); rintro e w8 ⟨v8, rfl, u8, rfl, hs8, hb8⟩; obtain ⟨ma, mc, rfl⟩ := sl_form hs8; have g8 := hb8.alloc hb8.size (.cells #[.int .i64 (k : Nat), .int .i64 (k : Nat), .slice ma XS.length mc] 128); have HS8 := Lib.hid (hs8.below ((Below.refl w8.heap.size w8).alloc (Nat.le_refl _) (.cells #[.int .i64 (k : Nat), .int .i64 (k : Nat), .slice ma XS.length mc] 128)) (Nat.le_refl _)); have HE8 := Lib.hid (HEw.out.below g8 (Nat.le_refl _)); have HQ8 := Lib.hid (HBD.out.trans (g8.mono (by rw [← hD]; exact HBD.out.size))); have HM8 := Lib.hid (Blk.new w8 [.int .i64 (k : Nat), .int .i64 (k : Nat), .slice ma XS.length mc] 128); have m0 := HM8.out.cell 0 _ rfl; have m1 := HM8.out.cell 1 _ rfl; have m2 := HM8.out.cell 2 _ rfl; have ml := HM8.out.lt; clear hs8 hb8 g8))
      go_ret2
      exact ⟨_, rfl, (by rw [HFIN.out]; rfl), by rw [hD]; exact HQ9.out⟩
end Go.Proofs.YtlnhocgjgmhfgaaGreatDoor

namespace Go.Proofs.YtlnhocgjgmhfgaaGreatDoor
open Go.RowKit
set_option maxRecDepth 100000

def atN (n rt : Nat) : List Nat := (List.range n).filter fun s => !isR rt s
theorem ints_range (k : Nat) : ints (List.range (k + 1)) = ints (List.range k) ++ [.int .i64 (k : Nat)] := by rw [List.range_succ]; simp [ints]
set_option maxHeartbeats 4000000 in
theorem Trees_ok (w : World) (n : Nat) (v : Value) (ns : List (Nat × Nat × Nat)) (rt : Nat) (hR : RD n ns) (hv : SlK e3 3 w v (ns.map n3)) (hl : ns.length ≤ 500) (hrt : rt < n) (hk1 : 1 ≤ (atN n rt).length) (hk6 : (atN n rt).length ≤ 6) (he : Env w) :
    Calls Tryz.prog 35 #[.agg #[.int .i64 (n : Nat), v], .int .i64 (rt : Nat)] w (Rets fun r w' => r = .tuple #[.string (txt (det (atN n rt).length (rtM (atN n rt) ns))), .int .i64 0] ∧ Below w.heap.size w w') := by
  have HR := Lib.hid hR; have HV := Lib.hid hv; have HE := Lib.hid he
  have HM := Lib.hid (show ∀ x ∈ ns, x.2.2 ≤ 50 from fun x hx => (hR.rng x hx).2.2.2)
  have n12 := hR.le
  obtain ⟨ad, c, rfl⟩ := hv.form
  rw [List.length_map] at HV ⊢
  obtain ⟨D, hD⟩ : ∃ D, w.heap.size = D := ⟨_, rfl⟩
  obtain ⟨W, hW⟩ : ∃ W, w.alloc (.cells #[.int .i64 (n : Nat), .slice ad ns.length c] 28) = W := ⟨_, rfl⟩
  have hWs : W.heap.size = D + 1 := by rw [← hW, ← hD]; simp
  have HK0 := Lib.hid (show Blk W D [.int .i64 (n : Nat), .slice ad ns.length c] 28 by rw [← hW, ← hD]; exact Blk.new w _ _)
  have HB0 := Lib.hid (show Below D w W by rw [← hW, ← hD]; exact (Below.refl _ w).alloc (Nat.le_refl _) _)
  have HV0 := Lib.hid (HV.out.below HB0.out (Nat.le_of_eq hD))
  have HW := Lib.hid hW
  have k0 := HK0.out.cell 0 _ rfl; have k1 := HK0.out.cell 1 _ rfl; have kl := HK0.out.lt
  have d1 : decide ((rt : Int) < 0) = false := by simp only [decide_eq_false_iff_not]; omega
  have d2 : decide ((n : Int) ≤ (rt : Int)) = false := by simp only [decide_eq_false_iff_not]; omega
  have d3 : decide (n ≤ rt) = false := by simp only [decide_eq_false_iff_not]; omega
  have HK1 := Lib.hid hk1; have HK6 := Lib.hid hk6
  obtain ⟨TX, hTX⟩ : ∃ t, txt (det (atN n rt).length (rtM (atN n rt) ns)) = t := ⟨_, rfl⟩
  have HRT := Lib.hid (fun (W' : World) (u : Value) (h1 : SlK e3 3 W' (.slice ad ns.length c) (ns.map n3)) (h2 : Sl eJ W' u (List.range n)) (h3 : Env W') => show Calls Tryz.prog 59 #[.agg #[.int .i64 (n : Nat), .slice ad ns.length c], .int .i64 (rt : Nat), u] W' (Rets fun r w' => r = .tuple #[.string TX, .int .i64 0] ∧ Below W'.heap.size W' w') from by
    rw [← hTX]
    exact rooted_ok W' n _ ns rt u (List.range n) (atN n rt) h1 h2 HM.out hl (by rw [List.length_range]; omega) rfl HK1.out HK6.out h3)
  rw [hTX]
  clear hv hR hW hWs he hk1 hk6 hTX
  go_enter Tryz.func35, Tryz.ntmps35
  go_wp2_with ((go_at_call 46); rw [HW.out]; (with_reducible refine (NCheck_ok W n _ ns HR.out HV0.out).mono ?_); rintro e w1 ⟨v, rfl, rfl, hb⟩; have HB1 := Lib.hid (HB0.out.trans (hb.mono (by rw [← hD]; exact HB0.out.size))); have HK2 := Lib.hid (HK0.out.below hb (Nat.le_refl _)); have k0 := HK2.out.cell 0 _ rfl; have k1 := HK2.out.cell 1 _ rfl; have kl := HK2.out.lt; clear hb)
  clear k0 k1 kl HK0 HB0 HV0
  have HZ := Lib.hid HK2.out.lt
  go_loopw [7, 24] (fun s q wr => ∃ k : Nat, k ≤ n ∧ q = .int .i64 k ∧ Hid (wr.ownsRow (D + 1) 3 1 s k (ints (List.range k))) ∧ Hid (Blk wr D [.int .i64 (n : Nat), .slice ad ns.length c] 28) ∧ Hid (Below D w wr)) (fun _ q _ => n - (intOf q).toNat)
  case atStart => exact ⟨0, Nat.zero_le _, rfl, Lib.hid (World.ownsRow_nil _ _ _ _), HK2, HB1⟩
  case round =>
    clear HK2 HB1
    obtain ⟨k, hk, rfl, hO, hK, hB⟩ := hrel
    obtain ⟨sa, sc, rfl⟩ := own_formK hO.out
    have hge := own_ge hO.out
    have hsz := hK.out.lt
    by_cases hkn : k < n
    · go_wp2_with (at_builtin; refine appMG (w0 := wr) (W := w) (B := D) (m := 1) (news := [.int .i64 (k : Nat)]) elemI rfl _ _ rfl rfl rfl hO.out hB.out (Nat.le_succ D) hsz rfl (by intro u hu; simp at hu; subst hu; rfl) (by omega) (by unfold maxLen; omega) ?_; intro v' w3 hown' hb3 hg2 hat2; obtain ⟨va, vc, rfl⟩ := own_formK hown'; have HO3 := Lib.hid hown'; have HG3 := Lib.hid hg2; have HB3 := Lib.hid hb3; clear hown' hg2 hb3 hat2)
      go_roundw
      case rel => exact ⟨k + 1, by omega, by go_num, Lib.hid (by rw [ints_range]; exact HO3.out), Lib.hid ((HG3.out.block D (by rw [World.size_alloc]; omega) (fun e => by have := hge D e.symm; omega)).trans (hK.out.alloc (.cells [Value.int .i64 (k : Nat)].toArray 3))), HB3⟩
      case measure => simp [intOf]; omega
    · obtain rfl : n = k := by omega
      have HSL := Lib.hid (show Sl eJ wr (.slice sa n sc) (List.range n) from Sl.ofOwns hO.out)
      have HVW := Lib.hid (HV.out.below hB.out (Nat.le_of_eq hD))
      have HEW := Lib.hid (HE.out.below hB.out (Nat.le_of_eq hD))
      have k0 := hK.out.cell 0 _ rfl; have k1 := hK.out.cell 1 _ rfl; have kl := hK.out.lt
      go_wp2_with ((go_at_call 59); (with_reducible refine (HRT.out wr _ HVW.out HSL.out HEW.out).mono ?_); rintro e w9 ⟨v9, rfl, rfl, hb9⟩; have HQ9 := Lib.hid (hB.out.trans (hb9.mono (by rw [← hD]; exact hB.out.size))); clear hb9)
      go_ret2
      exact ⟨_, rfl, rfl, by rw [hD]; exact HQ9.out⟩
set_option maxHeartbeats 4000000 in
theorem Tours_ok (w : World) (n : Nat) (v : Value) (ns : List (Nat × Nat × Nat)) (hR : RD n ns) (hv : SlK e3 3 w v (ns.map n3)) (hl : ns.length ≤ 500) (hE : EulC n ns) (hdeg : degAt (·.1) n ns ns.length = List.replicate n 2) (hk1 : 1 ≤ (atN n 0).length) (hk6 : (atN n 0).length ≤ 6) (he : Env w) :
    Calls Tryz.prog 34 #[.agg #[.int .i64 (n : Nat), v]] w (Rets fun r w' => r = .tuple #[.string (txt (det (atN n 0).length (rtM (atN n 0) ns))), .int .i64 0] ∧ Below w.heap.size w w') := by
  have HR := Lib.hid hR; have HV := Lib.hid hv; have HEN := Lib.hid he; have HEU := Lib.hid hE
  have HM := Lib.hid (show ∀ x ∈ ns, x.2.2 ≤ 50 from fun x hx => (hR.rng x hx).2.2.2)
  have n12 := hR.le
  have n1 := hR.pos
  obtain ⟨ad, c, rfl⟩ := hv.form
  rw [List.length_map] at HV ⊢
  obtain ⟨D, hD⟩ : ∃ D, w.heap.size = D := ⟨_, rfl⟩
  obtain ⟨W, hW⟩ : ∃ W, w.alloc (.cells #[.int .i64 (n : Nat), .slice ad ns.length c] 28) = W := ⟨_, rfl⟩
  have hWs : W.heap.size = D + 1 := by rw [← hW, ← hD]; simp
  have HK0 := Lib.hid (show Blk W D [.int .i64 (n : Nat), .slice ad ns.length c] 28 by rw [← hW, ← hD]; exact Blk.new w _ _)
  have HB0 := Lib.hid (show Below D w W by rw [← hW, ← hD]; exact (Below.refl _ w).alloc (Nat.le_refl _) _)
  have HV0 := Lib.hid (HV.out.below HB0.out (Nat.le_of_eq hD))
  have HW := Lib.hid hW
  have k0 := HK0.out.cell 0 _ rfl; have k1 := HK0.out.cell 1 _ rfl; have kl := HK0.out.lt
  have HK1 := Lib.hid hk1; have HK6 := Lib.hid hk6; have HDG := Lib.hid hdeg
  obtain ⟨TX, hTX⟩ : ∃ t, txt (det (atN n 0).length (rtM (atN n 0) ns)) = t := ⟨_, rfl⟩
  have HRT := Lib.hid (fun (W' : World) (u : Value) (h1 : SlK e3 3 W' (.slice ad ns.length c) (ns.map n3)) (h2 : Sl eJ W' u (List.range n)) (h3 : Env W') => show Calls Tryz.prog 59 #[.agg #[.int .i64 (n : Nat), .slice ad ns.length c], .int .i64 0, u] W' (Rets fun r w' => r = .tuple #[.string TX, .int .i64 0] ∧ Below W'.heap.size W' w') from by
    rw [← hTX]
    exact rooted_ok W' n _ ns 0 u (List.range n) (atN n 0) h1 h2 HM.out hl (by rw [List.length_range]; omega) rfl HK1.out HK6.out h3)
  rw [hTX]
  clear hv hR hW hWs he hk1 hk6 hTX hE hdeg
  go_enter Tryz.func34, Tryz.ntmps34
  go_wp2_with (first
    | (go_at_call 53; (with_reducible refine (degrees_ok w2 n _ ns HR.out HV2.out (by omega)).mono ?_); rintro e w3 ⟨v, rfl, A, B, rfl, hA, hB9, hrest⟩; have HDB := Lib.hid hrest; have HA := Lib.hid hA; clear hA hB9 hrest)
    | (go_at_call 47; (with_reducible refine (eulerian_ok w1 n _ ns HR.out HV1.out (by omega)).mono ?_); rintro e w2 ⟨v, rfl, tt, rfl, hb2, ht2⟩; have HB2 := Lib.hid (HB1.out.trans (hb2.mono (by rw [← hD]; exact HB1.out.size))); have HK2 := Lib.hid (HK9.out.below hb2 (Nat.le_refl _)); have HV2 := Lib.hid (HV1.out.below hb2 (Nat.le_refl _)); have htt := ht2.2 HEU.out; subst htt; have k0 := HK2.out.cell 0 _ rfl; have k1 := HK2.out.cell 1 _ rfl; have kl := HK2.out.lt; clear hb2 ht2)
    | (go_at_call 46; rw [HW.out]; (with_reducible refine (NCheck_ok W n _ ns HR.out HV0.out).mono ?_); rintro e w1 ⟨v, rfl, rfl, hb⟩; have HB1 := Lib.hid (HB0.out.trans (hb.mono (by rw [← hD]; exact HB0.out.size))); have HK9 := Lib.hid (HK0.out.below hb (Nat.le_refl _)); have HV1 := Lib.hid (HV0.out.below hb (Nat.le_refl _)); have k0 := HK9.out.cell 0 _ rfl; have k1 := HK9.out.cell 1 _ rfl; have kl := HK9.out.lt; clear hb))
  clear k0 k1 kl HK0 HB0 HV0 HK9 HB1 HV1
  obtain ⟨hA0, hB0, hb3⟩ := HDB.out
  have HB3 := Lib.hid (HB2.out.trans (hb3.mono (by rw [← hD]; exact HB2.out.size)))
  have HK3 := Lib.hid (HK2.out.below hb3 (Nat.le_refl _))
  rw [HDG.out] at HA
  obtain ⟨E, hEE⟩ : ∃ E, w3.heap.size = E := ⟨_, rfl⟩
  have HEE := Lib.hid hEE
  have HAE := Lib.hid (show A < E by rw [← hEE]; exact HA.out.lt)
  have HDE := Lib.hid (show D < E by rw [← hEE]; exact HK3.out.lt)
  clear hA0 hB0 hb3 HDB hEE
  go_loopw [7, 30] (fun s q wr => ∃ k : Nat, k ≤ n ∧ q = .int .i64 k ∧ Hid (wr.ownsRow E 3 1 s k (ints (List.range k))) ∧ Hid (Below E w3 wr)) (fun _ q _ => n - (intOf q).toNat)
  case atStart => exact ⟨0, Nat.zero_le _, rfl, Lib.hid (World.ownsRow_nil _ _ _ _), Lib.hid (by rw [← HEE.out]; exact Below.refl _ _)⟩
  case round =>
    obtain ⟨k, hk, rfl, hO, hB⟩ := hrel
    obtain ⟨sa, sc, rfl⟩ := own_formK hO.out
    have hsz : E ≤ wr.heap.size := by rw [← HEE.out]; exact hB.out.size
    by_cases hkn : k < n
    · have hAr := HA.out.below hB.out (Nat.le_of_eq HEE.out)
      have c0 : wr.cell? ⟨A, k, none⟩ = some (.int .i64 2) := hAr.cell k _ (by rw [ints_at _ k (by simp; exact hkn)]; simp)
      have al := hAr.lt
      have p1 : (0 : Int) ≤ (k : Int) := by omega
      have p2 : (k : Int) < (n : Int) := by omega
      go_wp2_with (at_builtin; refine appMG (w0 := wr) (W := w3) (B := E) (m := 1) (news := [.int .i64 (k : Nat)]) elemI rfl _ _ rfl rfl rfl hO.out hB.out (Nat.le_refl E) hsz rfl (by intro u hu; simp at hu; subst hu; rfl) (by omega) (by unfold maxLen; omega) ?_; intro v' w4 hown' hb4 hg4 hat4; obtain ⟨va, vc, rfl⟩ := own_formK hown'; have HO4 := Lib.hid hown'; have HB4 := Lib.hid hb4; clear hown' hg4 hb4 hat4)
      go_roundw
      case rel => exact ⟨k + 1, by omega, by go_num, Lib.hid (by rw [ints_range]; exact HO4.out), HB4⟩
      case measure => simp [intOf]; omega
    · obtain rfl : n = k := by omega
      have HSL := Lib.hid (show Sl eJ wr (.slice sa n sc) (List.range n) from Sl.ofOwns hO.out)
      have HBD := Lib.hid (show Below D w wr from HB3.out.trans (hB.out.mono (Nat.le_of_lt HDE.out)))
      have HKr := Lib.hid (HK3.out.below hB.out (Nat.le_of_eq HEE.out))
      have HAr := Lib.hid (HA.out.below hB.out (Nat.le_of_eq HEE.out))
      have HVW := Lib.hid (HV.out.below HBD.out (Nat.le_of_eq hD))
      have HEW := Lib.hid (HEN.out.below HBD.out (Nat.le_of_eq hD))
      obtain ⟨sa', ob, oo, oc', hform, hoi, hop, -, -⟩ := HSL.out.open elemI
      rw [List.length_range] at hform hoi
      simp only [Value.slice.injEq, true_and] at hform
      obtain ⟨rfl, rfl⟩ := hform
      have HOP := Lib.hid hop
      have hcell : ∀ w', Below wr.heap.size wr w' → w'.cell? ⟨D, 0, none⟩ = some (.int .i64 (n : Nat)) ∧ w'.cell? ⟨D, 1, none⟩ = some (.slice ad ns.length c) ∧ w'.cell? ⟨ob, oo, none⟩ = some (.int .i64 0) := fun w' hb => by
        refine ⟨(HKr.out.below hb (Nat.le_refl _)).cell 0 _ rfl, (HKr.out.below hb (Nat.le_refl _)).cell 1 _ rfl, ?_⟩
        have := HOP.out.at hb (Nat.le_refl _) 0 (by rw [List.length_range]; omega)
        simpa [eJ] using this
      have HC := Lib.hid hcell
      have HBd := Lib.hid (show Below wr.heap.size wr wr.drew from (Below.refl _ wr).drew)
      have HS1 := Lib.hid (hcell wr.drew HBd.out)
      have d1 : 0 < n := by omega
      have d2 : (0 : Int) < (n : Int) := by omega
      clear hO hB hop hcell
      go_wp2_with fail
      go_region_held3 (fun w' => w'.cell? ⟨D, 0, none⟩ = some (.int .i64 (n : Nat)) ∧ w'.cell? ⟨D, 1, none⟩ = some (.slice ad ns.length c) ∧ w'.cell? ⟨ob, oo, none⟩ = some (.int .i64 0))
        ((first
          | with_reducible exact HS1.out
          | with_reducible assumption))
        ((go_at_call 59; (with_reducible refine (HRT.out wr.drew _ (HVW.out.below HBd.out (Nat.le_refl _)) (HSL.out.below HBd.out (Nat.le_refl _)) (HEW.out.below HBd.out (Nat.le_refl _))).mono ?_); rintro e w9 ⟨v9, rfl, rfl, hb9⟩; have HB9 := Lib.hid (HBd.out.trans (hb9.mono HBd.out.size)); have hs9 := HC.out w9 HB9.out; clear hb9))
      rename_i hHeld
      clear hs9 hHeld HS1 HBd
      have HSL9 := Lib.hid (HSL.out.below HB9.out (Nat.le_refl _))
      have HAr9 := Lib.hid (HAr.out.below HB9.out (Nat.le_refl _))
      have HQ9 := Lib.hid (HBD.out.trans (HB9.out.mono (by rw [← hD]; exact HBD.out.size)))
      go_wp2
      go_loopw [10, 11, 14, 53] (fun a b k q wr => ∃ j : Nat, j ≤ n ∧ q = .int .i64 j ∧ a = .string TX ∧ b = .int .i64 0 ∧ wr = w9) (fun _ _ _ q _ => n - (intOf q).toNat)
      case atStart => exact ⟨0, Nat.zero_le _, rfl, rfl, rfl, rfl⟩
      case round =>
        obtain ⟨j, hj, rfl, rfl, rfl, hw⟩ := hrel
        subst hw
        obtain ⟨wq, hwq⟩ : ∃ wq, wq = wr := ⟨_, rfl⟩
        subst hwq
        by_cases hjn : j < n
        · have hop := HOP.out.at HB9.out (Nat.le_refl _) j (by rw [List.length_range]; exact hjn)
          rw [List.getElem_range] at hop
          have c0 : (_ : World).cell? ⟨ob, oo + j, none⟩ = some (.int .i64 (j : Nat)) := hop
          have c1 := HAr9.out.cell j (.int .i64 2) (by rw [ints_at _ j (by simp; exact hjn)]; simp)
          have al := HAr9.out.lt
          have p1 : (0 : Int) ≤ (j : Int) := by omega
          have p2 : (j : Int) < (n : Int) := by omega
          clear hop
          go_wp2
          go_loopw [10, 11, 14] (fun a b k wr => a = .string TX ∧ b = .int .i64 0 ∧ k = .int .i64 2 ∧ wr = wq) (fun _ _ _ _ => 0)
          case atStart => exact ⟨rfl, rfl, rfl, rfl⟩
          case round =>
            obtain ⟨rfl, rfl, rfl, hw2⟩ := hrel
            subst hw2
            go_wp2
            go_roundw
            case rel => exact ⟨j + 1, by omega, by go_num, rfl, rfl, trivial⟩
            case measure => simp [intOf]; omega
        · obtain rfl : n = j := by omega
          go_wp2
          go_ret2
          exact ⟨_, rfl, rfl, by rw [hD]; exact HQ9.out⟩
end Go.Proofs.YtlnhocgjgmhfgaaGreatDoor

namespace Go.Proofs.YtlnhocgjgmhfgaaGreatDoor
open Go.RowKit
set_option maxRecDepth 100000

def lenV : Value → Nat
  | .slice _ n _ => n
  | _ => 0
theorem tourF_end {n f v : Nat} {SS : List (Nat × Nat)} {t : List Nat} {us : List Bool} {T : List Nat} (h : tourF n SS f v t us = some T) (hl : SS.length ≤ t.length) : t = T := by
  unfold tourF at h
  rw [if_pos hl] at h
  exact Option.some.inj h
theorem tourF_step {n f v : Nat} {SS : List (Nat × Nat)} {t : List Nat} {us : List Bool} {T : List Nat} (h : tourF n SS f v t us = some T) (hl : t.length < SS.length) :
    ∃ f' i, nextA n SS us ((outs n SS).getD v []) = some i ∧ tourF n SS f' (SS.getD i (0, 0)).2 (t ++ [i]) (us.set i true) = some T := by
  unfold tourF at h
  rw [if_neg (by omega)] at h
  cases f with
  | zero => cases h
  | succ f =>
    cases hn : nextA n SS us ((outs n SS).getD v []) with
    | none => rw [hn] at h; cases h
    | some i => rw [hn] at h; exact ⟨f, i, rfl, h⟩
theorem outs_mem {n : Nat} {SS : List (Nat × Nat)} {v i : Nat} (h : v < (outs n SS).length) (hi : i ∈ (outs n SS)[v]) : i < SS.length := by
  simp only [outs, outsAt, List.getElem_map, List.getElem_range] at hi
  exact List.mem_range.1 (List.mem_filter.1 hi).1
theorem own_pos1 {w : World} {b e s n : Nat} {v : Value} {ys : List Value} (h : w.ownsRow b e s v n ys) (hn : 0 < n) : ∃ g cap, v = .slice (some ⟨g, 0, none⟩) n cap := by
  rcases h.2 with ⟨rfl, h0⟩ | ⟨g, cap, cur, rfl, -⟩
  · omega
  · exact ⟨_, _, rfl⟩
theorem own_apartB1 {w : World} {b s n g : Nat} {e e' : TypeId} {u : Value} {ys cs : List Value} (h : w.ownsRow b e s u n ys) (h' : Blk w g cs e') (hne : e ≠ e') : u.ownBlock ≠ some g := by
  rcases h.2 with ⟨rfl, -⟩ | ⟨g', cap, cur, rfl, -, hg, -⟩
  · simp [Value.ownBlock]
  · intro e2
    simp only [Value.ownBlock, Option.some.injEq] at e2
    subst e2
    unfold Blk at h'
    rw [hg] at h'
    injection h' with h'
    injection h' with _ e3 _
    exact hne e3
theorem ints_snoc (t : List Nat) (i : Nat) : ints t ++ [.int .i64 (i : Nat)] = ints (t ++ [i]) := by simp [ints]
set_option maxHeartbeats 8000000 in
theorem Tour_ok (w : World) (n : Nat) (v : Value) (ns : List (Nat × Nat × Nat)) (T : List Nat) (hR : RD n ns) (hv : SlK e3 3 w v (ns.map n3)) (hl : ns.length ≤ 1000) (hE : EulC n ns) (hm1 : 1 ≤ (sgl ns).length) (hm : (sgl ns).length ≤ 256) (hT : tourS n (sgl ns) = some T) :
    Calls Tryz.prog 31 #[.agg #[.int .i64 (n : Nat), v]] w (Rets fun r w' => ∃ u, r = .tuple #[u, .int .i64 0] ∧ SlK i1 1 w' u T ∧ Below w.heap.size w w') := by
  have HR := Lib.hid hR; have HV := Lib.hid hv; have HEU := Lib.hid hE
  obtain ⟨ad, c, rfl⟩ := hv.form
  rw [List.length_map] at HV ⊢
  have n12 := hR.le
  have n1 := hR.pos
  have HM := Lib.hid (show ∀ x ∈ ns, x.2.2 ≤ 50 from fun x hx => (hR.rng x hx).2.2.2)
  have HRG := Lib.hid (sgl_rng hR)
  obtain ⟨D, hD⟩ : ∃ D, w.heap.size = D := ⟨_, rfl⟩
  obtain ⟨W, hW⟩ : ∃ W, w.alloc (.cells #[.int .i64 (n : Nat), .slice ad ns.length c] 28) = W := ⟨_, rfl⟩
  have hWs : W.heap.size = D + 1 := by rw [← hW, ← hD]; simp
  have HK0 := Lib.hid (show Blk W D [.int .i64 (n : Nat), .slice ad ns.length c] 28 by rw [← hW, ← hD]; exact Blk.new w _ _)
  have HB0 := Lib.hid (show Below D w W by rw [← hW, ← hD]; exact (Below.refl _ w).alloc (Nat.le_refl _) _)
  have HV0 := Lib.hid (HV.out.below HB0.out (Nat.le_of_eq hD))
  have HW := Lib.hid hW
  have k0 := HK0.out.cell 0 _ rfl; have k1 := HK0.out.cell 1 _ rfl; have kl := HK0.out.lt
  clear hv hR hW hE
  go_enter Tryz.func31, Tryz.ntmps31
  go_wp2_with (first
    | (go_at_call 47; (with_reducible refine (eulerian_ok w1 n _ ns HR.out HV1.out hl).mono ?_); rintro e w2 ⟨v, rfl, tt, rfl, hb2, ht2⟩; have HB2 := Lib.hid (HB1.out.trans (hb2.mono (by rw [← hD]; exact HB1.out.size))); have HK2 := Lib.hid (HK1.out.below hb2 (Nat.le_refl _)); have HV2 := Lib.hid (HV1.out.below hb2 (Nat.le_refl _)); have htt := ht2.2 HEU.out; subst htt; clear hb2 ht2)
    | (go_at_call 46; rw [HW.out]; (with_reducible refine (NCheck_ok W n _ ns HR.out HV0.out).mono ?_); rintro e w1 ⟨v, rfl, rfl, hb⟩; have HB1 := Lib.hid (HB0.out.trans (hb.mono (by omega))); have HK1 := Lib.hid (HK0.out.below hb (Nat.le_refl _)); have HV1 := Lib.hid (HV0.out.below hb (Nat.le_refl _)); have k0 := HK1.out.cell 0 _ rfl; have k1 := HK1.out.cell 1 _ rfl; have kl := HK1.out.lt; clear hb))
  clear k0 k1 kl HK0 HB0 HV0 HK1 HB1 HV1 hWs
  obtain ⟨SS, hSS⟩ : ∃ SS, sgl ns = SS := ⟨_, rfl⟩
  have HSS := Lib.hid hSS
  rw [hSS] at hm1 hm hT HRG
  have HT := Lib.hid hT
  clear hSS hT
  have HBd := Lib.hid (show Below w2.heap.size w2 w2.drew from (Below.refl _ w2).drew)
  have HS := Lib.hid (fun (w' : World) (hb : Below w2.heap.size w2 w') => (⟨(HK2.out.below hb (Nat.le_refl _)).cell 0 _ rfl, (HK2.out.below hb (Nat.le_refl _)).cell 1 _ rfl⟩ : w'.cell? ⟨D, 0, none⟩ = some (.int .i64 (n : Nat)) ∧ w'.cell? ⟨D, 1, none⟩ = some (.slice ad ns.length c)))
  have HS1 := Lib.hid (HS.out w2.drew HBd.out)
  go_region_held3 (fun w' => w'.cell? ⟨D, 0, none⟩ = some (.int .i64 (n : Nat)) ∧ w'.cell? ⟨D, 1, none⟩ = some (.slice ad ns.length c))
    ((first
      | with_reducible exact HS1.out
      | with_reducible assumption))
    ((first
      | (go_at_call 42; (with_reducible refine (leaving_ok w3 n _ ns HR.out (HV2.out.below HB3.out (Nat.le_refl _)) hl).mono ?_); rintro e w4 ⟨v, rfl, vs, L, C, rfl, hRw, hL, hb4⟩; rw [HSS.out] at hRw; have HRW := Lib.hid hRw; have HE4 := Lib.hid (HE.out.below hb4 (Nat.le_refl _)); have HB4 := Lib.hid (HB3.out.trans (hb4.mono HB3.out.size)); have hs4 := HS.out w4 HB4.out; clear hRw hb4 hL)
      | (go_at_call 43; (with_reducible refine (arcs_ok w2.drew n _ ns (HV2.out.below HBd.out (Nat.le_refl _)) HM.out (by omega)).mono ?_); rintro e w3 ⟨v, rfl, hO, hb3⟩; rw [HSS.out] at hO; obtain ⟨ea, ec, rfl⟩ := own_formK hO; have HE := Lib.hid (SlK.ofOwns p2_len hO rfl); have HB3 := Lib.hid (HBd.out.trans (hb3.mono HBd.out.size)); have hs3 := HS.out w3 HB3.out; clear hO hb3)))
  rename_i hHeld
  clear hs3 hs4 hHeld HS1 HBd HS
  have HD4 := Lib.hid (HB2.out.trans (HB4.out.mono (by rw [← hD]; exact HB2.out.size)))
  have HK4 := Lib.hid (HK2.out.below HB4.out (Nat.le_refl _))
  obtain ⟨U, hU⟩ : ∃ U, w4.heap.size = U := ⟨_, rfl⟩
  have HUU := Lib.hid hU
  have HDU := Lib.hid (show D < U by rw [← hU]; exact HK4.out.lt)
  obtain ⟨ea', eb, eo, ec', hform, hei, hep, hec, hem⟩ := HE4.out.open elemEnds
  simp only [Value.slice.injEq, true_and] at hform
  obtain ⟨rfl, rfl⟩ := hform
  have HEP := Lib.hid hep
  have hebU : eb < U := by rw [← hU]; exact hep.1 (by omega)
  obtain ⟨⟨p0, q0⟩, hs0⟩ : ∃ x, SS[0] = x := ⟨_, rfl⟩
  have HS0 := Lib.hid (show SS.getD 0 (0, 0) = (p0, q0) by rw [List.getD_eq_getElem?_getD, List.getElem?_eq_getElem (by omega), hs0]; rfl)
  have hq0 := HRG.out _ (List.getElem_mem (show 0 < SS.length by omega))
  rw [hs0] at hq0
  have HQ0 := Lib.hid hq0.2
  have b1 : w4.cell? ⟨eb, eo + 1, none⟩ = some (.int .i64 (q0 : Nat)) := by
    have := hep.2 0 (by omega) 1 (.int .i64 (q0 : Nat)) (by rw [hs0]; rfl)
    rwa [Nat.zero_mul, Nat.add_zero] at this
  have HB1 := Lib.hid b1
  have d1 : decide ((256 : Int) < (SS.length : Int)) = false := by simp only [decide_eq_false_iff_not]; omega
  have d2 : decide (256 < SS.length) = false := by simp only [decide_eq_false_iff_not]; omega
  have d3 : 0 < SS.length := by omega
  have d4 : (0 : Int) < (SS.length : Int) := by omega
  clear hep hs0 hq0 b1 hU
  go_wp2_with (at_make; refine mkN elemB rfl _ _ rfl SS.length rfl rfl rfl rfl (by omega) (by unfold maxLen; omega) (Below.refl w4.heap.size w4) (Nat.le_refl _) rfl ?_; intro w5 hown hb5 hb5'; rw [HUU.out] at hown hb5 ⊢; have hU5 := blk_of_own hown; rw [show List.replicate SS.length (Value.bool false) = bools (List.replicate SS.length false) by simp [bools]] at hU5; have HU5 := Lib.hid hU5; have HB5 := Lib.hid hb5; have cz := hU5.cell 0 _ (bools_at _ 0 (by rw [List.length_replicate]; exact d3)); have fz := hU5.free 0; have uz := hU5.lt; have e1 : w5.cell? ⟨eb, eo + 1, none⟩ = some (.int .i64 (q0 : Nat)) := (World.cell?_of_block (a := ⟨eb, eo + 1, none⟩) (hb5.block eb (by omega))).trans HB1.out; have el : eb < w5.heap.size := Nat.lt_trans hebU hU5.lt; have ene : eb ≠ U := (by omega); clear hown hb5 hb5' hU5)
  have HSZ5 := Lib.hid (show U < w5.heap.size from uz)
  obtain ⟨X, hX⟩ : ∃ X, (w5.setCell ⟨U, 0, none⟩ (.bool true)).alloc (.cells #[.int .i64 0] 3) = X := ⟨_, rfl⟩
  have HUX := Lib.hid (show Blk X U (bools ((List.replicate SS.length false).set 0 true)) 4 by rw [← hX, ← bools_set]; exact (HU5.out.set 0 (.bool true)).alloc _)
  have HBX := Lib.hid (show Below U w4 X by rw [← hX]; exact (HB5.out.setCell (p := ⟨U, 0, none⟩) (Nat.le_refl U) _).alloc (by simp; omega) _)
  have HOX := Lib.hid (show X.ownsRow (U + 1) 3 1 (.slice (some ⟨w5.heap.size, 0, none⟩) 1 1) 1 (ints [0]) by
    rw [← hX]
    refine ⟨rfl, .inr ⟨w5.heap.size, 1, #[.int .i64 0], rfl, by have := HSZ5.out; omega, ?_, by omega, by unfold maxLen; omega, rfl, rfl⟩⟩
    have := heap_alloc_new (w5.setCell ⟨U, 0, none⟩ (.bool true)) (.cells #[.int .i64 0] 3)
    rwa [show (w5.setCell ⟨U, 0, none⟩ (.bool true)).heap.size = w5.heap.size by simp] at this)
  try rw [hX]
  clear cz fz uz e1 el ene hX
  go_loopw [8, 9] (fun s p wr => ∃ (t : List Nat) (us : List Bool) (v f : Nat), p = .int .i64 v ∧ v < n ∧ us.length = SS.length ∧ t.length ≤ SS.length ∧ lenV s = t.length ∧ Hid (tourF n SS f v t us = some T) ∧ Hid (wr.ownsRow (U + 1) 3 1 s t.length (ints t)) ∧ Hid (Blk wr U (bools us) 4) ∧ Hid (Below U w4 wr)) (fun s _ _ => SS.length - lenV s)
  case atStart => exact ⟨[0], _, q0, SS.length, rfl, HQ0.out, by simp, by simp; omega, rfl, Lib.hid (by have := HT.out; unfold tourS at this; rw [HS0.out] at this; exact this), HOX, HUX, HBX⟩
  case round =>
    clear HOX HUX HBX HSZ5 HU5 HB5
    obtain ⟨t, us, v, f, rfl, hvn, hus, htl, hlv, hF, hO, hU, hB⟩ := hrel
    obtain ⟨ta, tc, rfl⟩ := own_formK hO.out
    by_cases htm : t.length < SS.length
    · obtain ⟨f', i0, hN, hF2⟩ := tourF_step hF.out htm
      have HF2 := Lib.hid hF2
      have hRw := HRW.out.below hB.out (Nat.le_of_eq HUU.out)
      have hvl : v < (outs n SS).length := by rw [outs, outsAt_len]; exact hvn
      have hvv : v < vs.length := by rw [hRw.len]; exact hvl
      have hgD : (outs n SS).getD v [] = (outs n SS)[v] := by rw [List.getD_eq_getElem?_getD, List.getElem?_eq_getElem hvl]; rfl
      rw [hgD] at hN
      have hOm : ∀ i ∈ (outs n SS)[v], i < SS.length := fun i hi => outs_mem hvl hi
      have hown := hRw.own v hvv hvl
      obtain ⟨O, hOO⟩ : ∃ O, (outs n SS)[v] = O := ⟨_, rfl⟩
      rw [hOO] at hN hOm hown
      have hO0 : 0 < O.length := by
        rcases O with _ | ⟨x, l⟩
        · cases hN
        · simp
      obtain ⟨og, oc, hog⟩ := own_pos1 hown hO0
      have c0 : wr.cell? ⟨L, v, none⟩ = some (.slice (some ⟨og, 0, none⟩) O.length oc) := hRw.blk.cell v _ (by rw [← hog]; simp [hvv])
      rw [hog] at hown
      have HOG := Lib.hid hown
      have HOM := Lib.hid hOm
      have hgL := hRw.blk.lt
      have p1 : (0 : Int) ≤ (v : Int) := by omega
      have p2 : (v : Int) < (n : Int) := by omega
      have HWR := Lib.hid (show og < wr.heap.size from (hown.lt og rfl).2)
      have HN0 := Lib.hid (show nextA n SS us (O.drop 0) = some i0 from hN)
      have hOl : O.length ≤ 256 := by
        rw [← hOO]
        simp only [outs, outsAt, List.getElem_map, List.getElem_range]
        exact Nat.le_trans (List.length_filter_le _ _) (by simp; omega)
      have HC0 := Lib.hid hown
      obtain ⟨w6, hw6⟩ : ∃ w6 : World, w6 = wr := ⟨wr, rfl⟩
      have HO6 := Lib.hid (show w6.ownsRow (U + 1) 3 1 (.slice ta t.length tc) t.length (ints t) by rw [hw6]; exact hO.out)
      have HU6 := Lib.hid (show Blk w6 U (bools us) 4 by rw [hw6]; exact hU.out)
      have HB6 := Lib.hid (show Below U w4 w6 by rw [hw6]; exact hB.out)
      have HG6 := Lib.hid (show w6.ownsRow C 3 1 (.slice (some ⟨og, 0, none⟩) O.length oc) O.length (ints O) by rw [hw6]; exact hown)
      clear hN hF hF2 hOO hog hRw hgD hOm hown
      go_wp2
      clear c0
      go_loopw [8, 9, 48] (fun s p q wr => ∃ k : Nat, k ≤ O.length ∧ q = .int .i64 k ∧ s = .slice ta t.length tc ∧ p = .int .i64 v ∧ Hid (nextA n SS us (O.drop k) = some i0) ∧ Hid (wr.ownsRow (U + 1) 3 1 (.slice ta t.length tc) t.length (ints t)) ∧ Hid (Blk wr U (bools us) 4) ∧ Hid (Below U w4 wr) ∧ Hid (wr.ownsRow C 3 1 (.slice (some ⟨og, 0, none⟩) O.length oc) O.length (ints O))) (fun _ _ q _ => O.length - (intOf q).toNat)
      case atStart => exact ⟨0, Nat.zero_le _, rfl, rfl, rfl, HN0, by rw [← hw6]; exact HO6, by rw [← hw6]; exact HU6, by rw [← hw6]; exact HB6, by rw [← hw6]; exact HG6⟩
      case round =>
        clear HN0 HO6 HU6 HB6 HG6 HC0 hO hU hB hgL HWR
        obtain ⟨k, hk, rfl, rfl, rfl, hN, hO, hU, hB, hG⟩ := hrel
        by_cases hkn : k < O.length
        · obtain ⟨i, hi⟩ : ∃ i, O[k] = i := ⟨_, rfl⟩
          have him : i < SS.length := by rw [← hi]; exact HOM.out _ (List.getElem_mem hkn)
          have hiu : i < us.length := by rw [hus]; exact him
          have hdr : O.drop k = i :: O.drop (k + 1) := by rw [List.drop_eq_getElem_cons hkn, hi]
          have hN2 := hN.out
          rw [hdr] at hN2
          have c1 : wr.cell? ⟨og, k, none⟩ = some (.int .i64 (i : Nat)) := by
            have h1 : k < (ints O).length := by simp [ints]; exact hkn
            obtain ⟨u, e1, e2, -⟩ := own_at hG.out hkn
            rw [ints_at O k hkn, hi] at e1
            rw [e2, ← e1]
          have c2 : wr.cell? ⟨U, i, none⟩ = some (.bool us[i]) := hU.out.cell i _ (bools_at us i hiu)
          have cf := hU.out.free i; have cl := hU.out.lt
          have hgl := (hG.out.lt og rfl).2
          have p3 : (0 : Int) ≤ (k : Int) := by omega
          have p4 : (k : Int) < (O.length : Int) := by omega
          have p5 : (0 : Int) ≤ (i : Int) := by omega
          have p6 : (i : Int) < (SS.length : Int) := by omega
          cases hui : us[i]
          rotate_left
          · rw [hui] at c2
            have HN := Lib.hid (show nextA n SS us (O.drop (k + 1)) = some i0 by
              unfold nextA at hN2
              rw [if_neg (by rw [List.getElem?_eq_getElem hiu, hui]; simp)] at hN2
              exact hN2)
            clear hui hN2 hdr hi
            go_wp2
            go_roundw
            case rel => exact ⟨k + 1, by omega, by go_num, rfl, rfl, HN, hO, hU, hB, hG⟩
            case measure => simp [intOf]; omega
          · rw [hui] at c2
            obtain ⟨⟨x, y⟩, hx⟩ : ∃ x, SS[i] = x := ⟨_, rfl⟩
            have hgi : SS.getD i (0, 0) = (x, y) := by rw [List.getD_eq_getElem?_getD, List.getElem?_eq_getElem him, hx]; rfl
            have hyn : y < n := by have := (HRG.out _ (List.getElem_mem him)).2; rw [hx] at this; exact this
            have e1 : wr.cell? ⟨eb, eo + i * 2 + 1, none⟩ = some (.int .i64 (y : Nat)) := by
              have := HEP.out.2 i him 1 (.int .i64 (y : Nat)) (by rw [hx]; rfl)
              exact (World.cell?_of_block (a := ⟨eb, eo + i * 2 + 1, none⟩) (hB.out.block eb (by omega))).trans this
            have ebl : eb < wr.heap.size := by omega
            have ene : eb ≠ U := by omega
            have g0 : wr.cell? ⟨D, 0, none⟩ = some (.int .i64 (n : Nat)) := (HK4.out.below hB.out (Nat.le_of_eq HUU.out)).cell 0 _ rfl
            have gl : D < wr.heap.size := by have := HDU.out; omega
            have gne : D ≠ U := by have := HDU.out; omega
            obtain ⟨X, hX⟩ : ∃ X, wr.setCell ⟨U, i, none⟩ (.bool true) = X := ⟨_, rfl⟩
            have HUX := Lib.hid (show Blk X U (bools (us.set i true)) 4 by rw [← hX, ← bools_set]; exact hU.out.set i (.bool true))
            have HBX := Lib.hid (show Below U w4 X by rw [← hX]; exact hB.out.setCell (p := ⟨U, i, none⟩) (Nat.le_refl U) _)
            have HOX := Lib.hid (show X.ownsRow (U + 1) 3 1 (.slice ta t.length tc) t.length (ints t) by rw [← hX]; exact own_otherK hO.out (fun e => by have := own_ge hO.out _ e; omega))
            have HGX := Lib.hid (show X.ownsRow C 3 1 (.slice (some ⟨og, 0, none⟩) O.length oc) O.length (ints O) by rw [← hX]; exact own_otherK hG.out (own_apartB1 hG.out hU.out (by decide)))
            have HX := Lib.hid hX
            have HSX := Lib.hid (show X.heap.size = wr.heap.size by rw [← hX]; simp)
            have HCN := Lib.hid (fun (W' : World) (h1 : Below U w4 W') (h2 : Blk W' U (bools (us.set i true)) 4) => show Calls Tryz.prog 57 #[.int .i64 (n : Nat), .int .i64 (y : Nat), .slice ea SS.length ec, .slice (some ⟨U, 0, none⟩) SS.length SS.length] W' (Rets fun r w' => r = .bool (connB n y SS (us.set i true)) ∧ Below W'.heap.size W' w') from (connected_ok W' n y (.slice ea SS.length ec) (.slice (some ⟨U, 0, none⟩) SS.length SS.length) SS (us.set i true) (HE4.out.below h1 (Nat.le_of_eq HUU.out)) (slk_bools h2 (by rw [List.length_set]; exact hus) (by unfold maxLen; omega)) (by rw [List.length_set]; exact hus) HRG.out n12 hyn (by omega)).mono (by
              rintro e w' ⟨r, he, hp⟩
              exact ⟨r, he, connB_ok HRG.out hyn hp⟩))
            cases hcb : connB n y SS (us.set i true)
            · have HN := Lib.hid (show nextA n SS us (O.drop (k + 1)) = some i0 by
                unfold nextA at hN2
                rw [if_neg (by rw [hgi, hcb]; simp)] at hN2
                exact hN2)
              have HUS := Lib.hid (show (us.set i true).set i false = us by
                rw [List.set_set]
                apply List.ext_getElem (by simp)
                intro j h1 h2
                rw [List.getElem_set]
                split
                · rename_i e; subst e; exact hui.symm
                · rfl)
              rw [hcb] at HCN
              clear hui hN2 hdr hi hx hgi hcb hX
              go_wp2_with ((go_at_call 57); rw [HX.out]; (with_reducible refine (HCN.out X HBX.out HUX.out).mono ?_); rintro e w7 ⟨v7, rfl, rfl, hb7⟩; have HU7 := Lib.hid (HUX.out.below hb7 (Nat.le_refl _)); have HB7 := Lib.hid (HBX.out.trans (hb7.mono (by rw [← HUU.out]; exact HBX.out.size))); have HO7 := Lib.hid (own_belowK HOX.out hb7 (Nat.le_refl _)); have HG7 := Lib.hid (own_belowK HGX.out hb7 (Nat.le_refl _)); have cz7 := HU7.out.cell i _ (bools_at (us.set i true) i (by rw [List.length_set]; exact hiu)); have cf7 := HU7.out.free i; have cl7 := HU7.out.lt; clear hb7)
              go_roundw
              case rel => exact ⟨k + 1, by omega, by go_num, rfl, rfl, HN, Lib.hid (own_otherK HO7.out (fun e => by have := own_ge HO7.out _ e; omega)), Lib.hid (by have := HU7.out.set i (.bool false); rw [bools_set, HUS.out] at this; exact this), Lib.hid (HB7.out.setCell (p := ⟨U, i, none⟩) (Nat.le_refl U) _), Lib.hid (own_otherK HG7.out (own_apartB1 HG7.out HU7.out (by decide)))⟩
              case measure => simp [intOf]; omega
            · have hii : i0 = i := by
                unfold nextA at hN2
                rw [if_pos ⟨by rw [List.getElem?_eq_getElem hiu, hui], by rw [hgi]; exact hcb⟩] at hN2
                exact (Option.some.inj hN2).symm
              subst hii
              rw [hcb] at HCN
              rw [hgi] at HF2
              have HL1 := Lib.hid (show (t.length + 1) * 8 ≤ 140737488355328 by omega)
              have HL2 := Lib.hid (show t.length + 1 ≤ maxLen by unfold maxLen; omega)
              clear hui hN2 hdr hi hx hgi hcb hX
              go_wp2_with (first
                | (go_at_call 57; rw [HX.out]; (with_reducible refine (HCN.out X HBX.out HUX.out).mono ?_); rintro e w7 ⟨v7, rfl, rfl, hb7⟩; have HU7 := Lib.hid (HUX.out.below hb7 (Nat.le_refl _)); have HB7 := Lib.hid (HBX.out.trans (hb7.mono (by rw [← HUU.out]; exact HBX.out.size))); have HO7 := Lib.hid (own_belowK HOX.out hb7 (Nat.le_refl _)); have HZ7 := Lib.hid (show U + 1 ≤ w7.heap.size from HU7.out.lt); clear hb7)
                | (at_builtin; refine appMG (w0 := w7) (W := w4) (B := U) (m := 1) (news := [.int .i64 (i0 : Nat)]) elemI rfl _ _ rfl rfl rfl HO7.out HB7.out (Nat.le_succ U) HZ7.out rfl (by intro u hu; simp at hu; subst hu; rfl) HL1.out HL2.out ?_; intro v' w8 hown' hb8 hg8 hat8; obtain ⟨va, vc, rfl⟩ := own_formK hown'; have HO8 := Lib.hid hown'; have HB8 := Lib.hid hb8; have HU8 := Lib.hid ((hg8.block U (by rw [World.size_alloc]; have := HU7.out.lt; omega) (fun e => by have := own_ge HO7.out _ e.symm; omega)).trans (HU7.out.alloc (.cells [Value.int .i64 (i0 : Nat)].toArray 3))); clear hown' hb8 hg8 hat8))
              go_roundw
              case rel => exact ⟨t ++ [i0], us.set i0 true, y, f', rfl, hyn, by rw [List.length_set]; exact hus, by simp; omega, by simp [lenV], HF2, Lib.hid (by rw [← ints_snoc]; exact ownsRow_cast HO8.out (by simp) rfl), HU8, HB8⟩
              case measure => simp [lenV]; omega
        · exfalso
          have hN2 := hN.out
          rw [List.drop_eq_nil_of_le (by omega)] at hN2
          cases hN2
    · have hT9 := tourF_end hF.out (by omega)
      subst hT9
      have HQ := Lib.hid (show Below D w wr from HD4.out.trans (hB.out.mono (Nat.le_of_lt HDU.out)))
      have HSL := Lib.hid (show SlK i1 1 wr (.slice ta t.length tc) t by
        have := hO.out
        rw [ints_flat] at this
        exact SlK.ofOwns i1_len this rfl)
      have d5 : decide ((t.length : Int) < (SS.length : Int)) = false := by simp only [decide_eq_false_iff_not]; omega
      have d6 : decide (t.length < SS.length) = false := by simp only [decide_eq_false_iff_not]; omega
      go_wp2
      go_ret2
      exact ⟨_, rfl, _, rfl, HSL.out, by rw [hD]; exact HQ.out⟩
end Go.Proofs.YtlnhocgjgmhfgaaGreatDoor

namespace Go.Proofs.YtlnhocgjgmhfgaaGreatDoor
open Go.RowKit

theorem tw_keys {n : Int} {es : List (Int × Int × Int)} {ns : List (Nat × Nat × Nat)} (h : RG n es ns) : (tw ns).Pairwise fun x y => ¬ (x.1 = y.1 ∧ x.2.1 = y.2.1) := by
  unfold tw
  rw [List.pairwise_flatMap]
  refine ⟨fun x hx => ?_, ?_⟩
  · unfold tw1
    split
    · simp
    · rename_i hne
      simp only [List.pairwise_cons, List.mem_singleton, List.not_mem_nil, false_implies, implies_true, List.Pairwise.nil, and_true]
      intro y hy
      subst hy
      simp only; omega
  · refine (List.Pairwise.and_mem.1 h.asc).imp ?_
    rintro x y ⟨hx, hy, hlt⟩ u hu v hv
    have h1 := (h.rng x hx).2.2.2.2
    have h2 := (h.rng y hy).2.2.2.2
    unfold tw1 at hu hv
    split at hu <;> split at hv <;> simp at hu hv
    · subst hu hv; simp only; omega
    · subst hu; rcases hv with rfl | rfl <;> (simp only; omega)
    · subst hv; rcases hu with rfl | rfl <;> (simp only; omega)
    · rcases hu with rfl | rfl <;> rcases hv with rfl | rfl <;> (simp only; omega)
theorem tw_rng {n : Nat} {es : List (Int × Int × Int)} {ns : List (Nat × Nat × Nat)} (h : RG (n : Int) es ns) (hb : ∀ x ∈ ns, x.1 = x.2.1 → 2 * x.2.2 ≤ 50) : ∀ x ∈ tw ns, x.1 < n ∧ x.2.1 < n ∧ 1 ≤ x.2.2 ∧ x.2.2 ≤ 50 := by
  intro x hx
  simp only [tw, List.mem_flatMap] at hx
  obtain ⟨y, hy, hx⟩ := hx
  have h1 := h.rng y hy
  have h2 := hb y hy
  unfold tw1 at hx
  split at hx
  · rename_i he
    have h3 := h2 he
    simp at hx; subst hx; simp only; omega
  · simp at hx; rcases hx with rfl | rfl <;> (simp only; omega)
/-- What TwoWay answers is a right digraph. -/
theorem tw_rd {n : Nat} {es : List (Int × Int × Int)} {ns ys : List (Nat × Nat × Nat)} (h : RG (n : Int) es ns) (hb : ∀ x ∈ ns, x.1 = x.2.1 → 2 * x.2.2 ≤ 50) (hp : ys.Perm (tw ns)) (hs : ys.Pairwise fun x y => ¬ (y.1 < x.1 ∨ (y.1 = x.1 ∧ y.2.1 < x.2.1))) : RD n ys := by
  refine ⟨by have := h.pos; omega, by have := h.le; omega, fun x hx => tw_rng h hb x (hp.mem_iff.1 hx), ?_⟩
  have hk : ys.Pairwise fun x y => ¬ (x.1 = y.1 ∧ x.2.1 = y.2.1) := (hp.pairwise_iff (fun h e => h ⟨e.1.symm, e.2.symm⟩)).2 (tw_keys h)
  refine (hs.and hk).imp ?_
  rintro x y ⟨h1, h2⟩
  omega
end Go.Proofs.YtlnhocgjgmhfgaaGreatDoor

namespace Go.Proofs.YtlnhocgjgmhfgaaGreatDoor
open Go.RowKit
set_option maxRecDepth 100000

def dbl : List (Nat × Nat × Nat) := [(0, 1, 2), (1, 0, 2)]
def tri : List (Nat × Nat × Nat) := [(0, 1, 1), (0, 2, 1), (1, 2, 1)]
def tri2 : List (Nat × Nat × Nat) := [(0, 1, 1), (0, 2, 1), (1, 0, 1), (1, 2, 1), (2, 0, 1), (2, 1, 1)]

theorem dbl_rd : RD 2 dbl := ⟨by decide, by decide, by decide, by unfold dbl; simp⟩
theorem tri2_rd : RD 3 tri2 := ⟨by decide, by decide, by decide, by unfold tri2; simp⟩
theorem tri_rg : RG 3 (tri.map n3) tri := ⟨rfl, by decide, by decide, by decide, by unfold tri; simp⟩
theorem dbl_eul : EulC 2 dbl := by
  refine ⟨by unfold dbl; simp, by decide, fun l hE hT _ i x h1 h2 => ?_⟩
  have hT0 : Tr l 0 := hT
  have hT1 : Tr l 1 := hE.clo 0 (0, 1) rfl rfl hT0 (tr_rep 2 0)
  match i, h1 with
  | 0, h1 => simp [ends1, dbl] at h1; subst h1; exact hT0
  | 1, h1 => simp [ends1, dbl] at h1; subst h1; exact hT1
  | i + 2, h1 => simp [ends1, dbl] at h1
theorem tri2_eul : EulC 3 tri2 := by
  refine ⟨by unfold tri2; simp, by decide, fun l hE hT _ i x h1 h2 => ?_⟩
  have hT0 : Tr l 0 := hT
  have hT1 : Tr l 1 := hE.clo 0 (0, 1) rfl rfl hT0 (tr_rep 3 0)
  have hT2 : Tr l 2 := hE.clo 1 (0, 2) rfl rfl hT0 (tr_rep 3 0)
  match i, h1 with
  | 0, h1 => simp [ends1, tri2] at h1; subst h1; exact hT0
  | 1, h1 => simp [ends1, tri2] at h1; subst h1; exact hT0
  | 2, h1 => simp [ends1, tri2] at h1; subst h1; exact hT1
  | 3, h1 => simp [ends1, tri2] at h1; subst h1; exact hT1
  | 4, h1 => simp [ends1, tri2] at h1; subst h1; exact hT2
  | 5, h1 => simp [ends1, tri2] at h1; subst h1; exact hT2
  | i + 6, h1 => simp [ends1, tri2] at h1
theorem dbl_good : GoodU 2 (sgl dbl) 0 [0, 0] := by
  refine ⟨by decide, rfl, fun v hv => ?_, fun v hv => ?_, fun v hv => ?_⟩
  · match v, hv with
    | 0, _ => decide
    | 1, _ => decide
  · match v, hv with
    | 0, _ => decide
    | 1, _ => decide
  · match v, hv with
    | 0, _ => exact ⟨0, rfl⟩
    | 1, _ => exact ⟨1, by decide⟩
theorem dbl_run : Rot.run (sgl dbl) (rot [0, 0]) 0 4 = (0, [1, 3, 0, 2]) := by decide
theorem dbl_rotK : rotK (sgl dbl) [0, 0] 2 [1, 3, 0, 2] = [0, 0] := by decide
theorem tri_ys {ys : List (Nat × Nat × Nat)} (hp : ys.Perm (tw tri)) (hs : ys.Pairwise fun x y => ¬ (y.1 < x.1 ∨ (y.1 = x.1 ∧ y.2.1 < x.2.1))) : ys = tri2 := by
  have h2 : (tw tri).Perm tri2 := by decide
  have hp2 := hp.trans h2
  have h1 : ∀ x ∈ tri2, x.2.2 = 1 := by decide
  refine List.Perm.eq_of_pairwise (fun a b ha hb h3 h4 => ?_) hs ?_ hp2
  · have := h1 a (hp2.mem_iff.1 ha)
    have := h1 b hb
    obtain ⟨a1, a2, a3⟩ := a; obtain ⟨b1, b2, b3⟩ := b
    simp only [Prod.mk.injEq] at *
    omega
  · unfold tri2; simp
theorem dbl_det : txt (det (atN 2 0).length (rtM (atN 2 0) dbl)) = ⟨#[50]⟩ := by decide +kernel
theorem tri2_det : txt (det (atN 3 0).length (rtM (atN 3 0) tri2)) = ⟨#[51]⟩ := by decide +kernel

set_option maxHeartbeats 2000000 in
theorem Double_any (w : World) : Calls Tryz.prog 33 #[] w (Rets fun v w' => ∃ u, v = .agg #[.int .i64 2, u] ∧ SlK e3 3 w' u (dbl.map n3) ∧ Below w.heap.size w w') := by
  have HO := Lib.hid (fun o : Obj => show ((w.alloc o).alloc (.cells #[.int .i64 0, .int .i64 1, .int .i64 2, .int .i64 1, .int .i64 0, .int .i64 2] 83)).ownsRow 0 83 3 (.slice (some ⟨w.heap.size + 1, 0, none⟩) 2 2) 2 ((dbl.map n3).flatMap e3) by
    refine ⟨rfl, .inr ⟨w.heap.size + 1, 2, #[.int .i64 0, .int .i64 1, .int .i64 2, .int .i64 1, .int .i64 0, .int .i64 2], rfl, Nat.zero_le _, ?_, by omega, by unfold maxLen; omega, rfl, rfl⟩⟩
    have := heap_alloc_new (w.alloc o) (.cells #[.int .i64 0, .int .i64 1, .int .i64 2, .int .i64 1, .int .i64 0, .int .i64 2] 83)
    rw [World.size_alloc] at this
    exact this)
  go_enter Tryz.func33, Tryz.ntmps33
  go_wp2
  have HK := (Blk.new w [.int .i64 2, .slice (some ⟨w.heap.size + 1, 0, none⟩) 2 2] 28).alloc (.cells #[.int .i64 0, .int .i64 1, .int .i64 2, .int .i64 1, .int .i64 0, .int .i64 2] 83)
  have y0 := HK.cell 0 _ rfl; have y1 := HK.cell 1 _ rfl
  refine bodyPost_ret (v := .agg #[.int .i64 2, .slice (some ⟨w.heap.size + 1, 0, none⟩) 2 2]) (by simp [results, Tryz.results33, go_sem, y0, y1]) rfl ⟨_, rfl, _, rfl, SlK.ofOwns e3_len (HO.out _) rfl, ((Below.refl _ w).alloc (Nat.le_refl _) _).alloc (by simp) _⟩

set_option maxHeartbeats 2000000 in
theorem Triangle_any (w : World) : Calls Tryz.prog 36 #[] w (Rets fun v w' => ∃ u, v = .agg #[.int .i64 3, u] ∧ SlK e3 3 w' u (tri.map n3) ∧ Below w.heap.size w w') := by
  have HO := Lib.hid (fun o : Obj => show ((w.alloc o).alloc (.cells #[.int .i64 0, .int .i64 1, .int .i64 1, .int .i64 0, .int .i64 2, .int .i64 1, .int .i64 1, .int .i64 2, .int .i64 1] 81)).ownsRow 0 81 3 (.slice (some ⟨w.heap.size + 1, 0, none⟩) 3 3) 3 ((tri.map n3).flatMap e3) by
    refine ⟨rfl, .inr ⟨w.heap.size + 1, 3, #[.int .i64 0, .int .i64 1, .int .i64 1, .int .i64 0, .int .i64 2, .int .i64 1, .int .i64 1, .int .i64 2, .int .i64 1], rfl, Nat.zero_le _, ?_, by omega, by unfold maxLen; omega, rfl, rfl⟩⟩
    have := heap_alloc_new (w.alloc o) (.cells #[.int .i64 0, .int .i64 1, .int .i64 1, .int .i64 0, .int .i64 2, .int .i64 1, .int .i64 1, .int .i64 2, .int .i64 1] 81)
    rw [World.size_alloc] at this
    exact this)
  go_enter Tryz.func36, Tryz.ntmps36
  go_wp2
  have HK := (Blk.new w [.int .i64 3, .slice (some ⟨w.heap.size + 1, 0, none⟩) 3 3] 24).alloc (.cells #[.int .i64 0, .int .i64 1, .int .i64 1, .int .i64 0, .int .i64 2, .int .i64 1, .int .i64 1, .int .i64 2, .int .i64 1] 81)
  have y0 := HK.cell 0 _ rfl; have y1 := HK.cell 1 _ rfl
  refine bodyPost_ret (v := .agg #[.int .i64 3, .slice (some ⟨w.heap.size + 1, 0, none⟩) 3 3]) (by simp [results, Tryz.results36, go_sem, y0, y1]) rfl ⟨_, rfl, _, rfl, SlK.ofOwns e3_len (HO.out _) rfl, ((Below.refl _ w).alloc (Nat.le_refl _) _).alloc (by simp) _⟩

theorem sgl_dbl : sgl dbl = [(0, 1), (0, 1), (1, 0), (1, 0)] := rfl
theorem sgl_tri2 : sgl tri2 = [(0, 1), (0, 2), (1, 0), (1, 2), (2, 0), (2, 1)] := rfl

theorem dTour (w : World) (v : Value) (hv : SlK e3 3 w v (dbl.map n3)) :
    Calls Tryz.prog 31 #[.agg #[.int .i64 2, v]] w (Rets fun r w' => ∃ u, r = .tuple #[u, .int .i64 0] ∧ SlK i1 1 w' u [0, 2, 1, 3] ∧ Below w.heap.size w w') :=
  Tour_ok w 2 v dbl _ dbl_rd hv (by decide) dbl_eul (by decide) (by decide) (by rw [sgl_dbl]; exact tour_ex1)
theorem tTour (w : World) (v : Value) (hv : SlK e3 3 w v (tri2.map n3)) :
    Calls Tryz.prog 31 #[.agg #[.int .i64 3, v]] w (Rets fun r w' => ∃ u, r = .tuple #[u, .int .i64 0] ∧ SlK i1 1 w' u [0, 2, 1, 5, 3, 4] ∧ Below w.heap.size w w') :=
  Tour_ok w 3 v tri2 _ tri2_rd hv (by decide) tri2_eul (by decide) (by decide) (by rw [sgl_tri2]; exact tour_ex2)
theorem dTours (w : World) (v : Value) (hv : SlK e3 3 w v (dbl.map n3)) (he : Env w) :
    Calls Tryz.prog 34 #[.agg #[.int .i64 2, v]] w (Rets fun r w' => r = .tuple #[.string ⟨#[50]⟩, .int .i64 0] ∧ Below w.heap.size w w') := by
  rw [← dbl_det]
  exact Tours_ok w 2 v dbl dbl_rd hv (by decide) dbl_eul (by decide) (by decide) (by decide) he
theorem tTours (w : World) (v : Value) (hv : SlK e3 3 w v (tri2.map n3)) (he : Env w) :
    Calls Tryz.prog 34 #[.agg #[.int .i64 3, v]] w (Rets fun r w' => r = .tuple #[.string ⟨#[51]⟩, .int .i64 0] ∧ Below w.heap.size w w') := by
  rw [← tri2_det]
  exact Tours_ok w 3 v tri2 tri2_rd hv (by decide) tri2_eul (by decide) (by decide) (by decide) he
theorem dTrees (w : World) (v : Value) (hv : SlK e3 3 w v (dbl.map n3)) (he : Env w) :
    Calls Tryz.prog 35 #[.agg #[.int .i64 2, v], .int .i64 0] w (Rets fun r w' => r = .tuple #[.string ⟨#[50]⟩, .int .i64 0] ∧ Below w.heap.size w w') := by
  rw [← dbl_det]
  exact Trees_ok w 2 v dbl 0 dbl_rd hv (by decide) (by decide) (by decide) (by decide) he
theorem tTrees (w : World) (v : Value) (hv : SlK e3 3 w v (tri2.map n3)) (he : Env w) :
    Calls Tryz.prog 35 #[.agg #[.int .i64 3, v], .int .i64 0] w (Rets fun r w' => r = .tuple #[.string ⟨#[51]⟩, .int .i64 0] ∧ Below w.heap.size w w') := by
  rw [← tri2_det]
  exact Trees_ok w 3 v tri2 0 tri2_rd hv (by decide) (by decide) (by decide) (by decide) he
theorem triTwo (w : World) (v : Value) (hv : SlK e3 3 w v (tri.map n3)) :
    Calls Tryz.prog 9 #[.agg #[.int .i64 3, v]] w (Rets fun r w' => ∃ u, r = .tuple #[.agg #[.int .i64 3, u], .int .i64 0] ∧ SlK e3 3 w' u (tri2.map n3) ∧ Below w.heap.size w w') := by
  refine (TwoWay_ok w 3 v _ tri hv tri_rg (by decide) (by decide) (by decide)).mono ?_
  rintro r w1 ⟨x, hx, u, ys, rfl, hp, hs, ho, hb⟩
  have := tri_ys hp hs
  subst this
  exact ⟨_, hx, u, rfl, SlK.ofOwns e3_len (show w1.ownsRow w.heap.size _ 3 u (tri2.map n3).length ((tri2.map n3).flatMap e3) from ho) rfl, hb⟩
theorem dWalk (w : World) (v u : Value) (hv : SlK e3 3 w v (dbl.map n3)) (hu : SlK iz 1 w u [0, 0]) :
    Calls Tryz.prog 13 #[.agg #[.int .i64 2, v], .agg #[.int .i64 0, u], .int .i64 4] w (Rets fun r w' => ∃ x y, r = .tuple #[.agg #[.int .i64 0, x], y, .int .i64 0] ∧ SlK iz 1 w' x [0, 0] ∧ SlK i1 1 w' y [1, 3, 0, 2] ∧ Below w.heap.size w w') := by
  refine (EWalk_ok w 2 v dbl 0 u [0, 0] 4 dbl_rd hv (by decide) hu dbl_eul dbl_good (by decide)).mono ?_
  rintro r w1 ⟨z, hz, q, cap, way, rfl, h1, h2, hb⟩
  rw [dbl_run] at h1 h2 hz
  rw [dbl_rotK] at h1
  exact ⟨_, hz, _, _, rfl, SlK.ofOwns (fun _ => rfl) (show w1.ownsRow w.heap.size _ 1 _ ([0, 0] : List Int).length (([0, 0] : List Int).flatMap iz) from h1) rfl, SlK.ofOwns i1_len (show w1.ownsRow w.heap.size _ 1 _ ([1, 3, 0, 2] : List Nat).length (([1, 3, 0, 2] : List Nat).flatMap i1) from h2) rfl, hb⟩
end Go.Proofs.YtlnhocgjgmhfgaaGreatDoor

namespace Go.Proofs.YtlnhocgjgmhfgaaGreatDoor
open Go.RowKit
set_option maxRecDepth 100000

section
variable {P : Program} {ops : Array Oper} {Q : Exit → Act → World → Prop} {md : Region.Mode} {S : World → Prop} {A : Nat → Bool}
/-- Two operations may come up. -/
theorem wpAnyJ_twoE {i j : Nat} {o o' : Oper} {fuel : Nat} {listed : Array Bool} {a : Act} {w : World} (hr : Region.ready md ops listed = [i, j]) (ho : ops[i]? = some o) (ho' : ops[j]? = some o')
    (h : ∀ K' : Act → World → Prop, Shut (∀ a w, (A i = true → S w) → wpAnyJ P md ops Q S A fuel (listed.setIfInBounds i true) a w → K' a w) → if Region.wanted o (yielded ops a.tmps) = true then Oper.wp P o a w K' Q else K' (a.put o.dst undef) w)
    (h' : ∀ K' : Act → World → Prop, Shut (∀ a w, (A j = true → S w) → wpAnyJ P md ops Q S A fuel (listed.setIfInBounds j true) a w → K' a w) → if Region.wanted o' (yielded ops a.tmps) = true then Oper.wp P o' a w K' Q else K' (a.put o'.dst undef) w) :
    wpAnyJ P md ops Q S A (fuel + 1) listed a w :=
  ⟨fun h0 => absurd (hr ▸ h0) (by simp), by
    rw [hr]
    intro k hk
    rcases List.mem_cons.1 hk with rfl | hk
    · exact wpOp_step ho (fun K' hK => h K' (fun a w hS hW => hK a w ⟨hS, hW⟩))
    · rw [List.mem_singleton] at hk
      subst hk
      exact wpOp_step ho' (fun K' hK => h' K' (fun a w hS hW => hK a w ⟨hS, hW⟩))⟩
end
/-- A slice of ints still reads so when a block of an int and a slice is written. -/
theorem slk_off2 {α : Type} {enc : α → List Value} {f : α → Int} (hen : ∀ x, enc x = [.int .i64 (f x)]) {w : World} {g : Nat} {v : Value} {xs : List α} {T : TypeId} {x : Int} {a : Option Addr} {n c : Nat} (h : SlK enc 1 w v xs) (hl : 2 ≤ xs.length) (hk : Blk w g [.int .i64 x, .slice a n c] T) (u1 u2 : Value) :
    SlK enc 1 ((w.setCell ⟨g, 0, none⟩ u1).setCell ⟨g, 1, none⟩ u2) v xs := by
  obtain ⟨ad, b, o, cp, rfl, ha, hc, hm, hn, hx⟩ := h
  have hne : b ≠ g := by
    rintro rfl
    have c0 := hx.2 0 (by omega) 0 (.int .i64 (f xs[0])) (by rw [hen]; rfl)
    have c1 := hx.2 1 (by omega) 0 (.int .i64 (f xs[1])) (by rw [hen]; rfl)
    rw [cell_of_row w b _ _ T (0, 0) hk] at c0 c1
    match o with
    | 0 => simp at c1
    | 1 => simp at c0
    | o + 2 =>
      rw [Array.getElem?_eq_none (by simp)] at c0
      simp at c0
  have e1 : ∀ i, ((w.setCell ⟨g, 0, none⟩ u1).setCell ⟨g, 1, none⟩ u2).cell? ⟨b, i, none⟩ = w.cell? ⟨b, i, none⟩ := fun i => by
    have e2 : ∀ (W : World) (j : Nat) (u : Value), (W.setCell ⟨g, j, none⟩ u).heap[b]? = W.heap[b]? := fun W j u => Below.heap_setCell _ _ _ _ hne
    simp only [World.cell?, e2]
  refine ⟨ad, b, o, cp, rfl, ha, hc, hm, hn, fun h0 => by simpa [World.setCell] using hx.1 h0, fun i hi j u hu => ?_⟩
  rw [e1]
  exact hx.2 i hi j u hu

set_option maxHeartbeats 8000000 in
theorem awake47 (w : World) (he : Env w) : Calls Tryz.prog 8 #[] w (Rets fun v w' => v = .bool true ∧ Below w.heap.size w w') := by
  have HE := Lib.hid he
  clear he
  have q0 := Below.refl w.heap.size w
  have A0 := Lib.hid (fun (w1 : World) (o : Obj) => (Below.refl w1.heap.size w1).alloc (Nat.le_refl _) o)
  have L1 := Lib.hid (fun (w1 : World) (e : TypeId) => show SlK i1 1 (w1.alloc (.cells #[.int .i64 0, .int .i64 2, .int .i64 1, .int .i64 3] e)) (.slice (some ⟨w1.heap.size, 0, none⟩) 4 4) [0, 2, 1, 3] from SlK.ofOwns (base := 0) (e := e) (fun _ => rfl) (show World.ownsRow (w1.alloc (.cells #[.int .i64 0, .int .i64 2, .int .i64 1, .int .i64 3] e)) 0 e 1 (.slice (some ⟨w1.heap.size, 0, none⟩) 4 4) 4 (([0, 2, 1, 3] : List Nat).flatMap i1) from ⟨rfl, .inr ⟨w1.heap.size, 4, #[.int .i64 0, .int .i64 2, .int .i64 1, .int .i64 3], rfl, Nat.zero_le _, heap_alloc_new w1 _, by omega, by unfold maxLen; omega, rfl, rfl⟩⟩) rfl)
  have L2 := Lib.hid (fun (w1 : World) (e : TypeId) => show SlK i1 1 (w1.alloc (.cells #[.int .i64 0, .int .i64 2, .int .i64 1, .int .i64 5, .int .i64 3, .int .i64 4] e)) (.slice (some ⟨w1.heap.size, 0, none⟩) 6 6) [0, 2, 1, 5, 3, 4] from SlK.ofOwns (base := 0) (e := e) (fun _ => rfl) (show World.ownsRow (w1.alloc (.cells #[.int .i64 0, .int .i64 2, .int .i64 1, .int .i64 5, .int .i64 3, .int .i64 4] e)) 0 e 1 (.slice (some ⟨w1.heap.size, 0, none⟩) 6 6) 6 (([0, 2, 1, 5, 3, 4] : List Nat).flatMap i1) from ⟨rfl, .inr ⟨w1.heap.size, 6, #[.int .i64 0, .int .i64 2, .int .i64 1, .int .i64 5, .int .i64 3, .int .i64 4], rfl, Nat.zero_le _, heap_alloc_new w1 _, by omega, by unfold maxLen; omega, rfl, rfl⟩⟩) rfl)
  have L3 := Lib.hid (fun (w1 : World) (e : TypeId) => show SlK i1 1 (w1.alloc (.cells #[.int .i64 1, .int .i64 3, .int .i64 0, .int .i64 2] e)) (.slice (some ⟨w1.heap.size, 0, none⟩) 4 4) [1, 3, 0, 2] from SlK.ofOwns (base := 0) (e := e) (fun _ => rfl) (show World.ownsRow (w1.alloc (.cells #[.int .i64 1, .int .i64 3, .int .i64 0, .int .i64 2] e)) 0 e 1 (.slice (some ⟨w1.heap.size, 0, none⟩) 4 4) 4 (([1, 3, 0, 2] : List Nat).flatMap i1) from ⟨rfl, .inr ⟨w1.heap.size, 4, #[.int .i64 1, .int .i64 3, .int .i64 0, .int .i64 2], rfl, Nat.zero_le _, heap_alloc_new w1 _, by omega, by unfold maxLen; omega, rfl, rfl⟩⟩) rfl)
  have L4 := Lib.hid (fun (w1 : World) (e : TypeId) => show SlK iz 1 (w1.alloc (.cells #[.int .i64 0, .int .i64 0] e)) (.slice (some ⟨w1.heap.size, 0, none⟩) 2 2) [0, 0] from SlK.ofOwns (base := 0) (e := e) (fun _ => rfl) (show World.ownsRow (w1.alloc (.cells #[.int .i64 0, .int .i64 0] e)) 0 e 1 (.slice (some ⟨w1.heap.size, 0, none⟩) 2 2) 2 (([0, 0] : List Int).flatMap iz) from ⟨rfl, .inr ⟨w1.heap.size, 2, #[.int .i64 0, .int .i64 0], rfl, Nat.zero_le _, heap_alloc_new w1 _, by omega, by unfold maxLen; omega, rfl, rfl⟩⟩) rfl)
  have E1 := Lib.hid (fun (w1 : World) (v u : Value) (hv : SlK i1 1 w1 v [0, 2, 1, 3]) (hu : SlK i1 1 w1 u [0, 2, 1, 3]) => show Calls Tryz.prog 18 #[v, u] w1 (Rets fun r w' => r = .bool true ∧ Below w1.heap.size w1 w') from by have := EqualI_any w1 v u [0, 2, 1, 3] [0, 2, 1, 3] hv hu; rwa [decide_eq_true rfl] at this)
  have E2 := Lib.hid (fun (w1 : World) (v u : Value) (hv : SlK i1 1 w1 v [0, 2, 1, 5, 3, 4]) (hu : SlK i1 1 w1 u [0, 2, 1, 5, 3, 4]) => show Calls Tryz.prog 18 #[v, u] w1 (Rets fun r w' => r = .bool true ∧ Below w1.heap.size w1 w') from by have := EqualI_any w1 v u [0, 2, 1, 5, 3, 4] [0, 2, 1, 5, 3, 4] hv hu; rwa [decide_eq_true rfl] at this)
  have E3 := Lib.hid (fun (w1 : World) (v u : Value) (hv : SlK i1 1 w1 v [1, 3, 0, 2]) (hu : SlK i1 1 w1 u [1, 3, 0, 2]) => show Calls Tryz.prog 18 #[v, u] w1 (Rets fun r w' => r = .bool true ∧ Below w1.heap.size w1 w') from by have := EqualI_any w1 v u [1, 3, 0, 2] [1, 3, 0, 2] hv hu; rwa [decide_eq_true rfl] at this)
  go_enter Tryz.func8, Tryz.ntmps8
  go_wp2_with (first
    | (go_at_call 18; (with_reducible refine (E2.out _ _ _ (SB.out.below (A0.out _ _) (Nat.le_refl _)) (L2.out _ _)).mono ?_); rintro e w13 ⟨v, rfl, rfl, h13⟩; have h13 := (A0.out _ _).trans (h13.mono (by simp)); have HE := Lib.hid (HE.out.below h13 (Nat.le_refl _)); have SB := Lib.hid (SB.out.below h13 (Nat.le_refl _)); have q13 := q12.trans (h13.mono q12.size))
    | (go_at_call 35; (with_reducible refine (tTrees _ _ ST.out HE.out).mono ?_); rintro e w12 ⟨v, rfl, rfl, h12⟩; have HE := Lib.hid (HE.out.below h12 (Nat.le_refl _)); have ST := Lib.hid (ST.out.below h12 (Nat.le_refl _)); have SB := Lib.hid (SB.out.below h12 (Nat.le_refl _)); have BD := Lib.hid (BD.out.below h12 (Nat.le_refl _)); have c12_BD_0 := BD.out.cell 0 _ rfl; have c12_BD_1 := BD.out.cell 1 _ rfl; have q12 := q11.trans (h12.mono q11.size))
    | (go_at_call 34; (with_reducible refine (tTours _ _ ST.out HE.out).mono ?_); rintro e w11 ⟨v, rfl, rfl, h11⟩; have HE := Lib.hid (HE.out.below h11 (Nat.le_refl _)); have ST := Lib.hid (ST.out.below h11 (Nat.le_refl _)); have SB := Lib.hid (SB.out.below h11 (Nat.le_refl _)); have BD := Lib.hid (BD.out.below h11 (Nat.le_refl _)); have c11_BD_0 := BD.out.cell 0 _ rfl; have c11_BD_1 := BD.out.cell 1 _ rfl; have q11 := q10.trans (h11.mono q10.size))
    | (go_at_call 31; (with_reducible refine (tTour _ _ ST.out).mono ?_); rintro e w10 ⟨v, rfl, u10, rfl, s10, h10⟩; obtain ⟨ua10, uc10, rfl⟩ : ∃ a c, u10 = .slice a 6 c := s10.form; have SB := Lib.hid s10; clear s10; have HE := Lib.hid (HE.out.below h10 (Nat.le_refl _)); have ST := Lib.hid (ST.out.below h10 (Nat.le_refl _)); have BD := Lib.hid (BD.out.below h10 (Nat.le_refl _)); have c10_BD_0 := BD.out.cell 0 _ rfl; have c10_BD_1 := BD.out.cell 1 _ rfl; have q10 := q9.trans (h10.mono q9.size))
    | (go_at_call 9; (with_reducible refine (triTwo _ _ SD.out).mono ?_); rintro e w9 ⟨v, rfl, u9, rfl, s9, h90⟩; obtain ⟨ua9, uc9, rfl⟩ : ∃ a c, u9 = .slice a 6 c := s9.form; have h9 := h90.alloc h90.size (.cells #[.int .i64 3, .slice ua9 6 uc9] 28); have ST := Lib.hid (s9.below (A0.out w9 (.cells #[.int .i64 3, .slice ua9 6 uc9] 28)) (Nat.le_refl _)); have BD := Lib.hid (Blk.new w9 [.int .i64 3, .slice ua9 6 uc9] 28); clear s9; have HE := Lib.hid (HE.out.below h9 (Nat.le_refl _)); have c9_BD_0 := BD.out.cell 0 _ rfl; have c9_BD_1 := BD.out.cell 1 _ rfl; have q9 := q8.trans (h9.mono q8.size))
    | (go_at_call 36; (with_reducible refine (Triangle_any _).mono ?_); rintro e w8 ⟨v, rfl, u8, rfl, s8, h8⟩; obtain ⟨ua8, uc8, rfl⟩ : ∃ a c, u8 = .slice a 3 c := s8.form; have SD := Lib.hid s8; clear s8; have HE := Lib.hid (HE.out.below h8 (Nat.le_refl _)); have q8 := q7.trans (h8.mono q7.size))
    | (go_at_call 18; (with_reducible refine (E1.out _ _ _ (SA.out.below (A0.out _ _) (Nat.le_refl _)) (L1.out _ _)).mono ?_); rintro e w7 ⟨v, rfl, rfl, h7⟩; have h7 := (A0.out _ _).trans (h7.mono (by simp)); have HE := Lib.hid (HE.out.below h7 (Nat.le_refl _)); have SA := Lib.hid (SA.out.below h7 (Nat.le_refl _)); have q7 := q6.trans (h7.mono q6.size))
    | (go_at_call 35; (with_reducible refine (dTrees _ _ SD.out HE.out).mono ?_); rintro e w6 ⟨v, rfl, rfl, h6⟩; have HE := Lib.hid (HE.out.below h6 (Nat.le_refl _)); have SA := Lib.hid (SA.out.below h6 (Nat.le_refl _)); have q6 := q5.trans (h6.mono q5.size))
    | (go_at_call 33; (with_reducible refine (Double_any _).mono ?_); rintro e w5 ⟨v, rfl, u5, rfl, s5, h5⟩; obtain ⟨ua5, uc5, rfl⟩ : ∃ a c, u5 = .slice a 2 c := s5.form; have SD := Lib.hid s5; clear s5; have HE := Lib.hid (HE.out.below h5 (Nat.le_refl _)); have SA := Lib.hid (SA.out.below h5 (Nat.le_refl _)); have q5 := q4.trans (h5.mono q4.size))
    | (go_at_call 34; (with_reducible refine (dTours _ _ SD.out HE.out).mono ?_); rintro e w4 ⟨v, rfl, rfl, h4⟩; have HE := Lib.hid (HE.out.below h4 (Nat.le_refl _)); have SA := Lib.hid (SA.out.below h4 (Nat.le_refl _)); have q4 := q3.trans (h4.mono q3.size))
    | (go_at_call 33; (with_reducible refine (Double_any _).mono ?_); rintro e w3 ⟨v, rfl, u3, rfl, s3, h3⟩; obtain ⟨ua3, uc3, rfl⟩ : ∃ a c, u3 = .slice a 2 c := s3.form; have SD := Lib.hid s3; clear s3; have HE := Lib.hid (HE.out.below h3 (Nat.le_refl _)); have SA := Lib.hid (SA.out.below h3 (Nat.le_refl _)); have q3 := q2.trans (h3.mono q2.size))
    | (go_at_call 31; (with_reducible refine (dTour _ _ SD.out).mono ?_); rintro e w2 ⟨v, rfl, u2, rfl, s2, h2⟩; obtain ⟨ua2, uc2, rfl⟩ : ∃ a c, u2 = .slice a 4 c := s2.form; have SA := Lib.hid s2; clear s2; have HE := Lib.hid (HE.out.below h2 (Nat.le_refl _)); have q2 := q1.trans (h2.mono q1.size))
    | (go_at_call 33; (with_reducible refine (Double_any _).mono ?_); rintro e w1 ⟨v, rfl, u1, rfl, s1, h1⟩; obtain ⟨ua1, uc1, rfl⟩ : ∃ a c, u1 = .slice a 2 c := s1.form; have SD := Lib.hid s1; clear s1; have HE := Lib.hid (HE.out.below h1 (Nat.le_refl _)); have q1 := q0.trans (h1.mono q0.size)))
  have HSU0 := Lib.hid (show SlK iz 1 ((w13.alloc (.cells #[.int .i64 0, .int .i64 0] 3)).alloc (.cells #[.int .i64 0, .slice (some ⟨w13.heap.size, 0, none⟩) 2 2] 38)) (.slice (some ⟨w13.heap.size, 0, none⟩) 2 2) [0, 0] from (L4.out w13 3).below (A0.out _ _) (Nat.le_refl _))
  have HK0 := Lib.hid (show Blk ((w13.alloc (.cells #[.int .i64 0, .int .i64 0] 3)).alloc (.cells #[.int .i64 0, .slice (some ⟨w13.heap.size, 0, none⟩) 2 2] 38)) (w13.heap.size + 1) [.int .i64 0, .slice (some ⟨w13.heap.size, 0, none⟩) 2 2] 38 from by have h := Blk.new (w13.alloc (.cells #[.int .i64 0, .int .i64 0] 3)) [.int .i64 0, .slice (some ⟨w13.heap.size, 0, none⟩) 2 2] 38; rw [World.size_alloc] at h; exact h)
  have HB0 := Lib.hid (show Below w.heap.size w ((w13.alloc (.cells #[.int .i64 0, .int .i64 0] 3)).alloc (.cells #[.int .i64 0, .slice (some ⟨w13.heap.size, 0, none⟩) 2 2] 38)) from (q13.alloc q13.size _).alloc (Nat.le_trans q13.size (by simp)) _)
  obtain ⟨wz, hwz⟩ : ∃ x, ((w13.alloc (.cells #[.int .i64 0, .int .i64 0] 3)).alloc (.cells #[.int .i64 0, .slice (some ⟨w13.heap.size, 0, none⟩) 2 2] 38)) = x := ⟨_, rfl⟩
  obtain ⟨D, hD⟩ : ∃ D, w13.heap.size + 1 = D := ⟨_, rfl⟩
  obtain ⟨UV, hUV⟩ : ∃ u, Value.slice (some ⟨w13.heap.size, 0, none⟩) 2 2 = u := ⟨_, rfl⟩
  rw [hwz] at HSU0 HK0 HB0 ⊢
  rw [hD] at HK0
  try rw [hD]
  rw [hUV] at HSU0 HK0
  try rw [hUV]
  clear hwz hD hUV
  clear L1 L2 L4 E1 E2
  go_cut [2, 12, 13, 14] (fun s2 p12 p13 s14 wx => ∃ g x y, s2 = .int .i64 0 ∧ p12 = .pointer (some ⟨D, 0, none⟩) ∧ p13 = .pointer (some ⟨g, 0, none⟩) ∧ s14 = y ∧ Hid (SlK iz 1 wx x [0, 0]) ∧ Hid (SlK iz 1 wx UV [0, 0]) ∧ Hid (SlK i1 1 wx y [1, 3, 0, 2]) ∧ Hid (Blk wx D [.int .i64 0, UV] 38) ∧ Hid (Blk wx g [.int .i64 0, x] 38) ∧ Hid (Below w.heap.size w wx))
  case first =>
    refine wp_regionJ (S := fun w' => w'.cell? ⟨D, 0, none⟩ = some (.int .i64 0) ∧ w'.cell? ⟨D, 1, none⟩ = some UV) (A := fun _ => true) (by kernel_rfl) ?_
    have HK := Lib.hid (show Blk wz.drew D [.int .i64 0, UV] 38 from HK0.out); have HU := Lib.hid (HSU0.out.below ((Below.refl wz.heap.size wz).drew) (Nat.le_refl _)); have HB := Lib.hid (HB0.out.drew)
    obtain ⟨v0, hv0⟩ : ∃ x, wz.drew = x := ⟨_, rfl⟩
    rw [hv0] at HK HU HB ⊢
    clear hv0 HK0 HSU0 HB0
    have hS := (⟨HK.out.cell 0 _ rfl, HK.out.cell 1 _ rfl⟩ : v0.cell? ⟨D, 0, none⟩ = some (.int .i64 0) ∧ v0.cell? ⟨D, 1, none⟩ = some UV)
    refine wpAnyJ_take (i := 1) (oi := { dst := some 96, op := .load _ (.tmp 12), type := _, pos := _, after := _, guard := _ }) (v := ?_) rfl (by kernel_rfl) (by kernel_rfl) (by kernel_rfl) (early_sat (by kernel_rfl)) (fun _ _ _ h => h) (Or.inl ⟨by rfl, ?_⟩) hS ?_
    rotate_left
    · intro wl hSw
      obtain ⟨s0, s1⟩ := hSw
      go_simp
      with_reducible rfl
    simp only [Act.put, List.setIfInBounds_toArray, List.set_cons_zero, List.set_cons_succ]
    refine wpAnyJ_twoE (i := 0) (j := 7) (o := { dst := some 95, op := _, type := _, pos := _, after := _, guard := _ }) (o' := { dst := some 13, op := _, type := _, pos := _, after := _, guard := _ }) (by kernel_rfl) rfl rfl (fun K hK => ?_) (fun K hK => ?_)
    · go_simp
      refine (Double_any v0).mono ?_
      rintro e5 v1 ⟨v5, rfl, u5, rfl, hs, hb⟩
      have HK := Lib.hid (HK.out.below hb (Nat.le_refl _)); have HU := Lib.hid (HU.out.below hb (Nat.le_refl _)); have HB := Lib.hid (HB.out.trans (hb.mono HB.out.size))
      have HV := Lib.hid hs
      clear hs
      have hS := (⟨HK.out.cell 0 _ rfl, HK.out.cell 1 _ rfl⟩ : v1.cell? ⟨D, 0, none⟩ = some (.int .i64 0) ∧ v1.cell? ⟨D, 1, none⟩ = some UV)
      clear hb
      refine hK.out _ _ (fun _ => hS) ?_
      try simp only [Act.put, List.setIfInBounds_toArray, List.set_cons_zero, List.set_cons_succ]
      clear hK K
      refine wpAnyJ_twoE (i := 2) (j := 7) (o := { dst := some 97, op := _, type := _, pos := _, after := _, guard := _ }) (o' := { dst := some 13, op := _, type := _, pos := _, after := _, guard := _ }) (by kernel_rfl) rfl rfl (fun K hK => ?_) (fun K hK => ?_)
      · go_simp
        refine (dWalk v1 _ _ HV.out HU.out).mono ?_
        rintro e5 v2 ⟨v5, rfl, x5, y5, rfl, hsx, hsy, hb⟩
        have HK := Lib.hid (HK.out.below hb (Nat.le_refl _)); have HU := Lib.hid (HU.out.below hb (Nat.le_refl _)); have HB := Lib.hid (HB.out.trans (hb.mono HB.out.size))
        obtain ⟨xa5, xc5, rfl⟩ : ∃ a c, x5 = .slice a 2 c := hsx.form
        have HX := Lib.hid hsx; have HY := Lib.hid hsy
        clear hsx hsy
        have hS := (⟨HK.out.cell 0 _ rfl, HK.out.cell 1 _ rfl⟩ : v2.cell? ⟨D, 0, none⟩ = some (.int .i64 0) ∧ v2.cell? ⟨D, 1, none⟩ = some UV)
        clear hb
        refine hK.out _ _ (fun _ => hS) ?_
        try simp only [Act.put, List.setIfInBounds_toArray, List.set_cons_zero, List.set_cons_succ]
        clear hK K
        refine wpAnyJ_take (i := 3) (oi := { dst := some 94, op := .move (.tmp 97), type := _, pos := _, after := _, guard := _ }) (v := ?_) rfl (by kernel_rfl) (by kernel_rfl) (by kernel_rfl) (early_sat (by kernel_rfl)) (fun _ _ _ h => h) (Or.inl ⟨by rfl, ?_⟩) hS ?_
        rotate_left
        · intro wl hSw
          obtain ⟨s0, s1⟩ := hSw
          go_simp
          with_reducible rfl
        simp only [Act.put, List.setIfInBounds_toArray, List.set_cons_zero, List.set_cons_succ]
        refine wpAnyJ_take (i := 4) (oi := { dst := some 98, op := .extract (.tmp 94) 0, type := _, pos := _, after := _, guard := _ }) (v := ?_) rfl (by kernel_rfl) (by kernel_rfl) (by kernel_rfl) (early_sat (by kernel_rfl)) (fun _ _ _ h => h) (Or.inl ⟨by rfl, ?_⟩) hS ?_
        rotate_left
        · intro wl hSw
          obtain ⟨s0, s1⟩ := hSw
          go_simp
          with_reducible rfl
        simp only [Act.put, List.setIfInBounds_toArray, List.set_cons_zero, List.set_cons_succ]
        refine wpAnyJ_take (i := 5) (oi := { dst := some 99, op := .extract (.tmp 94) 1, type := _, pos := _, after := _, guard := _ }) (v := ?_) rfl (by kernel_rfl) (by kernel_rfl) (by kernel_rfl) (early_sat (by kernel_rfl)) (fun _ _ _ h => h) (Or.inl ⟨by rfl, ?_⟩) hS ?_
        rotate_left
        · intro wl hSw
          obtain ⟨s0, s1⟩ := hSw
          go_simp
          with_reducible rfl
        simp only [Act.put, List.setIfInBounds_toArray, List.set_cons_zero, List.set_cons_succ]
        refine wpAnyJ_take (i := 6) (oi := { dst := some 100, op := .extract (.tmp 94) 2, type := _, pos := _, after := _, guard := _ }) (v := ?_) rfl (by kernel_rfl) (by kernel_rfl) (by kernel_rfl) (early_sat (by kernel_rfl)) (fun _ _ _ h => h) (Or.inl ⟨by rfl, ?_⟩) hS ?_
        rotate_left
        · intro wl hSw
          obtain ⟨s0, s1⟩ := hSw
          go_simp
          with_reducible rfl
        simp only [Act.put, List.setIfInBounds_toArray, List.set_cons_zero, List.set_cons_succ]
        refine wpAnyJ_only (i := 7) (o := { dst := some 13, op := _, type := _, pos := _, after := _, guard := _ }) (by kernel_rfl) rfl (fun K hK => ?_)
        go_simp
        have hb := (Below.refl v2.heap.size v2).alloc (Nat.le_refl _) (.cells #[.int .i64 0, .slice none 0 0] 38)
        have HGL := Lib.hid (show D < v2.heap.size from HK.out.lt)
        have HGE := Lib.hid (show w.heap.size ≤ v2.heap.size from HB.out.size)
        have HK := Lib.hid (HK.out.below hb (Nat.le_refl _)); have HU := Lib.hid (HU.out.below hb (Nat.le_refl _)); have HX := Lib.hid (HX.out.below hb (Nat.le_refl _)); have HY := Lib.hid (HY.out.below hb (Nat.le_refl _)); have HB := Lib.hid (HB.out.trans (hb.mono HB.out.size))
        have HG := Lib.hid (Blk.new v2 [.int .i64 0, .slice none 0 0] 38)
        obtain ⟨g, hg⟩ : ∃ g, v2.heap.size = g := ⟨_, rfl⟩
        obtain ⟨v3, hv⟩ : ∃ x, v2.alloc (.cells #[.int .i64 0, .slice none 0 0] 38) = x := ⟨_, rfl⟩
        change Hid (Blk (v2.alloc (.cells #[.int .i64 0, .slice none 0 0] 38)) v2.heap.size [.int .i64 0, .slice none 0 0] 38) at HG
        rw [hv, hg] at HG
        rw [hg] at HGL HGE ⊢
        rw [hv] at HK HU HX HY HB ⊢
        have hS := (⟨HK.out.cell 0 _ rfl, HK.out.cell 1 _ rfl⟩ : v3.cell? ⟨D, 0, none⟩ = some (.int .i64 0) ∧ v3.cell? ⟨D, 1, none⟩ = some UV)
        clear hb hg hv
        refine hK.out _ _ (fun _ => hS) ?_
        try simp only [Act.put, List.setIfInBounds_toArray, List.set_cons_zero, List.set_cons_succ]
        clear hK K
        have m0 := HG.out.cell 0 _ rfl; have m1 := HG.out.cell 1 _ rfl; have f0 := HG.out.free 0; have f1 := HG.out.free 1; have hml := HG.out.lt
        have HK := Lib.hid (((HK.out.setCell (g' := g) (j := 0) (by have := HGL.out; omega) (.int .i64 0)).setCell (g' := g) (j := 1) (by have := HGL.out; omega) (.slice xa5 2 xc5)))
        have hS := (⟨HK.out.cell 0 _ rfl, HK.out.cell 1 _ rfl⟩ : ((v3.setCell ⟨g, 0, none⟩ (.int .i64 0)).setCell ⟨g, 1, none⟩ (.slice xa5 2 xc5)).cell? ⟨D, 0, none⟩ = some (.int .i64 0) ∧ ((v3.setCell ⟨g, 0, none⟩ (.int .i64 0)).setCell ⟨g, 1, none⟩ (.slice xa5 2 xc5)).cell? ⟨D, 1, none⟩ = some UV)
        refine wpAnyJ_only (i := 8) (o := { dst := none, op := .store _ (.tmp 13) (.tmp 98), type := _, pos := _, after := _, guard := _ }) (by kernel_rfl) rfl (fun K hK => ?_)
        go_simp
        refine hK.out _ _ (fun _ => hS) ?_
        try simp only [Act.put, List.setIfInBounds_toArray, List.set_cons_zero, List.set_cons_succ]
        clear hK K
        refine wpAnyJ_take (i := 9) (oi := { dst := some 14, op := .assign (.tmp 99), type := _, pos := _, after := _, guard := _ }) (v := ?_) rfl (by kernel_rfl) (by kernel_rfl) (by kernel_rfl) (early_sat (by kernel_rfl)) (fun _ _ _ h => h) (Or.inl ⟨by rfl, ?_⟩) hS ?_
        rotate_left
        · intro wl hSw
          obtain ⟨s0, s1⟩ := hSw
          go_simp
          with_reducible rfl
        simp only [Act.put, List.setIfInBounds_toArray, List.set_cons_zero, List.set_cons_succ]
        refine wpAnyJ_take (i := 10) (oi := { dst := some 2, op := .assign (.tmp 100), type := _, pos := _, after := _, guard := _ }) (v := ?_) rfl (by kernel_rfl) (by kernel_rfl) (by kernel_rfl) (early_sat (by kernel_rfl)) (fun _ _ _ h => h) (Or.inl ⟨by rfl, ?_⟩) hS ?_
        rotate_left
        · intro wl hSw
          obtain ⟨s0, s1⟩ := hSw
          go_simp
          with_reducible rfl
        simp only [Act.put, List.setIfInBounds_toArray, List.set_cons_zero, List.set_cons_succ]
        refine wpAnyJ_done (by kernel_rfl) ?_ _
        clear m0 m1 f0 f1 hml hS
        go_wp2
        go_meet
        case rel => exact ⟨g, _, y5, rfl, rfl, rfl, rfl, Lib.hid (slk_off2 (f := id) (fun _ => rfl) HX.out (by decide) HG.out _ (.slice xa5 2 xc5)), Lib.hid (slk_off2 (f := id) (fun _ => rfl) HU.out (by decide) HG.out _ (.slice xa5 2 xc5)), Lib.hid (slk_off2 (f := fun x : Nat => (x : Int)) (fun _ => rfl) HY.out (by decide) HG.out _ (.slice xa5 2 xc5)), HK, Lib.hid ((HG.out.set 0 (.int .i64 0)).set 1 (.slice xa5 2 xc5)), Lib.hid ((HB.out.setCell (p := ⟨g, 0, none⟩) HGE.out _).setCell (p := ⟨g, 1, none⟩) HGE.out _)⟩
      · go_simp
        have hb := (Below.refl v1.heap.size v1).alloc (Nat.le_refl _) (.cells #[.int .i64 0, .slice none 0 0] 38)
        have HGL := Lib.hid (show D < v1.heap.size from HK.out.lt)
        have HGE := Lib.hid (show w.heap.size ≤ v1.heap.size from HB.out.size)
        have HK := Lib.hid (HK.out.below hb (Nat.le_refl _)); have HU := Lib.hid (HU.out.below hb (Nat.le_refl _)); have HV := Lib.hid (HV.out.below hb (Nat.le_refl _)); have HB := Lib.hid (HB.out.trans (hb.mono HB.out.size))
        have HG := Lib.hid (Blk.new v1 [.int .i64 0, .slice none 0 0] 38)
        obtain ⟨g, hg⟩ : ∃ g, v1.heap.size = g := ⟨_, rfl⟩
        obtain ⟨v4, hv⟩ : ∃ x, v1.alloc (.cells #[.int .i64 0, .slice none 0 0] 38) = x := ⟨_, rfl⟩
        change Hid (Blk (v1.alloc (.cells #[.int .i64 0, .slice none 0 0] 38)) v1.heap.size [.int .i64 0, .slice none 0 0] 38) at HG
        rw [hv, hg] at HG
        rw [hg] at HGL HGE ⊢
        rw [hv] at HK HU HV HB ⊢
        have hS := (⟨HK.out.cell 0 _ rfl, HK.out.cell 1 _ rfl⟩ : v4.cell? ⟨D, 0, none⟩ = some (.int .i64 0) ∧ v4.cell? ⟨D, 1, none⟩ = some UV)
        clear hb hg hv
        refine hK.out _ _ (fun _ => hS) ?_
        try simp only [Act.put, List.setIfInBounds_toArray, List.set_cons_zero, List.set_cons_succ]
        clear hK K
        refine wpAnyJ_only (i := 2) (o := { dst := some 97, op := _, type := _, pos := _, after := _, guard := _ }) (by kernel_rfl) rfl (fun K hK => ?_)
        go_simp
        refine (dWalk v4 _ _ HV.out HU.out).mono ?_
        rintro e5 v5 ⟨v5, rfl, x5, y5, rfl, hsx, hsy, hb⟩
        have HK := Lib.hid (HK.out.below hb (Nat.le_refl _)); have HU := Lib.hid (HU.out.below hb (Nat.le_refl _)); have HG := Lib.hid (HG.out.below hb (Nat.le_refl _)); have HB := Lib.hid (HB.out.trans (hb.mono HB.out.size))
        obtain ⟨xa5, xc5, rfl⟩ : ∃ a c, x5 = .slice a 2 c := hsx.form
        have HX := Lib.hid hsx; have HY := Lib.hid hsy
        clear hsx hsy
        have hS := (⟨HK.out.cell 0 _ rfl, HK.out.cell 1 _ rfl⟩ : v5.cell? ⟨D, 0, none⟩ = some (.int .i64 0) ∧ v5.cell? ⟨D, 1, none⟩ = some UV)
        clear hb
        refine hK.out _ _ (fun _ => hS) ?_
        try simp only [Act.put, List.setIfInBounds_toArray, List.set_cons_zero, List.set_cons_succ]
        clear hK K
        refine wpAnyJ_take (i := 3) (oi := { dst := some 94, op := .move (.tmp 97), type := _, pos := _, after := _, guard := _ }) (v := ?_) rfl (by kernel_rfl) (by kernel_rfl) (by kernel_rfl) (early_sat (by kernel_rfl)) (fun _ _ _ h => h) (Or.inl ⟨by rfl, ?_⟩) hS ?_
        rotate_left
        · intro wl hSw
          obtain ⟨s0, s1⟩ := hSw
          go_simp
          with_reducible rfl
        simp only [Act.put, List.setIfInBounds_toArray, List.set_cons_zero, List.set_cons_succ]
        refine wpAnyJ_take (i := 4) (oi := { dst := some 98, op := .extract (.tmp 94) 0, type := _, pos := _, after := _, guard := _ }) (v := ?_) rfl (by kernel_rfl) (by kernel_rfl) (by kernel_rfl) (early_sat (by kernel_rfl)) (fun _ _ _ h => h) (Or.inl ⟨by rfl, ?_⟩) hS ?_
        rotate_left
        · intro wl hSw
          obtain ⟨s0, s1⟩ := hSw
          go_simp
          with_reducible rfl
        simp only [Act.put, List.setIfInBounds_toArray, List.set_cons_zero, List.set_cons_succ]
        refine wpAnyJ_take (i := 5) (oi := { dst := some 99, op := .extract (.tmp 94) 1, type := _, pos := _, after := _, guard := _ }) (v := ?_) rfl (by kernel_rfl) (by kernel_rfl) (by kernel_rfl) (early_sat (by kernel_rfl)) (fun _ _ _ h => h) (Or.inl ⟨by rfl, ?_⟩) hS ?_
        rotate_left
        · intro wl hSw
          obtain ⟨s0, s1⟩ := hSw
          go_simp
          with_reducible rfl
        simp only [Act.put, List.setIfInBounds_toArray, List.set_cons_zero, List.set_cons_succ]
        refine wpAnyJ_take (i := 6) (oi := { dst := some 100, op := .extract (.tmp 94) 2, type := _, pos := _, after := _, guard := _ }) (v := ?_) rfl (by kernel_rfl) (by kernel_rfl) (by kernel_rfl) (early_sat (by kernel_rfl)) (fun _ _ _ h => h) (Or.inl ⟨by rfl, ?_⟩) hS ?_
        rotate_left
        · intro wl hSw
          obtain ⟨s0, s1⟩ := hSw
          go_simp
          with_reducible rfl
        simp only [Act.put, List.setIfInBounds_toArray, List.set_cons_zero, List.set_cons_succ]
        have m0 := HG.out.cell 0 _ rfl; have m1 := HG.out.cell 1 _ rfl; have f0 := HG.out.free 0; have f1 := HG.out.free 1; have hml := HG.out.lt
        have HK := Lib.hid (((HK.out.setCell (g' := g) (j := 0) (by have := HGL.out; omega) (.int .i64 0)).setCell (g' := g) (j := 1) (by have := HGL.out; omega) (.slice xa5 2 xc5)))
        have hS := (⟨HK.out.cell 0 _ rfl, HK.out.cell 1 _ rfl⟩ : ((v5.setCell ⟨g, 0, none⟩ (.int .i64 0)).setCell ⟨g, 1, none⟩ (.slice xa5 2 xc5)).cell? ⟨D, 0, none⟩ = some (.int .i64 0) ∧ ((v5.setCell ⟨g, 0, none⟩ (.int .i64 0)).setCell ⟨g, 1, none⟩ (.slice xa5 2 xc5)).cell? ⟨D, 1, none⟩ = some UV)
        refine wpAnyJ_only (i := 8) (o := { dst := none, op := .store _ (.tmp 13) (.tmp 98), type := _, pos := _, after := _, guard := _ }) (by kernel_rfl) rfl (fun K hK => ?_)
        go_simp
        refine hK.out _ _ (fun _ => hS) ?_
        try simp only [Act.put, List.setIfInBounds_toArray, List.set_cons_zero, List.set_cons_succ]
        clear hK K
        refine wpAnyJ_take (i := 9) (oi := { dst := some 14, op := .assign (.tmp 99), type := _, pos := _, after := _, guard := _ }) (v := ?_) rfl (by kernel_rfl) (by kernel_rfl) (by kernel_rfl) (early_sat (by kernel_rfl)) (fun _ _ _ h => h) (Or.inl ⟨by rfl, ?_⟩) hS ?_
        rotate_left
        · intro wl hSw
          obtain ⟨s0, s1⟩ := hSw
          go_simp
          with_reducible rfl
        simp only [Act.put, List.setIfInBounds_toArray, List.set_cons_zero, List.set_cons_succ]
        refine wpAnyJ_take (i := 10) (oi := { dst := some 2, op := .assign (.tmp 100), type := _, pos := _, after := _, guard := _ }) (v := ?_) rfl (by kernel_rfl) (by kernel_rfl) (by kernel_rfl) (early_sat (by kernel_rfl)) (fun _ _ _ h => h) (Or.inl ⟨by rfl, ?_⟩) hS ?_
        rotate_left
        · intro wl hSw
          obtain ⟨s0, s1⟩ := hSw
          go_simp
          with_reducible rfl
        simp only [Act.put, List.setIfInBounds_toArray, List.set_cons_zero, List.set_cons_succ]
        refine wpAnyJ_done (by kernel_rfl) ?_ _
        clear m0 m1 f0 f1 hml hS
        go_wp2
        go_meet
        case rel => exact ⟨g, _, y5, rfl, rfl, rfl, rfl, Lib.hid (slk_off2 (f := id) (fun _ => rfl) HX.out (by decide) HG.out _ (.slice xa5 2 xc5)), Lib.hid (slk_off2 (f := id) (fun _ => rfl) HU.out (by decide) HG.out _ (.slice xa5 2 xc5)), Lib.hid (slk_off2 (f := fun x : Nat => (x : Int)) (fun _ => rfl) HY.out (by decide) HG.out _ (.slice xa5 2 xc5)), HK, Lib.hid ((HG.out.set 0 (.int .i64 0)).set 1 (.slice xa5 2 xc5)), Lib.hid ((HB.out.setCell (p := ⟨g, 0, none⟩) HGE.out _).setCell (p := ⟨g, 1, none⟩) HGE.out _)⟩
    · go_simp
      have hb := (Below.refl v0.heap.size v0).alloc (Nat.le_refl _) (.cells #[.int .i64 0, .slice none 0 0] 38)
      have HGL := Lib.hid (show D < v0.heap.size from HK.out.lt)
      have HGE := Lib.hid (show w.heap.size ≤ v0.heap.size from HB.out.size)
      have HK := Lib.hid (HK.out.below hb (Nat.le_refl _)); have HU := Lib.hid (HU.out.below hb (Nat.le_refl _)); have HB := Lib.hid (HB.out.trans (hb.mono HB.out.size))
      have HG := Lib.hid (Blk.new v0 [.int .i64 0, .slice none 0 0] 38)
      obtain ⟨g, hg⟩ : ∃ g, v0.heap.size = g := ⟨_, rfl⟩
      obtain ⟨v6, hv⟩ : ∃ x, v0.alloc (.cells #[.int .i64 0, .slice none 0 0] 38) = x := ⟨_, rfl⟩
      change Hid (Blk (v0.alloc (.cells #[.int .i64 0, .slice none 0 0] 38)) v0.heap.size [.int .i64 0, .slice none 0 0] 38) at HG
      rw [hv, hg] at HG
      rw [hg] at HGL HGE ⊢
      rw [hv] at HK HU HB ⊢
      have hS := (⟨HK.out.cell 0 _ rfl, HK.out.cell 1 _ rfl⟩ : v6.cell? ⟨D, 0, none⟩ = some (.int .i64 0) ∧ v6.cell? ⟨D, 1, none⟩ = some UV)
      clear hb hg hv
      refine hK.out _ _ (fun _ => hS) ?_
      try simp only [Act.put, List.setIfInBounds_toArray, List.set_cons_zero, List.set_cons_succ]
      clear hK K
      refine wpAnyJ_only (i := 0) (o := { dst := some 95, op := _, type := _, pos := _, after := _, guard := _ }) (by kernel_rfl) rfl (fun K hK => ?_)
      go_simp
      refine (Double_any v6).mono ?_
      rintro e5 v7 ⟨v5, rfl, u5, rfl, hs, hb⟩
      have HK := Lib.hid (HK.out.below hb (Nat.le_refl _)); have HU := Lib.hid (HU.out.below hb (Nat.le_refl _)); have HG := Lib.hid (HG.out.below hb (Nat.le_refl _)); have HB := Lib.hid (HB.out.trans (hb.mono HB.out.size))
      have HV := Lib.hid hs
      clear hs
      have hS := (⟨HK.out.cell 0 _ rfl, HK.out.cell 1 _ rfl⟩ : v7.cell? ⟨D, 0, none⟩ = some (.int .i64 0) ∧ v7.cell? ⟨D, 1, none⟩ = some UV)
      clear hb
      refine hK.out _ _ (fun _ => hS) ?_
      try simp only [Act.put, List.setIfInBounds_toArray, List.set_cons_zero, List.set_cons_succ]
      clear hK K
      refine wpAnyJ_only (i := 2) (o := { dst := some 97, op := _, type := _, pos := _, after := _, guard := _ }) (by kernel_rfl) rfl (fun K hK => ?_)
      go_simp
      refine (dWalk v7 _ _ HV.out HU.out).mono ?_
      rintro e5 v8 ⟨v5, rfl, x5, y5, rfl, hsx, hsy, hb⟩
      have HK := Lib.hid (HK.out.below hb (Nat.le_refl _)); have HU := Lib.hid (HU.out.below hb (Nat.le_refl _)); have HG := Lib.hid (HG.out.below hb (Nat.le_refl _)); have HB := Lib.hid (HB.out.trans (hb.mono HB.out.size))
      obtain ⟨xa5, xc5, rfl⟩ : ∃ a c, x5 = .slice a 2 c := hsx.form
      have HX := Lib.hid hsx; have HY := Lib.hid hsy
      clear hsx hsy
      have hS := (⟨HK.out.cell 0 _ rfl, HK.out.cell 1 _ rfl⟩ : v8.cell? ⟨D, 0, none⟩ = some (.int .i64 0) ∧ v8.cell? ⟨D, 1, none⟩ = some UV)
      clear hb
      refine hK.out _ _ (fun _ => hS) ?_
      try simp only [Act.put, List.setIfInBounds_toArray, List.set_cons_zero, List.set_cons_succ]
      clear hK K
      refine wpAnyJ_take (i := 3) (oi := { dst := some 94, op := .move (.tmp 97), type := _, pos := _, after := _, guard := _ }) (v := ?_) rfl (by kernel_rfl) (by kernel_rfl) (by kernel_rfl) (early_sat (by kernel_rfl)) (fun _ _ _ h => h) (Or.inl ⟨by rfl, ?_⟩) hS ?_
      rotate_left
      · intro wl hSw
        obtain ⟨s0, s1⟩ := hSw
        go_simp
        with_reducible rfl
      simp only [Act.put, List.setIfInBounds_toArray, List.set_cons_zero, List.set_cons_succ]
      refine wpAnyJ_take (i := 4) (oi := { dst := some 98, op := .extract (.tmp 94) 0, type := _, pos := _, after := _, guard := _ }) (v := ?_) rfl (by kernel_rfl) (by kernel_rfl) (by kernel_rfl) (early_sat (by kernel_rfl)) (fun _ _ _ h => h) (Or.inl ⟨by rfl, ?_⟩) hS ?_
      rotate_left
      · intro wl hSw
        obtain ⟨s0, s1⟩ := hSw
        go_simp
        with_reducible rfl
      simp only [Act.put, List.setIfInBounds_toArray, List.set_cons_zero, List.set_cons_succ]
      refine wpAnyJ_take (i := 5) (oi := { dst := some 99, op := .extract (.tmp 94) 1, type := _, pos := _, after := _, guard := _ }) (v := ?_) rfl (by kernel_rfl) (by kernel_rfl) (by kernel_rfl) (early_sat (by kernel_rfl)) (fun _ _ _ h => h) (Or.inl ⟨by rfl, ?_⟩) hS ?_
      rotate_left
      · intro wl hSw
        obtain ⟨s0, s1⟩ := hSw
        go_simp
        with_reducible rfl
      simp only [Act.put, List.setIfInBounds_toArray, List.set_cons_zero, List.set_cons_succ]
      refine wpAnyJ_take (i := 6) (oi := { dst := some 100, op := .extract (.tmp 94) 2, type := _, pos := _, after := _, guard := _ }) (v := ?_) rfl (by kernel_rfl) (by kernel_rfl) (by kernel_rfl) (early_sat (by kernel_rfl)) (fun _ _ _ h => h) (Or.inl ⟨by rfl, ?_⟩) hS ?_
      rotate_left
      · intro wl hSw
        obtain ⟨s0, s1⟩ := hSw
        go_simp
        with_reducible rfl
      simp only [Act.put, List.setIfInBounds_toArray, List.set_cons_zero, List.set_cons_succ]
      have m0 := HG.out.cell 0 _ rfl; have m1 := HG.out.cell 1 _ rfl; have f0 := HG.out.free 0; have f1 := HG.out.free 1; have hml := HG.out.lt
      have HK := Lib.hid (((HK.out.setCell (g' := g) (j := 0) (by have := HGL.out; omega) (.int .i64 0)).setCell (g' := g) (j := 1) (by have := HGL.out; omega) (.slice xa5 2 xc5)))
      have hS := (⟨HK.out.cell 0 _ rfl, HK.out.cell 1 _ rfl⟩ : ((v8.setCell ⟨g, 0, none⟩ (.int .i64 0)).setCell ⟨g, 1, none⟩ (.slice xa5 2 xc5)).cell? ⟨D, 0, none⟩ = some (.int .i64 0) ∧ ((v8.setCell ⟨g, 0, none⟩ (.int .i64 0)).setCell ⟨g, 1, none⟩ (.slice xa5 2 xc5)).cell? ⟨D, 1, none⟩ = some UV)
      refine wpAnyJ_only (i := 8) (o := { dst := none, op := .store _ (.tmp 13) (.tmp 98), type := _, pos := _, after := _, guard := _ }) (by kernel_rfl) rfl (fun K hK => ?_)
      go_simp
      refine hK.out _ _ (fun _ => hS) ?_
      try simp only [Act.put, List.setIfInBounds_toArray, List.set_cons_zero, List.set_cons_succ]
      clear hK K
      refine wpAnyJ_take (i := 9) (oi := { dst := some 14, op := .assign (.tmp 99), type := _, pos := _, after := _, guard := _ }) (v := ?_) rfl (by kernel_rfl) (by kernel_rfl) (by kernel_rfl) (early_sat (by kernel_rfl)) (fun _ _ _ h => h) (Or.inl ⟨by rfl, ?_⟩) hS ?_
      rotate_left
      · intro wl hSw
        obtain ⟨s0, s1⟩ := hSw
        go_simp
        with_reducible rfl
      simp only [Act.put, List.setIfInBounds_toArray, List.set_cons_zero, List.set_cons_succ]
      refine wpAnyJ_take (i := 10) (oi := { dst := some 2, op := .assign (.tmp 100), type := _, pos := _, after := _, guard := _ }) (v := ?_) rfl (by kernel_rfl) (by kernel_rfl) (by kernel_rfl) (early_sat (by kernel_rfl)) (fun _ _ _ h => h) (Or.inl ⟨by rfl, ?_⟩) hS ?_
      rotate_left
      · intro wl hSw
        obtain ⟨s0, s1⟩ := hSw
        go_simp
        with_reducible rfl
      simp only [Act.put, List.setIfInBounds_toArray, List.set_cons_zero, List.set_cons_succ]
      refine wpAnyJ_done (by kernel_rfl) ?_ _
      clear m0 m1 f0 f1 hml hS
      go_wp2
      go_meet
      case rel => exact ⟨g, _, y5, rfl, rfl, rfl, rfl, Lib.hid (slk_off2 (f := id) (fun _ => rfl) HX.out (by decide) HG.out _ (.slice xa5 2 xc5)), Lib.hid (slk_off2 (f := id) (fun _ => rfl) HU.out (by decide) HG.out _ (.slice xa5 2 xc5)), Lib.hid (slk_off2 (f := fun x : Nat => (x : Int)) (fun _ => rfl) HY.out (by decide) HG.out _ (.slice xa5 2 xc5)), HK, Lib.hid ((HG.out.set 0 (.int .i64 0)).set 1 (.slice xa5 2 xc5)), Lib.hid ((HB.out.setCell (p := ⟨g, 0, none⟩) HGE.out _).setCell (p := ⟨g, 1, none⟩) HGE.out _)⟩
  case rest =>
    rename_i hcut
    obtain ⟨g, x, y, rfl, rfl, rfl, rfl, HX, HU, HY, HK, HG, HB⟩ := hcut
    have k0 := HK.out.cell 0 _ rfl; have k1 := HK.out.cell 1 _ rfl; have kl := HK.out.lt
    have g0 := HG.out.cell 0 _ rfl; have g1 := HG.out.cell 1 _ rfl; have gl := HG.out.lt
    go_wp2_with (first
      | (go_at_call 18; (with_reducible refine (E3.out _ _ _ (HY.out.below (A0.out _ _) (Nat.le_refl _)) (L3.out _ _)).mono ?_); rintro e w3 ⟨v, rfl, rfl, h3⟩; have h3 := (A0.out _ _).trans (h3.mono (by simp)); have HB := Lib.hid (HB.out.trans (h3.mono HB.out.size)))
      | (go_at_call 17; (with_reducible refine (Same_same _ 0 _ _ [0, 0] HX.out HU.out).mono ?_); rintro e w2 ⟨v, rfl, rfl, h2⟩; have HY := Lib.hid (HY.out.below h2 (Nat.le_refl _)); have HB := Lib.hid (HB.out.trans (h2.mono HB.out.size))))
    go_ret
    exact ⟨_, rfl, rfl, HB.out⟩
end Go.Proofs.YtlnhocgjgmhfgaaGreatDoor

namespace Go.Proofs.YtlnhocgjgmhfgaaGreatDoor
open Go.RowKit

theorem cOwn : ownKnob Tryz.prog.godebug = none := by kernel_rfl
theorem int_wf {n : Int} (h : (Lit.int .i64 n).wf = true) : -9223372036854775808 ≤ n ∧ n ≤ 9223372036854775807 := by
  have e1 : IntKind.i64.min = -9223372036854775808 := rfl
  have e2 : IntKind.i64.max = 9223372036854775807 := rfl
  simp [Lit.wf, e1, e2] at h; exact h
theorem int32_wf {n : Int} (h : (Lit.int .i32 n).wf = true) : -2147483648 ≤ n ∧ n ≤ 2147483647 := by
  have e1 : IntKind.i32.min = -2147483648 := rfl
  have e2 : IntKind.i32.max = 2147483647 := rfl
  simp [Lit.wf, e1, e2] at h; exact h
theorem u8_wf {n : Int} (h : (Lit.int .u8 n).wf = true) : 0 ≤ n ∧ n ≤ 255 := by
  have e1 : IntKind.u8.min = 0 := rfl
  have e2 : IntKind.u8.max = 255 := rfl
  simp [Lit.wf, e1, e2] at h; exact h
theorem cErrT (u : TypeId) (h : Tryz.prog.typeName? 3 u = some "*errors.errorString") : u = 250 :=
  typeName_ptr_named (nm := "errors.errorString") (by rw [show "*" ++ "errors.errorString" = "*errors.errorString" by decide]; kernel_rfl) (by kernel_rfl) (by decide) u (by rw [show "*" ++ "errors.errorString" = "*errors.errorString" by decide]; exact h)

/-- What the five listed variables hold. -/
def laid5 : List (String × DataW Unit) := [("math/bits.deBruijn32tab", Rows.laid_math_bits_deBruijn32tab), ("math/bits.deBruijn64tab", Rows.laid_math_bits_deBruijn64tab), ("internal/strconv.uint64pow10", Rows.laid_internal_strconv_uint64pow10), ("strconv.ErrRange", Rows.laid_strconv_ErrRange), ("strconv.ErrSyntax", Rows.laid_strconv_ErrSyntax)]
theorem env_of {W : World} (h : laidMetH Tryz.prog laid5 W) : Env W := by
  have h1 : laidMet Tryz.prog laid5 W := h
  have h2 := h1.tail.tail
  obtain ⟨a0, t0, hv0, -, -, -⟩ := laid_sentinel (g := 2) h2.tail (by kernel_rfl) (by kernel_rfl) Tryz.underlying201 cErrT Tryz.underlying250 Tryz.underlying252 rfl rfl Tryz.underlying9 (by kernel_rfl) (by kernel_rfl)
  obtain ⟨a1, t1, hv1, -, -, -⟩ := laid_sentinel (g := 1) h2.tail.tail (by kernel_rfl) (by kernel_rfl) Tryz.underlying201 cErrT Tryz.underlying250 Tryz.underlying252 rfl rfl Tryz.underlying9 (by kernel_rfl) (by kernel_rfl)
  exact ⟨Lib.tabIs_of_head (g := 0) (t := 218) (e := 152) (by kernel_rfl) (by kernel_rfl) Tryz.underlying218 Tryz.underlying152 (by kernel_rfl) (by kernel_rfl) h2, ⟨_, _, hv1⟩, ⟨_, _, hv0⟩⟩

/-- The world of a witness: the listed variables hold what their initialisers lay. -/
noncomputable def laidWorld (os : Os) : World :=
  let N := (World.settled Tryz.prog os).heap.size
  let w0 := World.holding Tryz.prog os ⟨#[.cells #[.string ⟨#[118, 97, 108, 117, 101, 32, 111, 117, 116, 32, 111, 102, 32, 114, 97, 110, 103, 101]⟩] 252, .cells #[.string ⟨#[105, 110, 118, 97, 108, 105, 100, 32, 115, 121, 110, 116, 97, 120]⟩] 252], #[], []⟩
  let put (h : Array Obj) (g : Nat) (cs : Array Value) : Array Obj := h.modify g fun
    | .cells _ t frozen => .cells cs t frozen
    | o => o
  let h1 := put w0.heap 3 (([0, 1, 28, 2, 29, 14, 24, 3, 30, 22, 20, 15, 25, 17, 4, 8, 31, 27, 13, 23, 21, 19, 16, 7, 26, 12, 18, 6, 11, 5, 10, 9] : List Int).map fun z => Value.int .u8 z).toArray
  let h2 := put h1 4 (([0, 1, 56, 2, 57, 49, 28, 3, 61, 58, 42, 50, 38, 29, 17, 4, 62, 47, 59, 36, 45, 43, 51, 22, 53, 39, 33, 30, 24, 18, 12, 5, 63, 55, 48, 27, 60, 41, 37, 16, 46, 35, 44, 21, 52, 32, 23, 11, 54, 26, 40, 15, 34, 20, 31, 10, 25, 14, 19, 9, 13, 8, 7, 6] : List Int).map fun z => Value.int .u8 z).toArray
  let h3 := put h2 0 (Lib.pow10Tab.map fun z => Value.int .u64 z).toArray
  let h4 := put h3 2 #[.iface 250 (.pointer (some ⟨N, 0, none⟩))]
  let h5 := put h4 1 #[.iface 250 (.pointer (some ⟨N + 1, 0, none⟩))]
  { w0 with heap := h5 }
theorem laid_met (os : Os) (args : Array Value) : laidMet Tryz.prog laid5 ((laidWorld os).forCall (fun _ _ => 0) ⟨#[], args, []⟩).memory :=
  laidMet_of_run' 8 (by kernel_rfl) (by kernel_rfl)
end Go.Proofs.YtlnhocgjgmhfgaaGreatDoor

namespace Go.Proofs.YtlnhocgjgmhfgaaGreatDoor
open Go.ChangeShapes Go.WideShapes Go.RowKit
set_option maxRecDepth 100000

theorem again_all {H : Type} {enc : TypeId × Value → H} {P : Program} {W W' : World} (hl : laidOutB P = true) (hb : Below W.heap.size W W') :
    ∀ {ts : List TypeId} {vs : List Value} {ds : List (DataW H)} {ps : List MemPlace}, (∀ t ∈ ts, P.readableRec t = true ∧ t < P.types.size) → DataW.TrodAll enc P W 0 (fun _ => true) true ts vs ds ps →
      DataW.TrodAll enc P W' 0 (fun b => decide (b < W.heap.size)) true ts vs ds ps := by
  intro ts
  induction ts with
  | nil => intro vs ds ps _ h; exact match vs, ds, h with | [], [], h => h
  | cons t ts ih =>
    intro vs ds ps ht h
    obtain ⟨v, vs', d, ds', p, q, rfl, rfl, rfl, h1, h2⟩ := trodAll_cons h
    exact trodAll_cons_mk (Below.trod hl (ht t (by simp)).1 (ht t (by simp)).2 h1 hb (by obtain ⟨n, hn⟩ := h1; exact DataW.trod_lt n _ _ _ hn)) (ih (fun t' h' => ht t' (by simp [h'])) h2)
section
variable {H : Type} {enc : TypeId × Value → H} {W : World}
theorem cs_int1 {fuel : Nat} {cs : List Value} {x : DataW H × List MemPlace} (h : DataW.trod enc Tryz.prog W 0 (fun _ => true) true fuel 3 cs = some x) : ∃ n : Int, cs = [.int .i64 n] := by
  obtain ⟨a, e, -, -⟩ := DataW.trod_int Tryz.underlying3 h
  exact ⟨a, e⟩
/-- A list of elements of k cells, each read by its cells. -/
theorem slk_mk {α : Type} [Inhabited α] {f : α → List Value} {k len cap : Nat} {a : Addr} (hl : len ≤ cap) (hm : cap ≤ maxLen) (hk : 0 < k)
    (h : ∀ i, i < len → ∃ t : α, (f t).length = k ∧ ∀ j v, (f t)[j]? = some v → W.cell? (a.add (i * k + j)) = some v) : ∃ xs : List α, SlK f k W (.slice (some a) len cap) xs := by
  have h2 : ∀ i, ∃ t : α, i < len → (f t).length = k ∧ ∀ j v, (f t)[j]? = some v → W.cell? (a.add (i * k + j)) = some v := fun i => by
    by_cases hi : i < len
    · obtain ⟨t, ht⟩ := h i hi; exact ⟨t, fun _ => ht⟩
    · exact ⟨default, fun hh => absurd hh hi⟩
  obtain ⟨g, hg⟩ := Classical.axiomOfChoice h2
  obtain ⟨b, off, spot⟩ := a
  have c0 : 0 < len → ∃ v, W.cell? ((⟨b, off, spot⟩ : Addr).add 0) = some v := fun h0 => by
    obtain ⟨hl, hc⟩ := hg 0 h0
    have : 0 < (f (g 0)).length := by omega
    have := hc 0 _ (List.getElem?_eq_getElem this)
    exact ⟨_, by simpa using this⟩
  have hspot : 0 < len → spot = none := fun h0 => by
    obtain ⟨v, hv⟩ := c0 h0
    simpa [Addr.add] using World.cell?_spot hv
  have hadd : 0 < len → ∀ i, (⟨b, off, spot⟩ : Addr).add i = ⟨b, off + i, none⟩ := fun h0 i => by rw [hspot h0]; simp [Addr.add]
  refine ⟨(List.range len).map g, some ⟨b, off, spot⟩, b, off, cap, by simp, fun h0 => ?_, by simpa using hl, hm, (fun h => absurd h (by simp)), ⟨fun h0 => ?_, fun i hi j v hv => ?_⟩⟩
  · rw [hspot (by simpa using h0)]
  · have h0' : 0 < len := by simpa using h0
    obtain ⟨v, hv⟩ := c0 h0'
    rw [hadd h0'] at hv
    exact World.block_lt_of_cell? _ _ hv
  · have hi' : i < len := by simpa using hi
    have := (hg i hi').2 j v (by simpa using hv)
    rw [hadd (by omega), ← Nat.add_assoc] at this
    exact this
theorem cs_edges {fuel : Nat} {cs : List Value} {x : DataW H × List MemPlace} (h : DataW.trod enc Tryz.prog W 0 (fun _ => true) true fuel 22 cs = some x) :
    ∃ (c : Value) (xs : List (Int × Int × Int)), cs = [c] ∧ SlK e3 3 W c xs := by
  rcases Go.Deep.open_slice Tryz.underlying22 h with ⟨hcs, -⟩ | ⟨a, len, cap, m, n, D, Pl, hcs, -, hl, hm, hmm, -, hi⟩
  · exact ⟨_, [], hcs, SlK.nil⟩
  · have c2 : Tryz.prog.cellsOf 3 = 1 := by kernel_rfl
    have c3 : Tryz.prog.cellsOf 81 = 3 := by kernel_rfl
    simp only [if_true] at hmm
    obtain ⟨xs, hx⟩ := slk_mk (f := e3) (k := 3) (W := W) (a := a) hl hm (by omega) (fun i hil => by
      obtain ⟨cs', hc, ht⟩ := hi i (by omega)
      rw [c3] at hc
      obtain ⟨-, hcl, hat⟩ := World.cells?_some hc
      obtain ⟨y0, y1, y2, n', -, -, h0, h1, h2⟩ := Go.Deep.trod_struct3 Tryz.underlying81 ht
      match cs', hcl with
      | [u0, u1, u2], _ =>
        simp [c2] at h0 h1 h2
        obtain ⟨p, e0⟩ := cs_int1 h0
        obtain ⟨q, e1⟩ := cs_int1 h1
        obtain ⟨r, e2⟩ := cs_int1 h2
        simp at e0 e1 e2
        subst e0 e1 e2
        refine ⟨(p, q, r), rfl, fun j v hv => ?_⟩
        have hj : j < 3 := (List.getElem?_eq_some_iff.1 hv).1
        rw [← Go.Deep.add_add, hat j hj]
        exact hv)
    exact ⟨_, xs, hcs, hx⟩
theorem cs_ints1 {fuel : Nat} {cs : List Value} {x : DataW H × List MemPlace} (h : DataW.trod enc Tryz.prog W 0 (fun _ => true) true fuel 36 cs = some x) :
    ∃ (c : Value) (xs : List Int), cs = [c] ∧ SlK iz 1 W c xs := by
  rcases Go.Deep.open_slice Tryz.underlying36 h with ⟨hcs, -⟩ | ⟨a, len, cap, m, n, D, Pl, hcs, -, hl, hm, hmm, -, hi⟩
  · exact ⟨_, [], hcs, SlK.nil⟩
  · have c2 : Tryz.prog.cellsOf 3 = 1 := by kernel_rfl
    simp only [if_true] at hmm
    obtain ⟨xs, hx⟩ := slk_mk (f := iz) (k := 1) (W := W) (a := a) hl hm (by omega) (fun i hil => by
      obtain ⟨cs', hc, ht⟩ := hi i (by omega)
      rw [c2] at hc
      obtain ⟨-, hcl, hat⟩ := World.cells?_some hc
      obtain ⟨p, e0⟩ := cs_int1 ht
      subst e0
      refine ⟨p, rfl, fun j v hv => ?_⟩
      have hj : j < 1 := (List.getElem?_eq_some_iff.1 hv).1
      rw [← Go.Deep.add_add, hat j hj]
      exact hv)
    exact ⟨_, xs, hcs, hx⟩
theorem open_graph {v : Value} {d : DataW H} {ps : List MemPlace} (hval : Value.okWide Tryz.prog W .any 0 24 v) (hd : DataW.Trod enc Tryz.prog W 0 (fun _ => true) true 24 v d ps) :
    ∃ (n : Int) (u : Value) (es : List (Int × Int × Int)), v = .agg #[.int .i64 n, u] ∧ SlK e3 3 W u es := by
  obtain ⟨cs, rfl, hsz⟩ := okWide_struct Tryz.underlying24 hval
  obtain ⟨fuel, hf⟩ := hd
  obtain ⟨y0, y1, n, -, -, h0, h1⟩ := trod_struct2 Tryz.underlying24 hf
  have c1 : Tryz.prog.cellsOf 22 = 1 := by kernel_rfl
  have c2 : Tryz.prog.cellsOf 3 = 1 := by kernel_rfl
  have c3 : Tryz.prog.cellsOf 24 = 2 := by kernel_rfl
  obtain ⟨l⟩ := cs
  rw [c3] at hsz
  match l, hsz with
  | [u0, u1], _ =>
    simp [c1, c2, Value.cells] at h0 h1
    obtain ⟨R, e0⟩ := cs_int1 h0
    obtain ⟨v1, b, e1, hb⟩ := cs_edges h1
    simp at e0 e1
    subst e0 e1
    exact ⟨R, _, b, rfl, hb⟩
theorem open_uni {v : Value} {d : DataW H} {ps : List MemPlace} (hval : Value.okWide Tryz.prog W .any 0 38 v) (hd : DataW.Trod enc Tryz.prog W 0 (fun _ => true) true 38 v d ps) :
    ∃ (n : Int) (u : Value) (es : List Int), v = .agg #[.int .i64 n, u] ∧ SlK iz 1 W u es := by
  obtain ⟨cs, rfl, hsz⟩ := okWide_struct Tryz.underlying38 hval
  obtain ⟨fuel, hf⟩ := hd
  obtain ⟨y0, y1, n, -, -, h0, h1⟩ := trod_struct2 Tryz.underlying38 hf
  have c1 : Tryz.prog.cellsOf 36 = 1 := by kernel_rfl
  have c2 : Tryz.prog.cellsOf 3 = 1 := by kernel_rfl
  have c3 : Tryz.prog.cellsOf 38 = 2 := by kernel_rfl
  obtain ⟨l⟩ := cs
  rw [c3] at hsz
  match l, hsz with
  | [u0, u1], _ =>
    simp [c1, c2, Value.cells] at h0 h1
    obtain ⟨R, e0⟩ := cs_int1 h0
    obtain ⟨v1, b, e1, hb⟩ := cs_ints1 h1
    simp at e0 e1
    subst e0 e1
    exact ⟨R, _, b, rfl, hb⟩
end
end Go.Proofs.YtlnhocgjgmhfgaaGreatDoor
