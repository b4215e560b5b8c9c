/- The walks of the reference's two, bounded and Add of matrices. The walks of the reference's Times, Product and Column of matrices. What the rows' lists of package-level variables give; a world for the witnesses. -/
import Derived.Test.YtkkklfikdoibcaaGreatDoorPk8
import Derived.Test.YtkkklfikdoibcaaGreatDoorPk6
import Derived.Test.YtkkklfikdoibcaaGreatDoorPk4
import Derived.Test.YtkkklfikdoibcaaGreatDoorPk9
import Derived.Laws.EntriesVeiled
import Derived.Test.YtkkklfikdoibcaaGreatDoorPk11
import Derived.Test.YtkkklfikdoibcaaGreatDoorCards
import Derived.Test.YtkkklfikdoibcaaGreatDoorTie
import Derived.Test.YtkkklfikdoibcaaGreatDoorPk2
import Derived.ProofKit
import Derived.OpenShut
import Derived.Deep.DeepHandedRow
import Derived.Deep.DeepWitnessRowRef
import Derived.Lib.LaidTab
import Derived.Stop.LaidErr
namespace Go.Proofs.YtkkklfikdoibcaaGreatDoor
open Go.RowKit
set_option maxRecDepth 100000

/-- What holds of a matrix in the making at g; below g all is as in W. -/
structure GB (W : World) (g : Nat) (wr : World) (R C : Int) (v : Value) (os : List ByteArray) : Prop where
  sz : W.heap.size = g
  box : Blk wr g [.int .i64 R, .int .i64 C, v] 29
  row : wr.ownsRow (g + 1) 48 1 v os.length (os.map eS)
  bel : Below g W wr
theorem GB.lt {w wr : World} {h : Nat} {R C : Int} {v : Value} {os : List ByteArray} (H : GB w h wr R C v os) : h < wr.heap.size := H.box.lt
theorem GB.keep {w wr w' : World} {h : Nat} {R C : Int} {v : Value} {os : List ByteArray} (H : GB w h wr R C v os) (hb : Below wr.heap.size wr w') : GB w h w' R C v os :=
  ⟨H.sz, H.box.below hb (Nat.le_refl _), own_below H.row hb (Nat.le_refl _), H.bel.trans (hb.mono (by have := H.lt; omega))⟩
theorem GB.drew {w wr : World} {h : Nat} {R C : Int} {v : Value} {os : List ByteArray} (H : GB w h wr R C v os) : GB w h wr.drew R C v os := H.keep (Below.refl _ _).drew
theorem GB.start (w : World) (R C : Int) : GB w w.heap.size (w.alloc (.cells #[.int .i64 R, .int .i64 C, .slice none 0 0] 29)) R C (.slice none 0 0) [] :=
  ⟨rfl, Blk.new w [.int .i64 R, .int .i64 C, .slice none 0 0] 29, World.ownsRow_nil _ _ _ _, (Below.refl _ _).alloc (Nat.le_refl _) _⟩
theorem GB.push {w w1 w2 : World} {h : Nat} {R C : Int} {v v' : Value} {os : List ByteArray} {s : ByteArray} (H : GB w h w1 R C v os) (hb : Below (h + 1) w1 w2) (ho : w2.ownsRow (h + 1) 48 1 v' (os.length + 1) (os.map eS ++ [.string s])) :
    GB w h (w2.setCell ⟨h, 2, none⟩ v') R C v' (os ++ [s]) := by
  have b2 : Blk w2 h [.int .i64 R, .int .i64 C, v] 29 := (hb.block _ (by omega)).trans H.box
  refine ⟨H.sz, ?_, ?_, (H.bel.trans (hb.mono (by omega))).setCell (by simp) _⟩
  · have := b2.set 2 v'
    simpa using this
  · refine ownsRow_cast (n := os.length + 1) (ys := os.map eS ++ [.string s]) ?_ (by simp) (by simp [eS])
    exact ⟨ho.1, ho.2.imp_right fun ⟨g', cap, cur, h1, h2, h3, r⟩ => ⟨g', cap, cur, h1, h2, (Below.heap_setCell _ _ _ _ (show g' ≠ h by omega)).trans h3, r⟩⟩
theorem GB.box6 {w w1 w2 : World} {h : Nat} {R C : Int} {v : Value} {os : List ByteArray} (H : GB w h w1 R C v os) (hb : Below (h + 1) w1 w2) : Blk w2 h [.int .i64 R, .int .i64 C, v] 29 := (hb.block _ (by omega)).trans H.box
theorem cellsF_idx {r c t : Nat} (A : Mat) (ht : t < r * c) (h : t < (cellsF r c A).length) : (cellsF r c A)[t] = txt (A (t / c) (t % c)) ∧ t / c < r ∧ t % c < c := by
  have hc : 0 < c := by rcases Nat.eq_zero_or_pos c with e | e; · simp [e] at ht
                        · exact e
  exact ⟨by simp [cellsF], Nat.div_lt_of_lt_mul (by rw [Nat.mul_comm]; exact ht), Nat.mod_lt _ hc⟩
end Go.Proofs.YtkkklfikdoibcaaGreatDoor

namespace Go.Proofs.YtkkklfikdoibcaaGreatDoor
open Go.RowKit
set_option maxRecDepth 100000

set_option maxHeartbeats 8000000 in
theorem rTimes3_any (w : World) (v u : Value) (xs ys : List ByteArray) (r n p : Nat) (A B : Mat) (hv : Sl eS w v xs) (hu : Sl eS w u ys) (hx : xs = cellsF r n A) (hy : ys = cellsF n p B) (hr : r ≤ 16) (hn : n ≤ 16) (hp : p ≤ 16) (hA : ∀ i k, i < r → k < n → dn (A i k) ≤ 1000) (hB : ∀ i k, i < n → k < p → dn (B i k) ≤ 1000) :
    Calls Tryz.prog 89 #[.agg #[.int .i64 r, .int .i64 n, v], .agg #[.int .i64 n, .int .i64 p, u]] w (Rets fun v' w' => ∃ u, v' = .agg #[.int .i64 r, .int .i64 p, u] ∧ Sl eS w' u (cellsF r p (mulM n A B)) ∧ Below w.heap.size w w') := by
  have HV := Lib.hid hv; have HU := Lib.hid hu; have HX := Lib.hid hx; have HY := Lib.hid hy; have HA := Lib.hid hA; have HBB := Lib.hid hB
  obtain ⟨ad, cap, rfl⟩ := sl_form hv
  obtain ⟨ad', cap', rfl⟩ := sl_form hu
  have HL2 := Lib.hid (show xs.length ≤ 256 by rw [hx, cellsF_len]; exact Nat.mul_le_mul hr hn)
  have HL2' := Lib.hid (show ys.length ≤ 256 by rw [hy, cellsF_len]; exact Nat.mul_le_mul hn hp)
  clear hv hu hx hy hA hB
  obtain ⟨L, hL⟩ : ∃ L, cellsF r p (mulM n A B) = L := ⟨_, rfl⟩
  have HLG := Lib.hid (fun a b (ha : a < r) (hb : b < p) (h : a * p + b < L.length) => show L.take (a * p + b + 1) = L.take (a * p + b) ++ [txt (mulM n A B a b)] by
    rw [List.take_succ_eq_append_getElem h]; subst hL; rw [cellsF_get _ hb h])
  have HLL := Lib.hid (show L.length = r * p by rw [← hL, cellsF_len])
  have HLM := Lib.hid (show L.length ≤ 256 by rw [← hL, cellsF_len]; exact Nat.mul_le_mul hr hp)
  rw [hL]
  clear hL
  have hF0 := FB.start ((w.alloc (.cells #[.int .i64 r, .int .i64 n, .slice ad xs.length cap] 29)).alloc (.cells #[.int .i64 n, .int .i64 p, .slice ad' ys.length cap'] 29)) (r : Int) (p : Int)
  have hsz : ((w.alloc (.cells #[.int .i64 r, .int .i64 n, .slice ad xs.length cap] 29)).alloc (.cells #[.int .i64 n, .int .i64 p, .slice ad' ys.length cap'] 29)).heap.size = w.heap.size + 2 := by simp
  rw [hsz] at hF0
  have bM := (Blk.new w [.int .i64 r, .int .i64 n, .slice ad xs.length cap] 29).alloc (.cells #[.int .i64 n, .int .i64 p, .slice ad' ys.length cap'] 29)
  have bM2 := Blk.at1 w (.cells #[.int .i64 r, .int .i64 n, .slice ad xs.length cap] 29) [.int .i64 n, .int .i64 p, .slice ad' ys.length cap'] 29
  have hbW : Below w.heap.size w ((w.alloc (.cells #[.int .i64 r, .int .i64 n, .slice ad xs.length cap] 29)).alloc (.cells #[.int .i64 n, .int .i64 p, .slice ad' ys.length cap'] 29)) := ((Below.refl _ _).alloc (Nat.le_refl _) _).alloc (by simp) _
  obtain ⟨W0, hW0⟩ : ∃ W0, (w.alloc (.cells #[.int .i64 r, .int .i64 n, .slice ad xs.length cap] 29)).alloc (.cells #[.int .i64 n, .int .i64 p, .slice ad' ys.length cap'] 29) = W0 := ⟨_, rfl⟩
  rw [hW0] at hF0 bM bM2 hbW
  have HH := Lib.hid (held_two bM bM2 (h := w.heap.size + 2) (by omega) (by omega))
  have HS0 : Hid (w.heap.size + 2 ≤ W0.heap.size) := Lib.hid (by rw [← hW0]; simp)
  have HBW := Lib.hid hbW; have HW0 := Lib.hid hW0
  have HF0 := Lib.hid hF0
  clear hF0 bM bM2 hbW hW0 hsz
  go_enter Tryz.func89, Tryz.ntmps89
  go_wp2
  rw [HW0.out]
  go_loopw [6] (fun i wr => ∃ a : Nat, a ≤ r ∧ i = .int .i64 a ∧ ∃ v, Hid (FB W0 (w.heap.size + 2) wr (r : Int) (p : Int) v (L.take (a * p)))) (fun i _ => r - (intOf i).toNat)
  case atStart => exact ⟨0, Nat.zero_le _, rfl, _, Lib.hid (by rw [Nat.zero_mul]; exact HF0.out)⟩
  case round =>
    clear HF0
    obtain ⟨a, ha, rfl, v, hB⟩ := hrel
    obtain ⟨WA, rfl⟩ : ∃ W, W = wr := ⟨_, rfl⟩
    obtain ⟨-, ⟨m0, m1, m2⟩, d0, d1, d2⟩ := HH.out WA ⟨HS0.out, hB.out.bel⟩
    by_cases har : a < r
    · go_wp2
      go_loopw [7] (fun i wr => ∃ b : Nat, b ≤ p ∧ i = .int .i64 b ∧ ∃ v, Hid (FB W0 (w.heap.size + 2) wr (r : Int) (p : Int) v (L.take (a * p + b)))) (fun i _ => p - (intOf i).toNat)
      case atStart => exact ⟨0, Nat.zero_le _, rfl, _, hB⟩
      case round =>
        clear hB m0 m1 m2 d0 d1 d2
        obtain ⟨b, hb, rfl, v, hB⟩ := hrel
        obtain ⟨WB, rfl⟩ : ∃ W, W = wr := ⟨_, rfl⟩
        obtain ⟨-, ⟨m0, m1, m2⟩, d0, d1, d2⟩ := HH.out WB ⟨HS0.out, hB.out.bel⟩
        by_cases hbp : b < p
        · have hNX := HLG.out a b har hbp (by rw [HLL.out]; exact mul_lt har hbp)
          obtain ⟨T, hTT⟩ : ∃ T, L.take (a * p + b) = T := ⟨_, rfl⟩
          rw [hTT] at hB hNX
          have HNX := Lib.hid hNX
          have HTL := Lib.hid (show T.length ≤ 1000000 by rw [← hTT, List.length_take]; have := HLM.out; omega)
          clear hNX hTT
          go_wp2
          go_loopw [8, 9] (fun sv j wr => ∃ q : Nat, q ≤ n ∧ j = .int .i64 q ∧ sv = .string (txt (sm q fun j => A a j * B j b)) ∧ Hid (FB W0 (w.heap.size + 2) wr (r : Int) (p : Int) v T)) (fun _ j _ => n - (intOf j).toNat)
          case atStart => exact ⟨0, Nat.zero_le _, rfl, by rw [sm, txt0], hB⟩
          case round =>
            clear hB m0 m1 m2 d0 d1 d2
            obtain ⟨q, hq, rfl, rfl, hB⟩ := hrel
            have hU : Up (w.heap.size + 2) W0 wr := ⟨HS0.out, hB.out.bel⟩
            obtain ⟨-, ⟨m0, m1, m2⟩, d0, d1, d2⟩ := HH.out wr hU
            by_cases hqn : q < n
            · have HX' := Lib.hid (show xs[a * n + q]? = some (txt (A a q)) by rw [HX.out]; exact cellsF_get? A har hqn)
              have HY' := Lib.hid (show ys[q * p + b]? = some (txt (B q b)) by rw [HY.out]; exact cellsF_get? B hqn hbp)
              have hda := HA.out a q har hqn; have hdb := HBB.out q b hqn hbp
              have hds : dn (sm q fun j => A a j * B j b) ≤ 2000 + q := dn_sm _ q fun j hj => by
                have h1 := HA.out a j har (by omega); have h2 := HBB.out j b (by omega) hbp
                have h3 := dn_mul (A a j) (B j b); omega
              have hdm := dn_mul (A a q) (B q b)
              have HDA := Lib.hid hda; have HDB := Lib.hid hdb; have HDS := Lib.hid (show dn (sm q fun j => A a j * B j b) ≤ 100000 by omega); have HDM := Lib.hid (show dn (A a q * B q b) ≤ 100000 by omega)
              have HSM := Lib.hid (show sm (q + 1) (fun j => A a j * B j b) = sm q (fun j => A a j * B j b) + A a q * B q b from rfl)
              obtain ⟨S, hS⟩ : ∃ S, sm q (fun j => A a j * B j b) = S := ⟨_, rfl⟩
              rw [hS] at HDS HSM ⊢
              have HVr := Lib.hid (hU.sl HV.out HBW.out (by omega)); have HUr := Lib.hid (hU.sl HU.out HBW.out (by omega))
              have HBr := Lib.hid (Below.refl wr.heap.size wr); have HU0 := Lib.hid (Up.start wr)
              have HHr := Lib.hid (fun w' (H : Up wr.heap.size wr w') => show Up wr.heap.size wr w' ∧ (w'.cell? ⟨w.heap.size, 0, none⟩ = some (.int .i64 r) ∧ w'.cell? ⟨w.heap.size, 1, none⟩ = some (.int .i64 n) ∧ w'.cell? ⟨w.heap.size, 2, none⟩ = some (.slice ad xs.length cap)) ∧ w'.cell? ⟨w.heap.size + 1, 0, none⟩ = some (.int .i64 n) ∧ w'.cell? ⟨w.heap.size + 1, 1, none⟩ = some (.int .i64 p) ∧ w'.cell? ⟨w.heap.size + 1, 2, none⟩ = some (.slice ad' ys.length cap') from ⟨H, (HH.out w' ⟨HS0.out, hU.2.trans (H.2.mono (Nat.le_trans HS0.out hU.2.size))⟩).2⟩)
              clear hda hdb hds hdm hS hU
              go_wp2_with fail
              go_region_held3 (fun w' => Up wr.heap.size wr w' ∧ (w'.cell? ⟨w.heap.size, 0, none⟩ = some (.int .i64 r) ∧ w'.cell? ⟨w.heap.size, 1, none⟩ = some (.int .i64 n) ∧ w'.cell? ⟨w.heap.size, 2, none⟩ = some (.slice ad xs.length cap)) ∧ w'.cell? ⟨w.heap.size + 1, 0, none⟩ = some (.int .i64 n) ∧ w'.cell? ⟨w.heap.size + 1, 1, none⟩ = some (.int .i64 p) ∧ w'.cell? ⟨w.heap.size + 1, 2, none⟩ = some (.slice ad' ys.length cap'))
                (((refine HHr.out _ ?_); first
                  | with_reducible exact HU0.out.drew
                  | with_reducible exact Up.call (And.left (by assumption)) (by assumption)
                  | with_reducible assumption
                  | with_reducible exact And.left (by assumption)))
                (first
                  | (go_at_call_of 150 (Value.agg #[Value.int .i64 (r : Int), Value.int .i64 (n : Int), Value.slice ad xs.length cap]); (with_reducible refine (rMat_any _ (r : Int) (n : Int) _ xs n a q _ (Up.sl (And.left (by assumption)) HVr.out HBr.out (Nat.le_refl _)) rfl HL2.out HX'.out).mono ?_); rintro e w4 ⟨u4, rfl, rfl, hb4⟩)
                  | (go_at_call_of 150 (Value.agg #[Value.int .i64 (n : Int), Value.int .i64 (p : Int), Value.slice ad' ys.length cap']); (with_reducible refine (rMat_any _ (n : Int) (p : Int) _ ys p q b _ (Up.sl (And.left (by assumption)) HUr.out HBr.out (Nat.le_refl _)) rfl HL2'.out HY'.out).mono ?_); rintro e w5 ⟨u5, rfl, rfl, hb5⟩)
                  | (go_at_call 149; (with_reducible refine (Times_any _ (A a q) (B q b) (by have := HDA.out; omega) (by have := HDB.out; omega)).mono ?_); rintro e w6 ⟨u6, rfl, rfl, hb6⟩)
                  | (go_at_call 148; (with_reducible refine (Plus_any _ S (A a q * B q b) HDS.out HDM.out).mono ?_); rintro e w7 ⟨u7, rfl, rfl, hb7⟩))
              all_goals
                go_wp2_with fail
                go_roundw
                case rel => exact ⟨q + 1, by omega, by go_num, by rw [HSM.out], Lib.hid (hB.out.keep (Up.bel (And.left (by assumption))))⟩
                case measure => simp [intOf]; omega
            · obtain rfl : q = n := by omega
              have k2 := hB.out.box.cell 2 _ rfl
              obtain ⟨z, hz⟩ : ∃ z, sm q (fun j => A a j * B j b) = z := ⟨_, rfl⟩
              have HZ := Lib.hid (show mulM q A B a b = z from hz)
              rw [hz]
              clear hz
              go_wp2_with (at_builtin; refine app1 (news := [.string (txt z)]) elemStr rfl _ _ rfl rfl rfl hB.out.row (Below.refl _ _) (Nat.le_refl _) (by have := hB.out.box.lt; omega) rfl (by simp [Value.oneCell']) (by have := HTL.out; omega) (by unfold maxLen; have := HTL.out; omega) ?_; intro v6 w6 hown6 hb6; obtain ⟨g6, cap6, rfl⟩ := ownsRow_succ hown6; have H6 := Lib.hid (hB.out.push hb6 hown6); have B6 := hB.out.box6 hb6; have j2 := B6.cell 2 _ rfl; have f2 := B6.free 2; clear hown6 B6)
              go_roundw
              case rel => exact ⟨b + 1, by omega, by go_num, _, Lib.hid (by rw [← Nat.add_assoc, HNX.out, HZ.out]; exact H6.out)⟩
              case measure => simp [intOf]; omega
        · obtain rfl : b = p := by omega
          go_wp2
          go_roundw
          case rel => exact ⟨a + 1, by omega, by go_num, v, Lib.hid (by rw [Nat.add_mul, Nat.one_mul]; exact hB.out)⟩
          case measure => simp [intOf]; omega
    · obtain rfl : a = r := by omega
      have H := Lib.hid (show FB W0 (w.heap.size + 2) WA (a : Int) (p : Int) v L by have := hB.out; rwa [← HLL.out, List.take_length] at this)
      obtain ⟨va, vc, rfl⟩ := own_form H.out.row
      have k0 := H.out.box.cell 0 _ rfl; have k1 := H.out.box.cell 1 _ rfl; have k2 := H.out.box.cell 2 _ rfl
      have r0 := H.out.res.cell 0 _ rfl; have r1 := H.out.res.cell 1 _ rfl; have r2 := H.out.res.cell 2 _ rfl
      have f0 := H.out.res.free 0; have f1 := H.out.res.free 1; have f2 := H.out.res.free 2
      clear hB
      go_wp2
      obtain ⟨hR, hS, hW⟩ := H.out.done
      have q0 := hR.cell 0 _ rfl; have q1 := hR.cell 1 _ rfl; have q2 := hR.cell 2 _ rfl
      exact bodyPost_ret (v := .agg #[.int .i64 a, .int .i64 p, .slice va L.length vc]) (by simp [results, Tryz.results89, go_sem, q0, q1, q2]) rfl ⟨_, rfl, _, rfl, hS, HBW.out.trans (hW.mono (Nat.le_trans (by omega) HS0.out))⟩
end Go.Proofs.YtkkklfikdoibcaaGreatDoor

namespace Go.Proofs.YtkkklfikdoibcaaGreatDoor
open Go.RowKit

theorem cOwn : ownKnob Tryz.prog.godebug = none := by kernel_rfl
theorem int_wf {n : Int} (h : (Lit.int .i64 n).wf = true) : -9223372036854775808 ≤ n ∧ n ≤ 9223372036854775807 := by
  have e1 : IntKind.i64.min = -9223372036854775808 := rfl
  have e2 : IntKind.i64.max = 9223372036854775807 := rfl
  simp [Lit.wf, e1, e2] at h; exact h
theorem int32_wf {n : Int} (h : (Lit.int .i32 n).wf = true) : -2147483648 ≤ n ∧ n ≤ 2147483647 := by
  have e1 : IntKind.i32.min = -2147483648 := rfl
  have e2 : IntKind.i32.max = 2147483647 := rfl
  simp [Lit.wf, e1, e2] at h; exact h
theorem u8_wf {n : Int} (h : (Lit.int .u8 n).wf = true) : 0 ≤ n ∧ n ≤ 255 := by
  have e1 : IntKind.u8.min = 0 := rfl
  have e2 : IntKind.u8.max = 255 := rfl
  simp [Lit.wf, e1, e2] at h; exact h
theorem cErrT (u : TypeId) (h : Tryz.prog.typeName? 3 u = some "*errors.errorString") : u = 345 :=
  typeName_ptr_named (nm := "errors.errorString") (by rw [show "*" ++ "errors.errorString" = "*errors.errorString" by decide]; kernel_rfl) (by kernel_rfl) (by decide) u (by rw [show "*" ++ "errors.errorString" = "*errors.errorString" by decide]; exact h)

/-- What the five listed variables hold. -/
def laid5 : List (String × DataW Unit) := [("math/bits.deBruijn32tab", Rows.laid_math_bits_deBruijn32tab), ("math/bits.deBruijn64tab", Rows.laid_math_bits_deBruijn64tab), ("internal/strconv.uint64pow10", Rows.laid_internal_strconv_uint64pow10), ("strconv.ErrRange", Rows.laid_strconv_ErrRange), ("strconv.ErrSyntax", Rows.laid_strconv_ErrSyntax)]
theorem env_of {W : World} (h : laidMetH Tryz.prog laid5 W) : Env W := by
  have h1 : laidMet Tryz.prog laid5 W := h
  have h2 := h1.tail.tail
  obtain ⟨a0, t0, hv0, -, -, -⟩ := laid_sentinel (g := 2) h2.tail (by kernel_rfl) (by kernel_rfl) Tryz.underlying280 cErrT Tryz.underlying345 Tryz.underlying347 rfl rfl Tryz.underlying9 (by kernel_rfl) (by kernel_rfl)
  obtain ⟨a1, t1, hv1, -, -, -⟩ := laid_sentinel (g := 1) h2.tail.tail (by kernel_rfl) (by kernel_rfl) Tryz.underlying280 cErrT Tryz.underlying345 Tryz.underlying347 rfl rfl Tryz.underlying9 (by kernel_rfl) (by kernel_rfl)
  exact ⟨Lib.tabIs_of_head (g := 0) (t := 330) (e := 275) (by kernel_rfl) (by kernel_rfl) Tryz.underlying330 Tryz.underlying275 (by kernel_rfl) (by kernel_rfl) h2, ⟨_, _, hv1⟩, ⟨_, _, hv0⟩⟩

/-- The world of a witness: the listed variables hold what their initialisers lay. -/
noncomputable def laidWorld (os : Os) : World :=
  let N := (World.settled Tryz.prog os).heap.size
  let w0 := World.holding Tryz.prog os ⟨#[.cells #[.string ⟨#[118, 97, 108, 117, 101, 32, 111, 117, 116, 32, 111, 102, 32, 114, 97, 110, 103, 101]⟩] 347, .cells #[.string ⟨#[105, 110, 118, 97, 108, 105, 100, 32, 115, 121, 110, 116, 97, 120]⟩] 347], #[], []⟩
  let put (h : Array Obj) (g : Nat) (cs : Array Value) : Array Obj := h.modify g fun
    | .cells _ t frozen => .cells cs t frozen
    | o => o
  let h1 := put w0.heap 3 (([0, 1, 28, 2, 29, 14, 24, 3, 30, 22, 20, 15, 25, 17, 4, 8, 31, 27, 13, 23, 21, 19, 16, 7, 26, 12, 18, 6, 11, 5, 10, 9] : List Int).map fun z => Value.int .u8 z).toArray
  let h2 := put h1 4 (([0, 1, 56, 2, 57, 49, 28, 3, 61, 58, 42, 50, 38, 29, 17, 4, 62, 47, 59, 36, 45, 43, 51, 22, 53, 39, 33, 30, 24, 18, 12, 5, 63, 55, 48, 27, 60, 41, 37, 16, 46, 35, 44, 21, 52, 32, 23, 11, 54, 26, 40, 15, 34, 20, 31, 10, 25, 14, 19, 9, 13, 8, 7, 6] : List Int).map fun z => Value.int .u8 z).toArray
  let h3 := put h2 0 (Lib.pow10Tab.map fun z => Value.int .u64 z).toArray
  let h4 := put h3 2 #[.iface 345 (.pointer (some ⟨N, 0, none⟩))]
  let h5 := put h4 1 #[.iface 345 (.pointer (some ⟨N + 1, 0, none⟩))]
  { w0 with heap := h5 }
theorem laid_met (os : Os) (args : Array Value) : laidMet Tryz.prog laid5 ((laidWorld os).forCall (fun _ _ => 0) ⟨#[], args, []⟩).memory :=
  laidMet_of_run' 8 (by kernel_rfl) (by kernel_rfl)
end Go.Proofs.YtkkklfikdoibcaaGreatDoor
