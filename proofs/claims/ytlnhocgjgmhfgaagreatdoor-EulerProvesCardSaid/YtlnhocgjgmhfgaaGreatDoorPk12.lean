/- The walk of euler's cycles. The walks of slices.ContainsFunc at rows of numbers, with Check's closure. Plain law: a chip that walks along turning pointers on a balanced digraph goes along each arc once and is back. -/
import Derived.Test.YtlnhocgjgmhfgaaGreatDoorPk11
import Derived.Maps.OwnSet
namespace Go.Proofs.YtlnhocgjgmhfgaaGreatDoor
open Go.RowKit Go.Maps
set_option maxRecDepth 100000

theorem lawI : Keyed Tryz.prog 3 := int_keyed Tryz.underlying3
/-- What cycles answers. -/
def CycP (p : List Nat) (n at_ : Nat) (r : Value) (w w' : World) : Prop := ∃ (c : Int) (t : Bool), r = .tuple #[.int .i64 c, .bool t] ∧ Below w.heap.size w w' ∧ ((c = 1 ∧ t = true) ↔ ∀ v, v < n → ∃ i, it p i v = at_)
def mset (ks : List Nat) : DataW Unit := setOf (.lit (.bool true)) (ks.map fun k => Lit.int .i64 (k : Nat))
theorem mset_snoc (ks : List Nat) (m : Nat) : mset (ks ++ [m]) = (mset ks).put (Lit.int .i64 (m : Nat)) (.lit (.bool true)) := by simp [mset, setOf_snoc]

def lk (k : Nat) : Lit := Lit.int .i64 (k : Nat)
def ddS (acc : List Nat) (x : Nat) : List Nat := if x ∈ acc then acc else acc ++ [x]
theorem any_lk (x : Nat) : ∀ l : List Nat, (l.map lk).any (fun y => y.sameKey (lk x)) = decide (x ∈ l)
  | [] => by simp
  | a :: r => by
    rw [List.map_cons, List.any_cons, any_lk x r]
    have : (lk a).sameKey (lk x) = decide (IntKind.i64 = IntKind.i64 ∧ (a : Int) = (x : Int)) := rfl
    rw [this]
    by_cases e : a = x
    · subst e; simp
    · have e1 : ¬ (a : Int) = (x : Int) := by omega
      have e2 : ¬ x = a := fun h => e h.symm
      simp [e1, e2]
theorem fold_dd : ∀ (ks acc : List Nat), (ks.map lk).foldl addKey (acc.map lk) = (ks.foldl ddS acc).map lk
  | [], acc => rfl
  | x :: r, acc => by
    rw [List.map_cons, List.foldl_cons, List.foldl_cons, ← fold_dd r]
    congr 1
    unfold addKey ddS
    rw [any_lk]
    by_cases h : x ∈ acc <;> simp [h]
theorem dd_inv : ∀ (ks acc : List Nat), acc.Nodup → (ks.foldl ddS acc).Nodup ∧ ∀ x, x ∈ ks.foldl ddS acc ↔ x ∈ acc ∨ x ∈ ks
  | [], acc, h => ⟨h, fun x => by simp⟩
  | y :: r, acc, h => by
    have h2 : (ddS acc y).Nodup := by
      unfold ddS
      split
      · exact h
      · rename_i hy
        rw [List.nodup_append]
        exact ⟨h, by simp, fun a ha b hb e => by simp at hb; subst hb; subst e; exact hy ha⟩
    obtain ⟨h3, h4⟩ := dd_inv r (ddS acc y) h2
    refine ⟨h3, fun x => ?_⟩
    rw [List.foldl_cons, h4]
    unfold ddS
    split
    · rename_i hy
      constructor
      · rintro (h | h)
        · exact .inl h
        · exact .inr (List.mem_cons_of_mem _ h)
      · rintro (h | h)
        · exact .inl h
        · rcases List.mem_cons.1 h with rfl | h
          · exact .inl hy
          · exact .inr h
    · simp [or_assoc]
theorem size_one (ks : List Nat) (h0 : ks ≠ []) : (Maps.size (mset ks) : Int) = 1 ↔ ∀ a ∈ ks, ∀ b ∈ ks, a = b := by
  have e1 : Maps.size (mset ks) = (ks.foldl ddS []).length := by
    have := size_setOf (H := Unit) (.lit (.bool true)) (ks.map lk) (fun x hx => by obtain ⟨_, _, rfl⟩ := List.mem_map.1 hx; trivial)
    have e : Maps.size (mset ks) = ((ks.map lk).foldl addKey ([].map lk)).length := this
    rw [e, fold_dd, List.length_map]
  obtain ⟨hnd, hmem⟩ := dd_inv ks [] List.nodup_nil
  rw [e1]
  obtain ⟨L, hL⟩ : ∃ L, ks.foldl ddS [] = L := ⟨_, rfl⟩
  rw [hL] at hnd hmem ⊢
  constructor
  · intro h a ha b hb
    have hl : L.length = 1 := by omega
    obtain ⟨x, rfl⟩ := List.length_eq_one_iff.1 hl
    have h1 := (hmem a).2 (.inr ha)
    have h2 := (hmem b).2 (.inr hb)
    simp at h1 h2
    rw [h1, h2]
  · intro h
    obtain ⟨k, hk⟩ := List.exists_mem_of_ne_nil _ h0
    match L, hnd, hmem with
    | [], _, hmem => exact absurd ((hmem k).2 (.inr hk)) (by simp)
    | [x], _, _ => rfl
    | x :: y :: r, hnd, hmem =>
      have h1 := ((hmem x).1 (by simp)).resolve_left (by simp)
      have h2 := ((hmem y).1 (by simp)).resolve_left (by simp)
      have := h x h1 y h2
      subst this
      simp at hnd

set_option maxHeartbeats 4000000 in
theorem cycles_ok (w : World) (p : List Nat) (n at_ : Nat) (hl : p.length = 12) (hp : ∀ v, v < n → p.getD v 0 < n) (h1 : 1 ≤ n) (hn : n ≤ 12) (hat : at_ < n) :
    Calls Tryz.prog 50 #[.agg (ints p).toArray, .int .i64 (n : Nat), .int .i64 (at_ : Nat)] w (Rets fun r w' => CycP p n at_ r w w') := by
  have hmm := @run_makeMap Tryz.prog
  go_enter Tryz.func50, Tryz.ntmps50
  go_wp2
  have HP := Lib.hid hp
  have HB0 := Lib.hid (Blk.new w (ints p) 95)
  have B0 := Lib.hid ((Below.refl w.heap.size w).alloc (Nat.le_refl _) (.cells (ints p).toArray 95))
  obtain ⟨W, hW⟩ : ∃ W, w.alloc (.cells (ints p).toArray 95) = W := ⟨_, rfl⟩
  have hWs : W.heap.size = w.heap.size + 1 := by rw [← hW, World.size_alloc]
  rw [hW] at HB0 B0 ⊢
  have M0 : Hid ((W.alloc (.map #[] 0)).ownsMap Tryz.prog 3 (plainElem (H := Unit) Tryz.prog 4) W.heap.size 0 (mset [])) := Lib.hid (World.ownsMap_made _ _ _ _)
  have B1 := Lib.hid ((Below.refl W.heap.size W).alloc (Nat.le_refl _) (.map #[] 0))
  have HWS := Lib.hid hWs
  rw [← hWs]
  clear hW hWs hp
  have K0 : Hid (Keys p n []) := Lib.hid ⟨Nat.zero_le _, fun v h => absurd h (by simp)⟩
  go_loopw [9, 16] (fun on i wr => ∃ (k : Nat) (ks : List Nat) (t : Bool), k ≤ n ∧ i = .int .i64 k ∧ on = .bool t ∧ Hid (ks.length = k) ∧ Hid (Keys p n ks) ∧ Hid (t = true ↔ ∃ v, v < k ∧ ∃ i, i < n ∧ it p i (it p n v) = at_) ∧ Hid (wr.ownsMap Tryz.prog 3 (plainElem (H := Unit) Tryz.prog 4) W.heap.size k (mset ks)) ∧ Hid (Below W.heap.size W wr)) (fun _ i _ => n - (intOf i).toNat)
  case atStart => exact ⟨0, [], false, Nat.zero_le _, rfl, rfl, Lib.hid rfl, K0, Lib.hid ⟨fun h => absurd h (by decide), fun ⟨v, hv, _⟩ => absurd hv (Nat.not_lt_zero _)⟩, M0, B1⟩
  case round =>
    clear K0 M0 B1
    obtain ⟨k, ks, t, hk, rfl, rfl, hks, hK, hT, hM, hB⟩ := hrel
    by_cases hkn : k < n
    · have HPB := Lib.hid (HB0.out.below hB.out (Nat.le_refl _))
      have HAT := Lib.hid (fun (x : Nat) (hx : x < n) => (HPB.out.cell x _ (ints_at p x (by omega)) : wr.cell? ⟨w.heap.size, x, none⟩ = some (.int .i64 (p[x]'(by omega) : Nat))))
      have HLT := Lib.hid HPB.out.lt
      have HSTEP := Lib.hid (fun (x : Nat) (hx : x < n) => (by
        have := HAT.out x hx
        rwa [show p[x]'(by omega) = p.getD x 0 by simp [List.getD_eq_getElem?_getD, show x < p.length by omega]] at this : wr.cell? ⟨w.heap.size, x, none⟩ = some (.int .i64 (p.getD x 0 : Nat))))
      have V0 : Hid ((k : Nat) = it p 0 k) := Lib.hid rfl
      go_wp2
      go_loopw [10, 20] (fun x i w2 => ∃ j : Nat, j ≤ n ∧ i = .int .i64 j ∧ x = .int .i64 (it p j k : Nat) ∧ Hid (w2 = wr)) (fun _ i _ => n - (intOf i).toNat)
      case atStart => exact ⟨0, Nat.zero_le _, rfl, rfl, by first | exact Lib.hid rfl | exact Lib.hid trivial⟩
      case round =>
        obtain ⟨j, hj, rfl, rfl, hw⟩ := hrel
        obtain rfl := hw.out
        have hc := it_lt HP.out j k hkn
        have c0 := HSTEP.out _ hc
        have hlt := HLT.out
        have HIT := Lib.hid (show p.getD (it p j k) 0 = it p (j + 1) k from rfl)
        rw [HIT.out] at c0
        by_cases hjn : j < n
        · obtain ⟨x, hx⟩ : ∃ x, it p j k = x := ⟨_, rfl⟩
          rw [hx] at hc c0 ⊢
          have x0 : (0 : Int) ≤ (x : Int) := by omega
          have x1 : (x : Int) < 12 := by omega
          clear hx HIT
          go_wp2
          go_roundw
          case rel => exact ⟨j + 1, by omega, by go_num, rfl, by first | exact Lib.hid rfl | exact Lib.hid trivial⟩
          case measure => simp [intOf]; omega
        · obtain rfl : n = j := by omega
          obtain ⟨d, hd1, hd2, hper⟩ := periodic HP.out k hkn
          obtain ⟨C, hC⟩ : ∃ C, it p n k = C := ⟨_, rfl⟩
          rw [hC] at hc c0 hper ⊢
          rw [← HIT.out, hC] at c0
          have HPER := Lib.hid hper; have HC := Lib.hid hC
          have x0 : (0 : Int) ≤ (C : Int) := by omega
          have x1 : (C : Int) < 12 := by omega
          clear hC hper HIT
          go_wp2
          have D1 := Lib.hid hd1
          have A0 : Hid (∃ i, i < 1 ∧ C = it p i C) := Lib.hid ⟨0, by decide, rfl⟩
          have A1 : Hid (∀ i, i < 1 → C ≤ it p i C) := Lib.hid (fun i hi => by obtain rfl : i = 0 := by omega
                                                                               exact Nat.le_refl _)
          go_loopw [11, 12] (fun mm x w2 => ∃ (i m : Nat), 1 ≤ i ∧ i ≤ d ∧ mm = .int .i64 m ∧ x = .int .i64 (it p i C : Nat) ∧ Hid (∃ j, j < i ∧ m = it p j C) ∧ Hid (∀ j, j < i → m ≤ it p j C) ∧ Hid (w2 = wr)) (fun _ x _ => stepsTo p n C (intOf x).toNat)
          case atStart => exact ⟨1, C, Nat.le_refl _, hd1, rfl, rfl, A0, A1, by first | exact Lib.hid rfl | exact Lib.hid trivial⟩
          case round =>
            clear A0 A1 V0
            obtain ⟨i, m, hi1, hid, rfl, rfl, hA, hL, hw⟩ := hrel
            obtain rfl := hw.out
            have hx := it_lt HP.out i C hc
            have c1 := HSTEP.out _ hx
            have hmn : m < n := by
              obtain ⟨j, -, e⟩ := hA.out
              rw [e]; exact it_lt HP.out j C hc
            by_cases hxC : it p i C = C
            · have HLS := Lib.hid (show Lst p C m from ⟨(by obtain ⟨j, -, e⟩ := hA.out; exact ⟨j, e⟩), fun j => by rw [← it_mod hxC j]; exact hL.out _ (Nat.mod_lt _ hi1)⟩)
              have hee : ((it p i C : Int) == (C : Int)) = true := by rw [hxC]; simp
              rw [hxC] at c1 hee ⊢
              clear hx hxC
              have HWF := Lib.hid (show (Lit.int .i64 (m : Nat)).wf = true from WalkArith.wf_i64 (by omega))
              have hM9 := hM.out
              have hkey : keyOf Tryz.prog 3 (.int .i64 (m : Nat)) = some (.int .i64 (m : Nat)) := keyOf_int_mk Tryz.underlying3 HWF.out
              go_wp2_with (at_mapUpdate; go_loud (refine wpList_mapUpdate_own _ rfl _ _ _ 121 rfl 3 4 lawI Tryz.underlying121 (plainElem (H := Unit) Tryz.prog 4) W.heap.size k _ rfl hM9 (by unfold maxLen; omega) _ _ _ rfl rfl hkey _ [] (plainElem_bool Tryz.underlying4 true) ?_); intro w5 hown5 hgrow5; have HM5 := Lib.hid hown5; have HG5 := Lib.hid hgrow5; clear hown5 hgrow5)
              have HPB5 := HPB.out.grown HG5.out (fun e => by simp at e; have := HWS.out; omega)
              have HLT5 := Lib.hid HPB5.lt
              have HSTEP5 := Lib.hid (fun (x : Nat) (hx : x < n) => (by
                have := HPB5.cell x _ (ints_at p x (by omega))
                rwa [show p[x]'(by omega) = p.getD x 0 by simp [List.getD_eq_getElem?_getD, show x < p.length by omega]] at this : w5.cell? ⟨w.heap.size, x, none⟩ = some (.int .i64 (p.getD x 0 : Nat))))
              have T0 : Hid (t = true ↔ t = true ∨ ∃ j, j < 0 ∧ it p j C = at_) := Lib.hid ⟨.inl, fun h => h.elim id (fun ⟨j, hj, _⟩ => absurd hj (Nat.not_lt_zero _))⟩
              clear HPB5 hM9 c0 c1 hlt hee
              go_loopw [9, 13, 43] (fun on x idx w2 => ∃ (i : Nat) (t' : Bool), i ≤ n ∧ on = .bool t' ∧ x = .int .i64 (it p i C : Nat) ∧ idx = .int .i64 i ∧ Hid (t' = true ↔ t = true ∨ ∃ j, j < i ∧ it p j C = at_) ∧ Hid (w2 = w5)) (fun _ _ idx _ => n - (intOf idx).toNat)
              case atStart => exact ⟨0, t, Nat.zero_le _, rfl, rfl, rfl, T0, by first | exact Lib.hid rfl | exact Lib.hid trivial⟩
              case round =>
                clear T0
                obtain ⟨i, t', hin, rfl, rfl, rfl, hT2, hw⟩ := hrel
                obtain rfl := hw.out
                have hx := it_lt HP.out i C hc
                have c1 := HSTEP5.out _ hx
                have hlt5 := HLT5.out
                have HIT3 := Lib.hid (show p.getD (it p i C) 0 = it p (i + 1) C from rfl)
                rw [HIT3.out] at c1
                obtain ⟨x, hxx⟩ : ∃ x, it p i C = x := ⟨_, rfl⟩
                rw [hxx] at hx c1 ⊢
                have HXX := Lib.hid hxx
                have x2 : (0 : Int) ≤ (x : Int) := by omega
                have x3 : (x : Int) < 12 := by omega
                clear hxx HIT3
                by_cases hin2 : i < n
                · cases t'
                  · by_cases hxa : x = at_
                    · subst hxa
                      have hee : ((x : Int) == (x : Int)) = true := by simp
                      go_wp2
                      go_roundw
                      case rel => exact ⟨i + 1, true, by omega, rfl, rfl, by go_num, Lib.hid ⟨fun _ => .inr ⟨i, Nat.lt_succ_self _, HXX.out⟩, fun _ => rfl⟩, by first | exact Lib.hid rfl | exact Lib.hid trivial⟩
                      case measure => simp [intOf]; omega
                    · have hee : ((x : Int) == (at_ : Int)) = false := by rw [beq_eq_false_iff_ne]; omega
                      go_wp2
                      go_roundw
                      case rel => exact ⟨i + 1, false, by omega, rfl, rfl, by go_num, Lib.hid ⟨fun h => absurd h (by decide), fun h => hT2.out.2 (h.imp_right fun ⟨j, hj, e⟩ => ⟨j, by
                        rcases Nat.lt_or_ge j i with h | h
                        · exact h
                        · obtain rfl : j = i := by omega
                          exact absurd (HXX.out.symm.trans e) hxa, e⟩)⟩, by first | exact Lib.hid rfl | exact Lib.hid trivial⟩
                      case measure => simp [intOf]; omega
                  · go_wp2
                    go_roundw
                    case rel => exact ⟨i + 1, true, by omega, rfl, rfl, by go_num, Lib.hid ⟨fun h => (hT2.out.1 h).imp_right fun ⟨j, hj, e⟩ => ⟨j, by omega, e⟩, fun _ => rfl⟩, by first | exact Lib.hid rfl | exact Lib.hid trivial⟩
                    case measure => simp [intOf]; omega
                · obtain rfl : n = i := by omega
                  have hM6 : wr.ownsMap Tryz.prog 3 (plainElem (H := Unit) Tryz.prog 4) W.heap.size (k + 1) (mset (ks ++ [m])) := by rw [mset_snoc]; exact HM5.out
                  have HM6 := Lib.hid hM6
                  have HB6 := Lib.hid (hB.out.grown HG5.out hB.out.size (fun j hj => by simp at hj; omega))
                  have hlen := hks.out
                  have HK6 : Hid (Keys p n (ks ++ [m])) := Lib.hid ⟨by simp; omega, fun v hv => by
                    by_cases e : v < ks.length
                    · rw [List.getElem_append_left e]; exact hK.out.2 v e
                    · have hv2 : v = k := by simp at hv; omega
                      subst hv2
                      rw [List.getElem_append_right (by omega), HC.out]
                      simp [hlen]
                      exact HLS.out⟩
                  have HT6 : Hid (t' = true ↔ ∃ v, v < k + 1 ∧ ∃ i, i < n ∧ it p i (it p n v) = at_) := Lib.hid (by
                    rw [hT2.out, hT.out]
                    constructor
                    · rintro (⟨v, hv, h⟩ | h)
                      · exact ⟨v, by omega, h⟩
                      · exact ⟨k, Nat.lt_succ_self _, by rw [HC.out]; exact h⟩
                    · rintro ⟨v, hv, h⟩
                      by_cases e : v < k
                      · exact .inl ⟨v, e, h⟩
                      · obtain rfl : v = k := by omega
                        rw [HC.out] at h
                        exact .inr h)
                  have HKS6 : Hid ((ks ++ [m]).length = k + 1) := Lib.hid (by simp [hlen])
                  clear hM6 c1 hx
                  go_wp2
                  go_roundw
                  case rel => exact ⟨k + 1, ks ++ [m], t', by omega, by go_num, rfl, HKS6, HK6, HT6, HM6, HB6⟩
                  case measure => simp [intOf]; omega
            · have hlt2 := stepsTo_lt (n := n) hxC ⟨d - i, by omega, by rw [← it_add, show d - i + i = d by omega]; exact HPER.out⟩
              have hid2 : i < d := by
                refine Nat.lt_of_le_of_ne hid fun e => hxC ?_
                rw [e]; exact HPER.out
              have hne : ((it p i C : Int) == (C : Int)) = false := by rw [beq_eq_false_iff_ne]; omega
              have HIT2 := Lib.hid (show p.getD (it p i C) 0 = it p (i + 1) C from rfl)
              rw [HIT2.out] at c1 hlt2
              obtain ⟨x, hxx⟩ : ∃ x, it p i C = x := ⟨_, rfl⟩
              rw [hxx] at hx c1 hlt2 hne hxC ⊢
              have x2 : (0 : Int) ≤ (x : Int) := by omega
              have x3 : (x : Int) < 12 := by omega
              have HLT2 := Lib.hid hlt2
              have HXX := Lib.hid hxx
              have hlt3 := HLT.out
              clear hlt2 hxx c0 HIT2
              go_wp2
              go_roundw
              case rel => exact ⟨i + 1, min m x, by omega, by omega, congrArg _ (by omega), rfl, Lib.hid (by
                  obtain ⟨j, hj, e⟩ := hA.out
                  rcases Nat.le_total m x with h | h
                  · rw [Nat.min_eq_left h]; exact ⟨j, by omega, e⟩
                  · rw [Nat.min_eq_right h]; exact ⟨i, by omega, HXX.out.symm⟩), Lib.hid (fun j hj => by
                  by_cases e : j = i
                  · subst e; rw [HXX.out]; exact Nat.min_le_right _ _
                  · exact Nat.le_trans (Nat.min_le_left _ _) (hL.out j (by omega))), by first | exact Lib.hid rfl | exact Lib.hid trivial⟩
              case measure => simp only [intOf, Int.toNat_natCast]; exact HLT2.out
    · obtain rfl : n = k := by omega
      have hM9 := hM.out
      have HKS := Lib.hid hks.out; have HKK := Lib.hid hK.out; have HTT := Lib.hid hT.out; have HMM := Lib.hid hM.out
      have HBB := Lib.hid (B0.out.trans (hB.out.mono B0.out.size))
      go_wp2_with (at_len; go_loud (refine wpList_len_own _ rfl _ 121 rfl 3 4 Tryz.underlying121 _ W.heap.size n _ rfl hM9 ?_))
      have hfin : CycP p n at_ (.tuple #[.int .i64 (Maps.size (mset ks)), .bool t]) w wr := by
        refine ⟨_, t, rfl, HBB.out, ?_⟩
        rw [size_one ks (fun e => by have := HKS.out; rw [e] at this; simp at this; omega), HTT.out]
        constructor
        · rintro ⟨ha, hb⟩
          exact uni_of HP.out HKK.out HKS.out ha hb
        · intro h
          obtain ⟨ha, hb⟩ := of_uni HP.out h HKK.out
          exact ⟨ha, 0, by omega, hb 0 (by omega)⟩
      go_ret2
      exact ⟨_, rfl, hfin⟩
end Go.Proofs.YtlnhocgjgmhfgaaGreatDoor

namespace Go.Proofs.YtlnhocgjgmhfgaaGreatDoor
open Go.RowKit
set_option maxRecDepth 100000

theorem empty_any (w : World) (a : Option Addr) (m c : Nat) : Calls Tryz.prog 49 #[.slice a m c] w (Rets fun r w' => r = .bool (decide (m = 0)) ∧ w = w') := by
  by_cases h : m = 0
  · have hm : ((m : Int) == 0) = true := by rw [h]; rfl
    have H := Lib.hid (show decide (m = 0) = true by rw [decide_eq_true_iff]; exact h)
    clear h
    go_enter Tryz.func49, Tryz.ntmps49
    go_wp2
    go_ret
    exact ⟨_, rfl, by rw [H.out]; rfl, rfl⟩
  · have hm : ((m : Int) == 0) = false := by rw [beq_eq_false_iff_ne]; omega
    have H := Lib.hid (show decide (m = 0) = false by rw [decide_eq_false_iff_not]; exact h)
    clear h
    go_enter Tryz.func49, Tryz.ntmps49
    go_wp2
    go_ret
    exact ⟨_, rfl, by rw [H.out]; rfl, rfl⟩

set_option maxHeartbeats 2000000 in
theorem IndexFunc_ok (w : World) (L C n : Nat) (vs : List Value) (ls : List (List Nat)) (hR : Rws w L C vs ls) (hl : ls.length = n) (hn : n ≤ 1000) :
    Calls Tryz.prog 70 #[.slice (some ⟨L, 0, none⟩) n n, .func (.func 49) #[] #[]] w (Rets fun r w' => ∃ i : Int, r = .int .i64 i ∧ (0 ≤ i ↔ [] ∈ ls) ∧ w = w') := by
  have hLl := hR.blk.lt
  have HR := Lib.hid hR; have HL := Lib.hid hl
  clear hR hl
  go_enter Tryz.func70, Tryz.ntmps70
  go_wp2
  go_loopw [8] (fun i wr => ∃ k : Nat, k ≤ n ∧ i = .int .i64 k ∧ Hid (∀ v (h : v < ls.length), v < k → ls[v] ≠ []) ∧ Hid (w = wr)) (fun i _ => n - (intOf i).toNat)
  case atStart => exact ⟨0, Nat.zero_le _, rfl, Lib.hid (fun v _ h => absurd h (Nat.not_lt_zero _)), by first | exact Lib.hid rfl | exact Lib.hid trivial⟩
  case round =>
    obtain ⟨k, hk, rfl, hX, hw⟩ := hrel
    obtain rfl := hw.out
    by_cases hkn : k < n
    · have hkl : k < ls.length := by rw [HL.out]; exact hkn
      have hkv : k < vs.length := by rw [HR.out.len]; exact hkl
      obtain ⟨ua, uc, hu⟩ := own_formK (HR.out.own k hkv hkl)
      have c0 := HR.out.blk.cell k (.slice ua ls[k].length uc) (by rw [← hu]; simp [hkv])
      obtain ⟨T, hT⟩ : ∃ T, ls[k] = T := ⟨_, rfl⟩
      rw [hT] at c0
      have HT := Lib.hid hT
      have q1 : (0 : Int) ≤ (k : Int) := by omega
      have q2 : (k : Int) < (n : Int) := by omega
      by_cases h0 : T.length = 0
      · have H := Lib.hid (show decide (T.length = 0) = true by rw [decide_eq_true_iff]; exact h0)
        have HN := Lib.hid (List.length_eq_zero_iff.1 h0)
        clear hT hu h0
        go_wp2_with (go_at_call 49; (with_reducible refine (empty_any _ _ _ _).mono ?_); rintro e w' ⟨v, rfl, rfl, rfl⟩; rw [H.out])
        go_ret
        exact ⟨_, rfl, _, rfl, ⟨fun _ => by rw [← HN.out, ← HT.out]; exact List.getElem_mem hkl, fun _ => by omega⟩, rfl⟩
      · have H := Lib.hid (show decide (T.length = 0) = false by rw [decide_eq_false_iff_not]; exact h0)
        have HN := Lib.hid (show T ≠ [] from fun e => h0 (by rw [e]; rfl))
        clear hT hu h0
        go_wp2_with (go_at_call 49; (with_reducible refine (empty_any _ _ _ _).mono ?_); rintro e w' ⟨v, rfl, rfl, rfl⟩; rw [H.out])
        go_roundw
        case rel => exact ⟨k + 1, by omega, by go_num, Lib.hid (fun v h hv => by
          by_cases e : v = k
          · subst e; rw [HT.out]; exact HN.out
          · exact hX.out v h (by omega)), by first | exact Lib.hid rfl | exact Lib.hid trivial⟩
        case measure => simp [intOf]; omega
    · obtain rfl : n = k := by omega
      go_wp2
      go_ret
      exact ⟨_, rfl, _, rfl, ⟨fun h => absurd h (by decide), fun h => by
        obtain ⟨v, hv, e⟩ := List.mem_iff_getElem.1 h
        exact absurd e (hX.out v hv (by rw [← HL.out]; exact hv))⟩, rfl⟩

theorem ContainsFunc_ok (w : World) (L C n : Nat) (vs : List Value) (ls : List (List Nat)) (hR : Rws w L C vs ls) (hl : ls.length = n) (hn : n ≤ 1000) :
    Calls Tryz.prog 48 #[.slice (some ⟨L, 0, none⟩) n n, .func (.func 49) #[] #[]] w (Rets fun r w' => r = .bool (decide ([] ∈ ls)) ∧ w = w') := by
  have HC := Lib.hid (IndexFunc_ok w L C n vs ls hR hl hn)
  clear hR hl
  go_enter Tryz.func48, Tryz.ntmps48
  go_wp2_with (go_at_call 70; (with_reducible refine HC.out.mono ?_); rintro e w' ⟨v, rfl, i, rfl, hi, rfl⟩; have HI := Lib.hid hi; clear hi)
  go_ret
  refine ⟨_, rfl, ?_, rfl⟩
  have : decide (0 ≤ i) = decide ([] ∈ ls) := by
    by_cases h : 0 ≤ i
    · rw [decide_eq_true h, decide_eq_true (HI.out.1 h)]
    · rw [decide_eq_false h, decide_eq_false (fun e => h (HI.out.2 e))]
  rw [← this]; rfl
end Go.Proofs.YtlnhocgjgmhfgaaGreatDoor

namespace Go.Proofs.YtlnhocgjgmhfgaaGreatDoor
namespace Rot
/-- The arcs, by their numbers. -/
def src (es : List (Nat × Nat)) (e : Nat) : Nat := (es.getD e (0, 0)).1
def trg (es : List (Nat × Nat)) (e : Nat) : Nat := (es.getD e (0, 0)).2
def outs (es : List (Nat × Nat)) (v : Nat) : List Nat := (List.range es.length).filter fun e => src es e == v
def cntS (es : List (Nat × Nat)) (l : List Nat) (v : Nat) : Nat := l.countP fun e => src es e == v
def cntT (es : List (Nat × Nat)) (l : List Nat) (v : Nat) : Nat := l.countP fun e => trg es e == v
/-- The arc that is taken next from v, when it has been left c times. -/
def nxt (es : List (Nat × Nat)) (r : Nat → Nat) (v c : Nat) : Nat := (outs es v).getD ((r v + c + 1) % (outs es v).length) 0
/-- The chip behind k steps, and its way. -/
def run (es : List (Nat × Nat)) (r : Nat → Nat) (a : Nat) : Nat → Nat × List Nat
  | 0 => (a, [])
  | k + 1 => (trg es (nxt es r (run es r a k).1 (cntS es (run es r a k).2 (run es r a k).1)), (run es r a k).2 ++ [nxt es r (run es r a k).1 (cntS es (run es r a k).2 (run es r a k).1)])

theorem nodup_fil {l : List Nat} (h : l.Nodup) (p : Nat → Bool) : (l.filter p).Nodup := List.Pairwise.filter p h
theorem nodup_one : ∀ {l : List Nat}, l.Nodup → ∀ {e : Nat}, e ∈ l → l.count e = 1
  | [], _, _, h => by cases h
  | x :: l, hn, e, h => by
    have h1 := List.nodup_cons.1 hn
    rw [List.count_cons]
    rcases List.mem_cons.1 h with rfl | h
    · rw [List.count_eq_zero.2 h1.1]; simp
    · have hne : ¬ x = e := fun e2 => h1.1 (e2 ▸ h)
      rw [nodup_one h1.2 h, if_neg (by simpa using hne)]
theorem nodup_inj {l : List Nat} (h : l.Nodup) {i j : Nat} (hi : i < l.length) (hj : j < l.length) (e : l[i] = l[j]) : i = j := by
  have := List.pairwise_iff_getElem.1 h
  rcases Nat.lt_trichotomy i j with h1 | h1 | h1
  · exact absurd e (this i j hi hj h1)
  · exact h1
  · exact absurd e.symm (this j i hj hi h1)
section
variable {es : List (Nat × Nat)} {r : Nat → Nat} {a n : Nat}
theorem outs_len (v : Nat) : (outs es v).length = cntS es (List.range es.length) v := by
  unfold outs cntS; rw [List.countP_eq_length_filter]
theorem outs_mem {v e : Nat} : e ∈ outs es v ↔ e < es.length ∧ src es e = v := by simp [outs]
theorem outs_nodup (v : Nat) : (outs es v).Nodup := nodup_fil List.nodup_range _
theorem outs_get (v i : Nat) (h : i < (outs es v).length) : (outs es v).getD i 0 < es.length ∧ src es ((outs es v).getD i 0) = v := by
  have : (outs es v).getD i 0 ∈ outs es v := by
    rw [List.getD_eq_getElem?_getD, List.getElem?_eq_getElem h]; exact List.getElem_mem h
  exact outs_mem.1 this
theorem outs_inj (v i j : Nat) (hi : i < (outs es v).length) (hj : j < (outs es v).length) (h : (outs es v).getD i 0 = (outs es v).getD j 0) : i = j := by
  rw [List.getD_eq_getElem?_getD, List.getD_eq_getElem?_getD, List.getElem?_eq_getElem hi, List.getElem?_eq_getElem hj] at h
  exact nodup_inj (outs_nodup v) hi hj h

/-- The arcs that are left over. -/
def rest (es : List (Nat × Nat)) (l : List Nat) : List Nat := (List.range es.length).filter fun e => !l.contains e
theorem parts {l : List Nat} (hn : l.Nodup) (hl : ∀ e ∈ l, e < es.length) : (l ++ rest es l).Perm (List.range es.length) := by
  rw [List.perm_iff_count]
  intro e
  rw [List.count_append]
  by_cases he : e < es.length
  · have h1 : (List.range es.length).count e = 1 := nodup_one List.nodup_range (List.mem_range.2 he)
    by_cases hm : e ∈ l
    · have h2 : l.count e = 1 := nodup_one hn hm
      have h3 : (rest es l).count e = 0 := by
        rw [List.count_eq_zero]; simp [rest, hm]
      omega
    · have h2 : l.count e = 0 := List.count_eq_zero.2 hm
      have h3 : (rest es l).count e = 1 := nodup_one (nodup_fil List.nodup_range _) (by simp [he, hm])
      omega
  · have h1 : (List.range es.length).count e = 0 := List.count_eq_zero.2 (by simpa using he)
    have h2 : l.count e = 0 := List.count_eq_zero.2 fun h => he (hl e h)
    have h3 : (rest es l).count e = 0 := List.count_eq_zero.2 (by simp [rest]; omega)
    omega
theorem partsS {l : List Nat} (hn : l.Nodup) (hl : ∀ e ∈ l, e < es.length) (v : Nat) : cntS es l v + cntS es (rest es l) v = (outs es v).length := by
  rw [outs_len]; unfold cntS; rw [← List.countP_append]; exact (parts hn hl).countP_eq _
theorem partsT {l : List Nat} (hn : l.Nodup) (hl : ∀ e ∈ l, e < es.length) (v : Nat) : cntT es l v + cntT es (rest es l) v = cntT es (List.range es.length) v := by
  unfold cntT; rw [← List.countP_append]; exact (parts hn hl).countP_eq _

/-- What holds while no arc is taken twice. -/
structure Inv (es : List (Nat × Nat)) (r : Nat → Nat) (a : Nat) (k : Nat) : Prop where
  len : (run es r a k).2.length = k
  nodup : (run es r a k).2.Nodup
  lt : ∀ e ∈ (run es r a k).2, e < es.length
  used : ∀ e ∈ (run es r a k).2, ∃ j, 1 ≤ j ∧ j ≤ cntS es (run es r a k).2 (src es e) ∧ e = (outs es (src es e)).getD ((r (src es e) + j) % (outs es (src es e)).length) 0
  flow : ∀ v, cntT es (run es r a k).2 v + (if a = v then 1 else 0) = cntS es (run es r a k).2 v + (if (run es r a k).1 = v then 1 else 0)
theorem Inv.zero : Inv es r a 0 := ⟨rfl, List.nodup_nil, by simp [run], by simp [run], fun _ => rfl⟩
theorem Inv.le {k : Nat} (h : Inv es r a k) (v : Nat) : cntS es (run es r a k).2 v ≤ (outs es v).length := by
  have := partsS h.nodup h.lt v; omega
theorem mod_ne {d x i j : Nat} (h : (x + i) % d = (x + j) % d) (hij : i < j) : d ≤ j - i := by
  have h1 := Nat.div_add_mod (x + i) d
  have h2 := Nat.div_add_mod (x + j) d
  rw [h] at h1
  have h3 : d * ((x + j) / d) - d * ((x + i) / d) = j - i := by omega
  rw [← Nat.mul_sub] at h3
  have : 0 < (x + j) / d - (x + i) / d := by
    rcases Nat.eq_zero_or_pos ((x + j) / d - (x + i) / d) with h0 | h0
    · rw [h0, Nat.mul_zero] at h3; omega
    · exact h0
  rw [← h3]
  exact Nat.le_mul_of_pos_right _ this
theorem Inv.step {k : Nat} (h : Inv es r a k) (hc : cntS es (run es r a k).2 (run es r a k).1 < (outs es (run es r a k).1).length) : Inv es r a (k + 1) := by
  obtain ⟨v, hv⟩ : ∃ v, (run es r a k).1 = v := ⟨_, rfl⟩
  obtain ⟨l, hl⟩ : ∃ l, (run es r a k).2 = l := ⟨_, rfl⟩
  obtain ⟨c, hcc⟩ : ∃ c, cntS es l v = c := ⟨_, rfl⟩
  have hd : 0 < (outs es v).length := by rw [hv] at hc; omega
  have hrun : run es r a (k + 1) = (trg es (nxt es r v c), l ++ [nxt es r v c]) := by rw [run, hv, hl, hcc]
  rw [hv, hl, hcc] at hc
  obtain ⟨e, he⟩ : ∃ e, nxt es r v c = e := ⟨_, rfl⟩
  have hev : e < es.length ∧ src es e = v := by rw [← he]; exact outs_get v _ (Nat.mod_lt _ hd)
  rw [he] at hrun
  have hnew : e ∉ l := fun hm => by
    obtain ⟨j, j1, j2, j3⟩ := h.used e (by rw [hl]; exact hm)
    rw [hl, hev.2, hcc] at j2
    rw [hev.2] at j3
    have : (outs es v).getD ((r v + (c + 1)) % (outs es v).length) 0 = (outs es v).getD ((r v + j) % (outs es v).length) 0 := by rw [← j3, ← he]; rfl
    have := outs_inj v _ _ (Nat.mod_lt _ hd) (Nat.mod_lt _ hd) this
    have := mod_ne this.symm (by omega)
    omega
  have hcs : ∀ u, cntS es (l ++ [e]) u = cntS es l u + if v = u then 1 else 0 := fun u => by
    unfold cntS; rw [List.countP_append]
    simp only [List.countP_cons, List.countP_nil, hev.2]
    by_cases hu : v = u <;> simp [hu]
  have hct : ∀ u, cntT es (l ++ [e]) u = cntT es l u + if trg es e = u then 1 else 0 := fun u => by
    unfold cntT; rw [List.countP_append]
    simp only [List.countP_cons, List.countP_nil]
    by_cases hu : trg es e = u <;> simp [hu]
  refine ⟨?_, ?_, ?_, ?_, ?_⟩
  · rw [hrun, List.length_append, ← hl, h.len]; rfl
  · rw [hrun]
    have := h.nodup; rw [hl] at this
    exact List.nodup_append.2 ⟨this, by simp, fun x hx y hy => by simp at hy; subst hy; exact fun e => hnew (e ▸ hx)⟩
  · intro x hx
    rw [hrun] at hx
    rcases List.mem_append.1 hx with hx | hx
    · exact h.lt x (by rw [hl]; exact hx)
    · simp at hx; subst hx; exact hev.1
  · intro x hx
    rw [hrun] at hx ⊢
    simp only at hx ⊢
    rw [hcs]
    rcases List.mem_append.1 hx with hx | hx
    · obtain ⟨j, j1, j2, j3⟩ := h.used x (by rw [hl]; exact hx)
      rw [hl] at j2
      exact ⟨j, j1, by omega, j3⟩
    · simp at hx; subst hx
      refine ⟨c + 1, by omega, by rw [hev.2, hcc, if_pos rfl]; exact Nat.le_refl _, ?_⟩
      rw [hev.2, ← he]; rfl
  · intro u
    have hf := h.flow u
    rw [hl, hv] at hf
    rw [hrun]; simp only
    rw [hcs, hct]
    omega
/-- The pointer's end. -/
def ptr (es : List (Nat × Nat)) (r : Nat → Nat) (v : Nat) : Nat := trg es ((outs es v).getD (r v) 0)
def ptrs (es : List (Nat × Nat)) (r : Nat → Nat) : Nat → Nat → Nat
  | 0, v => v
  | j + 1, v => ptrs es r j (ptr es r v)

theorem full_len {l : List Nat} (hn : l.Nodup) (hl : ∀ e ∈ l, e < es.length) (hs : ∀ e, e < es.length → src es e < n) (hf : ∀ v, v < n → cntS es l v = (outs es v).length) : l.length = es.length := by
  have hp := parts hn hl
  have hr : rest es l = [] := by
    apply List.eq_nil_iff_forall_not_mem.2
    intro e he
    have he2 : e < es.length := by simp [rest] at he; exact he.1
    have h1 := partsS hn hl (src es e)
    rw [hf _ (hs e he2)] at h1
    have h2 : 0 < cntS es (rest es l) (src es e) := List.countP_pos_iff.2 ⟨e, he, by simp⟩
    omega
  rw [hr, List.append_nil] at hp
  rw [hp.length_eq, List.length_range]
theorem stuck {k : Nat} (h : Inv es r a k) (hk : k < es.length) (hs : ∀ e, e < es.length → src es e < n) (ht : ∀ e, e < es.length → trg es e < n)
    (hd : ∀ v, v < n → 0 < (outs es v).length) (hb : ∀ v, v < n → cntT es (List.range es.length) v = (outs es v).length) (hr : ∀ v, v < n → r v < (outs es v).length)
    (hp : ∀ v, v < n → ∃ j, ptrs es r j v = a) (ha : (run es r a k).1 < n) : cntS es (run es r a k).2 (run es r a k).1 < (outs es (run es r a k).1).length := by
  apply Nat.lt_of_not_le
  intro hge
  obtain ⟨v, hv⟩ : ∃ v, (run es r a k).1 = v := ⟨_, rfl⟩
  obtain ⟨l, hl⟩ : ∃ l, (run es r a k).2 = l := ⟨_, rfl⟩
  have hfl := h.flow
  have hle := h.le
  have hn := h.nodup; have hlt := h.lt; have hus := h.used
  rw [hv] at hfl hge ha
  rw [hl] at hfl hle hge hn hlt hus
  have hpt := fun u => partsT (es := es) hn hlt u
  have hav : a = v := by
    have h1 := hfl v
    have h2 := hpt v
    rw [hb v ha] at h2
    rw [if_pos rfl] at h1
    by_cases e : a = v
    · exact e
    · rw [if_neg e] at h1; omega
  subst hav
  -- all arcs to a vertex that is left over are taken, if all from it are
  have hin : ∀ u, u < n → cntS es l u = (outs es u).length → ∀ e, e < es.length → trg es e = u → e ∈ l := by
    intro u hu hf e he hte
    have h1 := hfl u
    have h2 := hpt u
    rw [hb u hu] at h2
    apply Decidable.byContradiction
    intro hm
    have h3 : 0 < cntT es (rest es l) u := List.countP_pos_iff.2 ⟨e, by simp [rest, he, hm], by simp [hte]⟩
    omega
  have key : ∀ j u, u < n → ptrs es r j u = a → cntS es l u = (outs es u).length := by
    intro j
    induction j with
    | zero => intro u hu e; have e : u = a := e; subst e; have := hle u; omega
    | succ j ih =>
      intro u hu e
      have ho := outs_get (es := es) u _ (hr u hu)
      have hpu : ptr es r u < n := ht _ ho.1
      have hf := ih _ hpu e
      have hm := hin _ hpu hf _ ho.1 rfl
      obtain ⟨i, i1, i2, i3⟩ := hus _ hm
      rw [ho.2] at i2 i3
      have := outs_inj u _ _ (hr u hu) (Nat.mod_lt _ (hd u hu)) i3
      have h4 : (r u + 0) % (outs es u).length = (r u + i) % (outs es u).length := by rw [Nat.add_zero, Nat.mod_eq_of_lt (hr u hu)]; exact this
      have h5 := mod_ne h4 (by omega)
      have h6 := hle u
      omega
  have := full_len (n := n) hn hlt hs fun u hu => let ⟨j, hj⟩ := hp u hu; key j u hu hj
  have h7 := h.len
  rw [hl] at h7
  omega
/-- The round trip. -/
theorem trip (hs : ∀ e, e < es.length → src es e < n) (ht : ∀ e, e < es.length → trg es e < n)
    (hd : ∀ v, v < n → 0 < (outs es v).length) (hb : ∀ v, v < n → cntT es (List.range es.length) v = (outs es v).length) (hr : ∀ v, v < n → r v < (outs es v).length)
    (hp : ∀ v, v < n → ∃ j, ptrs es r j v = a) (ha : a < n) : ∀ k, k ≤ es.length → Inv es r a k ∧ (run es r a k).1 < n := by
  intro k
  induction k with
  | zero => intro _; exact ⟨Inv.zero, ha⟩
  | succ k ih =>
    intro hk
    obtain ⟨h1, h2⟩ := ih (by omega)
    have hc := stuck h1 (by omega) hs ht hd hb hr hp h2
    exact ⟨h1.step hc, ht _ (outs_get _ _ (Nat.mod_lt _ (by omega))).1⟩
theorem home (hs : ∀ e, e < es.length → src es e < n) (ht : ∀ e, e < es.length → trg es e < n)
    (hd : ∀ v, v < n → 0 < (outs es v).length) (hb : ∀ v, v < n → cntT es (List.range es.length) v = (outs es v).length) (hr : ∀ v, v < n → r v < (outs es v).length)
    (hp : ∀ v, v < n → ∃ j, ptrs es r j v = a) (ha : a < n) :
    (run es r a es.length).1 = a ∧ (run es r a es.length).2.Perm (List.range es.length) ∧ ∀ v, cntS es (run es r a es.length).2 v = (outs es v).length := by
  obtain ⟨h, hlt⟩ := trip hs ht hd hb hr hp ha es.length (Nat.le_refl _)
  have hpp := parts h.nodup h.lt
  have hrr : rest es (run es r a es.length).2 = [] := by
    have := hpp.length_eq
    rw [List.length_append, h.len, List.length_range] at this
    exact List.length_eq_zero_iff.1 (by omega)
  rw [hrr, List.append_nil] at hpp
  have hc : ∀ v, cntS es (run es r a es.length).2 v = (outs es v).length := fun v => by rw [outs_len]; exact hpp.countP_eq _
  refine ⟨?_, hpp, hc⟩
  have h1 := h.flow (run es r a es.length).1
  have h2 : cntT es (run es r a es.length).2 (run es r a es.length).1 = cntT es (List.range es.length) (run es r a es.length).1 := hpp.countP_eq _
  rw [h2, hb _ hlt, hc, if_pos rfl] at h1
  by_cases e : a = (run es r a es.length).1
  · exact e.symm
  · rw [if_neg e] at h1; omega
end
end Rot
end Go.Proofs.YtlnhocgjgmhfgaaGreatDoor
