/- The walk of euler's Check. -/
import Derived.Test.YtlnhocgjgmhfgaaGreatDoorPk12
namespace Go.Proofs.YtlnhocgjgmhfgaaGreatDoor
open Go.RowKit
set_option maxRecDepth 100000

def iz (x : Int) : List Value := [.int .i64 x]
/-- Where the rotors point to, of the first k vertices. -/
def rot (us : List Int) (v : Nat) : Nat := (us.getD v 0).toNat
def ptK (ss : List (Nat × Nat)) (us : List Int) (k : Nat) : List Nat := (List.range 12).map fun v => if v < k then Rot.ptr ss (rot us) v else 0
theorem ptK_set (ss : List (Nat × Nat)) (us : List Int) (k : Nat) (_ : k < 12) : (ptK ss us k).set k (Rot.ptr ss (rot us) k) = ptK ss us (k + 1) := by
  apply List.ext_getElem (by simp [ptK])
  intro i h1 h2
  by_cases e : k = i
  · subst e
    simp [ptK]
  · rw [List.getElem_set_ne e]
    simp only [ptK, List.getElem_map, List.getElem_range]
    by_cases h : i < k
    · rw [if_pos h, if_pos (by omega)]
    · rw [if_neg h, if_neg (by omega)]
theorem ptK_get (ss : List (Nat × Nat)) (us : List Int) (n v : Nat) (hv : v < n) (hn : n ≤ 12) : (ptK ss us n).getD v 0 = Rot.ptr ss (rot us) v := by
  simp [ptK, List.getD_eq_getElem?_getD, show v < 12 by omega, hv]
theorem outs_rot (n : Nat) (ss : List (Nat × Nat)) (v : Nat) (h : v < (outs n ss).length) : (outs n ss)[v] = Rot.outs ss v := by
  simp only [outs, outsAt, List.getElem_map, List.getElem_range, Rot.outs, Rot.src]
  apply List.filter_congr
  intro i _
  rw [Bool.eq_iff_iff]; simp
/-- A unicycle. -/
structure GoodU (n : Nat) (ss : List (Nat × Nat)) (at_ : Nat) (us : List Int) : Prop where
  at_lt : at_ < n
  len : us.length = n
  pos : ∀ v, v < n → 0 < (Rot.outs ss v).length
  rng : ∀ v, v < n → 0 ≤ us.getD v 0 ∧ us.getD v 0 < (Rot.outs ss v).length
  uni : ∀ v, v < n → ∃ i, it (ptK ss us n) i v = at_
/-- The number of the error of a unicycle. -/
def ChkC (n : Nat) (ns : List (Nat × Nat × Nat)) (at_ : Int) (us : List Int) (e : Int) : Prop :=
  (e = 15 ∧ (¬ EulC n ns ∨ [] ∈ outs n (sgl ns))) ∨ (EulC n ns ∧ [] ∉ outs n (sgl ns) ∧ ((e = 2 ∧ (at_ < 0 ∨ (n : Int) ≤ at_)) ∨ (0 ≤ at_ ∧ at_ < (n : Int) ∧ ((e = 8 ∧ us.length ≠ n) ∨ (us.length = n ∧
    ((e = 2 ∧ ¬ ∀ v, v < n → 0 ≤ us.getD v 0 ∧ us.getD v 0 < (Rot.outs (sgl ns) v).length) ∨ ((∀ v, v < n → 0 ≤ us.getD v 0 ∧ us.getD v 0 < (Rot.outs (sgl ns) v).length) ∧
      ((e = 3 ∧ ¬ ∀ v, v < n → ∃ i, it (ptK (sgl ns) us n) i v = at_.toNat) ∨ (e = 0 ∧ ∀ v, v < n → ∃ i, it (ptK (sgl ns) us n) i v = at_.toNat)))))))))
/-- What Check answers. -/
def ChkP (n : Nat) (ns : List (Nat × Nat × Nat)) (at_ : Int) (us : List Int) (r : Value) (w w' : World) : Prop := ∃ e : Int, r = .int .i64 e ∧ Below w.heap.size w w' ∧ ChkC n ns at_ us e

theorem hs_of {w w' : World} {g : Nat} {a b : Value} {T : TypeId} (h : Blk w g [a, b] T) (hb : Below w.heap.size w w') : w'.cell? ⟨g, 0, none⟩ = some a ∧ w'.cell? ⟨g, 1, none⟩ = some b ∧ g < w'.heap.size :=
  ⟨(h.below hb (Nat.le_refl _)).cell 0 _ rfl, (h.below hb (Nat.le_refl _)).cell 1 _ rfl, (h.below hb (Nat.le_refl _)).lt⟩
theorem no_empty {n : Nat} {ss : List (Nat × Nat)} {a : Nat} {us : List Int} (h : GoodU n ss a us) : [] ∉ outs n ss := fun hm => by
  obtain ⟨v, hv, e⟩ := List.mem_iff_getElem.1 hm
  rw [outs_rot] at e
  have := h.pos v (by rwa [outs, outsAt_len] at hv)
  rw [e] at this
  exact absurd this (by decide)

theorem no_empty_pos {n : Nat} {ss : List (Nat × Nat)} (h : [] ∉ outs n ss) : ∀ v, v < n → 0 < (Rot.outs ss v).length := fun v hv => by
  rcases Nat.eq_zero_or_pos (Rot.outs ss v).length with h0 | h0
  · have hv2 : v < (outs n ss).length := by rw [outs, outsAt_len]; exact hv
    refine absurd ?_ h
    rw [← List.length_eq_zero_iff.1 h0, ← outs_rot n ss v hv2]
    exact List.getElem_mem hv2
  · exact h0
section
variable {n : Nat} {ns : List (Nat × Nat × Nat)} {at_ : Int} {us : List Int}
theorem ChkC.iff {e : Int} (h : ChkC n ns at_ us e) : e = 0 ↔ EulC n ns ∧ 0 ≤ at_ ∧ GoodU n (sgl ns) at_.toNat us := by
  rcases h with ⟨rfl, h⟩ | ⟨hE, hN, ⟨rfl, h⟩ | ⟨h1, h2, ⟨rfl, h⟩ | ⟨h3, ⟨rfl, h⟩ | ⟨h4, ⟨rfl, h⟩ | ⟨rfl, h⟩⟩⟩⟩⟩
  · exact ⟨fun h => absurd h (by decide), fun ⟨a, _, b⟩ => by
      rcases h with h | h
      · exact absurd a h
      · exact absurd h (no_empty b)⟩
  · exact ⟨fun h => absurd h (by decide), fun ⟨_, a, b⟩ => by have := b.at_lt; omega⟩
  · exact ⟨fun h => absurd h (by decide), fun ⟨_, _, b⟩ => absurd b.len h⟩
  · exact ⟨fun h => absurd h (by decide), fun ⟨_, _, b⟩ => absurd b.rng h⟩
  · exact ⟨fun h => absurd h (by decide), fun ⟨_, _, b⟩ => absurd b.uni h⟩
  · exact ⟨fun _ => ⟨hE, h1, ⟨by omega, h3, no_empty_pos hN, h4, h⟩⟩, fun _ => rfl⟩
theorem ChkC.unique {e e' : Int} (h : ChkC n ns at_ us e) (h' : ChkC n ns at_ us e') : e = e' := by
  rcases h with ⟨rfl, h⟩ | ⟨hE, hN, ⟨rfl, h⟩ | ⟨h1, h2, ⟨rfl, h⟩ | ⟨h3, ⟨rfl, h⟩ | ⟨h4, ⟨rfl, h⟩ | ⟨rfl, h⟩⟩⟩⟩⟩ <;>
  rcases h' with ⟨rfl, h'⟩ | ⟨hE', hN', ⟨rfl, h'⟩ | ⟨h1', h2', ⟨rfl, h'⟩ | ⟨h3', ⟨rfl, h'⟩ | ⟨h4', ⟨rfl, h'⟩ | ⟨rfl, h'⟩⟩⟩⟩⟩ <;>
  first
    | rfl
    | (exfalso; rcases h with h | h <;> contradiction)
    | (exfalso; rcases h' with h' | h' <;> contradiction)
    | (exfalso; rcases h with h | h <;> omega)
    | (exfalso; rcases h' with h' | h' <;> omega)
    | (exfalso; contradiction)
    | (exfalso; exact h ‹_›)
    | (exfalso; exact h' ‹_›)
end

theorem ints_flat (l : List Nat) : ints l = l.flatMap i1 := by
  induction l with
  | nil => rfl
  | cons x l ih => rw [List.flatMap_cons, ← ih]; rfl
theorem Rws.row {w : World} {L C : Nat} {vs : List Value} {ls : List (List Nat)} (h : Rws w L C vs ls) (i : Nat) (hi : i < ls.length) : ∃ v, w.cell? ⟨L, i, none⟩ = some v ∧ SlK i1 1 w v ls[i] := by
  have hv : i < vs.length := by rw [h.len]; exact hi
  have ho := h.own i hv hi
  rw [ints_flat] at ho
  exact ⟨vs[i], h.blk.cell i _ (by simp [hv]), SlK.ofOwns i1_len ho rfl⟩

theorem twelve {l : List Nat} (h : l.length = 12) : ∃ a0 a1 a2 a3 a4 a5 a6 a7 a8 a9 a10 a11, l = [a0, a1, a2, a3, a4, a5, a6, a7, a8, a9, a10, a11] := by
  match l, h with
  | [a0, a1, a2, a3, a4, a5, a6, a7, a8, a9, a10, a11], _ => exact ⟨a0, a1, a2, a3, a4, a5, a6, a7, a8, a9, a10, a11, rfl⟩
theorem ptK_lt {n : Nat} {ss : List (Nat × Nat)} {us : List Int} (hn : n ≤ 12) (hrg : ∀ x ∈ ss, x.1 < n ∧ x.2 < n) (hX : ∀ v, v < n → 0 ≤ us.getD v 0 ∧ us.getD v 0 < (Rot.outs ss v).length) : ∀ v, v < n → (ptK ss us n).getD v 0 < n := fun v hv => by
  rw [ptK_get ss us n v hv hn]
  have h := hX v hv
  have hr : rot us v < (Rot.outs ss v).length := by unfold rot; omega
  have h2 := (Rot.outs_get (es := ss) v _ hr).1
  unfold Rot.ptr Rot.trg
  rw [List.getD_eq_getElem?_getD, List.getElem?_eq_getElem h2]
  exact (hrg _ (List.getElem_mem h2)).2

set_option maxHeartbeats 4000000 in
theorem EChk_ok (w : World) (n : Nat) (v : Value) (ns : List (Nat × Nat × Nat)) (at_ : Int) (rv : Value) (us : List Int) (hR : RD n ns) (hv : SlK e3 3 w v (ns.map n3)) (hl : ns.length ≤ 1000) (hu : SlK iz 1 w rv us) :
    Calls Tryz.prog 15 #[.agg #[.int .i64 (n : Nat), v], .agg #[.int .i64 at_, rv]] w (Rets fun r w' => ChkP n ns at_ us r w w') := by
  obtain ⟨ad, c, rfl⟩ := hv.form
  obtain ⟨ru, b, o, cu, rfl, hi, hp, hc, hcm⟩ := hu.open elemI
  unfold maxLen at hcm
  have hnl : (ns.map n3).length = ns.length := List.length_map _
  rw [hnl] at hv ⊢
  have n12 := hR.le
  have n1 := hR.pos
  have HR := Lib.hid hR; have HV := Lib.hid hv; have HP := Lib.hid hp; have HNL := Lib.hid hnl
  have HM := Lib.hid (show ∀ x ∈ ns, x.2.2 ≤ 50 from fun x hx => (hR.rng x hx).2.2.2)
  have hSL := sgl_le ns HM.out ns.length
  rw [List.take_length] at hSL
  have HRG := Lib.hid (sgl_rng hR)
  obtain ⟨W1, hW1⟩ : ∃ W, w.alloc (.cells #[.int .i64 (n : Nat), .slice ad ns.length c] 28) = W := ⟨_, rfl⟩
  obtain ⟨W, hW⟩ : ∃ W, W1.alloc (.cells #[.int .i64 at_, .slice ru us.length cu] 38) = W := ⟨_, rfl⟩
  have z1 : W1.heap.size = w.heap.size + 1 := by rw [← hW1, World.size_alloc]
  have z2 : W.heap.size = w.heap.size + 1 + 1 := by rw [← hW, World.size_alloc, z1]
  have k1 : Blk W1 w.heap.size [.int .i64 (n : Nat), .slice ad ns.length c] 28 := by rw [← hW1]; exact Blk.new w _ _
  have HD := Lib.hid (show Blk W w.heap.size [.int .i64 (n : Nat), .slice ad ns.length c] 28 by rw [← hW]; exact k1.alloc _)
  have HU := Lib.hid (show Blk W (w.heap.size + 1) [.int .i64 at_, .slice ru us.length cu] 38 by rw [← hW, ← z1]; exact Blk.new W1 _ _)
  have HQ := Lib.hid (show Below w.heap.size w W by
    have q1 : Below w.heap.size w W1 := by rw [← hW1]; exact (Below.refl _ w).alloc (Nat.le_refl _) _
    rw [← hW]; exact q1.alloc q1.size _)
  have HVW := Lib.hid (HV.out.below HQ.out (Nat.le_refl _))
  have HW : Hid ((w.alloc (.cells #[.int .i64 (n : Nat), .slice ad ns.length c] 28)).alloc (.cells #[.int .i64 at_, .slice ru us.length cu] 38) = W) := Lib.hid (by rw [hW1, hW])
  have HZ2 := Lib.hid z2
  clear k1 hW1 hW z1 z2 hu hp hv hR hnl
  go_enter Tryz.func15, Tryz.ntmps15
  go_wp2_with (go_at_call 46; rw [HW.out]; (with_reducible refine (NCheck_ok W n _ ns HR.out HVW.out).mono ?_); rintro e w1 ⟨v, rfl, rfl, hb⟩; have HB1 := Lib.hid hb; clear hb)
  have HD1 := Lib.hid (HD.out.below HB1.out (Nat.le_refl _))
  have HU1 := Lib.hid (HU.out.below HB1.out (Nat.le_refl _))
  have HS := Lib.hid (fun (w' : World) (hb : Below w1.heap.size w1 w') => (⟨(HD1.out.below hb (Nat.le_refl _)).cell 0 _ rfl, (HD1.out.below hb (Nat.le_refl _)).cell 1 _ rfl⟩ : w'.cell? ⟨w.heap.size, 0, none⟩ = some (.int .i64 (n : Nat)) ∧ w'.cell? ⟨w.heap.size, 1, none⟩ = some (.slice ad ns.length c)))
  have HS1 := Lib.hid (HS.out w1.drew ((Below.refl _ w1).drew))
  have HV1 := Lib.hid (HVW.out.below HB1.out (Nat.le_refl _))
  have HBd := Lib.hid (show Below w1.heap.size w1 w1.drew from (Below.refl _ w1).drew)
  go_region_held3 (fun w' => w'.cell? ⟨w.heap.size, 0, none⟩ = some (.int .i64 (n : Nat)) ∧ w'.cell? ⟨w.heap.size, 1, none⟩ = some (.slice ad ns.length c))
    ((first
      | with_reducible exact HS1.out
      | with_reducible assumption))
    ((first
      | (go_at_call 42; (with_reducible refine (leaving_ok w1.drew n _ ns HR.out (HV1.out.below HBd.out (Nat.le_refl _)) hl).mono ?_); rintro e w2 ⟨v, rfl, vs, L, C, rfl, hRw, hL, hb2⟩; have HRW := Lib.hid hRw; have HB2 := Lib.hid (HBd.out.trans (hb2.mono HBd.out.size)); have HLL := Lib.hid (show w1.heap.size ≤ L from hL); have hs2 := HS.out w2 HB2.out; clear hRw hb2 hL)
      | (go_at_call 43; (with_reducible refine (arcs_ok w2 n _ ns (HV1.out.below HB2.out (Nat.le_refl _)) HM.out (by omega)).mono ?_); rintro e w3 ⟨v, rfl, hO, hb3⟩; obtain ⟨ea, ec, rfl⟩ := own_formK hO; have HE := Lib.hid hO; have HRW3 := Lib.hid (HRW.out.below hb3 (Nat.le_refl _)); have HB3 := Lib.hid (HB2.out.trans (hb3.mono HB2.out.size)); have HZ3 := Lib.hid (show w2.heap.size ≤ w3.heap.size from hb3.size); have hs3 := HS.out w3 HB3.out; clear hO hb3)))
  rename_i hHeld
  clear hs2 hs3 hHeld HS1 HBd
  have HB3w := Lib.hid (HB1.out.trans (HB3.out.mono HB1.out.size))
  have h3 := hs_of HD1.out HB3.out
  obtain ⟨d0, d1, hld⟩ := h3
  have HCF := Lib.hid (fun (w' : World) (hb : Below w3.heap.size w3 w') => ContainsFunc_ok w' L C n vs (outs n (sgl ns)) (HRW3.out.below hb (Nat.le_refl _)) (outsAt_len _ _ _) (by omega))
  have HTR := Lib.hid (fun (w' : World) (hb : Below w3.heap.size w3 w') => HQ.out.trans ((HB3w.out.trans (hb.mono HB3w.out.size)).mono HQ.out.size))
  by_cases hin : [] ∈ outs n (sgl ns)
  · have HIN := Lib.hid (show decide ([] ∈ outs n (sgl ns)) = true from decide_eq_true hin)
    go_wp2_with (first
      | (go_at_call 47; (with_reducible refine (eulerian_ok w3 n _ ns HR.out (HV1.out.below HB3.out (Nat.le_refl _)) hl).mono ?_); rintro e w4 ⟨v, rfl, t, rfl, hb4, ht2⟩; have HB4 := Lib.hid hb4; have HT2 := Lib.hid ht2; clear hb4 ht2)
      | (go_at_call 48; (with_reducible refine (HCF.out w4 HB4.out).mono ?_); rintro e w5 ⟨v, rfl, rfl, rfl⟩; rw [HIN.out]))
    all_goals
      have hfin : ChkP n ns at_ us (.int .i64 15) w w4 := ⟨15, rfl, HTR.out w4 HB4.out, .inl ⟨rfl, .inr (of_decide_eq_true HIN.out)⟩⟩
      go_ret
      exact ⟨_, rfl, hfin⟩
  · have HIN := Lib.hid (show decide ([] ∈ outs n (sgl ns)) = false from decide_eq_false hin)
    have HNI := Lib.hid hin
    clear hin
    go_upto_region 7 with (first
      | (go_at_call 47; (with_reducible refine (eulerian_ok w3 n _ ns HR.out (HV1.out.below HB3.out (Nat.le_refl _)) hl).mono ?_); rintro e w4 ⟨v, rfl, t, rfl, hb4, ht2⟩; have HB4 := Lib.hid hb4; have HT2 := Lib.hid ht2; clear hb4 ht2)
      | (go_at_call 48; (with_reducible refine (HCF.out w4 HB4.out).mono ?_); rintro e w5 ⟨v, rfl, rfl, rfl⟩; rw [HIN.out]))
    rotate_left
    · have hfin : ChkP n ns at_ us (.int .i64 15) w w4 := ⟨15, rfl, HTR.out w4 HB4.out, .inl ⟨rfl, .inl (fun h => absurd (HT2.out.2 h) (by assumption))⟩⟩
      go_ret
      exact ⟨_, rfl, hfin⟩
    have HEC := Lib.hid (HT2.out.1 (by assumption))
    clear d0 d1 hld HT2
    have HB5 := Lib.hid (HB3.out.trans (HB4.out.mono HB3.out.size))
    have HTR4 := Lib.hid (HTR.out w4 HB4.out)
    obtain ⟨d0, d1, hld⟩ := hs_of HD1.out HB5.out
    obtain ⟨u0, u1, hlu⟩ := hs_of HU1.out HB5.out
    by_cases ha0 : at_ < 0
    · have hfin : ChkP n ns at_ us (.int .i64 2) w w4 := ⟨2, rfl, HTR4.out, .inr ⟨HEC.out, HNI.out, .inl ⟨rfl, .inl ha0⟩⟩⟩
      have HF := Lib.hid hfin
      clear hfin
      go_wp2
      go_ret
      exact ⟨_, rfl, HF.out⟩
    by_cases han : (n : Int) ≤ at_
    · have hfin : ChkP n ns at_ us (.int .i64 2) w w4 := ⟨2, rfl, HTR4.out, .inr ⟨HEC.out, HNI.out, .inl ⟨rfl, .inr han⟩⟩⟩
      have HF := Lib.hid hfin
      clear hfin
      go_wp2
      go_ret
      exact ⟨_, rfl, HF.out⟩
    by_cases hul : us.length = n
    rotate_left
    · have hfin : ChkP n ns at_ us (.int .i64 8) w w4 := ⟨8, rfl, HTR4.out, .inr ⟨HEC.out, HNI.out, .inr ⟨by omega, by omega, .inl ⟨rfl, hul⟩⟩⟩⟩
      have HF := Lib.hid hfin
      have hne : ((us.length : Int) == (n : Int)) = false := by rw [beq_eq_false_iff_ne]; omega
      clear hfin
      go_wp2
      go_ret
      exact ⟨_, rfl, HF.out⟩
    have hne : ((us.length : Int) == (n : Int)) = true := by rw [hul]; simp
    have HUL := Lib.hid hul
    clear hul
    have HP0 := Lib.hid (show Blk (w4.alloc (.cells #[.int .i64 0, .int .i64 0, .int .i64 0, .int .i64 0, .int .i64 0, .int .i64 0, .int .i64 0, .int .i64 0, .int .i64 0, .int .i64 0, .int .i64 0, .int .i64 0] 95)) w4.heap.size (ints (ptK (sgl ns) us 0)) 95 from Blk.new w4 _ _)
    have HA0 := Lib.hid ((Below.refl w4.heap.size w4).alloc (Nat.le_refl _) (.cells #[.int .i64 0, .int .i64 0, .int .i64 0, .int .i64 0, .int .i64 0, .int .i64 0, .int .i64 0, .int .i64 0, .int .i64 0, .int .i64 0, .int .i64 0, .int .i64 0] 95))
    have HES := SlK.ofOwns p2_len HE.out rfl
    obtain ⟨ea', eb, eo, ec', hform, hie, hep, hec, hecm⟩ := HES.open elemEnds
    simp only [Value.slice.injEq, true_and] at hform
    obtain ⟨rfl, rfl⟩ := hform
    have HEP := Lib.hid hep
    have HR4 := Lib.hid (HRW3.out.below HB4.out (Nat.le_refl _))
    go_wp2
    clear u0 u1 hlu hep HES d0 d1 hld
    go_loopw [50] (fun i wr => ∃ k : Nat, k ≤ n ∧ i = .int .i64 k ∧ Hid (Blk wr w4.heap.size (ints (ptK (sgl ns) us k)) 95) ∧ Hid (∀ v, v < k → 0 ≤ us.getD v 0 ∧ us.getD v 0 < (Rot.outs (sgl ns) v).length) ∧ Hid (Below w4.heap.size w4 wr)) (fun i _ => n - (intOf i).toNat)
    case atStart => exact ⟨0, Nat.zero_le _, rfl, HP0, Lib.hid (fun v h => absurd h (Nat.not_lt_zero _)), HA0⟩
    case round =>
      clear HP0 HA0
      obtain ⟨k, hk, rfl, hPB, hX, hB⟩ := hrel
      have hqw := HTR4.out.trans (hB.out.mono HTR4.out.size)
      have HQW := Lib.hid hqw
      by_cases hkn : k < n
      · have hku : k < us.length := by rw [HUL.out]; exact hkn
        have x0 : wr.cell? ⟨b, o + k, none⟩ = some (.int .i64 us[k]) := by
          have := HP.out.at hqw (Nat.le_refl _) k hku 0 _ rfl
          rwa [Nat.mul_one, Nat.add_zero] at this
        have hbl := (HP.out.below hqw (Nat.le_refl _)).1 (by omega)
        have q1 : (k : Int) < (us.length : Int) := by omega
        have q2 : (k : Int) < (n : Int) := by omega
        have HUK := Lib.hid (show us.getD k 0 = us[k] by simp [List.getD_eq_getElem?_getD, hku])
        obtain ⟨x, hx⟩ : ∃ x, us[k] = x := ⟨_, rfl⟩
        rw [hx] at x0 HUK
        have hlo : k < (outs n (sgl ns)).length := by rw [outs, outsAt_len]; exact hkn
        have hor := outs_rot n (sgl ns) k hlo
        obtain ⟨rv, r0, hrow⟩ := (HR4.out.below hB.out (Nat.le_refl _)).row k hlo
        have hlL := (HR4.out.below hB.out (Nat.le_refl _)).blk.lt
        rw [hor] at hrow
        obtain ⟨ra, rb, ro, rc, rfl, hri, hrp, hrc, hrm⟩ := hrow.open elemI
        have HL9 := Lib.hid (show (Rot.outs (sgl ns) k).length ≤ (sgl ns).length by unfold Rot.outs; exact Nat.le_trans (List.length_filter_le _ _) (by simp))
        clear hx hor hrow
        by_cases hx0 : x < 0
        · have HF := Lib.hid (show ChkP n ns at_ us (.int .i64 2) w wr from ⟨2, rfl, HQW.out, .inr ⟨HEC.out, HNI.out, .inr ⟨by omega, by omega, .inr ⟨HUL.out, .inl ⟨rfl, fun h => absurd (h k hkn).1 (by rw [HUK.out]; omega)⟩⟩⟩⟩⟩)
          clear hqw
          go_wp2
          go_ret
          exact ⟨_, rfl, HF.out⟩
        by_cases hxl : ((Rot.outs (sgl ns) k).length : Int) ≤ x
        · have HF := Lib.hid (show ChkP n ns at_ us (.int .i64 2) w wr from ⟨2, rfl, HQW.out, .inr ⟨HEC.out, HNI.out, .inr ⟨by omega, by omega, .inr ⟨HUL.out, .inl ⟨rfl, fun h => absurd (h k hkn).2 (by rw [HUK.out]; omega)⟩⟩⟩⟩⟩)
          clear hqw
          go_wp2
          go_ret
          exact ⟨_, rfl, HF.out⟩
        obtain ⟨xn, rfl⟩ : ∃ xn : Nat, x = (xn : Int) := ⟨x.toNat, by omega⟩
        have hxn : xn < (Rot.outs (sgl ns) k).length := by omega
        obtain ⟨T, hT⟩ : ∃ T, Rot.outs (sgl ns) k = T := ⟨_, rfl⟩
        rw [hT] at hxn hri hrp hrc HL9 hxl r0
        obtain ⟨y, hy⟩ : ∃ y, T[xn] = y := ⟨_, rfl⟩
        have y0 : wr.cell? ⟨rb, ro + xn, none⟩ = some (.int .i64 (y : Nat)) := by
          have := hrp.2 xn hxn 0 (.int .i64 (y : Nat)) (by rw [hy]; rfl)
          rwa [Nat.mul_one, Nat.add_zero] at this
        have hrl := hrp.1 (by omega)
        have hys : y < (sgl ns).length := by
          have : y ∈ Rot.outs (sgl ns) k := by rw [hT, ← hy]; exact List.getElem_mem hxn
          exact (Rot.outs_mem.1 this).1
        obtain ⟨⟨z1, z2⟩, hz⟩ : ∃ z, (sgl ns)[y] = z := ⟨_, rfl⟩
        have hb3r : Below w3.heap.size w3 wr := HB4.out.trans (hB.out.mono HB4.out.size)
        have e1 : wr.cell? ⟨eb, eo + y * 2 + 1, none⟩ = some (.int .i64 (z2 : Nat)) := HEP.out.at hb3r (Nat.le_refl _) y hys 1 _ (by rw [hz]; rfl)
        have hel := (HEP.out.below hb3r (Nat.le_refl _)).1 (by omega)
        have HPT := Lib.hid (show Rot.ptr (sgl ns) (rot us) k = z2 by
          have e2 : rot us k = xn := by unfold rot; rw [HUK.out]; rfl
          unfold Rot.ptr Rot.trg
          rw [e2, hT]
          simp [List.getD_eq_getElem?_getD, hxn, hy, hys, hz])
        have HST := Lib.hid (ptK_set (sgl ns) us k (by omega))
        have hp12 : (ptK (sgl ns) us k).length = 12 := by simp [ptK]
        have p0 := hPB.out.cell k _ (ints_at (ptK (sgl ns) us k) k (by omega))
        have pf := hPB.out.free k
        have hpl := hPB.out.lt
        have i0 : (0 : Int) ≤ (y : Int) := by omega
        have i1' : (y : Int) < ((sgl ns).length : Int) := by omega
        have i2 : (0 : Int) ≤ (xn : Int) := by omega
        have i3 : (xn : Int) < (T.length : Int) := by omega
        have i4 : (k : Int) < 12 := by omega
        have HTT := Lib.hid hT
        have HXN := Lib.hid hxn
        obtain ⟨pv, hpv⟩ : ∃ pv, Value.int .i64 ((ptK (sgl ns) us k)[k]'(by omega) : Nat) = pv := ⟨_, rfl⟩
        rw [hpv] at p0
        clear hT hy hz hb3r hp12 hqw hpv
        go_wp2
        go_roundw
        case rel => exact ⟨k + 1, by omega, by go_num, Lib.hid (by rw [← HST.out, ← ints_set, HPT.out]; exact hPB.out.set k _), Lib.hid (fun v hv => by
          by_cases e : v = k
          · subst e; rw [HUK.out, HTT.out]; omega
          · exact hX.out v (by omega)), Lib.hid (hB.out.setCell (p := ⟨w4.heap.size, k, none⟩) (Nat.le_refl _) _)⟩
        case measure => simp [intOf]; omega
      · obtain rfl : n = k := by omega
        obtain ⟨an, rfl⟩ : ∃ an : Nat, at_ = (an : Int) := ⟨at_.toNat, by omega⟩
        have han2 : an < n := by omega
        have hplt := ptK_lt n12 HRG.out hX.out
        have HXX := Lib.hid hX.out
        have hnl2 : ¬ (n : Int) < (us.length : Int) := by have := HUL.out; omega
        have hnl3 : ¬ n < us.length := by have := HUL.out; omega
        have hp12 : (ptK (sgl ns) us n).length = 12 := by simp [ptK]
        obtain ⟨PT, hPT⟩ : ∃ PT, ptK (sgl ns) us n = PT := ⟨_, rfl⟩
        rw [hPT] at hplt hp12 hPB
        have HPT := Lib.hid hPT
        obtain ⟨a0, a1, a2, a3, a4, a5, a6, a7, a8, a9, a10, a11, rfl⟩ := twelve hp12
        have hPB2 := hPB.out
        have c0 := hPB2.cell 0 _ rfl; have c1 := hPB2.cell 1 _ rfl; have c2 := hPB2.cell 2 _ rfl; have c3 := hPB2.cell 3 _ rfl; have c4 := hPB2.cell 4 _ rfl; have c5 := hPB2.cell 5 _ rfl; have c6 := hPB2.cell 6 _ rfl; have c7 := hPB2.cell 7 _ rfl; have c8 := hPB2.cell 8 _ rfl; have c9 := hPB2.cell 9 _ rfl; have c10 := hPB2.cell 10 _ rfl; have c11 := hPB2.cell 11 _ rfl
        have hpl := hPB2.lt
        have HCY : Hid (Calls Tryz.prog 50 #[.agg #[.int .i64 (a0 : Nat), .int .i64 (a1 : Nat), .int .i64 (a2 : Nat), .int .i64 (a3 : Nat), .int .i64 (a4 : Nat), .int .i64 (a5 : Nat), .int .i64 (a6 : Nat), .int .i64 (a7 : Nat), .int .i64 (a8 : Nat), .int .i64 (a9 : Nat), .int .i64 (a10 : Nat), .int .i64 (a11 : Nat)], .int .i64 (n : Nat), .int .i64 (an : Nat)] wr (Rets fun r w' => CycP [a0, a1, a2, a3, a4, a5, a6, a7, a8, a9, a10, a11] n an r wr w')) := Lib.hid (cycles_ok wr [a0, a1, a2, a3, a4, a5, a6, a7, a8, a9, a10, a11] n an rfl hplt n1 n12 han2)
        have hqd : Below w1.heap.size w1 wr := HB5.out.trans (hB.out.mono HB5.out.size)
        obtain ⟨d0, d1, hld⟩ := hs_of HD1.out hqd
        obtain ⟨u0, u1, hlu⟩ := hs_of HU1.out hqd
        have HGU := Lib.hid (show (∀ v, v < n → ∃ i, it [a0, a1, a2, a3, a4, a5, a6, a7, a8, a9, a10, a11] i v = an) ↔ (∀ v, v < n → ∃ i, it (ptK (sgl ns) us n) i v = (an : Int).toNat) by rw [HPT.out, Int.toNat_natCast])
        clear hplt hPT hPB hqd hPB2 hX
        go_wp2_with (go_at_call 50; (with_reducible refine HCY.out.mono ?_); rintro e w6 ⟨v, rfl, cc, tt, rfl, hb6, hcyc⟩; have HB6 := Lib.hid (HQW.out.trans (hb6.mono HQW.out.size)); have HCC := Lib.hid hcyc; clear hb6 hcyc)
        all_goals
          have HF3 : ¬ (cc = 1 ∧ tt = true) → ChkP n ns (an : Int) us (.int .i64 3) w w6 := fun hn => ⟨3, rfl, HB6.out, .inr ⟨HEC.out, HNI.out, .inr ⟨by omega, by omega, .inr ⟨HUL.out, .inr ⟨HXX.out, .inl ⟨rfl, fun h => hn (HCC.out.2 (HGU.out.2 h))⟩⟩⟩⟩⟩⟩
          have HF0 : cc = 1 ∧ tt = true → ChkP n ns (an : Int) us (.int .i64 0) w w6 := fun hn => ⟨0, rfl, HB6.out, .inr ⟨HEC.out, HNI.out, .inr ⟨by omega, by omega, .inr ⟨HUL.out, .inr ⟨HXX.out, .inr ⟨rfl, HGU.out.1 (HCC.out.1 hn)⟩⟩⟩⟩⟩⟩
          go_ret
          first
            | exact ⟨_, rfl, HF3 (by simp_all)⟩
            | exact ⟨_, rfl, HF0 (by simp_all)⟩
end Go.Proofs.YtlnhocgjgmhfgaaGreatDoor
