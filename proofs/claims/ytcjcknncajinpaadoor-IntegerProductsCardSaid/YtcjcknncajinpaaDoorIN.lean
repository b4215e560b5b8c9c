/- The walk of integer's read. -/
import Derived.Test.YtcjcknncajinpaaDoorIN2
namespace Go.Proofs.YtcjcknncajinpaaDoor
open Go.RowKit Go.Shelf
set_option maxRecDepth 100000

attribute [local go_sem] Oper.semAt_some

theorem Sl.put {α : Type} {enc : α → Value} {w : World} {v : Value} {xs : List α} (h : Sl enc w v xs) {l : Nat} {ob : Obj} (ob' : Obj) (hl : w.heap[l]? = some ob) (hc : ob.isCells = false) : Sl enc (w.putObj l ob') v xs := by
  obtain ⟨a, b, o, c, rfl, ha, hcc, hm, hn, hx⟩ := h
  have hg := grownBy_putObj' w l ob'
  exact ⟨a, b, o, c, rfl, ha, hcc, hm, hn, fun h0 => Nat.lt_of_lt_of_le (hx.1 h0) hg.size, fun i hi => cell_kept (hx.2 i hi) hg (fun r e => by cases e; exact ⟨_, hl, hc⟩)⟩

set_option maxHeartbeats 2000000 in
theorem read_in (w : World) (s : ByteArray) (z : Int) (hs : s.data.toList = Lib.itoa z) (hsz : s.size ≤ 1000000) :
    CallsIn Fence.wide 4 Tryd.prog 45 #[.string s] w (Rets fun v w' => Num w' v z ∧ Below w.heap.size w w') := by
  have hd1 : Lib.trimPrefix s.data.toList [45] = Lib.decDigits z.natAbs := by rw [hs, trim_itoa]
  have hm1 : Lib.hasPrefix s.data.toList [45] = decide (z < 0) := by rw [hs, pre_itoa]
  have hall := dec_all z.natAbs
  have hval := ws_dec z.natAbs
  have hdl : (Lib.decDigits z.natAbs).length ≤ 1000000 := by
    have e := itoa_cases z
    have e2 : s.data.toList.length ≤ 1000000 := by rw [← Lib.size_eq]; exact hsz
    rw [hs, e] at e2
    split at e2
    · rw [List.length_cons] at e2; omega
    · exact e2
  generalize Lib.decDigits z.natAbs = d at *
  generalize hm : decide (z < 0) = m at *
  have HD1 := Lib.hid hd1; have HM1 := Lib.hid hm1; have HALL := Lib.hid hall; have HVAL := Lib.hid hval; have HM := Lib.hid hm
  clear hd1 hm1 hs hsz hall hval hm
  refine callsIn_of_wp_marks Tryd.func45 rfl trivial ?_ rfl
  simp only [Tryd.ntmps45, List.size_toArray, List.length_cons, List.length_nil, Nat.reduceAdd, Nat.reduceSub, Array.replicate_succ, Array.replicate_zero, List.push_toArray, List.append_toArray, List.nil_append, List.cons_append]
  gi_wp2
  refine ⟨trivial, callsIn_wide.2 ((Tryd.strings_CutPrefix _ _ _).mono ?_)⟩
  rintro e w' ⟨rfl, rfl⟩
  rw [show (⟨#[45]⟩ : ByteArray).data.toList = [45] from rfl, HD1.out, HM1.out]
  gi_wp2
  refine ⟨trivial, callsIn_wide.2 ((groups_any _ _).mono ?_)⟩
  rintro e w' ⟨rfl, rfl⟩
  gi_wp2
  obtain ⟨i0, hi, hz0, hz1, hz2⟩ := info_parts (by kernel_rfl : (Tryd.prog.info? 69).map (fun i => (i.zero, i.size, i.bytes)) = some (some (.int .u32 0), 1, 4))
  have bK := Blk.new w [.bool false, .slice none 0 0] 64
  have bL := (Boxed.new (w.alloc (.cells #[.bool false, .slice none 0 0] 64)) 62 (.slice none 0 0)).alloc (.cells #[.string ⟨d.toArray⟩] 9)
  have bS := Boxed.new ((w.alloc (.cells #[.bool false, .slice none 0 0] 64)).alloc (.cells #[.slice none 0 0] 62)) 9 (.string ⟨d.toArray⟩)
  rw [World.size_alloc] at bL
  rw [World.size_alloc, World.size_alloc] at bS
  have hB0 : Below (w.heap.size + 1) (w.alloc (.cells #[.bool false, .slice none 0 0] 64)) (((w.alloc (.cells #[.bool false, .slice none 0 0] 64)).alloc (.cells #[.slice none 0 0] 62)).alloc (.cells #[.string ⟨d.toArray⟩] 9)) := ((Below.refl _ _).alloc (by simp) _).alloc (by simp) _
  refine wpIn_rangeFunc_ownG rfl (by omega) (gf := 89) (lb := #[.pointer (some ⟨w.heap.size + 1 + 1, 0, none⟩)]) rfl trivial (enters_of Tryd.func89 (by kernel_rfl) rfl)
    (groups_stops d HALL.out hdl _ (by omega) (w.heap.size + 1 + 1) _ (by simp) bS.cell) KpC.tr (fun W l o o' _ ho hc _ => KpC.put W l o o' ho hc) (Below.refl _ _) (fun _ => rfl)
    (fun pre W => (∃ v, Boxed W (w.heap.size + 1) 62 v ∧ W.ownsRow (w.heap.size + 1) 69 1 v pre.length (pre.map eU) ∧ True) ∧ (Boxed W (w.heap.size + 1 + 1) 9 (.string ⟨d.toArray⟩) ∧ Below (w.heap.size + 1) (w.alloc (.cells #[.bool false, .slice none 0 0] 64)) W))
    (fun _ _ _ => False)
    (OwnFrom.and (Own.from (holdsRow_own (w.heap.size + 1) (w.heap.size + 1) 62 69 1 (fun pre : List Nat => pre.length) (fun pre => pre.map eU) (fun _ _ => True)) _) (OwnFrom.and (Own.from (boxed_own _ _ (fun _ => .string ⟨d.toArray⟩)) _) (ownFrom_below (by simp) (by first | (simp; done) | (simp; omega)))))
    (fun _ _ _ _ _ hs _ _ => hs)
    ⟨⟨_, bL, World.ownsRow_nil _ _ _ _, trivial⟩, bS, hB0⟩
    (fun x => { tmps := #[.string s, undef, .pointer (some ⟨w.heap.size, 0, none⟩), .string ⟨d.toArray⟩, .bool m, .pointer (some ⟨w.heap.size + 1, 0, none⟩), .int .u32 (x : Nat), .tuple #[.string ⟨d.toArray⟩, .bool m], .string s, .tuple #[.string ⟨d.toArray⟩, .bool m], .string ⟨d.toArray⟩, .bool m, .string ⟨d.toArray⟩,
      .func (.func 89) #[] #[.pointer (some ⟨w.heap.size + 1 + 1, 0, none⟩)], .int .u32 (x : Nat), undef, undef, undef, undef, undef, undef, undef, undef], defers := [] }) ?assign ?body ?done ?stop
  case assign =>
    intro l x W K hK
    gi_wp2
    exact hK
  case body =>
    rintro l pre x W ⟨⟨v, hv, hrow, -⟩, hS, hB⟩ hlt
    have hc := hv.cell
    have hBs : w.heap.size + 1 ≤ W.heap.size := by have := hB.size; simpa using this
    gi_wp2_with (gi_at_builtin; go_loud (refine wpListIn_append_own _ rfl _ _ 62 rfl (w.heap.size + 1) 69 i0 (.int .u32 0) 1 4 Tryd.underlying62 hi hz0 hz1 hz2 rfl (by decide) _ _ _ rfl (hrow.alloc _) ⟨W.heap.size, 0, none⟩ 1 1 [.int .u32 (x : Nat)] rfl rfl (cell_one_new _ _ _) (by simp [Value.oneCell']) (by unfold maxLen; omega) (by omega) (by first | (simp; done) | (simp; omega)) ?_; intro v' w1 hown' hgrow _; obtain ⟨g', cap', rfl⟩ := ownsRow_succ hown'; obtain ⟨hv1, hv2, hr2, hk2, hb2⟩ := hv.appended (by decide) hrow hBs (Nat.le_refl _) hown' hgrow; have hc1 := hv1.cell; have hf1 := hv1.frozen))
    have hS1 := (hS.alloc _).kept hgrow (hS.not_row (by decide) hrow)
    exact ⟨hk2.from _, fun u hu => by rw [hS.cell] at hu; cases hu; exact (hS1.other (by omega) _).cell, ⟨_, hv2, by simpa [eU] using hr2, trivial⟩, hS1.other (by omega) _, hB.trans hb2⟩
  case done =>
    rintro D ys W hD rfl ⟨⟨v, hv, hrow, -⟩, -, hB⟩ hK
    have hc := hv.cell
    have hsl : Sl eU W v (ws d d.length) := Sl.ofOwns hrow
    have hBk := bK.below (hB.mono (Nat.le_refl _)) (by simp)
    have hDg : w.heap.size + 1 + 1 + 1 ≤ D := by simpa using hD
    have hDW : D < W.heap.size := (Array.getElem?_eq_some_iff.1 hK).1
    gi_wp2
    refine ⟨trivial, callsIn_wide.2 ((trimmed_any _ _ _ hsl).mono ?_)⟩
    rintro e w' ⟨v3, rfl, hs3, rfl⟩
    rw [trim_of 1000000000 (ws d d.length) z.natAbs (by omega) (ws_lt d HALL.out _ (Nat.le_refl _)) HVAL.out] at hs3
    gi_wp2
    refine ⟨trivial, callsIn_wide.2 ((signed_any _ _ _ _ hs3).mono ?_)⟩
    rintro e w2 ⟨v4, rfl, ⟨mA, aA, nA, cA, rfl, hmA, hsA⟩, hbA⟩
    have hsg : sg m z.natAbs = z := by
      rw [← HM.out]; by_cases hz : z < 0 <;> simp [sg, hz] <;> omega
    rw [hsg] at hsA hmA
    have hBk2 := hBk.below hbA (Nat.le_refl _)
    have k0 := hBk2.cell 0 _ rfl
    have k1 := hBk2.cell 1 _ rfl
    have f0 := hBk2.free 0
    have f1 := hBk2.free 1
    have hK2 : w2.heap[D]? = some (.deferred (some [])) := (hbA.block D hDW).trans hK
    have hb1 : Below w.heap.size w W := ((Below.refl _ w).alloc (Nat.le_refl _) _).trans (hB.mono (by omega))
    have hb2 : Below w.heap.size w w2 := hb1.trans (hbA.mono hb1.size)
    have HSA := Lib.hid hsA; have HMA := Lib.hid hmA; have HB2 := Lib.hid hb2
    clear hsA hmA hb2 hs3 hsl
    gi_wp2
    obtain ⟨hs2, r0, r1⟩ := store2 hBk2 (by simp [eU]) (by simp [eU]) mA aA nA cA HSA.out
    have hK3 := ((KeepsOthers.setCell w2 ⟨w.heap.size, 0, none⟩ (.bool mA)).trans (KeepsOthers.setCell (w2.setCell ⟨w.heap.size, 0, none⟩ (.bool mA)) ⟨w.heap.size, 1, none⟩ (.slice aA nA cA))).same D _ hK2 rfl
    have hb3 := (HB2.out.setCell (p := ⟨w.heap.size, 0, none⟩) (Nat.le_refl _) (.bool mA)).setCell (p := ⟨w.heap.size, 1, none⟩) (Nat.le_refl _) (.slice aA nA cA)
    generalize (w2.setCell ⟨w.heap.size, 0, none⟩ (.bool mA)).setCell ⟨w.heap.size, 1, none⟩ (.slice aA nA cA) = w3 at *
    have q0 := cell_kept r0 (grownBy_putObj' w3 D (.deferred none)) (fun r e => by cases e; exact ⟨_, hK3, rfl⟩)
    have q1 := cell_kept r1 (grownBy_putObj' w3 D (.deferred none)) (fun r e => by cases e; exact ⟨_, hK3, rfl⟩)
    refine ⟨by simp, .inl ⟨_, _, rfl, run_takeDeferred hK3, ?_⟩⟩
    exact ⟨.agg #[.bool mA, .slice aA nA cA], by simp [results, Tryd.results45, go_sem, q0, q1], _, rfl, ⟨_, _, _, _, rfl, HMA.out, hs2.put _ hK3 rfl⟩,
      hb3.trans (belowK_b (w := w) (Nat.le_refl _) w3 D _ _ (by omega) hK3 rfl rfl)⟩
  case stop =>
    rintro D c pre W _ _ h _
    exact h.elim

theorem read_any (w : World) (s : ByteArray) (z : Int) (hs : s.data.toList = Lib.itoa z) (hsz : s.size ≤ 1000000) :
    Calls Tryd.prog 45 #[.string s] w (Rets fun v w' => Num w' v z ∧ Below w.heap.size w w') := callsIn_wide.1 (read_in w s z hs hsz)
end Go.Proofs.YtcjcknncajinpaaDoor
