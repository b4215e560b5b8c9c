/- The walks of Degrees, Ends, Eulerian, of euler and of the reference, for every digraph. -/
import Derived.Test.YtlnhocgjgmhfgaaGreatDoorPk14
import Derived.Test.YtlnhocgjgmhfgaaGreatDoorPk11
import Derived.Laws.StructEq
import Derived.Laws.Tables
import Derived.Laws.Cover2
import Derived.OwnWalk
namespace Go.Proofs.YtlnhocgjgmhfgaaGreatDoor
open Go.RowKit
set_option maxRecDepth 100000

theorem eqEnds (a b c d : Int) (w : World) : (Op.equalIn 10000 60 (.agg #[.int .i64 a, .int .i64 b]) (.agg #[.int .i64 c, .int .i64 d])).run Tryz.prog w = .ok (a == c && b == d) w := by
  have u3 := Tryz.underlying3
  have a3 := Tryz.isAgg3
  have z3 := Tryz.sizeOf3
  rw [show (10000 : Nat) = 9999 + 1 from rfl, Op.equalIn]
  simp only [Sem.run_bind, run_underlying Tryz.underlying60, Result.andThen_ok]
  simp only [Std.Legacy.Range.forIn_eq_forIn_range', Std.Legacy.Range.size, Nat.sub_zero, Nat.add_sub_cancel, Nat.div_one, List.range'_succ, List.range'_zero, List.forIn_cons, List.forIn_nil]
  go_simp
  by_cases h1 : a = c <;> by_cases h2 : b = d <;> simp [h1, h2]
set_option maxHeartbeats 2000000 in
theorem EqualE_same (w : World) (v u : Value) (xs : List (Nat × Nat)) (hv : SlK p2 2 w v xs) (hu : SlK p2 2 w u xs) :
    Calls Tryz.prog 24 #[v, u] w (Rets fun r w' => r = .bool true ∧ Below w.heap.size w w') := by
  obtain ⟨a, b, o, c, rfl, hi, hp, hc, hm⟩ := hv.open elemEnds
  obtain ⟨a', b', o', c', rfl, hi', hp', hc', hm'⟩ := hu.open elemEnds
  clear hv hu
  unfold maxLen at hm hm'
  go_enter Tryz.func24, Tryz.ntmps24
  go_wp2
  go_loopw [13] (fun i wr => ∃ k : Nat, k ≤ xs.length ∧ i = .int .i64 k ∧ Below w.heap.size w wr) (fun i _ => xs.length - (intOf i).toNat)
  case atStart => exact ⟨0, Nat.zero_le _, rfl, Below.refl _ _⟩
  case round =>
    obtain ⟨k, hk, rfl, hb⟩ := hrel
    by_cases hkn : k < xs.length
    · obtain ⟨⟨x, y⟩, hx⟩ : ∃ x, xs[k] = x := ⟨_, rfl⟩
      have h1 : wr.cell? ⟨b, o + k * 2, none⟩ = some (.int .i64 (x : Nat)) := hp.at hb (Nat.le_refl _) k hkn 0 _ (by rw [hx]; rfl)
      have h2 : wr.cell? ⟨b, o + k * 2 + 1, none⟩ = some (.int .i64 (y : Nat)) := hp.at hb (Nat.le_refl _) k hkn 1 _ (by rw [hx]; rfl)
      have h3 : wr.cell? ⟨b', o' + k * 2, none⟩ = some (.int .i64 (x : Nat)) := hp'.at hb (Nat.le_refl _) k hkn 0 _ (by rw [hx]; rfl)
      have h4 : wr.cell? ⟨b', o' + k * 2 + 1, none⟩ = some (.int .i64 (y : Nat)) := hp'.at hb (Nat.le_refl _) k hkn 1 _ (by rw [hx]; rfl)
      have q1 : (0 : Int) ≤ (k : Int) := by omega
      have q2 : (k : Int) < (xs.length : Int) := by omega
      clear hx
      have heq := fun W : World => eqEnds x y x y W
      simp only [beq_self_eq_true, Bool.and_self] at heq
      go_wp2_with fail
      go_quiet (fail)
      have b3 := below_drewN hb nq
      go_wp2
      go_roundw
      case rel => exact ⟨k + 1, by omega, by go_num, b3⟩
      case measure => simp [intOf]; omega
    · obtain rfl : k = xs.length := by omega
      go_wp2
      go_ret
      exact ⟨_, rfl, rfl, hb⟩

theorem FewDigraph_any (w : World) (n : Int) (v : Value) (es : List (Int × Int × Int)) (hv : SlK e3 3 w v es) :
    Calls Tryz.prog 19 #[.agg #[.int .i64 n, v]] w (Rets fun r w' => r = .bool (decide (es.length ≤ 160)) ∧ Below w.heap.size w w') := by
  obtain ⟨ad, c, rfl⟩ := hv.form
  have hm := hv.len
  have HQ := Lib.hid ((Below.refl w.heap.size w).alloc (Nat.le_refl _) (.cells #[.int .i64 n, .slice ad es.length c] 28))
  clear hv
  by_cases h : es.length ≤ 160
  · have H : Hid (decide (es.length ≤ 160) = true) := Lib.hid (by simpa using h)
    have h2 : decide ((es.length : Int) ≤ 160) = true := by simp; omega
    have h3 : decide (es.length ≤ 160) = true := by simpa using h
    clear h
    rw [H.out]
    go_enter Tryz.func19, Tryz.ntmps19
    go_wp2
    go_ret
    exact ⟨_, rfl, rfl, HQ.out⟩
  · have H : Hid (decide (es.length ≤ 160) = false) := Lib.hid (by simpa using h)
    have h2 : decide ((es.length : Int) ≤ 160) = false := by simp; omega
    have h3 : decide (es.length ≤ 160) = false := by simpa using h
    clear h
    rw [H.out]
    go_enter Tryz.func19, Tryz.ntmps19
    go_wp2
    go_ret
    exact ⟨_, rfl, rfl, HQ.out⟩

theorem dstep_ns : ∀ (n : Int) (p : Int × Int) (es : List (Int × Int × Int)), dstep n p es = 0 → ∃ ns : List (Nat × Nat × Nat), es = ns.map n3 ∧ (∀ x ∈ ns, (x.1 : Int) < n ∧ (x.2.1 : Int) < n ∧ 1 ≤ x.2.2 ∧ x.2.2 ≤ 50) ∧ (∀ x ∈ ns, lt2 p ((x.1 : Int), (x.2.1 : Int)) = true) ∧ ns.Pairwise fun x y => x.1 < y.1 ∨ (x.1 = y.1 ∧ x.2.1 < y.2.1)
  | _, _, [], _ => ⟨[], rfl, by simp, by simp, List.Pairwise.nil⟩
  | n, p, x :: l, h => by
    unfold dstep at h
    by_cases h1 : eOk n x = true
    · rw [if_pos h1] at h
      by_cases h2 : lt2 p (x.1, x.2.1) = true
      · rw [if_pos h2] at h
        obtain ⟨ns, e1, e2, e3, e4⟩ := dstep_ns n (x.1, x.2.1) l h
        obtain ⟨a, b, c⟩ := x
        have h3 : (vtx n a = true ∧ vtx n b = true) ∧ 1 ≤ c ∧ c ≤ 50 := by simpa [eOk] using h1
        rw [vtx_iff, vtx_iff] at h3
        refine ⟨(a.toNat, b.toNat, c.toNat) :: ns, ?_, ?_, ?_, ?_⟩
        · rw [e1, List.map_cons]; congr 1
          simp only [n3, Prod.mk.injEq]; omega
        · intro y hy
          rcases List.mem_cons.1 hy with rfl | hy
          · simp only; omega
          · exact e2 y hy
        · intro y hy
          rcases List.mem_cons.1 hy with rfl | hy
          · simp only [lt2, decide_eq_true_eq] at h2 ⊢; omega
          · have := e3 y hy
            simp only [lt2, decide_eq_true_eq] at h2 this ⊢
            omega
        · refine List.Pairwise.cons (fun y hy => ?_) e4
          have := e3 y hy
          simp only [lt2, decide_eq_true_eq] at this
          simp only at this ⊢; omega
      · rw [if_neg h2] at h; exact absurd h (by decide)
    · rw [if_neg h1] at h; exact absurd h (by decide)
theorem rd_of {n : Int} {es : List (Int × Int × Int)} (h : chkDg n es = 0) : ∃ (m : Nat) (ns : List (Nat × Nat × Nat)), n = (m : Nat) ∧ es = ns.map n3 ∧ RD m ns := by
  unfold chkDg at h
  by_cases h1 : n < 1 ∨ 12 < n
  · rw [if_pos h1] at h; exact absurd h (by decide)
  · rw [if_neg h1] at h
    obtain ⟨ns, e1, e2, -, e4⟩ := dstep_ns n _ es h
    exact ⟨n.toNat, ns, by omega, e1, by omega, by omega, fun x hx => by have := e2 x hx; omega, e4⟩
theorem chkDg_rd {n : Nat} {ns : List (Nat × Nat × Nat)} (h : RD n ns) : chkDg (n : Nat) (ns.map n3) = 0 := by
  have key : ∀ (l : List (Nat × Nat × Nat)) (p : Int × Int), (∀ x ∈ l, x.1 < n ∧ x.2.1 < n ∧ 1 ≤ x.2.2 ∧ x.2.2 ≤ 50) → (∀ x ∈ l, lt2 p ((x.1 : Int), (x.2.1 : Int)) = true) → (l.Pairwise fun x y => x.1 < y.1 ∨ (x.1 = y.1 ∧ x.2.1 < y.2.1)) → dstep (n : Nat) p (l.map n3) = 0 := by
    intro l
    induction l with
    | nil => intro _ _ _ _; rfl
    | cons x l ih =>
      intro p h1 h2 h3
      obtain ⟨h4, h5⟩ := List.pairwise_cons.1 h3
      have hx := h1 x (List.mem_cons_self ..)
      rw [List.map_cons]
      unfold dstep
      rw [if_pos (show eOk (n : Nat) (n3 x) = true by
        have a1 : vtx (n : Nat) (x.1 : Int) = true := (vtx_iff _ _).2 (by omega)
        have a2 : vtx (n : Nat) (x.2.1 : Int) = true := (vtx_iff _ _).2 (by omega)
        have a3 : decide (1 ≤ (x.2.2 : Int) ∧ (x.2.2 : Int) ≤ 50) = true := decide_eq_true (by omega)
        show (vtx (n : Nat) (x.1 : Int) && vtx (n : Nat) (x.2.1 : Int) && decide (1 ≤ (x.2.2 : Int) ∧ (x.2.2 : Int) ≤ 50)) = true
        rw [a1, a2, a3]; rfl), if_pos (show lt2 p ((n3 x).1, (n3 x).2.1) = true from h2 x (List.mem_cons_self ..))]
      refine ih _ (fun y hy => h1 y (List.mem_cons_of_mem _ hy)) (fun y hy => ?_) h5
      have := h4 y hy
      exact decide_eq_true (show (x.1 : Int) < (y.1 : Int) ∨ ((x.1 : Int) = (y.1 : Int) ∧ (x.2.1 : Int) < (y.2.1 : Int)) by omega)
  unfold chkDg
  have := h.pos; have := h.le
  rw [if_neg (by omega)]
  exact key ns _ h.rng (fun x hx => by simp only [lt2, decide_eq_true_eq]; omega) h.asc

/-- What Degrees answers: two lists and an error. -/
def RetD2 (w : World) (F T : List Nat) (k : Int) : Ending → World → Prop := Rets fun r w' => ∃ u v, r = .tuple #[u, v, .int .i64 k] ∧ SlK i1 1 w' u F ∧ SlK i1 1 w' v T ∧ Below w.heap.size w w'
def RetE2 (w : World) (S : List (Nat × Nat)) (k : Int) : Ending → World → Prop := Rets fun r w' => ∃ u, r = .tuple #[u, .int .i64 k] ∧ SlK p2 2 w' u S ∧ Below w.heap.size w w'
def RetB2 (w : World) (t : Bool) (k : Int) : Ending → World → Prop := Rets fun r w' => r = .tuple #[.bool t, .int .i64 k] ∧ Below w.heap.size w w'
section
set_option maxHeartbeats 2000000 in
theorem EDegrees_bad (w : World) (n : Int) (v : Value) (es : List (Int × Int × Int)) (hv : SlK e3 3 w v es) (hk : chkDg n es ≠ 0) :
    Calls Tryz.prog 20 #[.agg #[.int .i64 n, v]] w (RetD2 w [] [] (chkDg n es)) := by
  obtain ⟨ad, c, rfl⟩ := hv.form
  have HV := Lib.hid hv
  obtain ⟨D, hD⟩ : ∃ D, w.heap.size = D := ⟨_, rfl⟩
  obtain ⟨W, hW⟩ : ∃ W, w.alloc (.cells #[.int .i64 n, .slice ad es.length c] 28) = W := ⟨_, rfl⟩
  have HK0 := Lib.hid (show Blk W D [.int .i64 n, .slice ad es.length c] 28 by rw [← hW, ← hD]; exact Blk.new w _ _)
  have HB0 := Lib.hid (show Below D w W by rw [← hW, ← hD]; exact (Below.refl _ w).alloc (Nat.le_refl _) _)
  have HV0 := Lib.hid (HV.out.below HB0.out (Nat.le_of_eq hD))
  have HW := Lib.hid hW
  have k0 := HK0.out.cell 0 _ rfl; have k1 := HK0.out.cell 1 _ rfl; have kl := HK0.out.lt
  clear hv hW
  have hne : (chkDg n es != 0) = true := by simp [hk]
  clear hk
  go_enter Tryz.func20, Tryz.ntmps20
  go_wp2_with (go_at_call 46; rw [HW.out]; (with_reducible refine (NCheck_any W n _ es HV0.out).mono ?_); rintro e w1 ⟨v, rfl, rfl, hb⟩; have HB1 := Lib.hid (HB0.out.trans (hb.mono (by rw [← hD]; exact HB0.out.size))); have HV1 := Lib.hid (HV0.out.below hb (Nat.le_refl _)); have HK1 := Lib.hid (HK0.out.below hb (Nat.le_refl _)); have k0 := HK1.out.cell 0 _ rfl; have k1 := HK1.out.cell 1 _ rfl; have kl := HK1.out.lt; clear hb)
  go_ret3
  exact ⟨_, rfl, _, _, rfl, SlK.nil, SlK.nil, by rw [hD]; exact HB1.out⟩
set_option maxHeartbeats 2000000 in
theorem rDegrees_bad (w : World) (n : Int) (v : Value) (es : List (Int × Int × Int)) (hv : SlK e3 3 w v es) (hk : chkDg n es ≠ 0) :
    Calls Tryz.prog 21 #[.agg #[.int .i64 n, v]] w (RetD2 w [] [] (chkDg n es)) := by
  obtain ⟨ad, c, rfl⟩ := hv.form
  have HV := Lib.hid hv
  obtain ⟨D, hD⟩ : ∃ D, w.heap.size = D := ⟨_, rfl⟩
  obtain ⟨W, hW⟩ : ∃ W, w.alloc (.cells #[.int .i64 n, .slice ad es.length c] 28) = W := ⟨_, rfl⟩
  have HK0 := Lib.hid (show Blk W D [.int .i64 n, .slice ad es.length c] 28 by rw [← hW, ← hD]; exact Blk.new w _ _)
  have HB0 := Lib.hid (show Below D w W by rw [← hW, ← hD]; exact (Below.refl _ w).alloc (Nat.le_refl _) _)
  have HV0 := Lib.hid (HV.out.below HB0.out (Nat.le_of_eq hD))
  have HW := Lib.hid hW
  have k0 := HK0.out.cell 0 _ rfl; have k1 := HK0.out.cell 1 _ rfl; have kl := HK0.out.lt
  clear hv hW
  have hne : (chkDg n es != 0) = true := by simp [hk]
  clear hk
  go_enter Tryz.func21, Tryz.ntmps21
  go_wp2_with (go_at_call 27; rw [HW.out]; (with_reducible refine (rDCheck_any W n _ es HV0.out).mono ?_); rintro e w1 ⟨v, rfl, rfl, hb⟩; have HB1 := Lib.hid (HB0.out.trans (hb.mono (by rw [← hD]; exact HB0.out.size))); have HV1 := Lib.hid (HV0.out.below hb (Nat.le_refl _)); have HK1 := Lib.hid (HK0.out.below hb (Nat.le_refl _)); have k0 := HK1.out.cell 0 _ rfl; have k1 := HK1.out.cell 1 _ rfl; have kl := HK1.out.lt; clear hb)
  go_ret3
  exact ⟨_, rfl, _, _, rfl, SlK.nil, SlK.nil, by rw [hD]; exact HB1.out⟩
set_option maxHeartbeats 2000000 in
theorem EEnds_bad (w : World) (n : Int) (v : Value) (es : List (Int × Int × Int)) (hv : SlK e3 3 w v es) (hk : chkDg n es ≠ 0) :
    Calls Tryz.prog 22 #[.agg #[.int .i64 n, v]] w (RetE2 w [] (chkDg n es)) := by
  obtain ⟨ad, c, rfl⟩ := hv.form
  have HV := Lib.hid hv
  obtain ⟨D, hD⟩ : ∃ D, w.heap.size = D := ⟨_, rfl⟩
  obtain ⟨W, hW⟩ : ∃ W, w.alloc (.cells #[.int .i64 n, .slice ad es.length c] 28) = W := ⟨_, rfl⟩
  have HK0 := Lib.hid (show Blk W D [.int .i64 n, .slice ad es.length c] 28 by rw [← hW, ← hD]; exact Blk.new w _ _)
  have HB0 := Lib.hid (show Below D w W by rw [← hW, ← hD]; exact (Below.refl _ w).alloc (Nat.le_refl _) _)
  have HV0 := Lib.hid (HV.out.below HB0.out (Nat.le_of_eq hD))
  have HW := Lib.hid hW
  have k0 := HK0.out.cell 0 _ rfl; have k1 := HK0.out.cell 1 _ rfl; have kl := HK0.out.lt
  clear hv hW
  have hne : (chkDg n es != 0) = true := by simp [hk]
  clear hk
  go_enter Tryz.func22, Tryz.ntmps22
  go_wp2_with (go_at_call 46; rw [HW.out]; (with_reducible refine (NCheck_any W n _ es HV0.out).mono ?_); rintro e w1 ⟨v, rfl, rfl, hb⟩; have HB1 := Lib.hid (HB0.out.trans (hb.mono (by rw [← hD]; exact HB0.out.size))); have HV1 := Lib.hid (HV0.out.below hb (Nat.le_refl _)); have HK1 := Lib.hid (HK0.out.below hb (Nat.le_refl _)); have k0 := HK1.out.cell 0 _ rfl; have k1 := HK1.out.cell 1 _ rfl; have kl := HK1.out.lt; clear hb)
  go_ret2
  exact ⟨_, rfl, _, rfl, SlK.nil, by rw [hD]; exact HB1.out⟩
set_option maxHeartbeats 2000000 in
theorem rEnds47_bad (w : World) (n : Int) (v : Value) (es : List (Int × Int × Int)) (hv : SlK e3 3 w v es) (hk : chkDg n es ≠ 0) :
    Calls Tryz.prog 23 #[.agg #[.int .i64 n, v]] w (RetE2 w [] (chkDg n es)) := by
  obtain ⟨ad, c, rfl⟩ := hv.form
  have HV := Lib.hid hv
  obtain ⟨D, hD⟩ : ∃ D, w.heap.size = D := ⟨_, rfl⟩
  obtain ⟨W, hW⟩ : ∃ W, w.alloc (.cells #[.int .i64 n, .slice ad es.length c] 28) = W := ⟨_, rfl⟩
  have HK0 := Lib.hid (show Blk W D [.int .i64 n, .slice ad es.length c] 28 by rw [← hW, ← hD]; exact Blk.new w _ _)
  have HB0 := Lib.hid (show Below D w W by rw [← hW, ← hD]; exact (Below.refl _ w).alloc (Nat.le_refl _) _)
  have HV0 := Lib.hid (HV.out.below HB0.out (Nat.le_of_eq hD))
  have HW := Lib.hid hW
  have k0 := HK0.out.cell 0 _ rfl; have k1 := HK0.out.cell 1 _ rfl; have kl := HK0.out.lt
  clear hv hW
  have hne : (chkDg n es != 0) = true := by simp [hk]
  clear hk
  go_enter Tryz.func23, Tryz.ntmps23
  go_wp2_with (go_at_call 27; rw [HW.out]; (with_reducible refine (rDCheck_any W n _ es HV0.out).mono ?_); rintro e w1 ⟨v, rfl, rfl, hb⟩; have HB1 := Lib.hid (HB0.out.trans (hb.mono (by rw [← hD]; exact HB0.out.size))); have HV1 := Lib.hid (HV0.out.below hb (Nat.le_refl _)); have HK1 := Lib.hid (HK0.out.below hb (Nat.le_refl _)); have k0 := HK1.out.cell 0 _ rfl; have k1 := HK1.out.cell 1 _ rfl; have kl := HK1.out.lt; clear hb)
  go_ret2
  exact ⟨_, rfl, _, rfl, SlK.nil, by rw [hD]; exact HB1.out⟩
set_option maxHeartbeats 2000000 in
theorem EEulerian_bad (w : World) (n : Int) (v : Value) (es : List (Int × Int × Int)) (hv : SlK e3 3 w v es) (hk : chkDg n es ≠ 0) :
    Calls Tryz.prog 25 #[.agg #[.int .i64 n, v]] w (RetB2 w false (chkDg n es)) := by
  obtain ⟨ad, c, rfl⟩ := hv.form
  have HV := Lib.hid hv
  obtain ⟨D, hD⟩ : ∃ D, w.heap.size = D := ⟨_, rfl⟩
  obtain ⟨W, hW⟩ : ∃ W, w.alloc (.cells #[.int .i64 n, .slice ad es.length c] 28) = W := ⟨_, rfl⟩
  have HK0 := Lib.hid (show Blk W D [.int .i64 n, .slice ad es.length c] 28 by rw [← hW, ← hD]; exact Blk.new w _ _)
  have HB0 := Lib.hid (show Below D w W by rw [← hW, ← hD]; exact (Below.refl _ w).alloc (Nat.le_refl _) _)
  have HV0 := Lib.hid (HV.out.below HB0.out (Nat.le_of_eq hD))
  have HW := Lib.hid hW
  have k0 := HK0.out.cell 0 _ rfl; have k1 := HK0.out.cell 1 _ rfl; have kl := HK0.out.lt
  clear hv hW
  have hne : (chkDg n es != 0) = true := by simp [hk]
  clear hk
  go_enter Tryz.func25, Tryz.ntmps25
  go_wp2_with (go_at_call 46; rw [HW.out]; (with_reducible refine (NCheck_any W n _ es HV0.out).mono ?_); rintro e w1 ⟨v, rfl, rfl, hb⟩; have HB1 := Lib.hid (HB0.out.trans (hb.mono (by rw [← hD]; exact HB0.out.size))); have HV1 := Lib.hid (HV0.out.below hb (Nat.le_refl _)); have HK1 := Lib.hid (HK0.out.below hb (Nat.le_refl _)); have k0 := HK1.out.cell 0 _ rfl; have k1 := HK1.out.cell 1 _ rfl; have kl := HK1.out.lt; clear hb)
  go_ret2
  exact ⟨_, rfl, rfl, by rw [hD]; exact HB1.out⟩
set_option maxHeartbeats 2000000 in
theorem rEulerian_bad (w : World) (n : Int) (v : Value) (es : List (Int × Int × Int)) (hv : SlK e3 3 w v es) (hk : chkDg n es ≠ 0) :
    Calls Tryz.prog 26 #[.agg #[.int .i64 n, v]] w (RetB2 w false (chkDg n es)) := by
  obtain ⟨ad, c, rfl⟩ := hv.form
  have HV := Lib.hid hv
  obtain ⟨D, hD⟩ : ∃ D, w.heap.size = D := ⟨_, rfl⟩
  obtain ⟨W, hW⟩ : ∃ W, w.alloc (.cells #[.int .i64 n, .slice ad es.length c] 28) = W := ⟨_, rfl⟩
  have HK0 := Lib.hid (show Blk W D [.int .i64 n, .slice ad es.length c] 28 by rw [← hW, ← hD]; exact Blk.new w _ _)
  have HB0 := Lib.hid (show Below D w W by rw [← hW, ← hD]; exact (Below.refl _ w).alloc (Nat.le_refl _) _)
  have HV0 := Lib.hid (HV.out.below HB0.out (Nat.le_of_eq hD))
  have HW := Lib.hid hW
  have k0 := HK0.out.cell 0 _ rfl; have k1 := HK0.out.cell 1 _ rfl; have kl := HK0.out.lt
  clear hv hW
  have hne : (chkDg n es != 0) = true := by simp [hk]
  clear hk
  go_enter Tryz.func26, Tryz.ntmps26
  go_wp2_with (go_at_call 27; rw [HW.out]; (with_reducible refine (rDCheck_any W n _ es HV0.out).mono ?_); rintro e w1 ⟨v, rfl, rfl, hb⟩; have HB1 := Lib.hid (HB0.out.trans (hb.mono (by rw [← hD]; exact HB0.out.size))); have HV1 := Lib.hid (HV0.out.below hb (Nat.le_refl _)); have HK1 := Lib.hid (HK0.out.below hb (Nat.le_refl _)); have k0 := HK1.out.cell 0 _ rfl; have k1 := HK1.out.cell 1 _ rfl; have kl := HK1.out.lt; clear hb)
  go_ret2
  exact ⟨_, rfl, rfl, by rw [hD]; exact HB1.out⟩
end
set_option maxHeartbeats 2000000 in
theorem EDegrees_good (w : World) (n : Int) (v : Value) (es : List (Int × Int × Int)) (m : Nat) (ns : List (Nat × Nat × Nat)) (hv : SlK e3 3 w v es) (hn : n = (m : Nat)) (he : es = ns.map n3) (hR : RD m ns) (hl : ns.length ≤ 1000) :
    Calls Tryz.prog 20 #[.agg #[.int .i64 n, v]] w (RetD2 w (degAt (·.1) m ns ns.length) (degAt (·.2.1) m ns ns.length) 0) := by
  obtain ⟨ad, c, rfl⟩ := hv.form
  have HV := Lib.hid hv
  obtain ⟨D, hD⟩ : ∃ D, w.heap.size = D := ⟨_, rfl⟩
  obtain ⟨W, hW⟩ : ∃ W, w.alloc (.cells #[.int .i64 n, .slice ad es.length c] 28) = W := ⟨_, rfl⟩
  have HK0 := Lib.hid (show Blk W D [.int .i64 n, .slice ad es.length c] 28 by rw [← hW, ← hD]; exact Blk.new w _ _)
  have HB0 := Lib.hid (show Below D w W by rw [← hW, ← hD]; exact (Below.refl _ w).alloc (Nat.le_refl _) _)
  have HV0 := Lib.hid (HV.out.below HB0.out (Nat.le_of_eq hD))
  have HW := Lib.hid hW
  have k0 := HK0.out.cell 0 _ rfl; have k1 := HK0.out.cell 1 _ rfl; have kl := HK0.out.lt
  clear hv hW
  have hk : chkDg n es = 0 := by rw [hn, he]; exact chkDg_rd hR
  have HC := Lib.hid hk; have HR := Lib.hid hR
  have HCON := Lib.hid (fun (W' : World) (u : Value) (h : SlK e3 3 W' u es) => show Calls Tryz.prog 53 #[.agg #[.int .i64 n, u]] W' (Rets fun r w2 => ∃ A B, r = .tuple #[.slice (some ⟨A, 0, none⟩) m m, .slice (some ⟨B, 0, none⟩) m m] ∧ Blk w2 A (ints (degAt (·.1) m ns ns.length)) 3 ∧ Blk w2 B (ints (degAt (·.2.1) m ns ns.length)) 3 ∧ W'.heap.size ≤ A ∧ W'.heap.size ≤ B ∧ Below W'.heap.size W' w2) from by rw [hn, he] at *; exact degrees_ok W' m u ns hR h hl)
  clear hk hR hn he
  go_enter Tryz.func20, Tryz.ntmps20
  go_wp2_with (first
    | (go_at_call 53; (with_reducible refine (HCON.out _ _ HV1.out).mono ?_); rintro e w2 ⟨v, rfl, A, B, rfl, hA, hB, hA0, hB0, hb⟩; have HB2 := Lib.hid (HB1.out.trans (hb.mono (by rw [← hD]; exact HB1.out.size))); have HA := Lib.hid hA; have HB := Lib.hid hB; have hAl := hA.lt; have hBl := hB.lt; clear hA hB hA0 hB0 hb)
    | (go_at_call 46; rw [HW.out]; (with_reducible refine (NCheck_any W n _ es HV0.out).mono ?_); rintro e w1 ⟨v, rfl, rfl, hb⟩; rw [HC.out]; have HB1 := Lib.hid (HB0.out.trans (hb.mono (by rw [← hD]; exact HB0.out.size))); have HV1 := Lib.hid (HV0.out.below hb (Nat.le_refl _)); have HK1 := Lib.hid (HK0.out.below hb (Nat.le_refl _)); have k0 := HK1.out.cell 0 _ rfl; have k1 := HK1.out.cell 1 _ rfl; have kl := HK1.out.lt; clear hb))
  go_ret3
  exact ⟨_, rfl, _, _, rfl, slk_blk HA.out (degAt_len _ _ _ _) (by have := HR.out.le; unfold maxLen; omega), slk_blk HB.out (degAt_len _ _ _ _) (by have := HR.out.le; unfold maxLen; omega), by rw [hD]; exact HB2.out⟩
set_option maxHeartbeats 2000000 in
theorem rDegrees_good (w : World) (n : Int) (v : Value) (es : List (Int × Int × Int)) (m : Nat) (ns : List (Nat × Nat × Nat)) (hv : SlK e3 3 w v es) (hn : n = (m : Nat)) (he : es = ns.map n3) (hR : RD m ns) (hl : ns.length ≤ 1000) :
    Calls Tryz.prog 21 #[.agg #[.int .i64 n, v]] w (RetD2 w (degAt (·.1) m ns ns.length) (degAt (·.2.1) m ns ns.length) 0) := by
  obtain ⟨ad, c, rfl⟩ := hv.form
  have HV := Lib.hid hv
  obtain ⟨D, hD⟩ : ∃ D, w.heap.size = D := ⟨_, rfl⟩
  obtain ⟨W, hW⟩ : ∃ W, w.alloc (.cells #[.int .i64 n, .slice ad es.length c] 28) = W := ⟨_, rfl⟩
  have HK0 := Lib.hid (show Blk W D [.int .i64 n, .slice ad es.length c] 28 by rw [← hW, ← hD]; exact Blk.new w _ _)
  have HB0 := Lib.hid (show Below D w W by rw [← hW, ← hD]; exact (Below.refl _ w).alloc (Nat.le_refl _) _)
  have HV0 := Lib.hid (HV.out.below HB0.out (Nat.le_of_eq hD))
  have HW := Lib.hid hW
  have k0 := HK0.out.cell 0 _ rfl; have k1 := HK0.out.cell 1 _ rfl; have kl := HK0.out.lt
  clear hv hW
  have hk : chkDg n es = 0 := by rw [hn, he]; exact chkDg_rd hR
  have HC := Lib.hid hk; have HR := Lib.hid hR
  have HCON := Lib.hid (fun (W' : World) (u : Value) (h : SlK e3 3 W' u es) => show Calls Tryz.prog 54 #[.agg #[.int .i64 n, u]] W' (Rets fun r w2 => ∃ A B, r = .tuple #[.slice (some ⟨A, 0, none⟩) m m, .slice (some ⟨B, 0, none⟩) m m] ∧ Blk w2 A (ints (degAt (·.1) m ns ns.length)) 3 ∧ Blk w2 B (ints (degAt (·.2.1) m ns ns.length)) 3 ∧ W'.heap.size ≤ A ∧ W'.heap.size ≤ B ∧ Below W'.heap.size W' w2) from by rw [hn, he] at *; exact rCounted_any W' m u ns hR h hl)
  clear hk hR hn he
  go_enter Tryz.func21, Tryz.ntmps21
  go_wp2_with (first
    | (go_at_call 54; (with_reducible refine (HCON.out _ _ HV1.out).mono ?_); rintro e w2 ⟨v, rfl, A, B, rfl, hA, hB, hA0, hB0, hb⟩; have HB2 := Lib.hid (HB1.out.trans (hb.mono (by rw [← hD]; exact HB1.out.size))); have HA := Lib.hid hA; have HB := Lib.hid hB; have hAl := hA.lt; have hBl := hB.lt; clear hA hB hA0 hB0 hb)
    | (go_at_call 27; rw [HW.out]; (with_reducible refine (rDCheck_any W n _ es HV0.out).mono ?_); rintro e w1 ⟨v, rfl, rfl, hb⟩; rw [HC.out]; have HB1 := Lib.hid (HB0.out.trans (hb.mono (by rw [← hD]; exact HB0.out.size))); have HV1 := Lib.hid (HV0.out.below hb (Nat.le_refl _)); have HK1 := Lib.hid (HK0.out.below hb (Nat.le_refl _)); have k0 := HK1.out.cell 0 _ rfl; have k1 := HK1.out.cell 1 _ rfl; have kl := HK1.out.lt; clear hb))
  go_ret3
  exact ⟨_, rfl, _, _, rfl, slk_blk HA.out (degAt_len _ _ _ _) (by have := HR.out.le; unfold maxLen; omega), slk_blk HB.out (degAt_len _ _ _ _) (by have := HR.out.le; unfold maxLen; omega), by rw [hD]; exact HB2.out⟩
set_option maxHeartbeats 2000000 in
theorem EEnds_good (w : World) (n : Int) (v : Value) (es : List (Int × Int × Int)) (m : Nat) (ns : List (Nat × Nat × Nat)) (hv : SlK e3 3 w v es) (hn : n = (m : Nat)) (he : es = ns.map n3) (hR : RD m ns) (hl : ns.length ≤ 1000) :
    Calls Tryz.prog 22 #[.agg #[.int .i64 n, v]] w (RetE2 w (sgl ns) 0) := by
  obtain ⟨ad, c, rfl⟩ := hv.form
  have HV := Lib.hid hv
  obtain ⟨D, hD⟩ : ∃ D, w.heap.size = D := ⟨_, rfl⟩
  obtain ⟨W, hW⟩ : ∃ W, w.alloc (.cells #[.int .i64 n, .slice ad es.length c] 28) = W := ⟨_, rfl⟩
  have HK0 := Lib.hid (show Blk W D [.int .i64 n, .slice ad es.length c] 28 by rw [← hW, ← hD]; exact Blk.new w _ _)
  have HB0 := Lib.hid (show Below D w W by rw [← hW, ← hD]; exact (Below.refl _ w).alloc (Nat.le_refl _) _)
  have HV0 := Lib.hid (HV.out.below HB0.out (Nat.le_of_eq hD))
  have HW := Lib.hid hW
  have k0 := HK0.out.cell 0 _ rfl; have k1 := HK0.out.cell 1 _ rfl; have kl := HK0.out.lt
  clear hv hW
  have hk : chkDg n es = 0 := by rw [hn, he]; exact chkDg_rd hR
  have HC := Lib.hid hk; have HR := Lib.hid hR
  have HCON := Lib.hid (fun (W' : World) (u : Value) (h : SlK e3 3 W' u es) => show Calls Tryz.prog 43 #[.agg #[.int .i64 n, u]] W' (Rets fun r w2 => w2.ownsRow W'.heap.size 60 2 r (sgl ns).length ((sgl ns).flatMap p2) ∧ Below W'.heap.size W' w2) from by rw [hn, he] at *; exact arcs_ok W' m u ns h (fun x hx => (hR.rng x hx).2.2.2) (by omega))
  clear hk hR hn he
  go_enter Tryz.func22, Tryz.ntmps22
  go_wp2_with (first
    | (go_at_call 43; (with_reducible refine (HCON.out _ _ HV1.out).mono ?_); rintro e w2 ⟨v, rfl, hO, hb⟩; have HB2 := Lib.hid (HB1.out.trans (hb.mono (by rw [← hD]; exact HB1.out.size))); obtain ⟨ea, ec, rfl⟩ := own_formK hO; have HO := Lib.hid (SlK.ofOwns p2_len hO rfl); clear hO hb)
    | (go_at_call 46; rw [HW.out]; (with_reducible refine (NCheck_any W n _ es HV0.out).mono ?_); rintro e w1 ⟨v, rfl, rfl, hb⟩; rw [HC.out]; have HB1 := Lib.hid (HB0.out.trans (hb.mono (by rw [← hD]; exact HB0.out.size))); have HV1 := Lib.hid (HV0.out.below hb (Nat.le_refl _)); have HK1 := Lib.hid (HK0.out.below hb (Nat.le_refl _)); have k0 := HK1.out.cell 0 _ rfl; have k1 := HK1.out.cell 1 _ rfl; have kl := HK1.out.lt; clear hb))
  go_ret2
  exact ⟨_, rfl, _, rfl, HO.out, by rw [hD]; exact HB2.out⟩
set_option maxHeartbeats 2000000 in
theorem rEnds47_good (w : World) (n : Int) (v : Value) (es : List (Int × Int × Int)) (m : Nat) (ns : List (Nat × Nat × Nat)) (hv : SlK e3 3 w v es) (hn : n = (m : Nat)) (he : es = ns.map n3) (hR : RD m ns) (hl : ns.length ≤ 1000) :
    Calls Tryz.prog 23 #[.agg #[.int .i64 n, v]] w (RetE2 w (sgl ns) 0) := by
  obtain ⟨ad, c, rfl⟩ := hv.form
  have HV := Lib.hid hv
  obtain ⟨D, hD⟩ : ∃ D, w.heap.size = D := ⟨_, rfl⟩
  obtain ⟨W, hW⟩ : ∃ W, w.alloc (.cells #[.int .i64 n, .slice ad es.length c] 28) = W := ⟨_, rfl⟩
  have HK0 := Lib.hid (show Blk W D [.int .i64 n, .slice ad es.length c] 28 by rw [← hW, ← hD]; exact Blk.new w _ _)
  have HB0 := Lib.hid (show Below D w W by rw [← hW, ← hD]; exact (Below.refl _ w).alloc (Nat.le_refl _) _)
  have HV0 := Lib.hid (HV.out.below HB0.out (Nat.le_of_eq hD))
  have HW := Lib.hid hW
  have k0 := HK0.out.cell 0 _ rfl; have k1 := HK0.out.cell 1 _ rfl; have kl := HK0.out.lt
  clear hv hW
  have hk : chkDg n es = 0 := by rw [hn, he]; exact chkDg_rd hR
  have HC := Lib.hid hk; have HR := Lib.hid hR
  have HCON := Lib.hid (fun (W' : World) (u : Value) (h : SlK e3 3 W' u es) => show Calls Tryz.prog 28 #[.agg #[.int .i64 n, u]] W' (Rets fun r w2 => w2.ownsRow W'.heap.size 60 2 r (sgl ns).length ((sgl ns).flatMap p2) ∧ Below W'.heap.size W' w2) from by rw [hn, he] at *; exact rSingles_any W' m u ns h (fun x hx => (hR.rng x hx).2.2.2) (by omega))
  clear hk hR hn he
  go_enter Tryz.func23, Tryz.ntmps23
  go_wp2_with (first
    | (go_at_call 28; (with_reducible refine (HCON.out _ _ HV1.out).mono ?_); rintro e w2 ⟨v, rfl, hO, hb⟩; have HB2 := Lib.hid (HB1.out.trans (hb.mono (by rw [← hD]; exact HB1.out.size))); obtain ⟨ea, ec, rfl⟩ := own_formK hO; have HO := Lib.hid (SlK.ofOwns p2_len hO rfl); clear hO hb)
    | (go_at_call 27; rw [HW.out]; (with_reducible refine (rDCheck_any W n _ es HV0.out).mono ?_); rintro e w1 ⟨v, rfl, rfl, hb⟩; rw [HC.out]; have HB1 := Lib.hid (HB0.out.trans (hb.mono (by rw [← hD]; exact HB0.out.size))); have HV1 := Lib.hid (HV0.out.below hb (Nat.le_refl _)); have HK1 := Lib.hid (HK0.out.below hb (Nat.le_refl _)); have k0 := HK1.out.cell 0 _ rfl; have k1 := HK1.out.cell 1 _ rfl; have kl := HK1.out.lt; clear hb))
  go_ret2
  exact ⟨_, rfl, _, rfl, HO.out, by rw [hD]; exact HB2.out⟩
theorem eulP_dec {n : Nat} {ns : List (Nat × Nat × Nat)} {r : Value} {w w' : World} {t : Bool} (h : EulP n ns r w w') (ht : t = true ↔ EulC n ns) : r = .bool t ∧ Below w.heap.size w w' := by
  obtain ⟨t', rfl, hb, hi⟩ := h
  refine ⟨?_, hb⟩
  congr 1
  rw [Bool.eq_iff_iff, hi, ht]
theorem isR_dec {n : Nat} {ns : List (Nat × Nat × Nat)} {r : Value} {w w' : World} {t : Bool} (hR : RD n ns) (h : IsR n ns r w w') (ht : t = true ↔ EulC n ns) : r = .bool t ∧ Below w.heap.size w w' := by
  obtain ⟨t', rfl, hb, hi⟩ := h
  refine ⟨?_, hb⟩
  congr 1
  rw [Bool.eq_iff_iff, hi, ht]
  exact is_eul hR
set_option maxHeartbeats 2000000 in
theorem EEulerian_good (w : World) (n : Int) (v : Value) (es : List (Int × Int × Int)) (m : Nat) (ns : List (Nat × Nat × Nat)) (hv : SlK e3 3 w v es) (hn : n = (m : Nat)) (he : es = ns.map n3) (hR : RD m ns) (hl : ns.length ≤ 1000) (t : Bool) (ht : t = true ↔ EulC m ns) :
    Calls Tryz.prog 25 #[.agg #[.int .i64 n, v]] w (RetB2 w t 0) := by
  obtain ⟨ad, c, rfl⟩ := hv.form
  have HV := Lib.hid hv
  obtain ⟨D, hD⟩ : ∃ D, w.heap.size = D := ⟨_, rfl⟩
  obtain ⟨W, hW⟩ : ∃ W, w.alloc (.cells #[.int .i64 n, .slice ad es.length c] 28) = W := ⟨_, rfl⟩
  have HK0 := Lib.hid (show Blk W D [.int .i64 n, .slice ad es.length c] 28 by rw [← hW, ← hD]; exact Blk.new w _ _)
  have HB0 := Lib.hid (show Below D w W by rw [← hW, ← hD]; exact (Below.refl _ w).alloc (Nat.le_refl _) _)
  have HV0 := Lib.hid (HV.out.below HB0.out (Nat.le_of_eq hD))
  have HW := Lib.hid hW
  have k0 := HK0.out.cell 0 _ rfl; have k1 := HK0.out.cell 1 _ rfl; have kl := HK0.out.lt
  clear hv hW
  have hk : chkDg n es = 0 := by rw [hn, he]; exact chkDg_rd hR
  have HC := Lib.hid hk; have HR := Lib.hid hR
  have HCON := Lib.hid (fun (W' : World) (u : Value) (h : SlK e3 3 W' u es) => show Calls Tryz.prog 47 #[.agg #[.int .i64 n, u]] W' (Rets fun r w2 => r = .bool t ∧ Below W'.heap.size W' w2) from by rw [hn, he] at *; exact (eulerian_ok W' m u ns hR h hl).mono (by rintro e w2 ⟨v, rfl, hE⟩; obtain ⟨h1, h2⟩ := eulP_dec hE ht; exact ⟨_, rfl, h1, h2⟩))
  clear hk hR hn he
  go_enter Tryz.func25, Tryz.ntmps25
  go_wp2_with (first
    | (go_at_call 47; (with_reducible refine (HCON.out _ _ HV1.out).mono ?_); rintro e w2 ⟨v, rfl, rfl, hb⟩; have HB2 := Lib.hid (HB1.out.trans (hb.mono (by rw [← hD]; exact HB1.out.size))); clear hb)
    | (go_at_call 46; rw [HW.out]; (with_reducible refine (NCheck_any W n _ es HV0.out).mono ?_); rintro e w1 ⟨v, rfl, rfl, hb⟩; rw [HC.out]; have HB1 := Lib.hid (HB0.out.trans (hb.mono (by rw [← hD]; exact HB0.out.size))); have HV1 := Lib.hid (HV0.out.below hb (Nat.le_refl _)); have HK1 := Lib.hid (HK0.out.below hb (Nat.le_refl _)); have k0 := HK1.out.cell 0 _ rfl; have k1 := HK1.out.cell 1 _ rfl; have kl := HK1.out.lt; clear hb))
  go_ret2
  exact ⟨_, rfl, rfl, by rw [hD]; exact HB2.out⟩
set_option maxHeartbeats 2000000 in
theorem rEulerian_good (w : World) (n : Int) (v : Value) (es : List (Int × Int × Int)) (m : Nat) (ns : List (Nat × Nat × Nat)) (hv : SlK e3 3 w v es) (hn : n = (m : Nat)) (he : es = ns.map n3) (hR : RD m ns) (hl : ns.length ≤ 1000) (t : Bool) (ht : t = true ↔ EulC m ns) :
    Calls Tryz.prog 26 #[.agg #[.int .i64 n, v]] w (RetB2 w t 0) := by
  obtain ⟨ad, c, rfl⟩ := hv.form
  have HV := Lib.hid hv
  obtain ⟨D, hD⟩ : ∃ D, w.heap.size = D := ⟨_, rfl⟩
  obtain ⟨W, hW⟩ : ∃ W, w.alloc (.cells #[.int .i64 n, .slice ad es.length c] 28) = W := ⟨_, rfl⟩
  have HK0 := Lib.hid (show Blk W D [.int .i64 n, .slice ad es.length c] 28 by rw [← hW, ← hD]; exact Blk.new w _ _)
  have HB0 := Lib.hid (show Below D w W by rw [← hW, ← hD]; exact (Below.refl _ w).alloc (Nat.le_refl _) _)
  have HV0 := Lib.hid (HV.out.below HB0.out (Nat.le_of_eq hD))
  have HW := Lib.hid hW
  have k0 := HK0.out.cell 0 _ rfl; have k1 := HK0.out.cell 1 _ rfl; have kl := HK0.out.lt
  clear hv hW
  have hk : chkDg n es = 0 := by rw [hn, he]; exact chkDg_rd hR
  have HC := Lib.hid hk; have HR := Lib.hid hR
  have HCON := Lib.hid (fun (W' : World) (u : Value) (h : SlK e3 3 W' u es) => show Calls Tryz.prog 30 #[.agg #[.int .i64 n, u]] W' (Rets fun r w2 => r = .bool t ∧ Below W'.heap.size W' w2) from by rw [hn, he] at *; exact (rIs_any W' m u ns hR h hl).mono (by rintro e w2 ⟨v, rfl, hE⟩; obtain ⟨h1, h2⟩ := isR_dec hR hE ht; exact ⟨_, rfl, h1, h2⟩))
  clear hk hR hn he
  go_enter Tryz.func26, Tryz.ntmps26
  go_wp2_with (first
    | (go_at_call 30; (with_reducible refine (HCON.out _ _ HV1.out).mono ?_); rintro e w2 ⟨v, rfl, rfl, hb⟩; have HB2 := Lib.hid (HB1.out.trans (hb.mono (by rw [← hD]; exact HB1.out.size))); clear hb)
    | (go_at_call 27; rw [HW.out]; (with_reducible refine (rDCheck_any W n _ es HV0.out).mono ?_); rintro e w1 ⟨v, rfl, rfl, hb⟩; rw [HC.out]; have HB1 := Lib.hid (HB0.out.trans (hb.mono (by rw [← hD]; exact HB0.out.size))); have HV1 := Lib.hid (HV0.out.below hb (Nat.le_refl _)); have HK1 := Lib.hid (HK0.out.below hb (Nat.le_refl _)); have k0 := HK1.out.cell 0 _ rfl; have k1 := HK1.out.cell 1 _ rfl; have kl := HK1.out.lt; clear hb))
  go_ret2
  exact ⟨_, rfl, rfl, by rw [hD]; exact HB2.out⟩
end Go.Proofs.YtlnhocgjgmhfgaaGreatDoor
