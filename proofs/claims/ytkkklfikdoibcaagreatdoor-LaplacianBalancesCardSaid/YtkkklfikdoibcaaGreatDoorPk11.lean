/- The walk of slices.Delete over pairs of ends: one element is taken out. The walk of laplacian's With. The walks of the reference's Turned, Transpose, Minor, Get, Of, Make, One and Unit of matrices. The walks of the Laplacian's reference: entry, Whole. The walks of slices.Equal at divisors and of the Laplacian law's Wedge and awake. The walk of the Laplacian law's awake: the chapter's examples. The walks of matrix's Same and of the reference's. The walk of the reference's Few at graphs; what it says. -/
import Derived.Test.YtkkklfikdoibcaaGreatDoorPk10
import Derived.Test.YtkkklfikdoibcaaGreatDoorPk9
import Derived.Test.YtkkklfikdoibcaaGreatDoorPk6
import Derived.BigQuiet
import Derived.WalkSpells
namespace Go.Proofs.YtkkklfikdoibcaaGreatDoor
open Go.RowKit
set_option maxRecDepth 100000

theorem grown_scK (b : Nat) : ∀ (vs : List Value) (o : Nat) (a w : World), a.grownBy w (some b) → a.grownBy (w.setCells b o vs) (some b)
  | [], _, _, _, h => h
  | v :: r, o, a, w, h => grown_scK b r (o + 1) a _ ⟨h.os, h.tape, h.output, by simpa [World.setCell] using h.size, fun i hi hne => by
    rw [Below.heap_setCell _ _ _ _ (show i ≠ b from fun e => hne (by rw [e]))]; exact h.block i hi hne⟩
theorem erase_get {α : Type} (xs : List α) (i t : Nat) (ht : t < (xs.eraseIdx i).length) : ((t < i ∧ ∃ h : t < xs.length, (xs.eraseIdx i)[t] = xs[t]) ∨ (i ≤ t ∧ ∃ h : t + 1 < xs.length, (xs.eraseIdx i)[t] = xs[t + 1])) := by
  have hl : (xs.eraseIdx i).length ≤ xs.length := List.length_eraseIdx_le _ _
  by_cases h : t < i
  · refine .inl ⟨h, by omega, ?_⟩
    rw [List.getElem_eraseIdx]
    simp [h]
  · refine .inr ⟨by omega, ?_, ?_⟩
    · rw [List.length_eraseIdx] at ht
      split at ht <;> omega
    · rw [List.getElem_eraseIdx]
      simp [h]
set_option maxHeartbeats 4000000 in
theorem delete2_any (w : World) (v : Value) (xs : List (Nat × Nat)) (base i : Nat) (hown : w.ownsRow base 100 2 v xs.length (xs.flatMap p2)) (hi : i < xs.length) (hl : xs.length ≤ 1000000) :
    Calls Tryz.prog 83 #[v, .int .i64 (i : Nat), .int .i64 ((i : Int) + 1)] w (Rets fun v' w' => SlK p2 2 w' v' (xs.eraseIdx i) ∧ Below base w w' ∧ w.grownBy w' v.ownBlock) := by
  obtain ⟨i0, hi0, -, hz1, -⟩ := elemEnds.info
  rcases hown.2 with ⟨rfl, h0⟩ | ⟨g, cap, cur, rfl, hgb, hg, hc, hcm, hsz, ht⟩
  · have : xs.flatMap p2 = [] := List.length_eq_zero_iff.1 (by rw [hown.1]; omega)
    have h2 := flat_len p2_len xs
    rw [this] at h2
    simp only [List.length_nil] at h2
    omega
  obtain ⟨n, hn⟩ : ∃ n, xs.length = n := ⟨_, rfl⟩
  rw [hn] at hown hi hl hc ht ⊢
  have hcell : ∀ t r u, (h : t < n) → (p2 (xs[t]'(by omega)))[r]? = some u → w.cell? ⟨g, t * 2 + r, none⟩ = some u := fun t r u h hu => ownK_at p2_len hown t (by omega) r u hu
  have hfr : ∀ t, w.frozen? ⟨g, t, none⟩ = false := fun t => hown.frozenAt t
  have hex : ∀ t, t < n * 2 → (w.cell? ⟨g, t, none⟩).isSome = true := fun t h => by
    rw [hown.cellAt t h]
    have := hown.1
    rw [List.getElem?_eq_getElem (by omega)]; rfl
  obtain ⟨news, hnews⟩ : ∃ news, news = (xs.drop (i + 1)).flatMap p2 := ⟨_, rfl⟩
  have hlen : news.length = (n - (i + 1)) * 2 := by rw [hnews, flat_len p2_len, List.length_drop, hn]
  have hget : ∀ t r, r < 2 → (h : i + 1 + t < n) → news[t * 2 + r]? = (p2 (xs[i + 1 + t]'(by omega)))[r]? := by
    intro t r hr h
    rw [hnews, flat_get p2_len (xs.drop (i + 1)) t (by rw [List.length_drop]; omega) r hr]
    simp only [List.getElem_drop]
  obtain ⟨A, hA, hsrc⟩ : ∃ A : Addr, (if cap = i + 1 then some (⟨g, 0, none⟩ : Addr) else some ⟨g, (i + 1) * 2, none⟩) = some A ∧ Hid (∀ t u, news[t]? = some u → w.drew.cell? (A.add t) = some u) := by
    by_cases h : cap = i + 1
    · refine ⟨⟨g, 0, none⟩, by simp [h], Lib.hid fun t u hu => ?_⟩
      have h0 : news.length = 0 := by rw [hlen]; omega
      rw [List.length_eq_zero_iff.1 h0] at hu
      simp at hu
    · refine ⟨⟨g, (i + 1) * 2, none⟩, by simp [h], Lib.hid fun t u hu => ?_⟩
      have ht : t < news.length := (List.getElem?_eq_some_iff.1 hu).1
      rw [hlen] at ht
      have h1 : t / 2 * 2 + t % 2 = t := by omega
      rw [← h1, hget (t / 2) (t % 2) (by omega) (by omega)] at hu
      have := hcell (i + 1 + t / 2) (t % 2) u (by omega) hu
      rw [show (⟨g, (i + 1) * 2, none⟩ : Addr).add t = ⟨g, (i + 1) * 2 + t, none⟩ by simp [Addr.add]]
      rw [show (i + 1 + t / 2) * 2 + t % 2 = (i + 1) * 2 + t by omega] at this
      exact this
  have s1 : Hid (news.length = (n - (i + 1)) * 2) := Lib.hid hlen
  have s2 : Hid (∀ u ∈ news, u.oneCell' = true) := Lib.hid (by rw [hnews]; intro u hu; obtain ⟨y, _, hy⟩ := List.mem_flatMap.1 hu; exact p2_one y u hy)
  have s3 : Hid (∀ t, t < news.length → (w.drew.cell? ⟨g, 0 + i * 2 + t, none⟩).isSome = true ∧ w.drew.frozen? ⟨g, 0 + i * 2 + t, none⟩ = false) := Lib.hid (by
    intro t ht
    rw [hlen] at ht
    exact ⟨by rw [show 0 + i * 2 + t = i * 2 + t by omega]; exact hex (i * 2 + t) (by omega), hfr _⟩)
  obtain ⟨W1, hW1⟩ : ∃ W1, W1 = w.drew.setCells g (0 + i * 2) news := ⟨_, rfl⟩
  have hW : Hid (W1 = w.drew.setCells g (0 + i * 2) news) := Lib.hid hW1
  have hex1 : ∀ t, t < n * 2 → (W1.cell? ⟨g, t, none⟩).isSome = true := fun t h => by
    rw [hW1]
    by_cases h2 : i * 2 ≤ t ∧ t < i * 2 + news.length
    · obtain ⟨d, rfl⟩ : ∃ d, t = 0 + i * 2 + d := ⟨t - i * 2, by omega⟩
      rw [World.cell?_setCells_in g news (0 + i * 2) w.drew (fun j hj => (s3.out j hj).1) d (by omega)]; rfl
    · rw [World.cell?_setCells_out g _ _ _ _ (fun _ _ => by simp only; omega)]
      exact hex t h
  have hcl : ∀ ty, (Builtin.clear_ #[94] ty #[.slice (some ⟨g, (i + (n - (i + 1))) * 2, none⟩) (n - (i + (n - (i + 1)))) (cap - (i + (n - (i + 1))))]).run Tryz.prog W1 = .ok (.tuple #[]) (W1.setCells g ((i + (n - (i + 1))) * 2) [.int .i64 0, .int .i64 0]) :=
    fun ty => run_clearK W1 _ _ ty (.agg #[.int .i64 0, .int .i64 0]) Tryz.underlying94 (fun w => by kernel_rfl) g _ _ _ (by omega) _ (by rw [show n - (i + (n - (i + 1))) = 1 by omega]; simp [Builtin.zeroCells, Value.cells, List.range_succ]) (p2_one (0, 0))
      (fun t ht => by
        have ht : t < 2 := ht
        exact hex1 _ (by omega)) (fun t ht => by rw [hW1, World.frozen?_setCells]; exact hfr _)
  have HF := Lib.hid (show SlK p2 2 (W1.setCells g ((i + (n - (i + 1))) * 2) [.int .i64 0, .int .i64 0]) (.slice (some ⟨g, 0, none⟩) (i + (n - (i + 1))) cap) (xs.eraseIdx i) from by
    have hel : (xs.eraseIdx i).length = i + (n - (i + 1)) := by rw [List.length_eraseIdx, if_pos (by omega)]; omega
    refine ⟨some ⟨g, 0, none⟩, g, 0, cap, by rw [hel], fun _ => rfl, by omega, hcm, by simp, fun _ => ?_, fun t ht r u hu => ?_⟩
    · rw [size_scK, hW1, size_scK]; exact (Array.getElem?_eq_some_iff.1 hg).1
    · have hr : r < 2 := (List.getElem?_eq_some_iff.1 hu).1
      have htl : t < i + (n - (i + 1)) := by omega
      rw [Nat.zero_add, World.cell?_setCells_out g _ _ _ _ (fun _ _ => by simp only; left; omega), hW1]
      rcases erase_get xs i t ht with ⟨h1, h2, h3⟩ | ⟨h1, h2, h3⟩
      · rw [h3] at hu
        rw [World.cell?_setCells_out g _ _ _ _ (fun _ _ => by simp only; left; omega)]
        exact hcell t r u (by omega) hu
      · rw [h3] at hu
        obtain ⟨d, rfl⟩ : ∃ d, t = i + d := ⟨t - i, by omega⟩
        have hdn : d * 2 + r < news.length := by omega
        have := World.cell?_setCells_in g news (0 + i * 2) w.drew (fun j hj => (s3.out j hj).1) (d * 2 + r) hdn
        rw [show 0 + i * 2 + (d * 2 + r) = (i + d) * 2 + r by omega] at this
        rw [this]
        have h4 := hget d r hr (by omega)
        rw [List.getElem?_eq_getElem hdn] at h4
        rw [h4]
        rw [← hu]
        congr 2
        simp only [show i + 1 + d = i + d + 1 by omega])
  have HBL := Lib.hid (show Below base w (W1.setCells g ((i + (n - (i + 1))) * 2) [.int .i64 0, .int .i64 0]) from below_scK hgb _ _ _ (by rw [hW1]; exact below_scK hgb _ _ _ (Below.refl _ w).drew))
  have HGR := Lib.hid (show w.grownBy (W1.setCells g ((i + (n - (i + 1))) * 2) [.int .i64 0, .int .i64 0]) (some g) from grown_scK g _ _ _ _ (by rw [hW1]; exact grown_scK g _ _ _ _ ⟨rfl, rfl, rfl, Nat.le_refl _, fun _ _ _ => rfl⟩))
  have hic : i ≤ cap := by omega
  have hjc : i + 1 ≤ cap := by omega
  have hin : i + 1 ≤ n := by omega
  have q1 : (0 : Int) ≤ (i : Int) + 1 := by omega
  have q2 : (i : Int) + 1 ≤ (n : Int) := by omega
  have hne : ((i : Int) == (i : Int) + 1) = false := by simp; omega
  clear hW1 hex1 hget hnews hlen hcell hfr hex ht hsz hown hg hgb
  go_enter Tryz.func83, Tryz.ntmps83
  go_wp2_with fail
  go_region_law (refine step_append_room rfl (.tmp 22) (.tmp 25) 94 rfl 100 i0 2 Tryz.underlying94 hi0 hz1 g 0 i cap (by simp [Act.eval, Act.put]) A (n - (i + 1)) (cap - (i + 1)) news (by simp [Act.eval, Act.put]) s1.out hsrc.out s2.out (by omega) s3.out ?_; rw [← hW.out])
  go_wp2
  go_ret
  exact ⟨_, rfl, HF.out, HBL.out, HGR.out⟩
end Go.Proofs.YtkkklfikdoibcaaGreatDoor

namespace Go.Proofs.YtkkklfikdoibcaaGreatDoor
open Go.RowKit
set_option maxRecDepth 100000

section
variable {P : Program} {ops : Array Oper} {Q : Exit → Act → World → Prop} {md : Region.Mode} {S : World → Prop} {A : Nat → Bool}
/-- Two operations may come up. -/
theorem wpAnyJ_twoF {i j : Nat} {o o' : Oper} {fuel : Nat} {listed : Array Bool} {a : Act} {w : World} (hr : Region.ready md ops listed = [i, j]) (ho : ops[i]? = some o) (ho' : ops[j]? = some o')
    (h : ∀ K' : Act → World → Prop, Shut (∀ a w, (A i = true → S w) → wpAnyJ P md ops Q S A fuel (listed.setIfInBounds i true) a w → K' a w) → if Region.wanted o (yielded ops a.tmps) = true then Oper.wp P o a w K' Q else K' (a.put o.dst undef) w)
    (h' : ∀ K' : Act → World → Prop, Shut (∀ a w, (A j = true → S w) → wpAnyJ P md ops Q S A fuel (listed.setIfInBounds j true) a w → K' a w) → if Region.wanted o' (yielded ops a.tmps) = true then Oper.wp P o' a w K' Q else K' (a.put o'.dst undef) w) :
    wpAnyJ P md ops Q S A (fuel + 1) listed a w :=
  ⟨fun h0 => absurd (hr ▸ h0) (by simp), by
    rw [hr]
    intro k hk
    rcases List.mem_cons.1 hk with rfl | hk
    · exact wpOp_step ho (fun K' hK => h K' (fun a w hS hW => hK a w ⟨hS, hW⟩))
    · rw [List.mem_singleton] at hk
      subst hk
      exact wpOp_step ho' (fun K' hK => h' K' (fun a w hS hW => hK a w ⟨hS, hW⟩))⟩
end
theorem Ends_bad (w : World) (n : Int) (v : Value) (es : List (Int × Int × Int)) (hv : SlK e3 3 w v es) (hc : chkG n es ≠ 0) :
    Calls Tryz.prog 81 #[.agg #[.int .i64 n, v]] w (Rets fun r w' => r = .tuple #[.slice none 0 0, .int .i64 (chkG n es)] ∧ Below w.heap.size w w') := by
  obtain ⟨ad, c, rfl⟩ := hv.form
  have hne : (chkG n es != 0) = true := by simp [hc]
  have B0 := Lib.hid ((Below.refl w.heap.size w).alloc (Nat.le_refl _) (.cells #[.int .i64 n, .slice ad es.length c] 24))
  have HV := Lib.hid hv
  clear hv hc
  go_enter Tryz.func81, Tryz.ntmps81
  go_wp2_with ((go_at_call 67); (with_reducible refine (GCheck_any _ n _ es (HV.out.below B0.out (Nat.le_refl _))).mono ?_); rintro e w1 ⟨vf, rfl, rfl, hb1⟩; have B1 := Lib.hid (B0.out.trans (hb1.mono B0.out.size)); clear hb1)
  go_ret2
  exact ⟨_, rfl, rfl, B1.out⟩
theorem cofS_ok {n : Int} {es : List (Int × Int × Int)} (h : chkG n es = 0) (hn : 1 ≤ n) : cofS n es 0 0 = (txt (cofL n.toNat (nsOf es) 0 0), 0) := by
  unfold cofS
  rw [if_pos h, if_pos ⟨⟨by omega, by omega⟩, by omega, by omega⟩]; rfl
theorem dn_cof {n : Nat} {ns : List (Nat × Nat × Nat)} (h : ∀ x ∈ ns, x.2.2 ≤ 50) (hl : ns.length ≤ 1000) (hn : n ≤ 12) : dn (cofL n ns 0 0) ≤ 1000 := by
  unfold cofL
  rw [sgn_even (show (0 + 0) % 2 = 0 from rfl), Int.one_mul]
  exact dn_minor h hl hn 0 0
theorem en3_e3 (ys : List (Nat × Nat × Nat)) : (ys.map n3).flatMap e3 = ys.flatMap en3 := by
  induction ys with
  | nil => rfl
  | cons y ys ih => rw [List.map_cons, List.flatMap_cons, List.flatMap_cons, ih]; rfl
theorem Make_less (w : World) (n : Nat) (v : Value) (ps : List (Nat × Nat)) (hv : SlK p2 2 w v ps) (hn1 : 1 ≤ n) (hn : n ≤ 12) (hps : ∀ x ∈ ps, x.1 < n ∧ x.2 < n ∧ x.1 ≤ x.2) (hl : ps.length ≤ 4096) (hc : ∀ q, ps.count q ≤ 50) :
    Calls Tryz.prog 82 #[.int .i64 (n : Nat), v] w (Rets fun r w' => ∃ u, r = .tuple #[.agg #[.int .i64 (n : Nat), u], .int .i64 0] ∧ w'.ownsRow w.heap.size 124 3 u (canon n ps).length (((canon n ps).map n3).flatMap e3) ∧ Below w.heap.size w w') := by
  refine (Make_ok w n v ps hv hn1 hn hps hl hc).mono ?_
  rintro e w' ⟨r, he, u, ys, l, hr, h1, h2, h3, h4, h5, h6⟩
  refine ⟨r, he, u, hr, ?_, h6⟩
  rw [← made_canon (fun x hx => ⟨(hps x hx).1, (hps x hx).2.1⟩) h1 h2 h3 h4]
  rw [← en3_e3] at h5
  exact h5
set_option maxHeartbeats 4000000 in
theorem With_any (w : World) (n : Int) (v : Value) (es : List (Int × Int × Int)) (e : Int) (hv : SlK e3 3 w v es) (hl : es.length ≤ 1000) (h6 : chkG n es = 0 → n ≤ 7 ∧ (sgl (nsOf es)).length ≤ 4096) (he : Env w) :
    Calls Tryz.prog 26 #[.agg #[.int .i64 n, v], .int .i64 e] w (Rets fun r w' => r = .tuple #[.string (withS n es e).1, .int .i64 (withS n es e).2] ∧ Below w.heap.size w w') := by
  have HV := Lib.hid hv; have HE := Lib.hid he
  obtain ⟨ad, c, rfl⟩ := hv.form
  have B0 := Lib.hid ((Below.refl w.heap.size w).alloc (Nat.le_refl _) (.cells #[.int .i64 n, .slice ad es.length c] 24))
  have HK := Lib.hid (Blk.new w [.int .i64 n, .slice ad es.length c] 24)
  have HV1 := Lib.hid (HV.out.below B0.out (Nat.le_refl _))
  clear hv he
  by_cases hc : chkG n es = 0
  rotate_left
  · have HX := Lib.hid (show withS n es e = (⟨#[]⟩, chkG n es) by unfold withS; rw [if_neg hc])
    have HB := Lib.hid (Ends_bad _ n _ es HV1.out hc)
    have hne : (chkG n es != 0) = true := by simp [hc]
    rw [HX.out]
    clear hc h6
    go_enter Tryz.func26, Tryz.ntmps26
    go_wp2_with ((go_at_call 81); (with_reducible refine HB.out.mono ?_); rintro e1 w1 ⟨vf, rfl, rfl, hb1⟩; have B1 := Lib.hid (B0.out.trans (hb1.mono B0.out.size)); clear hb1)
    go_ret2
    exact ⟨_, rfl, rfl, B1.out⟩
  obtain ⟨ns, hRG⟩ := rg_of hc
  obtain ⟨h7, hsl2⟩ := h6 hc
  obtain ⟨N, rfl⟩ : ∃ N : Nat, n = (N : Int) := ⟨n.toNat, by have := hRG.pos; omega⟩
  have hN1 := hRG.pos
  have hes := hRG.eq
  subst hes
  have hnl : (ns.map n3).length = ns.length := List.length_map _
  rw [hnl] at HV HV1 HK B0 hl ⊢
  have hm : ∀ x ∈ ns, x.2.2 ≤ 50 := fun x hx => (hRG.rng x hx).2.2.2.1
  have HEN := Lib.hid (Ends_ok _ N _ ns HV1.out hc hm hl)
  rw [nsOf_n3] at hsl2
  by_cases hr : 0 ≤ e ∧ e < ((sgl ns).length : Int)
  rotate_left
  · have HX := Lib.hid (show withS N (ns.map n3) e = (⟨#[]⟩, 2) by unfold withS; rw [if_pos hc, nsOf_n3, if_neg hr])
    rw [HX.out]
    by_cases h0 : e < 0
    · clear hc h6 hr hRG
      go_enter Tryz.func26, Tryz.ntmps26
      go_wp2_with ((go_at_call 81); (with_reducible refine HEN.out.mono ?_); rintro e1 w1 ⟨vf, rfl, u, rfl, ho1, hb1⟩; obtain ⟨ua, uc, rfl⟩ := own_formK ho1; have B1 := Lib.hid (B0.out.trans (hb1.mono B0.out.size)); clear hb1 ho1)
      go_ret2
      exact ⟨_, rfl, rfl, B1.out⟩
    · have h1 : decide (((sgl ns).length : Int) ≤ e) = true := by simp only [decide_eq_true_eq]; omega
      have h2 : decide (e < 0) = false := by simp only [decide_eq_false_iff_not]; exact h0
      clear hc h6 hr hRG
      go_enter Tryz.func26, Tryz.ntmps26
      go_wp2_with ((go_at_call 81); (with_reducible refine HEN.out.mono ?_); rintro e1 w1 ⟨vf, rfl, u, rfl, ho1, hb1⟩; obtain ⟨ua, uc, rfl⟩ := own_formK ho1; have B1 := Lib.hid (B0.out.trans (hb1.mono B0.out.size)); clear hb1 ho1)
      go_ret2
      exact ⟨_, rfl, rfl, B1.out⟩
  obtain ⟨hr0, hr1⟩ := hr
  obtain ⟨i, rfl⟩ : ∃ i : Nat, e = (i : Int) := ⟨e.toNat, by omega⟩
  have hil : i < (sgl ns).length := by omega
  have HX := Lib.hid (show withS N (ns.map n3) (i : Int) = (txt (cofL N ns 0 0 - cofL N (lessG N ns i) 0 0), 0) by unfold withS; rw [if_pos hc, nsOf_n3, if_pos ⟨hr0, hr1⟩]; rfl)
  rw [HX.out]
  obtain ⟨z1, hz1⟩ : ∃ z, cofL N ns 0 0 = z := ⟨_, rfl⟩
  obtain ⟨z2, hz2⟩ : ∃ z, cofL N (lessG N ns i) 0 0 = z := ⟨_, rfl⟩
  rw [hz1, hz2]
  have HZ1 := Lib.hid hz1; have HZ2 := Lib.hid hz2
  clear hz1 hz2
  have h2 : decide ((i : Int) < 0) = false := by simp only [decide_eq_false_iff_not]; omega
  have h3 : decide (((sgl ns).length : Int) ≤ (i : Int)) = false := by simp only [decide_eq_false_iff_not]; omega
  have h4 : IntKind.i64.wrap ((i : Int) + 1) = (i : Int) + 1 := by rw [IntKind.wrap_i64]; omega
  obtain ⟨hl1, hl2, hl3, hl4⟩ := less_facts hRG i
  have HL1 := Lib.hid hl1; have HL2 := Lib.hid hl2; have HL3 := Lib.hid hl3; have HL4 := Lib.hid hl4
  have HC := Lib.hid hc
  clear hl1 hl2 hl3 hl4 hc h6 hRG
  go_enter Tryz.func26, Tryz.ntmps26
  go_wp2_with ((go_at_call 81); (with_reducible refine HEN.out.mono ?_); rintro e1 w1 ⟨vf, rfl, u, rfl, ho1, hb1⟩; obtain ⟨ua, uc, rfl⟩ := own_formK ho1; have HO1 := Lib.hid ho1; have B1 := Lib.hid (B0.out.trans (hb1.mono B0.out.size)); have HK1 := Lib.hid (HK.out.below hb1 (Nat.le_refl _)); have k0 := HK1.out.cell 0 _ rfl; have k1 := HK1.out.cell 1 _ rfl; have kl := HK1.out.lt; clear hb1 ho1)
  have HLE := Lib.hid (show ((sgl ns).eraseIdx i).length ≤ 4096 from Nat.le_trans (List.length_eraseIdx_le _ _) hsl2)
  have HN12 := Lib.hid (show 1 ≤ N ∧ N ≤ 12 by omega)
  obtain ⟨D, hD⟩ : ∃ D, w.heap.size = D := ⟨_, rfl⟩
  rw [hD] at k0 k1 kl HK1 B1 ⊢
  go_cut [7, 8] (fun p7 p8 wx => ∃ g u, p7 = .int .i64 0 ∧ p8 = .pointer (some ⟨g, 0, none⟩) ∧ Hid (Blk wx g [.int .i64 (N : Nat), u] 24) ∧ Hid (SlK e3 3 wx u ((lessG N ns i).map n3)) ∧ Hid (Blk wx D [.int .i64 (N : Nat), .slice ad ns.length c] 24) ∧ Hid (Below D w wx) ∧ Hid (D < g))
  case first =>
    -- REGION 6
    refine wp_regionJ (S := fun w' => w'.cell? ⟨D, 0, none⟩ = some (.int .i64 (N : Nat)) ∧ w'.cell? ⟨D, 1, none⟩ = some (.slice ad ns.length c)) (A := fun _ => true) (by kernel_rfl) ?_
    have HU := Lib.hid ((SlK.ofOwns p2_len HO1.out rfl).below ((Below.refl w1.heap.size w1).drew) (Nat.le_refl _)); have HK := Lib.hid (HK1.out.below ((Below.refl w1.heap.size w1).drew) (Nat.le_refl _)); have HB := Lib.hid (B1.out.drew)
    have hDw := kl
    obtain ⟨E, hE⟩ : ∃ E, w1.heap.size = E := ⟨_, rfl⟩
    obtain ⟨v0, hv0⟩ : ∃ x, w1.drew = x := ⟨_, rfl⟩
    have HSv0 := Lib.hid (show E ≤ v0.heap.size by rw [← hE, ← hv0]; exact Nat.le_refl _)
    rw [hE] at hDw
    have hDE : D ≤ E := Nat.le_of_lt hDw
    rw [hv0] at HU HK HB ⊢
    clear hE hv0 k0 k1 kl HO1 HK1 B1
    have hS := (⟨HK.out.cell 0 _ rfl, HK.out.cell 1 _ rfl⟩ : v0.cell? ⟨D, 0, none⟩ = some (.int .i64 (N : Nat)) ∧ v0.cell? ⟨D, 1, none⟩ = some (.slice ad ns.length c))
    refine wpAnyJ_take (i := 0) (oi := { dst := some 28, op := .fieldAddr _ (.tmp 2) 0, type := _, pos := _, after := _, guard := _ }) (v := ?_) rfl (by kernel_rfl) (by kernel_rfl) (by kernel_rfl) (early_sat (by kernel_rfl)) (fun _ _ _ h => h) (Or.inl ⟨by rfl, ?_⟩) hS ?_
    rotate_left
    · intro wl hSw
      obtain ⟨s0, s1⟩ := hSw
      go_simp
      with_reducible rfl
    simp only [Act.put, List.setIfInBounds_toArray, List.set_cons_zero, List.set_cons_succ]
    refine wpAnyJ_take (i := 1) (oi := { dst := some 29, op := .load _ (.tmp 28), type := _, pos := _, after := _, guard := _ }) (v := ?_) rfl (by kernel_rfl) (by kernel_rfl) (by kernel_rfl) (early_sat (by kernel_rfl)) (fun _ _ _ h => h) (Or.inl ⟨by rfl, ?_⟩) hS ?_
    rotate_left
    · intro wl hSw
      obtain ⟨s0, s1⟩ := hSw
      go_simp
      with_reducible rfl
    simp only [Act.put, List.setIfInBounds_toArray, List.set_cons_zero, List.set_cons_succ]
    refine wpAnyJ_take (i := 2) (oi := { dst := some 30, op := .move (.tmp 6), type := _, pos := _, after := _, guard := _ }) (v := ?_) rfl (by kernel_rfl) (by kernel_rfl) (by kernel_rfl) (early_sat (by kernel_rfl)) (fun _ _ _ h => h) (Or.inl ⟨by rfl, ?_⟩) hS ?_
    rotate_left
    · intro wl hSw
      obtain ⟨s0, s1⟩ := hSw
      go_simp
      with_reducible rfl
    simp only [Act.put, List.setIfInBounds_toArray, List.set_cons_zero, List.set_cons_succ]
    refine wpAnyJ_take (i := 4) (oi := { dst := some 32, op := .move (.tmp 1), type := _, pos := _, after := _, guard := _ }) (v := ?_) rfl (by kernel_rfl) (by kernel_rfl) (by kernel_rfl) (early_sat (by kernel_rfl)) (fun _ _ _ h => h) (Or.inl ⟨by rfl, ?_⟩) hS ?_
    rotate_left
    · intro wl hSw
      obtain ⟨s0, s1⟩ := hSw
      go_simp
      with_reducible rfl
    simp only [Act.put, List.setIfInBounds_toArray, List.set_cons_zero, List.set_cons_succ]
    refine wpAnyJ_take (i := 5) (oi := { dst := some 33, op := .move (.tmp 1), type := _, pos := _, after := _, guard := _ }) (v := ?_) rfl (by kernel_rfl) (by kernel_rfl) (by kernel_rfl) (early_sat (by kernel_rfl)) (fun _ _ _ h => h) (Or.inl ⟨by rfl, ?_⟩) hS ?_
    rotate_left
    · intro wl hSw
      obtain ⟨s0, s1⟩ := hSw
      go_simp
      with_reducible rfl
    simp only [Act.put, List.setIfInBounds_toArray, List.set_cons_zero, List.set_cons_succ]
    refine wpAnyJ_take (i := 6) (oi := { dst := some 34, op := .binOp _ _ (.tmp 33) _ _, type := _, pos := _, after := _, guard := _ }) (v := ?_) rfl (by kernel_rfl) (by kernel_rfl) (by kernel_rfl) (early_sat (by kernel_rfl)) (fun _ _ _ h => h) (Or.inl ⟨by rfl, ?_⟩) hS ?_
    rotate_left
    · intro wl hSw
      obtain ⟨s0, s1⟩ := hSw
      go_simp
      with_reducible rfl
    simp only [Act.put, List.setIfInBounds_toArray, List.set_cons_zero, List.set_cons_succ]
    refine wpAnyJ_twoF (i := 3) (j := 12) (o := { dst := some 31, op := _, type := _, pos := _, after := _, guard := _ }) (o' := { dst := some 8, op := _, type := _, pos := _, after := _, guard := _ }) (by kernel_rfl) rfl rfl (fun K hK => ?_) (fun K hK => ?_)
    · go_simp
      refine (clone2_any v0 _ (sgl ns) HU.out (by omega)).mono ?_
      rintro e5 v1 ⟨v5, rfl, ho, hb⟩
      obtain ⟨qa, qc, rfl⟩ := own_formK ho
      have HK := Lib.hid (HK.out.below hb (Nat.le_refl _)); have HB := Lib.hid (HB.out.trans (hb.mono (Nat.le_trans hDE HSv0.out)))
      have HO := Lib.hid ho
      have HOB := Lib.hid (show ∀ k, Value.ownBlock (.slice qa (sgl ns).length qc) = some k → E ≤ k from fun k e2 => Nat.le_trans HSv0.out (own_ge ho k e2))
      have HSv1 := Lib.hid (show E ≤ v1.heap.size from Nat.le_trans HSv0.out hb.size)
      have HO0 := HO
      have hS := (⟨HK.out.cell 0 _ rfl, HK.out.cell 1 _ rfl⟩ : v1.cell? ⟨D, 0, none⟩ = some (.int .i64 (N : Nat)) ∧ v1.cell? ⟨D, 1, none⟩ = some (.slice ad ns.length c))
      clear ho hb
      refine hK.out _ _ (fun _ => hS) ?_
      try simp only [Act.put, List.setIfInBounds_toArray, List.set_cons_zero, List.set_cons_succ]
      clear hK K
      refine wpAnyJ_twoF (i := 7) (j := 12) (o := { dst := some 35, op := _, type := _, pos := _, after := _, guard := _ }) (o' := { dst := some 8, op := _, type := _, pos := _, after := _, guard := _ }) (by kernel_rfl) rfl rfl (fun K hK => ?_) (fun K hK => ?_)
      · go_simp
        refine (delete2_any v1 _ (sgl ns) _ i HO.out hil (by omega)).mono ?_
        rintro e5 v2 ⟨v5, rfl, hs, hb, hgr⟩
        obtain ⟨ra, rc, rfl⟩ := hs.form
        have HK := Lib.hid (HK.out.grown hgr (fun e2 => by have := HOB.out D e2.symm; omega)); have HB := Lib.hid (HB.out.grown hgr (Nat.le_trans hDE HSv1.out) (fun k e2 => by have := HOB.out k e2; omega)); have HV2 := Lib.hid hs
        have HSv2 := Lib.hid (show E ≤ v2.heap.size from Nat.le_trans HSv1.out hgr.size)
        have hS := (⟨HK.out.cell 0 _ rfl, HK.out.cell 1 _ rfl⟩ : v2.cell? ⟨D, 0, none⟩ = some (.int .i64 (N : Nat)) ∧ v2.cell? ⟨D, 1, none⟩ = some (.slice ad ns.length c))
        clear hs hb hgr
        refine hK.out _ _ (fun _ => hS) ?_
        try simp only [Act.put, List.setIfInBounds_toArray, List.set_cons_zero, List.set_cons_succ]
        clear hK K
        refine wpAnyJ_twoF (i := 8) (j := 12) (o := { dst := some 36, op := _, type := _, pos := _, after := _, guard := _ }) (o' := { dst := some 8, op := _, type := _, pos := _, after := _, guard := _ }) (by kernel_rfl) rfl rfl (fun K hK => ?_) (fun K hK => ?_)
        · go_simp
          refine (Make_less v2 N _ _ HV2.out HN12.out.1 HN12.out.2 HL1.out HLE.out HL2.out).mono ?_
          rintro e5 v3 ⟨v5, rfl, um, rfl, hs, hb⟩
          obtain ⟨ma, mc, rfl⟩ := own_formK hs
          have HK := Lib.hid (HK.out.below hb (Nat.le_refl _)); have HB := Lib.hid (HB.out.trans (hb.mono (Nat.le_trans hDE HSv2.out)))
          have HM := Lib.hid (own_low hs HSv2.out)
          have HM0 := HM
          have HSv3 := Lib.hid (show E ≤ v3.heap.size from Nat.le_trans HSv2.out hb.size)
          have hS := (⟨HK.out.cell 0 _ rfl, HK.out.cell 1 _ rfl⟩ : v3.cell? ⟨D, 0, none⟩ = some (.int .i64 (N : Nat)) ∧ v3.cell? ⟨D, 1, none⟩ = some (.slice ad ns.length c))
          clear hs hb
          refine hK.out _ _ (fun _ => hS) ?_
          try simp only [Act.put, List.setIfInBounds_toArray, List.set_cons_zero, List.set_cons_succ]
          clear hK K
          refine wpAnyJ_take (i := 9) (oi := { dst := some 27, op := .move (.tmp 36), type := _, pos := _, after := _, guard := _ }) (v := ?_) rfl (by kernel_rfl) (by kernel_rfl) (by kernel_rfl) (early_sat (by kernel_rfl)) (fun _ _ _ h => h) (Or.inl ⟨by rfl, ?_⟩) hS ?_
          rotate_left
          · intro wl hSw
            obtain ⟨s0, s1⟩ := hSw
            go_simp
            with_reducible rfl
          simp only [Act.put, List.setIfInBounds_toArray, List.set_cons_zero, List.set_cons_succ]
          refine wpAnyJ_take (i := 10) (oi := { dst := some 37, op := .extract (.tmp 27) 0, type := _, pos := _, after := _, guard := _ }) (v := ?_) rfl (by kernel_rfl) (by kernel_rfl) (by kernel_rfl) (early_sat (by kernel_rfl)) (fun _ _ _ h => h) (Or.inl ⟨by rfl, ?_⟩) hS ?_
          rotate_left
          · intro wl hSw
            obtain ⟨s0, s1⟩ := hSw
            go_simp
            with_reducible rfl
          simp only [Act.put, List.setIfInBounds_toArray, List.set_cons_zero, List.set_cons_succ]
          refine wpAnyJ_take (i := 11) (oi := { dst := some 38, op := .extract (.tmp 27) 1, type := _, pos := _, after := _, guard := _ }) (v := ?_) rfl (by kernel_rfl) (by kernel_rfl) (by kernel_rfl) (early_sat (by kernel_rfl)) (fun _ _ _ h => h) (Or.inl ⟨by rfl, ?_⟩) hS ?_
          rotate_left
          · intro wl hSw
            obtain ⟨s0, s1⟩ := hSw
            go_simp
            with_reducible rfl
          simp only [Act.put, List.setIfInBounds_toArray, List.set_cons_zero, List.set_cons_succ]
          refine wpAnyJ_only (i := 12) (o := { dst := some 8, op := _, type := _, pos := _, after := _, guard := _ }) (by kernel_rfl) rfl (fun K hK => ?_)
          go_simp
          have hb := (Below.refl v3.heap.size v3).alloc (Nat.le_refl _) (.cells #[.int .i64 0, .slice none 0 0] 24)
          have HK := Lib.hid (HK.out.below hb (Nat.le_refl _)); have HB := Lib.hid (HB.out.trans (hb.mono (Nat.le_trans hDE HSv3.out))); have HM := Lib.hid (own_below HM.out hb (Nat.le_refl _))
          have HG := Lib.hid (Blk.new v3 [.int .i64 0, .slice none 0 0] 24); have HGL := Lib.hid (show D < v3.heap.size from Nat.lt_of_lt_of_le hDw HSv3.out)
          obtain ⟨g, hg⟩ : ∃ g, v3.heap.size = g := ⟨_, rfl⟩
          obtain ⟨v4, hv⟩ : ∃ x, v3.alloc (.cells #[.int .i64 0, .slice none 0 0] 24) = x := ⟨_, rfl⟩
          have HSv4 := Lib.hid (show E ≤ v4.heap.size from Nat.le_trans HSv3.out (by rw [← hv]; exact hb.size))
          have HNG := Lib.hid (show ∀ k, Value.ownBlock (.slice ma (canon N ((sgl ns).eraseIdx i)).length mc) = some k → k ≠ g from fun k e2 => by have := (HM0.out.lt k e2).2; omega)
          change Hid (Blk (v3.alloc (.cells #[.int .i64 0, .slice none 0 0] 24)) v3.heap.size [.int .i64 0, .slice none 0 0] 24) at HG
          rw [hv, hg] at HG
          rw [hg] at HGL ⊢
          rw [hv] at HK HB HM ⊢
          have hS := (⟨HK.out.cell 0 _ rfl, HK.out.cell 1 _ rfl⟩ : v4.cell? ⟨D, 0, none⟩ = some (.int .i64 (N : Nat)) ∧ v4.cell? ⟨D, 1, none⟩ = some (.slice ad ns.length c))
          clear hb hg hv
          refine hK.out _ _ (fun _ => hS) ?_
          try simp only [Act.put, List.setIfInBounds_toArray, List.set_cons_zero, List.set_cons_succ]
          clear hK K
          have m0 := HG.out.cell 0 _ rfl; have m1 := HG.out.cell 1 _ rfl; have f0 := HG.out.free 0; have f1 := HG.out.free 1; have hml := HG.out.lt
          have HK := Lib.hid (((HK.out.setCell (g' := g) (j := 0) (by have := HGL.out; omega) (.int .i64 (N : Nat))).setCell (g' := g) (j := 1) (by have := HGL.out; omega) (.slice ma (canon N ((sgl ns).eraseIdx i)).length mc)))
          have hS := (⟨HK.out.cell 0 _ rfl, HK.out.cell 1 _ rfl⟩ : ((v4.setCell ⟨g, 0, none⟩ (.int .i64 (N : Nat))).setCell ⟨g, 1, none⟩ (.slice ma (canon N ((sgl ns).eraseIdx i)).length mc)).cell? ⟨D, 0, none⟩ = some (.int .i64 (N : Nat)) ∧ ((v4.setCell ⟨g, 0, none⟩ (.int .i64 (N : Nat))).setCell ⟨g, 1, none⟩ (.slice ma (canon N ((sgl ns).eraseIdx i)).length mc)).cell? ⟨D, 1, none⟩ = some (.slice ad ns.length c))
          refine wpAnyJ_only (i := 13) (o := { dst := none, op := .store _ (.tmp 8) (.tmp 37), type := _, pos := _, after := _, guard := _ }) (by kernel_rfl) rfl (fun K hK => ?_)
          go_simp
          refine hK.out _ _ (fun _ => hS) ?_
          try simp only [Act.put, List.setIfInBounds_toArray, List.set_cons_zero, List.set_cons_succ]
          clear hK K
          refine wpAnyJ_take (i := 14) (oi := { dst := some 7, op := .assign (.tmp 38), type := _, pos := _, after := _, guard := _ }) (v := ?_) rfl (by kernel_rfl) (by kernel_rfl) (by kernel_rfl) (early_sat (by kernel_rfl)) (fun _ _ _ h => h) (Or.inl ⟨by rfl, ?_⟩) hS ?_
          rotate_left
          · intro wl hSw
            obtain ⟨s0, s1⟩ := hSw
            go_simp
            with_reducible rfl
          simp only [Act.put, List.setIfInBounds_toArray, List.set_cons_zero, List.set_cons_succ]
          refine wpAnyJ_done (by kernel_rfl) ?_ _
          clear m0 m1 f0 f1 hml hS
          go_wp2
          go_meet
          case rel => exact ⟨g, _, rfl, rfl, Lib.hid ((HG.out.set 0 (.int .i64 (N : Nat))).set 1 (.slice ma (canon N ((sgl ns).eraseIdx i)).length mc)), Lib.hid (SlK.ofOwns e3_len (own_apart (own_apart HM.out (fun e2 => HNG.out g e2 rfl)) (fun e2 => HNG.out g e2 rfl)) (List.length_map _).symm), HK, Lib.hid ((HB.out.setCell (p := ⟨g, 0, none⟩) (by have := HGL.out; simp only; omega) _).setCell (p := ⟨g, 1, none⟩) (by have := HGL.out; simp only; omega) _), HGL⟩
        · go_simp
          have hb := (Below.refl v2.heap.size v2).alloc (Nat.le_refl _) (.cells #[.int .i64 0, .slice none 0 0] 24)
          have HK := Lib.hid (HK.out.below hb (Nat.le_refl _)); have HB := Lib.hid (HB.out.trans (hb.mono (Nat.le_trans hDE HSv2.out))); have HV2 := Lib.hid (HV2.out.below hb (Nat.le_refl _))
          have HG := Lib.hid (Blk.new v2 [.int .i64 0, .slice none 0 0] 24); have HGL := Lib.hid (show D < v2.heap.size from Nat.lt_of_lt_of_le hDw HSv2.out)
          obtain ⟨g, hg⟩ : ∃ g, v2.heap.size = g := ⟨_, rfl⟩
          obtain ⟨v5, hv⟩ : ∃ x, v2.alloc (.cells #[.int .i64 0, .slice none 0 0] 24) = x := ⟨_, rfl⟩
          have HSv5 := Lib.hid (show E ≤ v5.heap.size from Nat.le_trans HSv2.out (by rw [← hv]; exact hb.size))
          change Hid (Blk (v2.alloc (.cells #[.int .i64 0, .slice none 0 0] 24)) v2.heap.size [.int .i64 0, .slice none 0 0] 24) at HG
          rw [hv, hg] at HG
          rw [hg] at HGL ⊢
          rw [hv] at HK HB HV2 ⊢
          have hS := (⟨HK.out.cell 0 _ rfl, HK.out.cell 1 _ rfl⟩ : v5.cell? ⟨D, 0, none⟩ = some (.int .i64 (N : Nat)) ∧ v5.cell? ⟨D, 1, none⟩ = some (.slice ad ns.length c))
          clear hb hg hv
          refine hK.out _ _ (fun _ => hS) ?_
          try simp only [Act.put, List.setIfInBounds_toArray, List.set_cons_zero, List.set_cons_succ]
          clear hK K
          refine wpAnyJ_only (i := 8) (o := { dst := some 36, op := _, type := _, pos := _, after := _, guard := _ }) (by kernel_rfl) rfl (fun K hK => ?_)
          go_simp
          have HGp := HG
          refine (Make_less v5 N _ _ HV2.out HN12.out.1 HN12.out.2 HL1.out HLE.out HL2.out).mono ?_
          rintro e5 v6 ⟨v5, rfl, um, rfl, hs, hb⟩
          obtain ⟨ma, mc, rfl⟩ := own_formK hs
          have HK := Lib.hid (HK.out.below hb (Nat.le_refl _)); have HB := Lib.hid (HB.out.trans (hb.mono (Nat.le_trans hDE HSv5.out))); have HG := Lib.hid (HG.out.below hb (Nat.le_refl _))
          have HM := Lib.hid (own_low hs HSv5.out)
          have HM0 := HM
          have HNG := Lib.hid (show ∀ k, Value.ownBlock (.slice ma (canon N ((sgl ns).eraseIdx i)).length mc) = some k → k ≠ g from fun k e2 => by have h1 := own_ge hs k e2; have h2 := (Array.getElem?_eq_some_iff.1 HGp.out).1; omega)
          have HSv6 := Lib.hid (show E ≤ v6.heap.size from Nat.le_trans HSv5.out hb.size)
          have hS := (⟨HK.out.cell 0 _ rfl, HK.out.cell 1 _ rfl⟩ : v6.cell? ⟨D, 0, none⟩ = some (.int .i64 (N : Nat)) ∧ v6.cell? ⟨D, 1, none⟩ = some (.slice ad ns.length c))
          clear hs hb
          refine hK.out _ _ (fun _ => hS) ?_
          try simp only [Act.put, List.setIfInBounds_toArray, List.set_cons_zero, List.set_cons_succ]
          clear hK K
          refine wpAnyJ_take (i := 9) (oi := { dst := some 27, op := .move (.tmp 36), type := _, pos := _, after := _, guard := _ }) (v := ?_) rfl (by kernel_rfl) (by kernel_rfl) (by kernel_rfl) (early_sat (by kernel_rfl)) (fun _ _ _ h => h) (Or.inl ⟨by rfl, ?_⟩) hS ?_
          rotate_left
          · intro wl hSw
            obtain ⟨s0, s1⟩ := hSw
            go_simp
            with_reducible rfl
          simp only [Act.put, List.setIfInBounds_toArray, List.set_cons_zero, List.set_cons_succ]
          refine wpAnyJ_take (i := 10) (oi := { dst := some 37, op := .extract (.tmp 27) 0, type := _, pos := _, after := _, guard := _ }) (v := ?_) rfl (by kernel_rfl) (by kernel_rfl) (by kernel_rfl) (early_sat (by kernel_rfl)) (fun _ _ _ h => h) (Or.inl ⟨by rfl, ?_⟩) hS ?_
          rotate_left
          · intro wl hSw
            obtain ⟨s0, s1⟩ := hSw
            go_simp
            with_reducible rfl
          simp only [Act.put, List.setIfInBounds_toArray, List.set_cons_zero, List.set_cons_succ]
          refine wpAnyJ_take (i := 11) (oi := { dst := some 38, op := .extract (.tmp 27) 1, type := _, pos := _, after := _, guard := _ }) (v := ?_) rfl (by kernel_rfl) (by kernel_rfl) (by kernel_rfl) (early_sat (by kernel_rfl)) (fun _ _ _ h => h) (Or.inl ⟨by rfl, ?_⟩) hS ?_
          rotate_left
          · intro wl hSw
            obtain ⟨s0, s1⟩ := hSw
            go_simp
            with_reducible rfl
          simp only [Act.put, List.setIfInBounds_toArray, List.set_cons_zero, List.set_cons_succ]
          have m0 := HG.out.cell 0 _ rfl; have m1 := HG.out.cell 1 _ rfl; have f0 := HG.out.free 0; have f1 := HG.out.free 1; have hml := HG.out.lt
          have HK := Lib.hid (((HK.out.setCell (g' := g) (j := 0) (by have := HGL.out; omega) (.int .i64 (N : Nat))).setCell (g' := g) (j := 1) (by have := HGL.out; omega) (.slice ma (canon N ((sgl ns).eraseIdx i)).length mc)))
          have hS := (⟨HK.out.cell 0 _ rfl, HK.out.cell 1 _ rfl⟩ : ((v6.setCell ⟨g, 0, none⟩ (.int .i64 (N : Nat))).setCell ⟨g, 1, none⟩ (.slice ma (canon N ((sgl ns).eraseIdx i)).length mc)).cell? ⟨D, 0, none⟩ = some (.int .i64 (N : Nat)) ∧ ((v6.setCell ⟨g, 0, none⟩ (.int .i64 (N : Nat))).setCell ⟨g, 1, none⟩ (.slice ma (canon N ((sgl ns).eraseIdx i)).length mc)).cell? ⟨D, 1, none⟩ = some (.slice ad ns.length c))
          refine wpAnyJ_only (i := 13) (o := { dst := none, op := .store _ (.tmp 8) (.tmp 37), type := _, pos := _, after := _, guard := _ }) (by kernel_rfl) rfl (fun K hK => ?_)
          go_simp
          refine hK.out _ _ (fun _ => hS) ?_
          try simp only [Act.put, List.setIfInBounds_toArray, List.set_cons_zero, List.set_cons_succ]
          clear hK K
          refine wpAnyJ_take (i := 14) (oi := { dst := some 7, op := .assign (.tmp 38), type := _, pos := _, after := _, guard := _ }) (v := ?_) rfl (by kernel_rfl) (by kernel_rfl) (by kernel_rfl) (early_sat (by kernel_rfl)) (fun _ _ _ h => h) (Or.inl ⟨by rfl, ?_⟩) hS ?_
          rotate_left
          · intro wl hSw
            obtain ⟨s0, s1⟩ := hSw
            go_simp
            with_reducible rfl
          simp only [Act.put, List.setIfInBounds_toArray, List.set_cons_zero, List.set_cons_succ]
          refine wpAnyJ_done (by kernel_rfl) ?_ _
          clear m0 m1 f0 f1 hml hS
          go_wp2
          go_meet
          case rel => exact ⟨g, _, rfl, rfl, Lib.hid ((HG.out.set 0 (.int .i64 (N : Nat))).set 1 (.slice ma (canon N ((sgl ns).eraseIdx i)).length mc)), Lib.hid (SlK.ofOwns e3_len (own_apart (own_apart HM.out (fun e2 => HNG.out g e2 rfl)) (fun e2 => HNG.out g e2 rfl)) (List.length_map _).symm), HK, Lib.hid ((HB.out.setCell (p := ⟨g, 0, none⟩) (by have := HGL.out; simp only; omega) _).setCell (p := ⟨g, 1, none⟩) (by have := HGL.out; simp only; omega) _), HGL⟩
      · go_simp
        have hb := (Below.refl v1.heap.size v1).alloc (Nat.le_refl _) (.cells #[.int .i64 0, .slice none 0 0] 24)
        have HK := Lib.hid (HK.out.below hb (Nat.le_refl _)); have HB := Lib.hid (HB.out.trans (hb.mono (Nat.le_trans hDE HSv1.out))); have HO := Lib.hid (own_below HO.out hb (Nat.le_refl _))
        have HG := Lib.hid (Blk.new v1 [.int .i64 0, .slice none 0 0] 24); have HGL := Lib.hid (show D < v1.heap.size from Nat.lt_of_lt_of_le hDw HSv1.out)
        obtain ⟨g, hg⟩ : ∃ g, v1.heap.size = g := ⟨_, rfl⟩
        obtain ⟨v7, hv⟩ : ∃ x, v1.alloc (.cells #[.int .i64 0, .slice none 0 0] 24) = x := ⟨_, rfl⟩
        have HSv7 := Lib.hid (show E ≤ v7.heap.size from Nat.le_trans HSv1.out (by rw [← hv]; exact hb.size))
        have HNE := Lib.hid (show ∀ k, Value.ownBlock (.slice qa (sgl ns).length qc) = some k → k ≠ g from fun k e2 => by have := (HO0.out.lt k e2).2; omega)
        change Hid (Blk (v1.alloc (.cells #[.int .i64 0, .slice none 0 0] 24)) v1.heap.size [.int .i64 0, .slice none 0 0] 24) at HG
        rw [hv, hg] at HG
        rw [hg] at HGL ⊢
        rw [hv] at HK HB HO ⊢
        have hS := (⟨HK.out.cell 0 _ rfl, HK.out.cell 1 _ rfl⟩ : v7.cell? ⟨D, 0, none⟩ = some (.int .i64 (N : Nat)) ∧ v7.cell? ⟨D, 1, none⟩ = some (.slice ad ns.length c))
        clear hb hg hv
        refine hK.out _ _ (fun _ => hS) ?_
        try simp only [Act.put, List.setIfInBounds_toArray, List.set_cons_zero, List.set_cons_succ]
        clear hK K
        refine wpAnyJ_only (i := 7) (o := { dst := some 35, op := _, type := _, pos := _, after := _, guard := _ }) (by kernel_rfl) rfl (fun K hK => ?_)
        go_simp
        refine (delete2_any v7 _ (sgl ns) _ i HO.out hil (by omega)).mono ?_
        rintro e5 v8 ⟨v5, rfl, hs, hb, hgr⟩
        obtain ⟨ra, rc, rfl⟩ := hs.form
        have HK := Lib.hid (HK.out.grown hgr (fun e2 => by have := HOB.out D e2.symm; omega)); have HB := Lib.hid (HB.out.grown hgr (Nat.le_trans hDE HSv7.out) (fun k e2 => by have := HOB.out k e2; omega)); have HV2 := Lib.hid hs
        have HG := Lib.hid (HG.out.grown hgr (fun e2 => HNE.out g e2.symm rfl))
        have HSv8 := Lib.hid (show E ≤ v8.heap.size from Nat.le_trans HSv7.out hgr.size)
        have hS := (⟨HK.out.cell 0 _ rfl, HK.out.cell 1 _ rfl⟩ : v8.cell? ⟨D, 0, none⟩ = some (.int .i64 (N : Nat)) ∧ v8.cell? ⟨D, 1, none⟩ = some (.slice ad ns.length c))
        clear hs hb hgr
        refine hK.out _ _ (fun _ => hS) ?_
        try simp only [Act.put, List.setIfInBounds_toArray, List.set_cons_zero, List.set_cons_succ]
        clear hK K
        refine wpAnyJ_only (i := 8) (o := { dst := some 36, op := _, type := _, pos := _, after := _, guard := _ }) (by kernel_rfl) rfl (fun K hK => ?_)
        go_simp
        have HGp := HG
        refine (Make_less v8 N _ _ HV2.out HN12.out.1 HN12.out.2 HL1.out HLE.out HL2.out).mono ?_
        rintro e5 v9 ⟨v5, rfl, um, rfl, hs, hb⟩
        obtain ⟨ma, mc, rfl⟩ := own_formK hs
        have HK := Lib.hid (HK.out.below hb (Nat.le_refl _)); have HB := Lib.hid (HB.out.trans (hb.mono (Nat.le_trans hDE HSv8.out))); have HG := Lib.hid (HG.out.below hb (Nat.le_refl _))
        have HM := Lib.hid (own_low hs HSv8.out)
        have HM0 := HM
        have HNG := Lib.hid (show ∀ k, Value.ownBlock (.slice ma (canon N ((sgl ns).eraseIdx i)).length mc) = some k → k ≠ g from fun k e2 => by have h1 := own_ge hs k e2; have h2 := (Array.getElem?_eq_some_iff.1 HGp.out).1; omega)
        have HSv9 := Lib.hid (show E ≤ v9.heap.size from Nat.le_trans HSv8.out hb.size)
        have hS := (⟨HK.out.cell 0 _ rfl, HK.out.cell 1 _ rfl⟩ : v9.cell? ⟨D, 0, none⟩ = some (.int .i64 (N : Nat)) ∧ v9.cell? ⟨D, 1, none⟩ = some (.slice ad ns.length c))
        clear hs hb
        refine hK.out _ _ (fun _ => hS) ?_
        try simp only [Act.put, List.setIfInBounds_toArray, List.set_cons_zero, List.set_cons_succ]
        clear hK K
        refine wpAnyJ_take (i := 9) (oi := { dst := some 27, op := .move (.tmp 36), type := _, pos := _, after := _, guard := _ }) (v := ?_) rfl (by kernel_rfl) (by kernel_rfl) (by kernel_rfl) (early_sat (by kernel_rfl)) (fun _ _ _ h => h) (Or.inl ⟨by rfl, ?_⟩) hS ?_
        rotate_left
        · intro wl hSw
          obtain ⟨s0, s1⟩ := hSw
          go_simp
          with_reducible rfl
        simp only [Act.put, List.setIfInBounds_toArray, List.set_cons_zero, List.set_cons_succ]
        refine wpAnyJ_take (i := 10) (oi := { dst := some 37, op := .extract (.tmp 27) 0, type := _, pos := _, after := _, guard := _ }) (v := ?_) rfl (by kernel_rfl) (by kernel_rfl) (by kernel_rfl) (early_sat (by kernel_rfl)) (fun _ _ _ h => h) (Or.inl ⟨by rfl, ?_⟩) hS ?_
        rotate_left
        · intro wl hSw
          obtain ⟨s0, s1⟩ := hSw
          go_simp
          with_reducible rfl
        simp only [Act.put, List.setIfInBounds_toArray, List.set_cons_zero, List.set_cons_succ]
        refine wpAnyJ_take (i := 11) (oi := { dst := some 38, op := .extract (.tmp 27) 1, type := _, pos := _, after := _, guard := _ }) (v := ?_) rfl (by kernel_rfl) (by kernel_rfl) (by kernel_rfl) (early_sat (by kernel_rfl)) (fun _ _ _ h => h) (Or.inl ⟨by rfl, ?_⟩) hS ?_
        rotate_left
        · intro wl hSw
          obtain ⟨s0, s1⟩ := hSw
          go_simp
          with_reducible rfl
        simp only [Act.put, List.setIfInBounds_toArray, List.set_cons_zero, List.set_cons_succ]
        have m0 := HG.out.cell 0 _ rfl; have m1 := HG.out.cell 1 _ rfl; have f0 := HG.out.free 0; have f1 := HG.out.free 1; have hml := HG.out.lt
        have HK := Lib.hid (((HK.out.setCell (g' := g) (j := 0) (by have := HGL.out; omega) (.int .i64 (N : Nat))).setCell (g' := g) (j := 1) (by have := HGL.out; omega) (.slice ma (canon N ((sgl ns).eraseIdx i)).length mc)))
        have hS := (⟨HK.out.cell 0 _ rfl, HK.out.cell 1 _ rfl⟩ : ((v9.setCell ⟨g, 0, none⟩ (.int .i64 (N : Nat))).setCell ⟨g, 1, none⟩ (.slice ma (canon N ((sgl ns).eraseIdx i)).length mc)).cell? ⟨D, 0, none⟩ = some (.int .i64 (N : Nat)) ∧ ((v9.setCell ⟨g, 0, none⟩ (.int .i64 (N : Nat))).setCell ⟨g, 1, none⟩ (.slice ma (canon N ((sgl ns).eraseIdx i)).length mc)).cell? ⟨D, 1, none⟩ = some (.slice ad ns.length c))
        refine wpAnyJ_only (i := 13) (o := { dst := none, op := .store _ (.tmp 8) (.tmp 37), type := _, pos := _, after := _, guard := _ }) (by kernel_rfl) rfl (fun K hK => ?_)
        go_simp
        refine hK.out _ _ (fun _ => hS) ?_
        try simp only [Act.put, List.setIfInBounds_toArray, List.set_cons_zero, List.set_cons_succ]
        clear hK K
        refine wpAnyJ_take (i := 14) (oi := { dst := some 7, op := .assign (.tmp 38), type := _, pos := _, after := _, guard := _ }) (v := ?_) rfl (by kernel_rfl) (by kernel_rfl) (by kernel_rfl) (early_sat (by kernel_rfl)) (fun _ _ _ h => h) (Or.inl ⟨by rfl, ?_⟩) hS ?_
        rotate_left
        · intro wl hSw
          obtain ⟨s0, s1⟩ := hSw
          go_simp
          with_reducible rfl
        simp only [Act.put, List.setIfInBounds_toArray, List.set_cons_zero, List.set_cons_succ]
        refine wpAnyJ_done (by kernel_rfl) ?_ _
        clear m0 m1 f0 f1 hml hS
        go_wp2
        go_meet
        case rel => exact ⟨g, _, rfl, rfl, Lib.hid ((HG.out.set 0 (.int .i64 (N : Nat))).set 1 (.slice ma (canon N ((sgl ns).eraseIdx i)).length mc)), Lib.hid (SlK.ofOwns e3_len (own_apart (own_apart HM.out (fun e2 => HNG.out g e2 rfl)) (fun e2 => HNG.out g e2 rfl)) (List.length_map _).symm), HK, Lib.hid ((HB.out.setCell (p := ⟨g, 0, none⟩) (by have := HGL.out; simp only; omega) _).setCell (p := ⟨g, 1, none⟩) (by have := HGL.out; simp only; omega) _), HGL⟩
    · go_simp
      have hb := (Below.refl v0.heap.size v0).alloc (Nat.le_refl _) (.cells #[.int .i64 0, .slice none 0 0] 24)
      have HK := Lib.hid (HK.out.below hb (Nat.le_refl _)); have HB := Lib.hid (HB.out.trans (hb.mono (Nat.le_trans hDE HSv0.out))); have HU := Lib.hid (HU.out.below hb (Nat.le_refl _))
      have HG := Lib.hid (Blk.new v0 [.int .i64 0, .slice none 0 0] 24); have HGL := Lib.hid (show D < v0.heap.size from Nat.lt_of_lt_of_le hDw HSv0.out)
      obtain ⟨g, hg⟩ : ∃ g, v0.heap.size = g := ⟨_, rfl⟩
      obtain ⟨v10, hv⟩ : ∃ x, v0.alloc (.cells #[.int .i64 0, .slice none 0 0] 24) = x := ⟨_, rfl⟩
      have HSv10 := Lib.hid (show E ≤ v10.heap.size from Nat.le_trans HSv0.out (by rw [← hv]; exact hb.size))
      change Hid (Blk (v0.alloc (.cells #[.int .i64 0, .slice none 0 0] 24)) v0.heap.size [.int .i64 0, .slice none 0 0] 24) at HG
      rw [hv, hg] at HG
      rw [hg] at HGL ⊢
      rw [hv] at HK HB HU ⊢
      have hS := (⟨HK.out.cell 0 _ rfl, HK.out.cell 1 _ rfl⟩ : v10.cell? ⟨D, 0, none⟩ = some (.int .i64 (N : Nat)) ∧ v10.cell? ⟨D, 1, none⟩ = some (.slice ad ns.length c))
      clear hb hg hv
      refine hK.out _ _ (fun _ => hS) ?_
      try simp only [Act.put, List.setIfInBounds_toArray, List.set_cons_zero, List.set_cons_succ]
      clear hK K
      refine wpAnyJ_only (i := 3) (o := { dst := some 31, op := _, type := _, pos := _, after := _, guard := _ }) (by kernel_rfl) rfl (fun K hK => ?_)
      go_simp
      have HGp := HG
      refine (clone2_any v10 _ (sgl ns) HU.out (by omega)).mono ?_
      rintro e5 v11 ⟨v5, rfl, ho, hb⟩
      obtain ⟨qa, qc, rfl⟩ := own_formK ho
      have HK := Lib.hid (HK.out.below hb (Nat.le_refl _)); have HB := Lib.hid (HB.out.trans (hb.mono (Nat.le_trans hDE HSv10.out))); have HG := Lib.hid (HG.out.below hb (Nat.le_refl _))
      have HO := Lib.hid ho
      have HOB := Lib.hid (show ∀ k, Value.ownBlock (.slice qa (sgl ns).length qc) = some k → E ≤ k from fun k e2 => Nat.le_trans HSv10.out (own_ge ho k e2))
      have HSv11 := Lib.hid (show E ≤ v11.heap.size from Nat.le_trans HSv10.out hb.size)
      have HNE := Lib.hid (show ∀ k, Value.ownBlock (.slice qa (sgl ns).length qc) = some k → k ≠ g from fun k e2 => by have h1 := own_ge ho k e2; have h2 := (Array.getElem?_eq_some_iff.1 HGp.out).1; omega)
      have HO0 := HO
      have hS := (⟨HK.out.cell 0 _ rfl, HK.out.cell 1 _ rfl⟩ : v11.cell? ⟨D, 0, none⟩ = some (.int .i64 (N : Nat)) ∧ v11.cell? ⟨D, 1, none⟩ = some (.slice ad ns.length c))
      clear ho hb
      refine hK.out _ _ (fun _ => hS) ?_
      try simp only [Act.put, List.setIfInBounds_toArray, List.set_cons_zero, List.set_cons_succ]
      clear hK K
      refine wpAnyJ_only (i := 7) (o := { dst := some 35, op := _, type := _, pos := _, after := _, guard := _ }) (by kernel_rfl) rfl (fun K hK => ?_)
      go_simp
      refine (delete2_any v11 _ (sgl ns) _ i HO.out hil (by omega)).mono ?_
      rintro e5 v12 ⟨v5, rfl, hs, hb, hgr⟩
      obtain ⟨ra, rc, rfl⟩ := hs.form
      have HK := Lib.hid (HK.out.grown hgr (fun e2 => by have := HOB.out D e2.symm; omega)); have HB := Lib.hid (HB.out.grown hgr (Nat.le_trans hDE HSv11.out) (fun k e2 => by have := HOB.out k e2; omega)); have HV2 := Lib.hid hs
      have HG := Lib.hid (HG.out.grown hgr (fun e2 => HNE.out g e2.symm rfl))
      have HSv12 := Lib.hid (show E ≤ v12.heap.size from Nat.le_trans HSv11.out hgr.size)
      have hS := (⟨HK.out.cell 0 _ rfl, HK.out.cell 1 _ rfl⟩ : v12.cell? ⟨D, 0, none⟩ = some (.int .i64 (N : Nat)) ∧ v12.cell? ⟨D, 1, none⟩ = some (.slice ad ns.length c))
      clear hs hb hgr
      refine hK.out _ _ (fun _ => hS) ?_
      try simp only [Act.put, List.setIfInBounds_toArray, List.set_cons_zero, List.set_cons_succ]
      clear hK K
      refine wpAnyJ_only (i := 8) (o := { dst := some 36, op := _, type := _, pos := _, after := _, guard := _ }) (by kernel_rfl) rfl (fun K hK => ?_)
      go_simp
      have HGp := HG
      refine (Make_less v12 N _ _ HV2.out HN12.out.1 HN12.out.2 HL1.out HLE.out HL2.out).mono ?_
      rintro e5 v13 ⟨v5, rfl, um, rfl, hs, hb⟩
      obtain ⟨ma, mc, rfl⟩ := own_formK hs
      have HK := Lib.hid (HK.out.below hb (Nat.le_refl _)); have HB := Lib.hid (HB.out.trans (hb.mono (Nat.le_trans hDE HSv12.out))); have HG := Lib.hid (HG.out.below hb (Nat.le_refl _))
      have HM := Lib.hid (own_low hs HSv12.out)
      have HM0 := HM
      have HNG := Lib.hid (show ∀ k, Value.ownBlock (.slice ma (canon N ((sgl ns).eraseIdx i)).length mc) = some k → k ≠ g from fun k e2 => by have h1 := own_ge hs k e2; have h2 := (Array.getElem?_eq_some_iff.1 HGp.out).1; omega)
      have HSv13 := Lib.hid (show E ≤ v13.heap.size from Nat.le_trans HSv12.out hb.size)
      have hS := (⟨HK.out.cell 0 _ rfl, HK.out.cell 1 _ rfl⟩ : v13.cell? ⟨D, 0, none⟩ = some (.int .i64 (N : Nat)) ∧ v13.cell? ⟨D, 1, none⟩ = some (.slice ad ns.length c))
      clear hs hb
      refine hK.out _ _ (fun _ => hS) ?_
      try simp only [Act.put, List.setIfInBounds_toArray, List.set_cons_zero, List.set_cons_succ]
      clear hK K
      refine wpAnyJ_take (i := 9) (oi := { dst := some 27, op := .move (.tmp 36), type := _, pos := _, after := _, guard := _ }) (v := ?_) rfl (by kernel_rfl) (by kernel_rfl) (by kernel_rfl) (early_sat (by kernel_rfl)) (fun _ _ _ h => h) (Or.inl ⟨by rfl, ?_⟩) hS ?_
      rotate_left
      · intro wl hSw
        obtain ⟨s0, s1⟩ := hSw
        go_simp
        with_reducible rfl
      simp only [Act.put, List.setIfInBounds_toArray, List.set_cons_zero, List.set_cons_succ]
      refine wpAnyJ_take (i := 10) (oi := { dst := some 37, op := .extract (.tmp 27) 0, type := _, pos := _, after := _, guard := _ }) (v := ?_) rfl (by kernel_rfl) (by kernel_rfl) (by kernel_rfl) (early_sat (by kernel_rfl)) (fun _ _ _ h => h) (Or.inl ⟨by rfl, ?_⟩) hS ?_
      rotate_left
      · intro wl hSw
        obtain ⟨s0, s1⟩ := hSw
        go_simp
        with_reducible rfl
      simp only [Act.put, List.setIfInBounds_toArray, List.set_cons_zero, List.set_cons_succ]
      refine wpAnyJ_take (i := 11) (oi := { dst := some 38, op := .extract (.tmp 27) 1, type := _, pos := _, after := _, guard := _ }) (v := ?_) rfl (by kernel_rfl) (by kernel_rfl) (by kernel_rfl) (early_sat (by kernel_rfl)) (fun _ _ _ h => h) (Or.inl ⟨by rfl, ?_⟩) hS ?_
      rotate_left
      · intro wl hSw
        obtain ⟨s0, s1⟩ := hSw
        go_simp
        with_reducible rfl
      simp only [Act.put, List.setIfInBounds_toArray, List.set_cons_zero, List.set_cons_succ]
      have m0 := HG.out.cell 0 _ rfl; have m1 := HG.out.cell 1 _ rfl; have f0 := HG.out.free 0; have f1 := HG.out.free 1; have hml := HG.out.lt
      have HK := Lib.hid (((HK.out.setCell (g' := g) (j := 0) (by have := HGL.out; omega) (.int .i64 (N : Nat))).setCell (g' := g) (j := 1) (by have := HGL.out; omega) (.slice ma (canon N ((sgl ns).eraseIdx i)).length mc)))
      have hS := (⟨HK.out.cell 0 _ rfl, HK.out.cell 1 _ rfl⟩ : ((v13.setCell ⟨g, 0, none⟩ (.int .i64 (N : Nat))).setCell ⟨g, 1, none⟩ (.slice ma (canon N ((sgl ns).eraseIdx i)).length mc)).cell? ⟨D, 0, none⟩ = some (.int .i64 (N : Nat)) ∧ ((v13.setCell ⟨g, 0, none⟩ (.int .i64 (N : Nat))).setCell ⟨g, 1, none⟩ (.slice ma (canon N ((sgl ns).eraseIdx i)).length mc)).cell? ⟨D, 1, none⟩ = some (.slice ad ns.length c))
      refine wpAnyJ_only (i := 13) (o := { dst := none, op := .store _ (.tmp 8) (.tmp 37), type := _, pos := _, after := _, guard := _ }) (by kernel_rfl) rfl (fun K hK => ?_)
      go_simp
      refine hK.out _ _ (fun _ => hS) ?_
      try simp only [Act.put, List.setIfInBounds_toArray, List.set_cons_zero, List.set_cons_succ]
      clear hK K
      refine wpAnyJ_take (i := 14) (oi := { dst := some 7, op := .assign (.tmp 38), type := _, pos := _, after := _, guard := _ }) (v := ?_) rfl (by kernel_rfl) (by kernel_rfl) (by kernel_rfl) (early_sat (by kernel_rfl)) (fun _ _ _ h => h) (Or.inl ⟨by rfl, ?_⟩) hS ?_
      rotate_left
      · intro wl hSw
        obtain ⟨s0, s1⟩ := hSw
        go_simp
        with_reducible rfl
      simp only [Act.put, List.setIfInBounds_toArray, List.set_cons_zero, List.set_cons_succ]
      refine wpAnyJ_done (by kernel_rfl) ?_ _
      clear m0 m1 f0 f1 hml hS
      go_wp2
      go_meet
      case rel => exact ⟨g, _, rfl, rfl, Lib.hid ((HG.out.set 0 (.int .i64 (N : Nat))).set 1 (.slice ma (canon N ((sgl ns).eraseIdx i)).length mc)), Lib.hid (SlK.ofOwns e3_len (own_apart (own_apart HM.out (fun e2 => HNG.out g e2 rfl)) (fun e2 => HNG.out g e2 rfl)) (List.length_map _).symm), HK, Lib.hid ((HB.out.setCell (p := ⟨g, 0, none⟩) (by have := HGL.out; simp only; omega) _).setCell (p := ⟨g, 1, none⟩) (by have := HGL.out; simp only; omega) _), HGL⟩
    -- BEHIND REGION 6
  case rest =>
    obtain ⟨g, u, rfl, rfl, hG, hS, hK, hB, hgD⟩ := hcut
    have hSW : SlK e3 3 wc (.slice ad ns.length c) (ns.map n3) := HV.out.below hB.out (Nat.le_of_eq hD)
    have hEW : Env wc := HE.out.below hB.out (Nat.le_of_eq hD)
    have hz1 := HZ1.out; have hz2 := HZ2.out
    have hd1 : dn z1 ≤ 1000 := by rw [← hz1]; exact dn_cof hm hl (by omega)
    obtain ⟨ms, hms⟩ := rg_of HL3.out
    have hmm : ms = lessG N ns i := by have := hms.nsOf; rw [nsOf_n3] at this; exact this.symm
    have hm2 : ∀ x ∈ lessG N ns i, x.2.2 ≤ 50 := fun x hx => (hms.rng x (by rw [hmm]; exact hx)).2.2.2.1
    have hl4 := HL4.out
    have hd2 : dn z2 ≤ 1000 := by rw [← hz2]; exact dn_cof hm2 (by omega) (by omega)
    have HG1 := Lib.hid (Good.of (bigD (z := z1) (by omega))); have HG2 := Lib.hid (Good.of (bigD (z := z2) (by omega)))
    have HRV := Lib.hid (show resV (z1 - z2) = .tuple #[.string (txt (z1 - z2)), .int .i64 0] from resV_good (bigD (by have := dn_sub z1 z2; omega)))
    have HT1 := Lib.hid (fun (W : World) (h1 : SlK e3 3 W (.slice ad ns.length c) (ns.map n3)) (h2 : Env W) => show Calls Tryz.prog 24 #[.agg #[.int .i64 (N : Nat), .slice ad ns.length c]] W (Rets fun r w' => r = .tuple #[.string (txt z1), .int .i64 0] ∧ Below W.heap.size W w') from by
      have := Trees_any W N _ _ h1 (by rw [List.length_map]; omega) (fun _ => h7) h2
      rw [cofS_ok HC.out hN1, nsOf_n3] at this
      rw [← hz1]; exact this)
    have HT2 := Lib.hid (fun (W : World) (h1 : SlK e3 3 W u ((lessG N ns i).map n3)) (h2 : Env W) => show Calls Tryz.prog 24 #[.agg #[.int .i64 (N : Nat), u]] W (Rets fun r w' => r = .tuple #[.string (txt z2), .int .i64 0] ∧ Below W.heap.size W w') from by
      have := Trees_any W N _ _ h1 (by rw [List.length_map]; omega) (fun _ => h7) h2
      rw [cofS_ok HL3.out hN1, nsOf_n3] at this
      rw [← hz2]; exact this)
    have HSW := Lib.hid hSW; have HEW := Lib.hid hEW
    obtain ⟨ua2, uc2, rfl⟩ := hS.out.form
    simp only [List.length_map] at hS hG HT2
    have g0 := hG.out.cell 0 _ rfl; have g1 := hG.out.cell 1 _ rfl; have gl := hG.out.lt
    have k0 := hK.out.cell 0 _ rfl; have k1 := hK.out.cell 1 _ rfl; have kl := hK.out.lt; have kl0 := hK.out.lt
    clear hz1 hz2 hd1 hd2 hmm hms hm2 hl4 hm HL3 hSW hEW
    go_wp2_with (first
      | (go_at_call 85; (with_reducible refine (Sub_ok _ _ _ z1 z2 HG1.out HG2.out HE3.out).mono ?_); rintro e4 w4 ⟨v4, rfl, rfl, hb4⟩; have B4 := Lib.hid (B3.out.trans (hb4.mono (Nat.le_trans (Nat.le_of_eq hD.symm) B3.out.size))); rw [HRV.out]; clear hb4)
      | (go_at_call 24; (with_reducible refine (HT1.out _ HSW.out HEW.out).mono ?_); rintro e2 w2 ⟨v2, rfl, rfl, hb2⟩; have B2 := Lib.hid (hB.out.trans (hb2.mono (Nat.le_of_lt kl0))); have HG2W := Lib.hid (hG.out.below hb2 (Nat.le_refl _)); have HS2W := Lib.hid (hS.out.below hb2 (Nat.le_refl _)); have HE2 := Lib.hid (HEW.out.below hb2 (Nat.le_refl _)); have q0 := HG2W.out.cell 0 _ rfl; have q1 := HG2W.out.cell 1 _ rfl; have ql := HG2W.out.lt; clear hb2)
      | (go_at_call 24; (with_reducible refine (HT2.out _ HS2W.out HE2.out).mono ?_); rintro e3 w3 ⟨v3, rfl, rfl, hb3⟩; have B3 := Lib.hid (B2.out.trans (hb3.mono (Nat.le_trans (Nat.le_of_eq hD.symm) B2.out.size))); have HE3 := Lib.hid (HE2.out.below hb3 (Nat.le_refl _)); clear hb3))
    go_ret2
    exact ⟨_, rfl, rfl, by rw [hD]; exact B4.out⟩
end Go.Proofs.YtkkklfikdoibcaaGreatDoor

namespace Go.Proofs.YtkkklfikdoibcaaGreatDoor
open Go.RowKit
set_option maxRecDepth 100000

set_option maxHeartbeats 4000000 in
theorem rMOf_any (w : World) (R C : Int) (v : Value) (ls : List Int) (hv : Sl eZ w v ls) (hl : ls.length ≤ 256) (hz : ∀ z ∈ ls, -9223372036854775808 ≤ z ∧ z ≤ 9223372036854775807) :
    Calls Tryz.prog 87 #[.int .i64 R, .int .i64 C, v] w (Rets fun v' w' => ∃ u, v' = .agg #[.int .i64 R, .int .i64 C, u] ∧ Sl eS w' u (ls.map txt) ∧ Below w.heap.size w w') := by
  have HZ := Lib.hid hz
  obtain ⟨ad, b, o, cap, rfl, hx, hp, hcc, hm⟩ := hv.open elemInt
  have HP := Lib.hid hp
  unfold maxLen at hm
  clear hv hz hp
  go_enter Tryz.func87, Tryz.ntmps87
  go_wp2
  have hF0 := FB.start w R C
  have HF0 := Lib.hid hF0
  clear hF0
  go_loopw [8] (fun i wr => ∃ k : Nat, k ≤ ls.length ∧ i = .int .i64 k ∧ ∃ v, Hid (FB w w.heap.size wr R C v ((ls.take k).map txt))) (fun i _ => ls.length - (intOf i).toNat)
  case atStart => exact ⟨0, Nat.zero_le _, rfl, _, Lib.hid HF0.out⟩
  case round =>
    clear HF0
    obtain ⟨k, hk, rfl, v, hB⟩ := hrel
    by_cases hkl : k < ls.length
    · have hU : Up w.heap.size w wr := ⟨Nat.le_refl _, hB.out.bel⟩
      have h1 : wr.cell? ⟨b, o + k, none⟩ = some (.int .i64 ls[k]) := HP.out.at hB.out.bel (Nat.le_refl _) k hkl
      have hzz := HZ.out _ (List.getElem_mem hkl)
      have hNX : (ls.take (k + 1)).map txt = (ls.take k).map txt ++ [txt ls[k]] := by rw [List.take_succ_eq_append_getElem hkl, List.map_append]; rfl
      have HHx := Lib.hid (fun w' (H : Up w.heap.size w w') => show w'.cell? ⟨b, o + k, none⟩ = some (.int .i64 ls[k]) from HP.out.at H.2 (Nat.le_refl _) k hkl)
      obtain ⟨z, hz⟩ : ∃ z, ls[k] = z := ⟨_, rfl⟩
      rw [hz] at h1 hzz hNX HHx
      have HH := Lib.hid (fun w' (H : Up w.heap.size w w') => And.intro H (HHx.out w' H))
      have HZ0 := Lib.hid hzz.1; have HZ1 := Lib.hid hzz.2
      obtain ⟨T, hTT⟩ : ∃ T, (ls.take k).map txt = T := ⟨_, rfl⟩
      rw [hTT] at hB hNX
      have HNX := Lib.hid hNX
      have HTL := Lib.hid (show T.length ≤ 1000000 by rw [← hTT, List.length_map, List.length_take]; omega)
      have HU := Lib.hid hU
      have k2 := hB.out.box.cell 2 _ rfl
      have hlt := hB.out.lt
      have y0 : (0 : Int) ≤ (k : Int) := by omega
      have y1 : (k : Int) < (ls.length : Int) := by omega
      clear hU hNX hTT hzz hz
      go_wp2_with fail
      have hSd : wr.drew.cell? ⟨w.heap.size + 1, 2, none⟩ = some (v) ∧ wr.drew.cell? ⟨b, o + k, none⟩ = some (.int .i64 z) := ⟨k2, h1⟩
      refine wp_regionJ (S := fun w' => w'.cell? ⟨w.heap.size + 1, 2, none⟩ = some (v) ∧ w'.cell? ⟨b, o + k, none⟩ = some (.int .i64 z)) (A := fun i => decide (i < 10)) (by kernel_rfl) ?_
      refine wpAnyJ_take (i := 0) (oi := { dst := some 18, op := .fieldAddr _ (.tmp 7) 2, type := _, pos := _, after := _, guard := _ }) (v := ?_) rfl (by kernel_rfl) (by kernel_rfl) (by kernel_rfl) (by kernel_rfl) (fun _ _ _ h => h) (Or.inl ⟨by rfl, ?_⟩) hSd ?_
      rotate_left
      · intro wl hSw
        obtain ⟨s0, s1⟩ := hSw
        go_simp
        with_reducible rfl
      simp only [Act.put, List.setIfInBounds_toArray, List.set_cons_zero, List.set_cons_succ]
      refine wpAnyJ_take (i := 1) (oi := { dst := some 19, op := .load _ (.tmp 18), type := _, pos := _, after := _, guard := _ }) (v := ?_) rfl (by kernel_rfl) (by kernel_rfl) (by kernel_rfl) (by kernel_rfl) (fun _ _ _ h => h) (Or.inl ⟨by rfl, ?_⟩) hSd ?_
      rotate_left
      · intro wl hSw
        obtain ⟨s0, s1⟩ := hSw
        go_simp
        with_reducible rfl
      simp only [Act.put, List.setIfInBounds_toArray, List.set_cons_zero, List.set_cons_succ]
      refine wpAnyJ_take (i := 2) (oi := { dst := some 20, op := .move (.tmp 2), type := _, pos := _, after := _, guard := _ }) (v := ?_) rfl (by kernel_rfl) (by kernel_rfl) (by kernel_rfl) (by kernel_rfl) (fun _ _ _ h => h) (Or.inl ⟨by rfl, ?_⟩) hSd ?_
      rotate_left
      · intro wl hSw
        obtain ⟨s0, s1⟩ := hSw
        go_simp
        with_reducible rfl
      simp only [Act.put, List.setIfInBounds_toArray, List.set_cons_zero, List.set_cons_succ]
      refine wpAnyJ_take (i := 3) (oi := { dst := some 21, op := .move (.tmp 8), type := _, pos := _, after := _, guard := _ }) (v := ?_) rfl (by kernel_rfl) (by kernel_rfl) (by kernel_rfl) (by kernel_rfl) (fun _ _ _ h => h) (Or.inl ⟨by rfl, ?_⟩) hSd ?_
      rotate_left
      · intro wl hSw
        obtain ⟨s0, s1⟩ := hSw
        go_simp
        with_reducible rfl
      simp only [Act.put, List.setIfInBounds_toArray, List.set_cons_zero, List.set_cons_succ]
      refine wpAnyJ_take (i := 4) (oi := { dst := some 22, op := .indexAddr _ (.tmp 20) (.tmp 21), type := _, pos := _, after := _, guard := _ }) (v := ?_) rfl (by kernel_rfl) (by kernel_rfl) (by kernel_rfl) (by kernel_rfl) (fun _ _ _ h => h) (Or.inl ⟨by rfl, ?_⟩) hSd ?_
      rotate_left
      · intro wl hSw
        obtain ⟨s0, s1⟩ := hSw
        go_simp
        with_reducible rfl
      simp only [Act.put, List.setIfInBounds_toArray, List.set_cons_zero, List.set_cons_succ]
      refine wpAnyJ_take (i := 5) (oi := { dst := some 23, op := .load _ (.tmp 22), type := _, pos := _, after := _, guard := _ }) (v := ?_) rfl (by kernel_rfl) (by kernel_rfl) (by kernel_rfl) (by kernel_rfl) (fun _ _ _ h => h) (Or.inl ⟨by rfl, ?_⟩) hSd ?_
      rotate_left
      · intro wl hSw
        obtain ⟨s0, s1⟩ := hSw
        go_simp
        with_reducible rfl
      simp only [Act.put, List.setIfInBounds_toArray, List.set_cons_zero, List.set_cons_succ]
      refine wpAnyJ_only (i := 6) (o := { dst := some 24, op := _, type := _, pos := _, after := _, guard := _ }) (by kernel_rfl) rfl (fun K hK => ?_)
      go_simp
      refine (rOf_any _ z HZ0.out HZ1.out).mono ?_
      rintro e w3 ⟨u3, rfl, rfl, hb3⟩
      have H3 := Lib.hid (hB.out.drew.keep hb3)
      have hlt3 := H3.out.lt
      have hU3 := HU.out.drew.call hb3
      have hS3 := And.intro (H3.out.box.cell 2 _ rfl) (HH.out w3 hU3).2
      refine hK.out _ _ (fun _ => hS3) ?_
      try simp only [Act.put, List.setIfInBounds_toArray, List.set_cons_zero, List.set_cons_succ]
      clear hK K
      refine wpAnyJ_only (i := 7) (o := { dst := some 25, op := _, type := _, pos := _, after := _, guard := _ }) (by kernel_rfl) rfl (fun K hK => ?_)
      go_simp
      refine hK.out _ _ (fun _ => ⟨(H3.out.box.alloc _).cell 2 _ rfl, (HH.out _ (hU3.alloc _)).2⟩) ?_
      try simp only [Act.put, List.setIfInBounds_toArray, List.set_cons_zero, List.set_cons_succ]
      clear hK K
      refine wpAnyJ_only (i := 8) (o := { dst := some 26, op := _, type := _, pos := _, after := _, guard := _ }) (by kernel_rfl) rfl (fun K hK => ?_)
      refine app1R (news := [_]) elemStr rfl _ _ rfl rfl rfl H3.out.row (Below.refl _ _) (Nat.le_refl _) hlt3 rfl (by simp [Value.oneCell']) (by have := HTL.out; omega) (by unfold maxLen; have := HTL.out; omega) ?_
      intro v5 w5 ho5 hb5
      obtain ⟨g6, cap6, rfl⟩ := ownsRow_succ ho5
      have H5 := Lib.hid (H3.out.push hb5 ho5)
      have B5 := H3.out.box6 hb5
      have j2 := B5.cell 2 _ rfl
      have f2 := B5.free 2
      have hS5 := And.intro j2 (HH.out w5 (hU3.app hb5 (by omega))).2
      clear ho5 B5
      refine hK.out _ _ (fun _ => hS5) ?_
      try simp only [Act.put, List.setIfInBounds_toArray, List.set_cons_zero, List.set_cons_succ]
      clear hK K
      refine wpAnyJ_take (i := 9) (oi := { dst := some 27, op := .fieldAddr _ (.tmp 7) 2, type := _, pos := _, after := _, guard := _ }) (v := ?_) rfl (by kernel_rfl) (by kernel_rfl) (by kernel_rfl) (by kernel_rfl) (fun _ _ _ h => h) (Or.inl ⟨by rfl, ?_⟩) hS5 ?_
      rotate_left
      · intro wl hSw
        obtain ⟨s0, s1⟩ := hSw
        go_simp
        with_reducible rfl
      simp only [Act.put, List.setIfInBounds_toArray, List.set_cons_zero, List.set_cons_succ]
      refine wpAnyJ_only (i := 10) (o := { dst := none, op := .store _ (.tmp 27) (.tmp 26), type := _, pos := _, after := _, guard := _ }) (by kernel_rfl) rfl (fun K hK => ?_)
      go_simp
      refine hK.out _ _ (fun h => absurd h (by decide)) ?_
      try simp only [Act.put, List.setIfInBounds_toArray, List.set_cons_zero, List.set_cons_succ]
      clear hK K
      refine wpAnyJ_done (by kernel_rfl) ?_ _
      go_wp2_with fail
      go_roundw
      case rel => exact ⟨k + 1, by omega, by go_num, _, Lib.hid (by rw [HNX.out]; exact H5.out)⟩
      case measure => simp [intOf]; omega
    · obtain rfl : k = ls.length := by omega
      have H := Lib.hid (show FB w w.heap.size wr R C v (ls.map txt) by have := hB.out; rwa [List.take_length] at this)
      obtain ⟨va, vc, rfl⟩ := own_form H.out.row
      have k0 := H.out.box.cell 0 _ rfl; have k1 := H.out.box.cell 1 _ rfl; have k2 := H.out.box.cell 2 _ rfl
      have r0 := H.out.res.cell 0 _ rfl; have r1 := H.out.res.cell 1 _ rfl; have r2 := H.out.res.cell 2 _ rfl
      have f0 := H.out.res.free 0; have f1 := H.out.res.free 1; have f2 := H.out.res.free 2
      clear hB
      obtain ⟨N, hN⟩ : ∃ N, (ls.map txt).length = N := ⟨_, rfl⟩
      rw [hN] at k2
      go_wp2
      obtain ⟨hR, hS, hW⟩ := H.out.done
      rw [hN] at hR hS hW
      have q0 := hR.cell 0 _ rfl; have q1 := hR.cell 1 _ rfl; have q2 := hR.cell 2 _ rfl
      exact bodyPost_ret (v := .agg #[.int .i64 R, .int .i64 C, .slice va N vc]) (by simp [results, Tryz.results87, go_sem, q0, q1, q2]) rfl ⟨_, rfl, _, rfl, hS, hW⟩
theorem one_place {n t : Nat} (h : t < n * n) : t / n < n ∧ t % n < n ∧ 0 < n := by
  have hn : 0 < n := by rcases Nat.eq_zero_or_pos n with e | e; · simp [e] at h
                        · exact e
  exact ⟨Nat.div_lt_of_lt_mul h, Nat.mod_lt _ hn, hn⟩
end Go.Proofs.YtkkklfikdoibcaaGreatDoor

namespace Go.Proofs.YtkkklfikdoibcaaGreatDoor
open Go.RowKit
set_option maxRecDepth 100000

theorem ent_le {n : Nat} {ns : List (Nat × Nat × Nat)} (h : ∀ x ∈ ns, x.2.2 ≤ 50) (hn : n ≤ 12) (i k : Nat) : -600 ≤ ent n ns i k ∧ ent n ns i k ≤ 600 := by
  unfold ent
  have h1 := valK_le i ns h n
  have h2 := btw_le i k ns h
  split <;> omega
theorem entry_any (w : World) (n : Nat) (v : Value) (ns : List (Nat × Nat × Nat)) (i k : Nat) (hv : SlK e3 3 w v (ns.map n3)) (hm : ∀ x ∈ ns, x.2.2 ≤ 50) (hn : n ≤ 12) :
    Calls Tryz.prog 133 #[.agg #[.int .i64 (n : Nat), v], .int .i64 (i : Nat), .int .i64 (k : Nat)] w (Rets fun r w' => r = .int .i64 (ent n ns i k) ∧ Below w.heap.size w w') := by
  have HV := Lib.hid hv; have HM := Lib.hid hm
  obtain ⟨ad, c, rfl⟩ := hv.form
  rw [List.length_map] at HV ⊢
  have HB := Lib.hid ((Below.refl w.heap.size w).alloc (Nat.le_refl _) (.cells #[.int .i64 (n : Nat), .slice ad ns.length c] 24))
  have HV1 := Lib.hid (HV.out.below HB.out (Nat.le_refl _))
  have h2 := btw_le i k ns hm
  clear hv hm
  by_cases h : i = k
  · subst h
    have HE := Lib.hid (show ent n ns i i = (valK i ns n : Nat) by unfold ent; rw [if_pos rfl])
    rw [HE.out]
    have e1 : ((i : Int) == (i : Int)) = true := by simp
    go_enter Tryz.func133, Tryz.ntmps133
    go_wp2_with (go_at_call 174; (with_reducible refine (Valence_any _ n _ ns i HV1.out HM.out hn).mono ?_); rintro e w1 ⟨v1, rfl, rfl, hb1⟩)
    go_ret
    exact ⟨_, rfl, rfl, HB.out.trans (hb1.mono HB.out.size)⟩
  · have HE := Lib.hid (show ent n ns i k = -(btw i k ns : Nat) by unfold ent; rw [if_neg h])
    rw [HE.out]
    have e1 : ((i : Int) == (k : Int)) = false := by simp; omega
    obtain ⟨q, hq⟩ : ∃ q, btw i k ns = q := ⟨_, rfl⟩
    have HBT := Lib.hid (fun (W : World) (h : SlK e3 3 W (.slice ad ns.length c) (ns.map n3)) => show Calls Tryz.prog 159 #[.agg #[.int .i64 (n : Nat), .slice ad ns.length c], .int .i64 (i : Nat), .int .i64 (k : Nat)] W (Rets fun r w' => r = .int .i64 (q : Nat) ∧ Below W.heap.size W w') from by rw [← hq]; exact Between_any W n _ ns i k h)
    rw [hq] at h2 ⊢
    have e2 : IntKind.i64.wrap (-(q : Int)) = -(q : Int) := by rw [IntKind.wrap_i64]; omega
    clear hq HE h
    go_enter Tryz.func133, Tryz.ntmps133
    go_wp2_with (go_at_call 159; (with_reducible refine (HBT.out _ HV1.out).mono ?_); rintro e w1 ⟨v1, rfl, rfl, hb1⟩)
    go_ret
    exact ⟨_, rfl, rfl, HB.out.trans (hb1.mono HB.out.size)⟩
theorem gridL_txt (n : Nat) (A : Mat) : (gridL n A).map txt = cellsF n n A := by simp [gridL, cellsF, Function.comp_def]
theorem gridL_take {n a b : Nat} (A : Mat) (ha : a < n) (hb : b < n) : (gridL n A).take (a * n + b + 1) = (gridL n A).take (a * n + b) ++ [A a b] := by
  have h : a * n + b < (gridL n A).length := by rw [gridL_len]; exact mul_lt ha hb
  rw [List.take_succ_eq_append_getElem h, gridL_get A hb h]
set_option maxHeartbeats 4000000 in
theorem Whole_any (w : World) (n : Nat) (v : Value) (es : List (Int × Int × Int)) (ns : List (Nat × Nat × Nat)) (hv : SlK e3 3 w v (ns.map n3)) (hR : RG (n : Int) es ns) :
    Calls Tryz.prog 70 #[.agg #[.int .i64 (n : Nat), v]] w (Rets fun r w' => ∃ u, r = .agg #[.int .i64 (n : Nat), .int .i64 (n : Nat), u] ∧ Sl eS w' u (cellsF n n (lap ns)) ∧ Below w.heap.size w w') := by
  have hm : ∀ x ∈ ns, x.2.2 ≤ 50 := fun x hx => (hR.rng x hx).2.2.2.1
  have hn : n ≤ 12 := by have := hR.le; omega
  have hnn : n * n ≤ 144 := Nat.mul_le_mul hn hn
  have HV := Lib.hid hv; have HM := Lib.hid hm
  have hent := fun i k (hi : i < n) (hk : k < n) => ent_lap (n := n) (ns := ns) (fun x hx => by have := hR.rng x hx; omega) hR.asc i k hi hk
  obtain ⟨L, hL⟩ : ∃ L, gridL n (lap ns) = L := ⟨_, rfl⟩
  have HLG := Lib.hid (fun a b (ha : a < n) (hb : b < n) => show L.take (a * n + b + 1) = L.take (a * n + b) ++ [ent n ns a b] by rw [← hL, gridL_take _ ha hb, hent a b ha hb])
  have HLT := Lib.hid (show L.map txt = cellsF n n (lap ns) by rw [← hL, gridL_txt])
  have HLL := Lib.hid (show L.length = n * n by rw [← hL, gridL_len])
  have HLZ := Lib.hid (show ∀ z ∈ L, -9223372036854775808 ≤ z ∧ z ≤ 9223372036854775807 by
    intro z hz
    rw [← hL] at hz
    simp only [gridL, List.mem_map] at hz
    obtain ⟨t, ht, rfl⟩ := hz
    rw [List.mem_range] at ht
    have h0 : 0 < n := by rcases Nat.eq_zero_or_pos n with h | h; · subst h; omega
                          · exact h
    have := ent_le hm hn (t / n) (t % n)
    rw [hent _ _ (Nat.div_lt_of_lt_mul ht) (Nat.mod_lt _ h0)] at this
    omega)
  clear hL hent
  obtain ⟨ad, c, rfl⟩ := hv.form
  rw [List.length_map] at HV ⊢
  obtain ⟨D, hD⟩ : ∃ D, w.heap.size = D := ⟨_, rfl⟩
  obtain ⟨W, hW⟩ : ∃ W, (w.alloc (.cells #[.int .i64 (n : Nat), .slice ad ns.length c] 24)).alloc (.cells #[.int .i64 0, .int .i64 0, .slice none 0 0] 29) = W := ⟨_, rfl⟩
  have HK := Lib.hid (show Blk W D [.int .i64 (n : Nat), .slice ad ns.length c] 24 by rw [← hW, ← hD]; exact (Blk.new w _ _).alloc _)
  have HR := Lib.hid (show Blk W (D + 1) [.int .i64 0, .int .i64 0, .slice none 0 0] 29 by rw [← hW, ← hD]; exact Blk.at1 w _ _ _)
  have HB := Lib.hid (show Below D w W by rw [← hW, ← hD]; exact ((Below.refl _ w).alloc (Nat.le_refl _) _).alloc (by simp) _)
  have HS := Lib.hid (show D + 2 ≤ W.heap.size by rw [← hW, ← hD]; simp)
  have HW := Lib.hid hW
  have HN0 := Lib.hid (show ∀ (x y : Nat), x < n → x * n + n = (x + 1) * n from fun x _ _ => by rw [Nat.add_mul, Nat.one_mul])
  clear hv hm hR hW
  go_enter Tryz.func70, Tryz.ntmps70
  go_wp2
  rw [HW.out]
  try rw [hD]
  go_loopw [3, 4] (fun s i wr => ∃ a : Nat, a ≤ n ∧ i = .int .i64 a ∧ Hid (wr.ownsRow (D + 2) 3 1 s (a * n) ((L.take (a * n)).map eZ)) ∧ Hid (Blk wr D [.int .i64 (n : Nat), .slice ad ns.length c] 24) ∧ Hid (Blk wr (D + 1) [.int .i64 0, .int .i64 0, .slice none 0 0] 29) ∧ Hid (Below D w wr) ∧ Hid (D + 2 ≤ wr.heap.size)) (fun _ i _ => n - (intOf i).toNat)
  case atStart => exact ⟨0, Nat.zero_le _, rfl, Lib.hid (by rw [Nat.zero_mul]; exact World.ownsRow_nil _ _ _ _), HK, HR, HB, HS⟩
  case round =>
    clear HK HR HB HS
    obtain ⟨a, ha, rfl, hO, hK, hR, hB, hS⟩ := hrel
    obtain ⟨sa, sc, rfl⟩ := own_formK hO.out
    have k0 := hK.out.cell 0 _ rfl; have k1 := hK.out.cell 1 _ rfl; have kl := hK.out.lt
    by_cases han : a < n
    · go_wp2
      clear k0 k1 kl
      go_loopw [3, 5] (fun s j wr => ∃ b : Nat, b ≤ n ∧ j = .int .i64 b ∧ Hid (wr.ownsRow (D + 2) 3 1 s (a * n + b) ((L.take (a * n + b)).map eZ)) ∧ Hid (Blk wr D [.int .i64 (n : Nat), .slice ad ns.length c] 24) ∧ Hid (Blk wr (D + 1) [.int .i64 0, .int .i64 0, .slice none 0 0] 29) ∧ Hid (Below D w wr) ∧ Hid (D + 2 ≤ wr.heap.size)) (fun _ j _ => n - (intOf j).toNat)
      case atStart => exact ⟨0, Nat.zero_le _, rfl, hO, hK, hR, hB, hS⟩
      case round =>
        clear hO hK hR hB hS
        obtain ⟨b, hb, rfl, hO, hK, hR, hB, hS⟩ := hrel
        have k0 := hK.out.cell 0 _ rfl; have k1 := hK.out.cell 1 _ rfl; have kl := hK.out.lt
        by_cases hbn : b < n
        · have HNX := Lib.hid (HLG.out a b han hbn)
          have hab : a * n + b < n * n := mul_lt han hbn
          have HVW := Lib.hid (HV.out.below hB.out (Nat.le_of_eq hD))
          obtain ⟨sa, sc, rfl⟩ := own_formK hO.out
          go_wp2_with (first
            | (go_at_call 133; (with_reducible refine (entry_any _ n _ ns a b HVW.out HM.out hn).mono ?_); rintro e w1 ⟨v1, rfl, rfl, hb1⟩; have HO1 := Lib.hid (own_below hO.out hb1 (Nat.le_refl _)); have HK1 := Lib.hid (hK.out.below hb1 (Nat.le_refl _)); have HR1 := Lib.hid (hR.out.below hb1 (Nat.le_refl _)); have HB1 := Lib.hid (hB.out.trans (hb1.mono (by have := hS.out; omega))); have HS1 := Lib.hid (Nat.le_trans hS.out hb1.size); clear hb1)
            | (at_builtin; refine appMP (w0 := w1) (m := 1) (news := [.int .i64 (ent n ns a b)]) elemInt rfl _ _ rfl rfl rfl HO1.out HS1.out rfl (by intro u hu; simp at hu; subst hu; rfl) (by omega) (by unfold maxLen; omega) ?_; intro v' w2 hown' hg2; obtain ⟨va, vc, rfl⟩ := own_formK hown'; have HO2 := Lib.hid hown'; have HG2 := Lib.hid hg2; clear hown' hg2))
          have hge := own_ge HO1.out
          go_wp2
          go_roundw
          case rel => exact ⟨b + 1, by omega, by go_num, Lib.hid (ownsRow_cast HO2.out (by omega) (by rw [show a * n + (b + 1) = a * n + b + 1 by omega, HNX.out, List.map_append]; rfl)), Lib.hid ((HK1.out.alloc _).grown HG2.out (fun e2 => by have := hge D e2.symm; omega)), Lib.hid ((HR1.out.alloc _).grown HG2.out (fun e2 => by have := hge (D + 1) e2.symm; omega)), Lib.hid ((HB1.out.alloc (by have := HS1.out; omega) _).grown HG2.out (by rw [World.size_alloc]; have := HS1.out; omega) (fun k e2 => by have := hge k e2; omega)), Lib.hid (by have := HG2.out.size; rw [World.size_alloc] at this; have := HS1.out; omega)⟩
          case measure => simp [intOf]; omega
        · obtain rfl : b = n := by omega
          have HNE := Lib.hid (HN0.out a 0 han)
          go_wp2
          go_roundw
          case rel => exact ⟨a + 1, by omega, by go_num, Lib.hid (by rw [← HNE.out]; exact hO.out), hK, hR, hB, hS⟩
          case measure => simp [intOf]; omega
    · obtain rfl : a = n := by omega
      have HSL := Lib.hid (show Sl eZ wr (.slice sa (a * a) sc) L from by
        have := Sl.ofOwns hO.out
        rwa [List.take_of_length_le (by rw [HLL.out]; exact Nat.le_refl _)] at this)
      have HLL2 := Lib.hid (show L.length ≤ 256 by rw [HLL.out]; omega)
      go_wp2_with (go_at_call 87; (with_reducible refine (rMOf_any _ (a : Int) (a : Int) _ L HSL.out HLL2.out HLZ.out).mono ?_); rintro e w1 ⟨v1, rfl, u1, rfl, hs1, hb1⟩; obtain ⟨ua, uc, rfl⟩ := sl_form hs1; have HS1 := Lib.hid hs1; have HR1 := Lib.hid (hR.out.below hb1 (Nat.le_refl _)); have HB1 := Lib.hid (hB.out.trans (hb1.mono (by have := hS.out; omega))); have r0 := HR1.out.free 0; have r1 := HR1.out.free 1; have r2 := HR1.out.free 2; have y0 := HR1.out.cell 0 _ rfl; have y1 := HR1.out.cell 1 _ rfl; have y2 := HR1.out.cell 2 _ rfl; have hrl := HR1.out.lt; clear hs1 hb1)
      have HB1' := HB1.out
      rw [← hD] at HB1'
      have HS1' := HS1.out
      rw [HLT.out] at HS1'
      have e9 : (cellsF a a (lap ns)).length = L.length := by rw [← HLT.out, List.length_map]
      obtain ⟨hR9, hS9, hW9⟩ := res_done (R := (a : Int)) (C := (a : Int)) HB1' (by omega) HR1.out HS1'
      rw [e9] at hR9 hS9 hW9
      have z0 := hR9.cell 0 _ rfl; have z1 := hR9.cell 1 _ rfl; have z2 := hR9.cell 2 _ rfl
      exact bodyPost_ret (v := .agg #[.int .i64 (a : Nat), .int .i64 (a : Nat), .slice ua L.length uc]) (by simp [results, Tryz.results70, go_sem, z0, z1, z2]) rfl ⟨_, rfl, _, rfl, hS9, hW9⟩
end Go.Proofs.YtkkklfikdoibcaaGreatDoor

namespace Go.Proofs.YtkkklfikdoibcaaGreatDoor
open Go.RowKit
set_option maxRecDepth 100000

set_option maxHeartbeats 2000000 in
theorem EqualD_any (w : World) (v u : Value) (xs ys : List Int) (hv : Sl eZ w v xs) (hu : Sl eZ w u ys) :
    Calls Tryz.prog 23 #[v, u] w (Rets fun r w' => r = .bool (decide (xs = ys)) ∧ Below w.heap.size w w') := by
  obtain ⟨a, b, o, c, rfl, hi, hp, hc, hm⟩ := hv.open elemDiv
  obtain ⟨a', b', o', c', rfl, hi', hp', hc', hm'⟩ := hu.open elemDiv
  clear hv hu
  unfold maxLen at hm hm'
  by_cases hl : xs.length = ys.length
  · have HL := Lib.hid hl
    have hne : ((xs.length : Int) != (ys.length : Int)) = false := by simp [hl]
    clear hl
    go_enter Tryz.func23, Tryz.ntmps23
    go_wp2
    go_loopw [13] (fun i wr => ∃ k : Nat, k ≤ xs.length ∧ i = .int .i64 k ∧ Hid (xs.take k = ys.take k) ∧ Below w.heap.size w wr) (fun i _ => xs.length - (intOf i).toNat)
    case atStart => exact ⟨0, Nat.zero_le _, rfl, Lib.hid (by simp), Below.refl _ _⟩
    case round =>
      obtain ⟨k, hk, rfl, hE, hb⟩ := hrel
      by_cases hkn : k < xs.length
      · have hky : k < ys.length := by rw [← HL.out]; exact hkn
        have h1 : wr.cell? ⟨b, o + k, none⟩ = some (.int .i64 xs[k]) := hp.at hb (Nat.le_refl _) k hkn
        have h2 : wr.cell? ⟨b', o' + k, none⟩ = some (.int .i64 ys[k]) := hp'.at hb (Nat.le_refl _) k hky
        have q1 : (0 : Int) ≤ (k : Int) := by omega
        have q2 : (k : Int) < (xs.length : Int) := by omega
        have q3 : (k : Int) < (ys.length : Int) := by omega
        by_cases hx : xs[k] = ys[k]
        · rw [hx] at h1
          have HN := Lib.hid (show xs.take (k + 1) = ys.take (k + 1) by rw [List.take_succ_eq_append_getElem hkn, List.take_succ_eq_append_getElem hky, hE.out, hx])
          clear hx
          go_wp2_with fail
          go_quiet (fail)
          have b3 := below_drewN hb nq
          go_wp2
          go_roundw
          case rel => exact ⟨k + 1, by omega, by go_num, HN, b3⟩
          case measure => simp [intOf]; omega
        · have HD := Lib.hid (show decide (xs = ys) = false by
            rw [decide_eq_false_iff_not]
            intro e
            apply hx
            subst e
            rfl)
          have ht : (xs[k] == ys[k]) = false := by simp [hx]
          clear hx
          go_wp2_with fail
          go_quiet (fail)
          have b3 := below_drewN hb nq
          go_wp2
          go_ret
          exact ⟨_, rfl, by rw [HD.out]; rfl, b3⟩
      · obtain rfl : k = xs.length := by omega
        have HD := Lib.hid (show decide (xs = ys) = true by
          rw [decide_eq_true_iff]
          have := hE.out
          rw [List.take_length, HL.out, List.take_length] at this
          exact this)
        go_wp2
        go_ret
        exact ⟨_, rfl, by rw [HD.out]; rfl, hb⟩
  · have hne : ((xs.length : Int) != (ys.length : Int)) = true := by simp; omega
    have HD := Lib.hid (show decide (xs = ys) = false by rw [decide_eq_false_iff_not]; intro e; exact hl (by rw [e]))
    clear hl
    go_enter Tryz.func23, Tryz.ntmps23
    go_wp2
    go_ret
    exact ⟨_, rfl, by rw [HD.out]; rfl, Below.refl _ _⟩

def wEs : List (Int × Int × Int) := [(0, 1, 1), (0, 2, 1), (1, 2, 2)]
theorem Wedge_any (w : World) : Calls Tryz.prog 65 #[] w (Rets fun v w' => ∃ u, v = .agg #[.int .i64 3, u] ∧ SlK e3 3 w' u wEs ∧ Below w.heap.size w w') := by
  have HO := Lib.hid (fun o : Obj => show ((w.alloc o).alloc (.cells #[.int .i64 0, .int .i64 1, .int .i64 1, .int .i64 0, .int .i64 2, .int .i64 1, .int .i64 1, .int .i64 2, .int .i64 2] 124)).ownsRow 0 124 3 (.slice (some ⟨w.heap.size + 1, 0, none⟩) 3 3) 3 (wEs.flatMap e3) by
    refine ⟨rfl, .inr ⟨w.heap.size + 1, 3, #[.int .i64 0, .int .i64 1, .int .i64 1, .int .i64 0, .int .i64 2, .int .i64 1, .int .i64 1, .int .i64 2, .int .i64 2], rfl, Nat.zero_le _, ?_, by omega, by unfold maxLen; omega, rfl, rfl⟩⟩
    have := heap_alloc_new (w.alloc o) (.cells #[.int .i64 0, .int .i64 1, .int .i64 1, .int .i64 0, .int .i64 2, .int .i64 1, .int .i64 1, .int .i64 2, .int .i64 2] 124)
    rw [World.size_alloc] at this
    exact this)
  go_enter Tryz.func65, Tryz.ntmps65
  go_wp2
  have HK := (Blk.new w [.int .i64 3, .slice (some ⟨w.heap.size + 1, 0, none⟩) 3 3] 24).alloc (.cells #[.int .i64 0, .int .i64 1, .int .i64 1, .int .i64 0, .int .i64 2, .int .i64 1, .int .i64 1, .int .i64 2, .int .i64 2] 124)
  have y0 := HK.cell 0 _ rfl; have y1 := HK.cell 1 _ rfl
  refine bodyPost_ret (v := .agg #[.int .i64 3, .slice (some ⟨w.heap.size + 1, 0, none⟩) 3 3]) (by simp [results, Tryz.results65, go_sem, y0, y1]) rfl ⟨_, rfl, _, rfl, SlK.ofOwns e3_len (HO.out _) rfl, ((Below.refl _ w).alloc (Nat.le_refl _) _).alloc (by simp) _⟩
end Go.Proofs.YtkkklfikdoibcaaGreatDoor

namespace Go.Proofs.YtkkklfikdoibcaaGreatDoor
open Go.RowKit
set_option maxRecDepth 100000

theorem retL_of {P : Program} {f : FuncId} {a : Array Value} {w : World} {p : List Int × Int} {t : List Int} {k : Int} (h : Calls P f a w (RetL w p.1 p.2)) (e : p = (t, k)) : Calls P f a w (RetL w t k) := by subst e; exact h
set_option maxHeartbeats 4000000 in
theorem awake15 (w : World) (he : Env w) : Calls Tryz.prog 15 #[] w (Rets fun v w' => v = .bool true ∧ Below w.heap.size w w') := by
  have HE := Lib.hid he
  clear he
  have q0 := Below.refl w.heap.size w
  obtain ⟨x1, hx1⟩ : ∃ l : List ByteArray, l = [⟨#[50]⟩, ⟨#[45, 49]⟩, ⟨#[45, 49]⟩, ⟨#[45, 49]⟩, ⟨#[51]⟩, ⟨#[45, 50]⟩, ⟨#[45, 49]⟩, ⟨#[45, 50]⟩, ⟨#[51]⟩] := ⟨_, rfl⟩
  obtain ⟨x2, hx2⟩ : ∃ l : List ByteArray, l = [⟨#[51]⟩, ⟨#[45, 50]⟩, ⟨#[45, 50]⟩, ⟨#[51]⟩] := ⟨_, rfl⟩
  have hwl : wEs.length ≤ 1000 := by decide
  have F1 := Lib.hid (fun (w1 : World) (v : Value) (hv : SlK e3 3 w1 v wEs) (he : Env w1) => show Calls Tryz.prog 16 #[.agg #[.int .i64 3, v]] w1 (RetM w1 3 3 x1 0) from retM_of (Full_any w1 3 v wEs hv hwl he) (MR.eq (by decide +kernel) (by decide +kernel) (by subst hx1; decide +kernel) (by decide +kernel)))
  have F2 := Lib.hid (fun (w1 : World) (v : Value) (hv : SlK e3 3 w1 v wEs) (he : Env w1) => show Calls Tryz.prog 18 #[.agg #[.int .i64 3, v], .int .i64 0] w1 (RetM w1 2 2 x2 0) from retM_of (Reduced_any w1 3 v wEs 0 hv hwl he) (MR.eq (by decide +kernel) (by decide +kernel) (by subst hx2; decide +kernel) (by decide +kernel)))
  have F3 := Lib.hid (fun (w1 : World) (v : Value) (hv : SlK e3 3 w1 v wEs) (he : Env w1) => retS_of (Trees_any w1 3 v wEs hv hwl (fun _ => by omega) he) (show cofS 3 wEs 0 0 = (⟨#[53]⟩, 0) by decide +kernel))
  have hsm : chkG 3 wEs = 0 → (3 : Int) ≤ 7 ∧ (sgl (nsOf wEs)).length ≤ 4096 := fun _ => ⟨by omega, by decide⟩
  have F4 := Lib.hid (fun (w1 : World) (v : Value) (hv : SlK e3 3 w1 v wEs) (he : Env w1) => retS_of (With_any w1 3 v wEs 0 hv hwl hsm he) (show withS 3 wEs 0 = (⟨#[51]⟩, 0) by decide +kernel))
  have F5 := Lib.hid (fun (w1 : World) (v : Value) (hv : SlK e3 3 w1 v wEs) (he : Env w1) => retS_of (With_any w1 3 v wEs 2 hv hwl hsm he) (show withS 3 wEs 2 = (⟨#[50]⟩, 0) by decide +kernel))
  have F6 := Lib.hid (fun (w1 : World) (v u : Value) (hv : SlK e3 3 w1 v wEs) (hu : Sl eZ w1 u [1, 0, 0]) => show Calls Tryz.prog 21 #[.agg #[.int .i64 3, v], u] w1 (RetL w1 [2, -1, -1] 0) from retL_of (Image_any w1 3 v u wEs _ hv hu hwl) (by decide +kernel))
  have L1 := Lib.hid (fun (w1 : World) (e : TypeId) => show Sl eZ (w1.alloc (.cells #[.int .i64 1, .int .i64 0, .int .i64 0] e)) (.slice (some ⟨w1.heap.size, 0, none⟩) 3 3) [1, 0, 0] from Sl.lit eZ w1 [1, 0, 0] e (by simp))
  have L2 := Lib.hid (fun (w1 : World) (e : TypeId) => show Sl eS (w1.alloc (.cells #[.string ⟨#[50]⟩, .string ⟨#[45, 49]⟩, .string ⟨#[45, 49]⟩, .string ⟨#[45, 49]⟩, .string ⟨#[51]⟩, .string ⟨#[45, 50]⟩, .string ⟨#[45, 49]⟩, .string ⟨#[45, 50]⟩, .string ⟨#[51]⟩] e)) (.slice (some ⟨w1.heap.size, 0, none⟩) 9 9) x1 by rw [hx1]; exact Sl.lit eS w1 [⟨#[50]⟩, ⟨#[45, 49]⟩, ⟨#[45, 49]⟩, ⟨#[45, 49]⟩, ⟨#[51]⟩, ⟨#[45, 50]⟩, ⟨#[45, 49]⟩, ⟨#[45, 50]⟩, ⟨#[51]⟩] e (by simp))
  have L3 := Lib.hid (fun (w1 : World) (e : TypeId) => show Sl eS (w1.alloc (.cells #[.string ⟨#[51]⟩, .string ⟨#[45, 50]⟩, .string ⟨#[45, 50]⟩, .string ⟨#[51]⟩] e)) (.slice (some ⟨w1.heap.size, 0, none⟩) 4 4) x2 by rw [hx2]; exact Sl.lit eS w1 [⟨#[51]⟩, ⟨#[45, 50]⟩, ⟨#[45, 50]⟩, ⟨#[51]⟩] e (by simp))
  have L4 := Lib.hid (fun (w1 : World) (e : TypeId) => show Sl eZ (w1.alloc (.cells #[.int .i64 2, .int .i64 (-1), .int .i64 (-1)] e)) (.slice (some ⟨w1.heap.size, 0, none⟩) 3 3) [2, -1, -1] from Sl.lit eZ w1 [2, -1, -1] e (by simp))
  have A0 := Lib.hid (fun (w1 : World) (o : Obj) => (Below.refl w1.heap.size w1).alloc (Nat.le_refl _) o)
  have E1 := Lib.hid (fun (w1 : World) (v u : Value) (hv : Sl eS w1 v x1) (hu : Sl eS w1 u x1) => show Calls Tryz.prog 66 #[v, u] w1 (Rets fun r w' => r = .bool true ∧ Below w1.heap.size w1 w') from by have := EqualM_any w1 v u x1 x1 hv hu; rwa [decide_eq_true rfl] at this)
  have E2 := Lib.hid (fun (w1 : World) (v u : Value) (hv : Sl eS w1 v x2) (hu : Sl eS w1 u x2) => show Calls Tryz.prog 66 #[v, u] w1 (Rets fun r w' => r = .bool true ∧ Below w1.heap.size w1 w') from by have := EqualM_any w1 v u x2 x2 hv hu; rwa [decide_eq_true rfl] at this)
  have E3 := Lib.hid (fun (w1 : World) (v u : Value) (hv : Sl eZ w1 v [2, -1, -1]) (hu : Sl eZ w1 u [2, -1, -1]) => show Calls Tryz.prog 23 #[v, u] w1 (Rets fun r w' => r = .bool true ∧ Below w1.heap.size w1 w') from by have := EqualD_any w1 v u [2, -1, -1] [2, -1, -1] hv hu; rwa [decide_eq_true rfl] at this)
  clear hx1 hx2
  go_enter Tryz.func15, Tryz.ntmps15
  go_wp2_with (first
    | (go_at_call 23; (with_reducible refine (E3.out _ _ _ (SI.out.below (A0.out _ _) (Nat.le_refl _)) (L4.out _ _)).mono ?_); rintro e w10 ⟨v, rfl, rfl, h10⟩; have h10 := (A0.out _ _).trans (h10.mono (by simp)); have HE := Lib.hid (HE.out.below h10 (Nat.le_refl _)); have SG := Lib.hid (SG.out.below h10 (Nat.le_refl _)); have S1 := Lib.hid (S1.out.below h10 (Nat.le_refl _)); have S2 := Lib.hid (S2.out.below h10 (Nat.le_refl _)); have SI := Lib.hid (SI.out.below h10 (Nat.le_refl _)); have BG := Lib.hid (BG.out.below h10 (Nat.le_refl _)); have B1 := Lib.hid (B1.out.below h10 (Nat.le_refl _)); have B2 := Lib.hid (B2.out.below h10 (Nat.le_refl _)); have c10_BG_0 := BG.out.cell 0 _ rfl; have c10_BG_1 := BG.out.cell 1 _ rfl; have c10_B1_0 := B1.out.cell 0 _ rfl; have c10_B1_1 := B1.out.cell 1 _ rfl; have c10_B1_2 := B1.out.cell 2 _ rfl; have c10_B2_0 := B2.out.cell 0 _ rfl; have c10_B2_1 := B2.out.cell 1 _ rfl; have c10_B2_2 := B2.out.cell 2 _ rfl; have q10 := q9.trans (h10.mono q9.size))
    | (go_at_call 66; (with_reducible refine (E2.out _ _ _ (S2.out.below (A0.out _ _) (Nat.le_refl _)) (L3.out _ _)).mono ?_); rintro e w9 ⟨v, rfl, rfl, h9⟩; have h9 := (A0.out _ _).trans (h9.mono (by simp)); have HE := Lib.hid (HE.out.below h9 (Nat.le_refl _)); have SG := Lib.hid (SG.out.below h9 (Nat.le_refl _)); have S1 := Lib.hid (S1.out.below h9 (Nat.le_refl _)); have S2 := Lib.hid (S2.out.below h9 (Nat.le_refl _)); have SI := Lib.hid (SI.out.below h9 (Nat.le_refl _)); have BG := Lib.hid (BG.out.below h9 (Nat.le_refl _)); have B1 := Lib.hid (B1.out.below h9 (Nat.le_refl _)); have B2 := Lib.hid (B2.out.below h9 (Nat.le_refl _)); have c9_BG_0 := BG.out.cell 0 _ rfl; have c9_BG_1 := BG.out.cell 1 _ rfl; have c9_B1_0 := B1.out.cell 0 _ rfl; have c9_B1_1 := B1.out.cell 1 _ rfl; have c9_B1_2 := B1.out.cell 2 _ rfl; have c9_B2_0 := B2.out.cell 0 _ rfl; have c9_B2_1 := B2.out.cell 1 _ rfl; have c9_B2_2 := B2.out.cell 2 _ rfl; have q9 := q8.trans (h9.mono q8.size))
    | (go_at_call 66; (with_reducible refine (E1.out _ _ _ (S1.out.below (A0.out _ _) (Nat.le_refl _)) (L2.out _ _)).mono ?_); rintro e w8 ⟨v, rfl, rfl, h8⟩; have h8 := (A0.out _ _).trans (h8.mono (by simp)); have HE := Lib.hid (HE.out.below h8 (Nat.le_refl _)); have SG := Lib.hid (SG.out.below h8 (Nat.le_refl _)); have S1 := Lib.hid (S1.out.below h8 (Nat.le_refl _)); have S2 := Lib.hid (S2.out.below h8 (Nat.le_refl _)); have SI := Lib.hid (SI.out.below h8 (Nat.le_refl _)); have BG := Lib.hid (BG.out.below h8 (Nat.le_refl _)); have B1 := Lib.hid (B1.out.below h8 (Nat.le_refl _)); have B2 := Lib.hid (B2.out.below h8 (Nat.le_refl _)); have c8_BG_0 := BG.out.cell 0 _ rfl; have c8_BG_1 := BG.out.cell 1 _ rfl; have c8_B1_0 := B1.out.cell 0 _ rfl; have c8_B1_1 := B1.out.cell 1 _ rfl; have c8_B1_2 := B1.out.cell 2 _ rfl; have c8_B2_0 := B2.out.cell 0 _ rfl; have c8_B2_1 := B2.out.cell 1 _ rfl; have c8_B2_2 := B2.out.cell 2 _ rfl; have q8 := q7.trans (h8.mono q7.size))
    | (go_at_call 21; (with_reducible refine (F6.out _ _ _ (SG.out.below (A0.out _ _) (Nat.le_refl _)) (L1.out _ _)).mono ?_); rintro e w7 ⟨v, rfl, u6, rfl, s6, h70⟩; obtain ⟨a6, k6, rfl⟩ : ∃ a c, u6 = .slice a 3 c := sl_form s6; have h7 := (A0.out _ (.cells #[.int .i64 1, .int .i64 0, .int .i64 0] 3)).trans (h70.mono (by simp)); have SI := Lib.hid s6; clear s6; have HE := Lib.hid (HE.out.below h7 (Nat.le_refl _)); have SG := Lib.hid (SG.out.below h7 (Nat.le_refl _)); have S1 := Lib.hid (S1.out.below h7 (Nat.le_refl _)); have S2 := Lib.hid (S2.out.below h7 (Nat.le_refl _)); have BG := Lib.hid (BG.out.below h7 (Nat.le_refl _)); have B1 := Lib.hid (B1.out.below h7 (Nat.le_refl _)); have B2 := Lib.hid (B2.out.below h7 (Nat.le_refl _)); have c7_BG_0 := BG.out.cell 0 _ rfl; have c7_BG_1 := BG.out.cell 1 _ rfl; have c7_B1_0 := B1.out.cell 0 _ rfl; have c7_B1_1 := B1.out.cell 1 _ rfl; have c7_B1_2 := B1.out.cell 2 _ rfl; have c7_B2_0 := B2.out.cell 0 _ rfl; have c7_B2_1 := B2.out.cell 1 _ rfl; have c7_B2_2 := B2.out.cell 2 _ rfl; have q7 := q6.trans (h7.mono q6.size))
    | (go_at_call 26; (with_reducible refine (F5.out _ _ SG.out HE.out).mono ?_); rintro e w6 ⟨v, rfl, rfl, h6⟩; have HE := Lib.hid (HE.out.below h6 (Nat.le_refl _)); have SG := Lib.hid (SG.out.below h6 (Nat.le_refl _)); have S1 := Lib.hid (S1.out.below h6 (Nat.le_refl _)); have S2 := Lib.hid (S2.out.below h6 (Nat.le_refl _)); have BG := Lib.hid (BG.out.below h6 (Nat.le_refl _)); have B1 := Lib.hid (B1.out.below h6 (Nat.le_refl _)); have B2 := Lib.hid (B2.out.below h6 (Nat.le_refl _)); have c6_BG_0 := BG.out.cell 0 _ rfl; have c6_BG_1 := BG.out.cell 1 _ rfl; have c6_B1_0 := B1.out.cell 0 _ rfl; have c6_B1_1 := B1.out.cell 1 _ rfl; have c6_B1_2 := B1.out.cell 2 _ rfl; have c6_B2_0 := B2.out.cell 0 _ rfl; have c6_B2_1 := B2.out.cell 1 _ rfl; have c6_B2_2 := B2.out.cell 2 _ rfl; have q6 := q5.trans (h6.mono q5.size))
    | (go_at_call 26; (with_reducible refine (F4.out _ _ SG.out HE.out).mono ?_); rintro e w5 ⟨v, rfl, rfl, h5⟩; have HE := Lib.hid (HE.out.below h5 (Nat.le_refl _)); have SG := Lib.hid (SG.out.below h5 (Nat.le_refl _)); have S1 := Lib.hid (S1.out.below h5 (Nat.le_refl _)); have S2 := Lib.hid (S2.out.below h5 (Nat.le_refl _)); have BG := Lib.hid (BG.out.below h5 (Nat.le_refl _)); have B1 := Lib.hid (B1.out.below h5 (Nat.le_refl _)); have B2 := Lib.hid (B2.out.below h5 (Nat.le_refl _)); have c5_BG_0 := BG.out.cell 0 _ rfl; have c5_BG_1 := BG.out.cell 1 _ rfl; have c5_B1_0 := B1.out.cell 0 _ rfl; have c5_B1_1 := B1.out.cell 1 _ rfl; have c5_B1_2 := B1.out.cell 2 _ rfl; have c5_B2_0 := B2.out.cell 0 _ rfl; have c5_B2_1 := B2.out.cell 1 _ rfl; have c5_B2_2 := B2.out.cell 2 _ rfl; have q5 := q4.trans (h5.mono q4.size))
    | (go_at_call 24; (with_reducible refine (F3.out _ _ SG.out HE.out).mono ?_); rintro e w4 ⟨v, rfl, rfl, h4⟩; have HE := Lib.hid (HE.out.below h4 (Nat.le_refl _)); have SG := Lib.hid (SG.out.below h4 (Nat.le_refl _)); have S1 := Lib.hid (S1.out.below h4 (Nat.le_refl _)); have S2 := Lib.hid (S2.out.below h4 (Nat.le_refl _)); have BG := Lib.hid (BG.out.below h4 (Nat.le_refl _)); have B1 := Lib.hid (B1.out.below h4 (Nat.le_refl _)); have B2 := Lib.hid (B2.out.below h4 (Nat.le_refl _)); have c4_BG_0 := BG.out.cell 0 _ rfl; have c4_BG_1 := BG.out.cell 1 _ rfl; have c4_B1_0 := B1.out.cell 0 _ rfl; have c4_B1_1 := B1.out.cell 1 _ rfl; have c4_B1_2 := B1.out.cell 2 _ rfl; have c4_B2_0 := B2.out.cell 0 _ rfl; have c4_B2_1 := B2.out.cell 1 _ rfl; have c4_B2_2 := B2.out.cell 2 _ rfl; have q4 := q3.trans (h4.mono q3.size))
    | (go_at_call 18; (with_reducible refine (F2.out _ _ SG.out HE.out).mono ?_); rintro e w3 ⟨v, rfl, x3, rfl, s3, h3⟩; obtain ⟨a3, k3, rfl⟩ := sl_form s3; have g3 := h3.alloc h3.size (.cells #[.int .i64 2, .int .i64 2, .slice a3 (x2).length k3] 29); have S2 := Lib.hid (s3.below ((Below.refl w3.heap.size w3).alloc (Nat.le_refl _) (.cells #[.int .i64 2, .int .i64 2, .slice a3 (x2).length k3] 29)) (Nat.le_refl _)); clear s3; have B2 := Lib.hid (Blk.new w3 [.int .i64 2, .int .i64 2, .slice a3 (x2).length k3] 29); have HE := Lib.hid (HE.out.below g3 (Nat.le_refl _)); have SG := Lib.hid (SG.out.below g3 (Nat.le_refl _)); have S1 := Lib.hid (S1.out.below g3 (Nat.le_refl _)); have BG := Lib.hid (BG.out.below g3 (Nat.le_refl _)); have B1 := Lib.hid (B1.out.below g3 (Nat.le_refl _)); have c3_BG_0 := BG.out.cell 0 _ rfl; have c3_BG_1 := BG.out.cell 1 _ rfl; have c3_B1_0 := B1.out.cell 0 _ rfl; have c3_B1_1 := B1.out.cell 1 _ rfl; have c3_B1_2 := B1.out.cell 2 _ rfl; have c3_B2_0 := B2.out.cell 0 _ rfl; have c3_B2_1 := B2.out.cell 1 _ rfl; have c3_B2_2 := B2.out.cell 2 _ rfl; have q3 := q2.trans (g3.mono q2.size))
    | (go_at_call 16; (with_reducible refine (F1.out _ _ SG.out HE.out).mono ?_); rintro e w2 ⟨v, rfl, x2, rfl, s2, h2⟩; obtain ⟨a2, k2, rfl⟩ := sl_form s2; have g2 := h2.alloc h2.size (.cells #[.int .i64 3, .int .i64 3, .slice a2 (x1).length k2] 29); have S1 := Lib.hid (s2.below ((Below.refl w2.heap.size w2).alloc (Nat.le_refl _) (.cells #[.int .i64 3, .int .i64 3, .slice a2 (x1).length k2] 29)) (Nat.le_refl _)); clear s2; have B1 := Lib.hid (Blk.new w2 [.int .i64 3, .int .i64 3, .slice a2 (x1).length k2] 29); have HE := Lib.hid (HE.out.below g2 (Nat.le_refl _)); have SG := Lib.hid (SG.out.below g2 (Nat.le_refl _)); have BG := Lib.hid (BG.out.below g2 (Nat.le_refl _)); have c2_BG_0 := BG.out.cell 0 _ rfl; have c2_BG_1 := BG.out.cell 1 _ rfl; have c2_B1_0 := B1.out.cell 0 _ rfl; have c2_B1_1 := B1.out.cell 1 _ rfl; have c2_B1_2 := B1.out.cell 2 _ rfl; have q2 := q1.trans (g2.mono q1.size))
    | (go_at_call 65; (with_reducible refine (Wedge_any _).mono ?_); rintro e w1 ⟨v, rfl, u1, rfl, s1, h10⟩; obtain ⟨ua, uc, rfl⟩ : ∃ a c, u1 = .slice a 3 c := s1.form; have h1 := h10.alloc h10.size (.cells #[.int .i64 3, .slice ua 3 uc] 24); have SG := Lib.hid (s1.below (A0.out w1 (.cells #[.int .i64 3, .slice ua 3 uc] 24)) (Nat.le_refl _)); have BG := Lib.hid (Blk.new w1 [.int .i64 3, .slice ua 3 uc] 24); clear s1; have HE := Lib.hid (HE.out.below h1 (Nat.le_refl _)); have c1_BG_0 := BG.out.cell 0 _ rfl; have c1_BG_1 := BG.out.cell 1 _ rfl; have q1 := q0.trans (h1.mono q0.size)))
  go_ret
  exact ⟨_, rfl, rfl, q10⟩
end Go.Proofs.YtkkklfikdoibcaaGreatDoor

namespace Go.Proofs.YtkkklfikdoibcaaGreatDoor
open Go.RowKit
set_option maxRecDepth 100000

/-- What Same answers. -/
def sameM (R C : Int) (xs : List ByteArray) (R' C' : Int) (ys : List ByteArray) : Bool := decide (R = R') && (decide (C = C') && decide (xs = ys))
set_option maxHeartbeats 2000000 in
theorem MSame_any (w : World) (R C R' C' : Int) (v u : Value) (xs ys : List ByteArray) (hv : Sl eS w v xs) (hu : Sl eS w u ys) :
    Calls Tryz.prog 34 #[.agg #[.int .i64 R, .int .i64 C, v], .agg #[.int .i64 R', .int .i64 C', u]] w (Rets fun r w' => r = .bool (sameM R C xs R' C' ys) ∧ Below w.heap.size w w') := by
  have HV := Lib.hid hv; have HU := Lib.hid hu
  obtain ⟨ad, cap, rfl⟩ := sl_form hv
  obtain ⟨ad', cap', rfl⟩ := sl_form hu
  clear hv hu
  have HB := Lib.hid (((Below.refl w.heap.size w).alloc (Nat.le_refl _) (.cells #[.int .i64 R, .int .i64 C, .slice ad xs.length cap] 29)).alloc (by simp) (.cells #[.int .i64 R', .int .i64 C', .slice ad' ys.length cap'] 29))
  by_cases h1 : R = R'
  · have q1 : (R == R') = true := by simp [h1]
    by_cases h2 : C = C'
    · have q2 : (C == C') = true := by simp [h2]
      have HQ := Lib.hid (show sameM R C xs R' C' ys = decide (xs = ys) by unfold sameM; rw [decide_eq_true h1, decide_eq_true h2]; rfl)
      clear h1 h2
      go_enter Tryz.func34, Tryz.ntmps34
      go_wp2_with (go_at_call 66; (with_reducible refine (EqualM_any _ _ _ xs ys (HV.out.below HB.out (Nat.le_refl _)) (HU.out.below HB.out (Nat.le_refl _))).mono ?_); rintro e w1 ⟨v, rfl, rfl, hb1⟩; rw [← HQ.out])
      go_ret
      exact ⟨_, rfl, rfl, HB.out.trans (hb1.mono HB.out.size)⟩
    · have q2 : (C == C') = false := by simp [h2]
      have HQ := Lib.hid (show sameM R C xs R' C' ys = false by unfold sameM; rw [decide_eq_false h2]; simp)
      clear h1 h2
      go_enter Tryz.func34, Tryz.ntmps34
      go_wp2
      go_ret
      exact ⟨_, rfl, by rw [HQ.out]; rfl, HB.out⟩
  · have q1 : (R == R') = false := by simp [h1]
    have HQ := Lib.hid (show sameM R C xs R' C' ys = false by unfold sameM; rw [decide_eq_false h1]; rfl)
    clear h1
    go_enter Tryz.func34, Tryz.ntmps34
    go_wp2
    go_ret
    exact ⟨_, rfl, by rw [HQ.out]; rfl, HB.out⟩
set_option maxHeartbeats 2000000 in
theorem rMSame_any (w : World) (R C R' C' : Int) (v u : Value) (xs ys : List ByteArray) (hv : Sl eS w v xs) (hu : Sl eS w u ys) :
    Calls Tryz.prog 20 #[.agg #[.int .i64 R, .int .i64 C, v], .agg #[.int .i64 R', .int .i64 C', u]] w (Rets fun r w' => r = .bool (sameM R C xs R' C' ys) ∧ Below w.heap.size w w') := by
  have HV := Lib.hid hv; have HU := Lib.hid hu
  obtain ⟨ad, cap, rfl⟩ := sl_form hv
  obtain ⟨ad', cap', rfl⟩ := sl_form hu
  clear hv hu
  have HB := Lib.hid (((Below.refl w.heap.size w).alloc (Nat.le_refl _) (.cells #[.int .i64 R, .int .i64 C, .slice ad xs.length cap] 29)).alloc (by simp) (.cells #[.int .i64 R', .int .i64 C', .slice ad' ys.length cap'] 29))
  by_cases h1 : R = R'
  · have q1 : (R == R') = true := by simp [h1]
    by_cases h2 : C = C'
    · have q2 : (C == C') = true := by simp [h2]
      have HQ := Lib.hid (show sameM R C xs R' C' ys = decide (xs = ys) by unfold sameM; rw [decide_eq_true h1, decide_eq_true h2]; rfl)
      clear h1 h2
      go_enter Tryz.func20, Tryz.ntmps20
      go_wp2_with (go_at_call 74; (with_reducible refine (rSameM_any _ _ _ xs ys (HV.out.below HB.out (Nat.le_refl _)) (HU.out.below HB.out (Nat.le_refl _))).mono ?_); rintro e w1 ⟨v, rfl, rfl, hb1⟩; rw [← HQ.out])
      go_ret
      exact ⟨_, rfl, rfl, HB.out.trans (hb1.mono HB.out.size)⟩
    · have q2 : (C == C') = false := by simp [h2]
      have HQ := Lib.hid (show sameM R C xs R' C' ys = false by unfold sameM; rw [decide_eq_false h2]; simp)
      clear h1 h2
      go_enter Tryz.func20, Tryz.ntmps20
      go_wp2
      go_ret
      exact ⟨_, rfl, by rw [HQ.out]; rfl, HB.out⟩
  · have q1 : (R == R') = false := by simp [h1]
    have HQ := Lib.hid (show sameM R C xs R' C' ys = false by unfold sameM; rw [decide_eq_false h1]; rfl)
    clear h1
    go_enter Tryz.func20, Tryz.ntmps20
    go_wp2
    go_ret
    exact ⟨_, rfl, by rw [HQ.out]; rfl, HB.out⟩
theorem sameM_self (R C : Int) (xs : List ByteArray) : sameM R C xs R C xs = true := by simp [sameM]
end Go.Proofs.YtkkklfikdoibcaaGreatDoor

namespace Go.Proofs.YtkkklfikdoibcaaGreatDoor
open Go.RowKit
set_option maxRecDepth 100000

theorem rFew_any (w : World) (n : Int) (v : Value) (es : List (Int × Int × Int)) (hv : SlK e3 3 w v es) :
    Calls Tryz.prog 14 #[.agg #[.int .i64 n, v]] w (Rets fun r w' => r = .bool (smallB n es 6 9) ∧ Below w.heap.size w w') := by
  have HV := Lib.hid hv
  obtain ⟨ad, c, rfl⟩ := hv.form
  have q0 := (Below.refl w.heap.size w).alloc (Nat.le_refl _) (.cells #[.int .i64 n, .slice ad es.length c] 24)
  clear hv
  go_enter Tryz.func14, Tryz.ntmps14
  go_wp2_with ((go_at_call 64); (with_reducible refine (small_any _ n _ es 6 9 (HV.out.below q0 (Nat.le_refl _))).mono ?_); rintro e w1 ⟨v1, rfl, rfl, hb1⟩)
  go_ret
  exact ⟨_, rfl, rfl, q0.trans (hb1.mono q0.size)⟩
theorem few_len {n : Int} {es : List (Int × Int × Int)} (h : smallB n es 6 9 = true) : es.length ≤ 40 := by
  unfold smallB at h
  by_cases h40 : 40 < es.length
  · rw [if_pos h40] at h; cases h
  · omega
theorem few_six {n : Int} {es : List (Int × Int × Int)} (h : smallB n es 6 9 = true) (hc : chkG n es = 0) : n ≤ 6 ∧ (sgl (nsOf es)).length ≤ 9 := by
  have hl := few_len h
  unfold smallB at h
  rw [if_neg (by omega), if_neg (by rw [hc]; simp)] at h
  simp only [Bool.and_eq_true, decide_eq_true_eq] at h
  obtain ⟨ns, hR⟩ := rg_of hc
  refine ⟨h.1, ?_⟩
  rw [hR.nsOf, sgl_len]
  have h2 := h.2
  rw [hR.eq, List.map_map] at h2
  have : (ns.map fun x => x.2.2).sum = (ns.map ((fun x : Int × Int × Int => x.2.2.toNat) ∘ n3)).sum := by
    congr 1
  rw [this]
  omega
end Go.Proofs.YtkkklfikdoibcaaGreatDoor
