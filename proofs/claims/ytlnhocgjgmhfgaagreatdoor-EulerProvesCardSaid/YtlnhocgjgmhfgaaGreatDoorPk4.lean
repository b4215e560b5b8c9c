/- The walks of the reference's Vertex, edge and Check. -/
import Derived.Test.YtlnhocgjgmhfgaaGreatDoorPk3
namespace Go.Proofs.YtlnhocgjgmhfgaaGreatDoor
open Go.RowKit
set_option maxRecDepth 100000

theorem rVertex_any (w : World) (n v : Int) (u : Value) (ad : Option Addr) (l c : Nat) (hu : u = .slice ad l c) : Calls Tryz.prog 92 #[.agg #[.int .i64 n, u], .int .i64 v] w (Rets fun r w' => r = .bool (vtx n v) ∧ Below w.heap.size w w') := by
  subst hu
  have hq := (Below.refl w.heap.size w).alloc (Nat.le_refl _) (.cells #[.int .i64 n, .slice ad l c] 24)
  by_cases h0 : 0 ≤ v
  · by_cases h1 : v < n
    · have H : Hid (vtx n v = true) := Lib.hid (by simp [vtx, h0, h1])
      go_enter Tryz.func92, Tryz.ntmps92
      go_wp2
      go_ret
      exact ⟨_, rfl, by rw [H.out]; rfl, hq⟩
    · have H : Hid (vtx n v = false) := Lib.hid (by simp [vtx, h1])
      have h2 : decide (v < n) = false := by simp [h1]
      go_enter Tryz.func92, Tryz.ntmps92
      go_wp2
      go_ret
      exact ⟨_, rfl, by rw [H.out]; rfl, hq⟩
  · have H : Hid (vtx n v = false) := Lib.hid (by simp [vtx, h0])
    have h2 : decide (0 ≤ v) = false := by simp [h0]
    go_enter Tryz.func92, Tryz.ntmps92
    go_wp2
    go_ret
    exact ⟨_, rfl, by rw [H.out]; rfl, hq⟩
theorem BlkE (w : World) (n : Int) (ad : Option Addr) (l c : Nat) (p q m : Int) : Blk ((w.alloc (.cells #[.int .i64 n, .slice ad l c] 24)).alloc (.cells #[.int .i64 p, .int .i64 q, .int .i64 m] 81)) (w.heap.size + 1) [.int .i64 p, .int .i64 q, .int .i64 m] 81 := by
  have := Blk.new (w.alloc (.cells #[.int .i64 n, .slice ad l c] 24)) [.int .i64 p, .int .i64 q, .int .i64 m] 81
  rwa [World.size_alloc] at this
/-- The error of an edge behind the one before. -/
def ecode (n : Int) (es : List (Int × Int × Int)) (i : Nat) : Int :=
  if eOk n (es.getD i (0, 0, 0)) then (if (es.getD i (0, 0, 0)).1 ≤ (es.getD i (0, 0, 0)).2.1 ∧ lt2 (lastE es i) ((es.getD i (0, 0, 0)).1, (es.getD i (0, 0, 0)).2.1) = true then 0 else 9) else 2
theorem estep_code (n : Int) (es : List (Int × Int × Int)) (k : Nat) (h : k < es.length) :
    estep n (lastE es k) (es.drop k) = if ecode n es k = 0 then estep n (lastE es (k + 1)) (es.drop (k + 1)) else ecode n es k := by
  rw [estep_at n _ es k h, lastE_succ es k h]
  have e : es.getD k (0, 0, 0) = es[k] := by rw [List.getD_eq_getElem?_getD, List.getElem?_eq_getElem h]; rfl
  unfold ecode
  rw [e]
  split
  · split
    · simp
    · simp
  · simp
set_option maxHeartbeats 2000000 in
theorem redge_any (w : World) (n : Int) (v : Value) (es : List (Int × Int × Int)) (hv : SlK e3 3 w v es) (i : Nat) (hin : i < es.length) :
    Calls Tryz.prog 66 #[.agg #[.int .i64 n, v], .int .i64 i] w (Rets fun r w' => r = .int .i64 (ecode n es i) ∧ Below w.heap.size w w') := by
  obtain ⟨ad, b, o, c, rfl, hi, hp, hc, hm⟩ := hv.open elemEdge
  unfold maxLen at hm
  clear hv
  have he : es.getD i (0, 0, 0) = es[i] := by rw [List.getD_eq_getElem?_getD, List.getElem?_eq_getElem hin]; rfl
  have hC : ecode n es i = if eOk n es[i] then (if es[i].1 ≤ es[i].2.1 ∧ lt2 (lastE es i) (es[i].1, es[i].2.1) = true then 0 else 9) else 2 := by unfold ecode; rw [he]
  have hlast : ∀ j, i = j + 1 → lastE es i = ((es.getD j (0, 0, 0)).1, (es.getD j (0, 0, 0)).2.1) := fun j e => by subst e; simp [lastE]
  have hprev : ∀ j, i = j + 1 → ∃ p q m, es.getD j (0, 0, 0) = (p, q, m) ∧ w.cell? ⟨b, o + j * 3, none⟩ = some (.int .i64 p) ∧ w.cell? ⟨b, o + j * 3 + 1, none⟩ = some (.int .i64 q) ∧ w.cell? ⟨b, o + j * 3 + 2, none⟩ = some (.int .i64 m) := fun j e => by
    have hj : j < es.length := by omega
    have e2 : es.getD j (0, 0, 0) = es[j] := by rw [List.getD_eq_getElem?_getD, List.getElem?_eq_getElem hj]; rfl
    exact ⟨es[j].1, es[j].2.1, es[j].2.2, e2, hp.2 j hj 0 _ rfl, hp.2 j hj 1 _ rfl, hp.2 j hj 2 _ rfl⟩
  obtain ⟨⟨p, q, m⟩, hx⟩ : ∃ x, es[i] = x := ⟨_, rfl⟩
  have a0 : w.cell? ⟨b, o + i * 3, none⟩ = some (.int .i64 p) := hp.2 i hin 0 _ (by rw [hx]; rfl)
  have a1 : w.cell? ⟨b, o + i * 3 + 1, none⟩ = some (.int .i64 q) := hp.2 i hin 1 _ (by rw [hx]; rfl)
  have a2 : w.cell? ⟨b, o + i * 3 + 2, none⟩ = some (.int .i64 m) := hp.2 i hin 2 _ (by rw [hx]; rfl)
  have hbl := hp.1 (by omega)
  rw [hx] at hC
  have HQ := Lib.hid ((Below.refl w.heap.size w).alloc (Nat.le_refl _) (.cells #[.int .i64 n, .slice ad es.length c] 24))
  have HG := Lib.hid (Blk.new w [.int .i64 n, .slice ad es.length c] 24)
  have HC := Lib.hid hC; have HLA := Lib.hid hlast; have HPR := Lib.hid hprev
  clear hx he hC hlast hprev
  by_cases hE : eOk n (p, q, m) = true
  · have hE2 : (vtx n p = true ∧ vtx n q = true) ∧ 1 ≤ m ∧ m ≤ 50 := by simpa [eOk] using hE
    obtain ⟨⟨hv1, hv2⟩, hm1, hm2⟩ := hE2
    have hp0 : 0 ≤ p := ((vtx_iff _ _).1 hv1).1
    have hC2 := HC.out
    rw [if_pos hE] at hC2
    simp only at hC2
    have V1 := Lib.hid hv1; have V2 := Lib.hid hv2
    clear hv1 hv2 hE HC
    by_cases hpq : q < p
    · rw [if_neg (fun h => by omega)] at hC2
      have H := Lib.hid hC2
      clear hC2
      go_enter Tryz.func66, Tryz.ntmps66
      go_wp2_with (first
        | (go_at_call 92; (with_reducible refine (rVertex_any _ n p (.slice ad es.length c) ad es.length c rfl).mono ?_); rintro e w1 ⟨v, rfl, rfl, hb1⟩; rw [V1.out]; have HG1 := Lib.hid ((HG.out.alloc (.cells #[.int .i64 p, .int .i64 q, .int .i64 m] 81)).below hb1 (Nat.le_refl _)); have HX1 := Lib.hid ((BlkE w n ad es.length c p q m).below hb1 (Nat.le_refl _)); have d0 := HG1.out.cell 0 _ rfl; have d1 := HG1.out.cell 1 _ rfl; have y0 := HX1.out.cell 0 _ rfl; have y1 := HX1.out.cell 1 _ rfl; have y2 := HX1.out.cell 2 _ rfl; have q1 := (HQ.out.alloc HQ.out.size (.cells #[.int .i64 p, .int .i64 q, .int .i64 m] 81)).trans (hb1.mono (by simp; omega)); have hz1 := hb1.size)
        | (go_at_call 92; (with_reducible refine (rVertex_any _ n q (.slice ad es.length c) ad es.length c rfl).mono ?_); rintro e w2 ⟨v, rfl, rfl, hb2⟩; rw [V2.out]; have HG2 := Lib.hid (HG1.out.below hb2 (Nat.le_refl _)); have HX2 := Lib.hid (HX1.out.below hb2 (Nat.le_refl _)); have e0 := HG2.out.cell 0 _ rfl; have e1 := HG2.out.cell 1 _ rfl; have x0 := HX2.out.cell 0 _ rfl; have x1' := HX2.out.cell 1 _ rfl; have x2' := HX2.out.cell 2 _ rfl; have q2 := q1.trans (hb2.mono q1.size); have hz2 := hb2.size; have hk2 := HX2.out.lt; have hk3 := HG2.out.lt; have HBC := fun (u : Nat) => q2.cell (p := ⟨b, u, none⟩) hbl))
      go_ret
      exact ⟨_, rfl, by rw [H.out]; rfl, q2⟩
    · rcases i with _ | j
      · have hl : lt2 (lastE es 0) (p, q) = true := by simp [lt2, lastE]; omega
        rw [if_pos ⟨by omega, hl⟩] at hC2
        have H := Lib.hid hC2
        rw [Nat.zero_mul, Nat.add_zero] at a0 a1 a2
        clear hC2 hl
        go_enter Tryz.func66, Tryz.ntmps66
        go_wp2_with (first
          | (go_at_call 92; (with_reducible refine (rVertex_any _ n p (.slice ad es.length c) ad es.length c rfl).mono ?_); rintro e w1 ⟨v, rfl, rfl, hb1⟩; rw [V1.out]; have HG1 := Lib.hid ((HG.out.alloc (.cells #[.int .i64 p, .int .i64 q, .int .i64 m] 81)).below hb1 (Nat.le_refl _)); have HX1 := Lib.hid ((BlkE w n ad es.length c p q m).below hb1 (Nat.le_refl _)); have d0 := HG1.out.cell 0 _ rfl; have d1 := HG1.out.cell 1 _ rfl; have y0 := HX1.out.cell 0 _ rfl; have y1 := HX1.out.cell 1 _ rfl; have y2 := HX1.out.cell 2 _ rfl; have q1 := (HQ.out.alloc HQ.out.size (.cells #[.int .i64 p, .int .i64 q, .int .i64 m] 81)).trans (hb1.mono (by simp; omega)); have hz1 := hb1.size)
          | (go_at_call 92; (with_reducible refine (rVertex_any _ n q (.slice ad es.length c) ad es.length c rfl).mono ?_); rintro e w2 ⟨v, rfl, rfl, hb2⟩; rw [V2.out]; have HG2 := Lib.hid (HG1.out.below hb2 (Nat.le_refl _)); have HX2 := Lib.hid (HX1.out.below hb2 (Nat.le_refl _)); have e0 := HG2.out.cell 0 _ rfl; have e1 := HG2.out.cell 1 _ rfl; have x0 := HX2.out.cell 0 _ rfl; have x1' := HX2.out.cell 1 _ rfl; have x2' := HX2.out.cell 2 _ rfl; have q2 := q1.trans (hb2.mono q1.size); have hz2 := hb2.size; have hk2 := HX2.out.lt; have hk3 := HG2.out.lt; have HBC := fun (u : Nat) => q2.cell (p := ⟨b, u, none⟩) hbl))
        go_ret
        exact ⟨_, rfl, by rw [H.out]; rfl, q2⟩
      · obtain ⟨x1, x2, x3, hx, r0, r1, r2⟩ := HPR.out j rfl
        have hl := HLA.out j rfl
        rw [hx] at hl
        simp only at hl
        rw [hl] at hC2
        clear hx hl
        have hlt2 : lt2 (x1, x2) (p, q) = true ↔ x1 < p ∨ (x1 = p ∧ x2 < q) := by simp [lt2]
        by_cases hlt : x1 < p ∨ (x1 = p ∧ x2 < q)
        · rw [if_pos ⟨by omega, hlt2.2 hlt⟩] at hC2
          have H := Lib.hid hC2
          clear hC2 hlt2
          have t1 : decide (p < x1) = false := by simp; omega
          have t2 : (p == x1) = true ∨ (p == x1) = false := by cases (p == x1) <;> simp
          rcases hlt with hlt | ⟨he, hlt⟩
          · have t3 : (p == x1) = false := by simp; omega
            clear t2
            go_enter Tryz.func66, Tryz.ntmps66
            go_wp2_with (first
              | (go_at_call 92; (with_reducible refine (rVertex_any _ n p (.slice ad es.length c) ad es.length c rfl).mono ?_); rintro e w1 ⟨v, rfl, rfl, hb1⟩; rw [V1.out]; have HG1 := Lib.hid ((HG.out.alloc (.cells #[.int .i64 p, .int .i64 q, .int .i64 m] 81)).below hb1 (Nat.le_refl _)); have HX1 := Lib.hid ((BlkE w n ad es.length c p q m).below hb1 (Nat.le_refl _)); have d0 := HG1.out.cell 0 _ rfl; have d1 := HG1.out.cell 1 _ rfl; have y0 := HX1.out.cell 0 _ rfl; have y1 := HX1.out.cell 1 _ rfl; have y2 := HX1.out.cell 2 _ rfl; have q1 := (HQ.out.alloc HQ.out.size (.cells #[.int .i64 p, .int .i64 q, .int .i64 m] 81)).trans (hb1.mono (by simp; omega)); have hz1 := hb1.size)
              | (go_at_call 92; (with_reducible refine (rVertex_any _ n q (.slice ad es.length c) ad es.length c rfl).mono ?_); rintro e w2 ⟨v, rfl, rfl, hb2⟩; rw [V2.out]; have HG2 := Lib.hid (HG1.out.below hb2 (Nat.le_refl _)); have HX2 := Lib.hid (HX1.out.below hb2 (Nat.le_refl _)); have e0 := HG2.out.cell 0 _ rfl; have e1 := HG2.out.cell 1 _ rfl; have x0 := HX2.out.cell 0 _ rfl; have x1' := HX2.out.cell 1 _ rfl; have x2' := HX2.out.cell 2 _ rfl; have q2 := q1.trans (hb2.mono q1.size); have hz2 := hb2.size; have hk2 := HX2.out.lt; have hk3 := HG2.out.lt; have HBC := fun (u : Nat) => q2.cell (p := ⟨b, u, none⟩) hbl))
            go_ret
            exact ⟨_, rfl, by rw [H.out]; rfl, (q2.alloc q2.size _)⟩
          · obtain rfl : p = x1 := he.symm
            have t3 : (p == p) = true := by simp
            clear he
            have t4 : decide (q ≤ x2) = false := by simp; omega
            clear t2
            go_enter Tryz.func66, Tryz.ntmps66
            go_wp2_with (first
              | (go_at_call 92; (with_reducible refine (rVertex_any _ n p (.slice ad es.length c) ad es.length c rfl).mono ?_); rintro e w1 ⟨v, rfl, rfl, hb1⟩; rw [V1.out]; have HG1 := Lib.hid ((HG.out.alloc (.cells #[.int .i64 p, .int .i64 q, .int .i64 m] 81)).below hb1 (Nat.le_refl _)); have HX1 := Lib.hid ((BlkE w n ad es.length c p q m).below hb1 (Nat.le_refl _)); have d0 := HG1.out.cell 0 _ rfl; have d1 := HG1.out.cell 1 _ rfl; have y0 := HX1.out.cell 0 _ rfl; have y1 := HX1.out.cell 1 _ rfl; have y2 := HX1.out.cell 2 _ rfl; have q1 := (HQ.out.alloc HQ.out.size (.cells #[.int .i64 p, .int .i64 q, .int .i64 m] 81)).trans (hb1.mono (by simp; omega)); have hz1 := hb1.size)
              | (go_at_call 92; (with_reducible refine (rVertex_any _ n q (.slice ad es.length c) ad es.length c rfl).mono ?_); rintro e w2 ⟨v, rfl, rfl, hb2⟩; rw [V2.out]; have HG2 := Lib.hid (HG1.out.below hb2 (Nat.le_refl _)); have HX2 := Lib.hid (HX1.out.below hb2 (Nat.le_refl _)); have e0 := HG2.out.cell 0 _ rfl; have e1 := HG2.out.cell 1 _ rfl; have x0 := HX2.out.cell 0 _ rfl; have x1' := HX2.out.cell 1 _ rfl; have x2' := HX2.out.cell 2 _ rfl; have q2 := q1.trans (hb2.mono q1.size); have hz2 := hb2.size; have hk2 := HX2.out.lt; have hk3 := HG2.out.lt; have HBC := fun (u : Nat) => q2.cell (p := ⟨b, u, none⟩) hbl))
            go_ret
            exact ⟨_, rfl, by rw [H.out]; rfl, (q2.alloc q2.size _)⟩
        · rw [if_neg (fun h => hlt (hlt2.1 h.2))] at hC2
          have H := Lib.hid hC2
          clear hC2 hlt2
          by_cases hpx : p < x1
          · clear hlt
            go_enter Tryz.func66, Tryz.ntmps66
            go_wp2_with (first
              | (go_at_call 92; (with_reducible refine (rVertex_any _ n p (.slice ad es.length c) ad es.length c rfl).mono ?_); rintro e w1 ⟨v, rfl, rfl, hb1⟩; rw [V1.out]; have HG1 := Lib.hid ((HG.out.alloc (.cells #[.int .i64 p, .int .i64 q, .int .i64 m] 81)).below hb1 (Nat.le_refl _)); have HX1 := Lib.hid ((BlkE w n ad es.length c p q m).below hb1 (Nat.le_refl _)); have d0 := HG1.out.cell 0 _ rfl; have d1 := HG1.out.cell 1 _ rfl; have y0 := HX1.out.cell 0 _ rfl; have y1 := HX1.out.cell 1 _ rfl; have y2 := HX1.out.cell 2 _ rfl; have q1 := (HQ.out.alloc HQ.out.size (.cells #[.int .i64 p, .int .i64 q, .int .i64 m] 81)).trans (hb1.mono (by simp; omega)); have hz1 := hb1.size)
              | (go_at_call 92; (with_reducible refine (rVertex_any _ n q (.slice ad es.length c) ad es.length c rfl).mono ?_); rintro e w2 ⟨v, rfl, rfl, hb2⟩; rw [V2.out]; have HG2 := Lib.hid (HG1.out.below hb2 (Nat.le_refl _)); have HX2 := Lib.hid (HX1.out.below hb2 (Nat.le_refl _)); have e0 := HG2.out.cell 0 _ rfl; have e1 := HG2.out.cell 1 _ rfl; have x0 := HX2.out.cell 0 _ rfl; have x1' := HX2.out.cell 1 _ rfl; have x2' := HX2.out.cell 2 _ rfl; have q2 := q1.trans (hb2.mono q1.size); have hz2 := hb2.size; have hk2 := HX2.out.lt; have hk3 := HG2.out.lt; have HBC := fun (u : Nat) => q2.cell (p := ⟨b, u, none⟩) hbl))
            go_ret
            exact ⟨_, rfl, by rw [H.out]; rfl, (q2.alloc q2.size _)⟩
          · obtain rfl : p = x1 := by omega
            have t1 : decide (p < p) = false := by simp
            have t3 : (p == p) = true := by simp
            have t4 : q ≤ x2 := by omega
            clear hlt hpx
            go_enter Tryz.func66, Tryz.ntmps66
            go_wp2_with (first
              | (go_at_call 92; (with_reducible refine (rVertex_any _ n p (.slice ad es.length c) ad es.length c rfl).mono ?_); rintro e w1 ⟨v, rfl, rfl, hb1⟩; rw [V1.out]; have HG1 := Lib.hid ((HG.out.alloc (.cells #[.int .i64 p, .int .i64 q, .int .i64 m] 81)).below hb1 (Nat.le_refl _)); have HX1 := Lib.hid ((BlkE w n ad es.length c p q m).below hb1 (Nat.le_refl _)); have d0 := HG1.out.cell 0 _ rfl; have d1 := HG1.out.cell 1 _ rfl; have y0 := HX1.out.cell 0 _ rfl; have y1 := HX1.out.cell 1 _ rfl; have y2 := HX1.out.cell 2 _ rfl; have q1 := (HQ.out.alloc HQ.out.size (.cells #[.int .i64 p, .int .i64 q, .int .i64 m] 81)).trans (hb1.mono (by simp; omega)); have hz1 := hb1.size)
              | (go_at_call 92; (with_reducible refine (rVertex_any _ n q (.slice ad es.length c) ad es.length c rfl).mono ?_); rintro e w2 ⟨v, rfl, rfl, hb2⟩; rw [V2.out]; have HG2 := Lib.hid (HG1.out.below hb2 (Nat.le_refl _)); have HX2 := Lib.hid (HX1.out.below hb2 (Nat.le_refl _)); have e0 := HG2.out.cell 0 _ rfl; have e1 := HG2.out.cell 1 _ rfl; have x0 := HX2.out.cell 0 _ rfl; have x1' := HX2.out.cell 1 _ rfl; have x2' := HX2.out.cell 2 _ rfl; have q2 := q1.trans (hb2.mono q1.size); have hz2 := hb2.size; have hk2 := HX2.out.lt; have hk3 := HG2.out.lt; have HBC := fun (u : Nat) => q2.cell (p := ⟨b, u, none⟩) hbl))
            go_ret
            exact ⟨_, rfl, by rw [H.out]; rfl, (q2.alloc q2.size _)⟩
  · have hC2 := HC.out
    rw [if_neg hE] at hC2
    have H := Lib.hid hC2
    have hc : vtx n p = false ∨ (vtx n p = true ∧ vtx n q = false) ∨ (vtx n p = true ∧ vtx n q = true ∧ m < 1) ∨ (vtx n p = true ∧ vtx n q = true ∧ ¬ m < 1 ∧ 50 < m) := by
      cases h1 : vtx n p
      · exact .inl rfl
      · cases h2 : vtx n q
        · exact .inr (.inl ⟨rfl, rfl⟩)
        · simp [eOk, h1, h2] at hE
          by_cases h3 : m < 1
          · exact .inr (.inr (.inl ⟨rfl, rfl, h3⟩))
          · exact .inr (.inr (.inr ⟨rfl, rfl, h3, hE (by omega)⟩))
    clear hC2 hE HC HLA HPR
    rcases hc with h1 | ⟨h1, h2⟩ | ⟨h1, h2, h3⟩ | ⟨h1, h2, h3, h4⟩
    · have V1 := Lib.hid h1
      clear h1
      go_enter Tryz.func66, Tryz.ntmps66
      go_wp2_with (go_at_call 92; (with_reducible refine (rVertex_any _ n p (.slice ad es.length c) ad es.length c rfl).mono ?_); rintro e w1 ⟨v, rfl, rfl, hb1⟩; rw [V1.out]; have HG1 := Lib.hid ((HG.out.alloc (.cells #[.int .i64 p, .int .i64 q, .int .i64 m] 81)).below hb1 (Nat.le_refl _)); have HX1 := Lib.hid ((BlkE w n ad es.length c p q m).below hb1 (Nat.le_refl _)); have d0 := HG1.out.cell 0 _ rfl; have d1 := HG1.out.cell 1 _ rfl; have y0 := HX1.out.cell 0 _ rfl; have y1 := HX1.out.cell 1 _ rfl; have y2 := HX1.out.cell 2 _ rfl; have q1 := (HQ.out.alloc HQ.out.size (.cells #[.int .i64 p, .int .i64 q, .int .i64 m] 81)).trans (hb1.mono (by simp; omega)); have hz1 := hb1.size)
      go_ret
      exact ⟨_, rfl, by rw [H.out]; rfl, q1⟩
    · have V1 := Lib.hid h1; have V2 := Lib.hid h2
      clear h1 h2
      go_enter Tryz.func66, Tryz.ntmps66
      go_wp2_with (first
        | (go_at_call 92; (with_reducible refine (rVertex_any _ n p (.slice ad es.length c) ad es.length c rfl).mono ?_); rintro e w1 ⟨v, rfl, rfl, hb1⟩; rw [V1.out]; have HG1 := Lib.hid ((HG.out.alloc (.cells #[.int .i64 p, .int .i64 q, .int .i64 m] 81)).below hb1 (Nat.le_refl _)); have HX1 := Lib.hid ((BlkE w n ad es.length c p q m).below hb1 (Nat.le_refl _)); have d0 := HG1.out.cell 0 _ rfl; have d1 := HG1.out.cell 1 _ rfl; have y0 := HX1.out.cell 0 _ rfl; have y1 := HX1.out.cell 1 _ rfl; have y2 := HX1.out.cell 2 _ rfl; have q1 := (HQ.out.alloc HQ.out.size (.cells #[.int .i64 p, .int .i64 q, .int .i64 m] 81)).trans (hb1.mono (by simp; omega)); have hz1 := hb1.size)
        | (go_at_call 92; (with_reducible refine (rVertex_any _ n q (.slice ad es.length c) ad es.length c rfl).mono ?_); rintro e w2 ⟨v, rfl, rfl, hb2⟩; rw [V2.out]; have HG2 := Lib.hid (HG1.out.below hb2 (Nat.le_refl _)); have HX2 := Lib.hid (HX1.out.below hb2 (Nat.le_refl _)); have e0 := HG2.out.cell 0 _ rfl; have e1 := HG2.out.cell 1 _ rfl; have x0 := HX2.out.cell 0 _ rfl; have x1' := HX2.out.cell 1 _ rfl; have x2' := HX2.out.cell 2 _ rfl; have q2 := q1.trans (hb2.mono q1.size); have hz2 := hb2.size; have hk2 := HX2.out.lt; have hk3 := HG2.out.lt; have HBC := fun (u : Nat) => q2.cell (p := ⟨b, u, none⟩) hbl))
      go_ret
      exact ⟨_, rfl, by rw [H.out]; rfl, q2⟩
    · have V1 := Lib.hid h1; have V2 := Lib.hid h2
      clear h1 h2
      go_enter Tryz.func66, Tryz.ntmps66
      go_wp2_with (first
        | (go_at_call 92; (with_reducible refine (rVertex_any _ n p (.slice ad es.length c) ad es.length c rfl).mono ?_); rintro e w1 ⟨v, rfl, rfl, hb1⟩; rw [V1.out]; have HG1 := Lib.hid ((HG.out.alloc (.cells #[.int .i64 p, .int .i64 q, .int .i64 m] 81)).below hb1 (Nat.le_refl _)); have HX1 := Lib.hid ((BlkE w n ad es.length c p q m).below hb1 (Nat.le_refl _)); have d0 := HG1.out.cell 0 _ rfl; have d1 := HG1.out.cell 1 _ rfl; have y0 := HX1.out.cell 0 _ rfl; have y1 := HX1.out.cell 1 _ rfl; have y2 := HX1.out.cell 2 _ rfl; have q1 := (HQ.out.alloc HQ.out.size (.cells #[.int .i64 p, .int .i64 q, .int .i64 m] 81)).trans (hb1.mono (by simp; omega)); have hz1 := hb1.size)
        | (go_at_call 92; (with_reducible refine (rVertex_any _ n q (.slice ad es.length c) ad es.length c rfl).mono ?_); rintro e w2 ⟨v, rfl, rfl, hb2⟩; rw [V2.out]; have HG2 := Lib.hid (HG1.out.below hb2 (Nat.le_refl _)); have HX2 := Lib.hid (HX1.out.below hb2 (Nat.le_refl _)); have e0 := HG2.out.cell 0 _ rfl; have e1 := HG2.out.cell 1 _ rfl; have x0 := HX2.out.cell 0 _ rfl; have x1' := HX2.out.cell 1 _ rfl; have x2' := HX2.out.cell 2 _ rfl; have q2 := q1.trans (hb2.mono q1.size); have hz2 := hb2.size; have hk2 := HX2.out.lt; have hk3 := HG2.out.lt; have HBC := fun (u : Nat) => q2.cell (p := ⟨b, u, none⟩) hbl))
      go_ret
      exact ⟨_, rfl, by rw [H.out]; rfl, q2⟩
    · have V1 := Lib.hid h1; have V2 := Lib.hid h2
      clear h1 h2
      go_enter Tryz.func66, Tryz.ntmps66
      go_wp2_with (first
        | (go_at_call 92; (with_reducible refine (rVertex_any _ n p (.slice ad es.length c) ad es.length c rfl).mono ?_); rintro e w1 ⟨v, rfl, rfl, hb1⟩; rw [V1.out]; have HG1 := Lib.hid ((HG.out.alloc (.cells #[.int .i64 p, .int .i64 q, .int .i64 m] 81)).below hb1 (Nat.le_refl _)); have HX1 := Lib.hid ((BlkE w n ad es.length c p q m).below hb1 (Nat.le_refl _)); have d0 := HG1.out.cell 0 _ rfl; have d1 := HG1.out.cell 1 _ rfl; have y0 := HX1.out.cell 0 _ rfl; have y1 := HX1.out.cell 1 _ rfl; have y2 := HX1.out.cell 2 _ rfl; have q1 := (HQ.out.alloc HQ.out.size (.cells #[.int .i64 p, .int .i64 q, .int .i64 m] 81)).trans (hb1.mono (by simp; omega)); have hz1 := hb1.size)
        | (go_at_call 92; (with_reducible refine (rVertex_any _ n q (.slice ad es.length c) ad es.length c rfl).mono ?_); rintro e w2 ⟨v, rfl, rfl, hb2⟩; rw [V2.out]; have HG2 := Lib.hid (HG1.out.below hb2 (Nat.le_refl _)); have HX2 := Lib.hid (HX1.out.below hb2 (Nat.le_refl _)); have e0 := HG2.out.cell 0 _ rfl; have e1 := HG2.out.cell 1 _ rfl; have x0 := HX2.out.cell 0 _ rfl; have x1' := HX2.out.cell 1 _ rfl; have x2' := HX2.out.cell 2 _ rfl; have q2 := q1.trans (hb2.mono q1.size); have hz2 := hb2.size; have hk2 := HX2.out.lt; have hk3 := HG2.out.lt; have HBC := fun (u : Nat) => q2.cell (p := ⟨b, u, none⟩) hbl))
      go_ret
      exact ⟨_, rfl, by rw [H.out]; rfl, q2⟩
set_option maxHeartbeats 2000000 in
theorem rGCheck_any (w : World) (n : Int) (v : Value) (es : List (Int × Int × Int)) (hv : SlK e3 3 w v es) :
    Calls Tryz.prog 40 #[.agg #[.int .i64 n, v]] w (Rets fun r w' => r = .int .i64 (chkG n es) ∧ Below w.heap.size w w') := by
  have HV := Lib.hid hv
  obtain ⟨ad, b, o, c, rfl, hi, hp, hc, hm⟩ := hv.open elemEdge
  unfold maxLen at hm
  clear hv
  have HQ := Lib.hid ((Below.refl w.heap.size w).alloc (Nat.le_refl _) (.cells #[.int .i64 n, .slice ad es.length c] 24))
  have HG := Lib.hid (Blk.new w [.int .i64 n, .slice ad es.length c] 24)
  by_cases h1 : n < 1
  · have H : Hid (chkG n es = 2) := Lib.hid (by simp [chkG, h1])
    go_enter Tryz.func40, Tryz.ntmps40
    go_wp2
    go_ret
    exact ⟨_, rfl, by rw [H.out]; rfl, HQ.out⟩
  by_cases h12 : 12 < n
  · have H : Hid (chkG n es = 2) := Lib.hid (by simp [chkG, h12])
    go_enter Tryz.func40, Tryz.ntmps40
    go_wp2
    go_ret
    exact ⟨_, rfl, by rw [H.out]; rfl, HQ.out⟩
  have H : Hid (chkG n es = estep n (lastE es 0) (es.drop 0)) := Lib.hid (by simp [chkG, h1, h12, lastE])
  have HC := Lib.hid (fun k h => estep_code n es k h)
  obtain ⟨W, hW⟩ : ∃ W, w.alloc (.cells #[.int .i64 n, .slice ad es.length c] 24) = W := ⟨_, rfl⟩
  rw [show [Value.int .i64 n, .slice ad es.length c].toArray = #[Value.int .i64 n, .slice ad es.length c] from rfl, hW] at HG
  rw [hW] at HQ
  have HW := Lib.hid hW
  have B0 := Lib.hid (Below.refl W.heap.size W)
  clear hW
  go_enter Tryz.func40, Tryz.ntmps40
  go_wp2
  rw [HW.out]
  go_loopw [3] (fun i wr => ∃ k : Nat, k ≤ es.length ∧ i = .int .i64 k ∧ Hid (chkG n es = estep n (lastE es k) (es.drop k)) ∧ Hid (Below W.heap.size W wr)) (fun i _ => es.length - (intOf i).toNat)
  case atStart => exact ⟨0, Nat.zero_le _, rfl, H, B0⟩
  case round =>
    clear H B0
    obtain ⟨k, hk, rfl, hH, hB⟩ := hrel
    have hGr := HG.out.below hB.out (Nat.le_refl _)
    have g0 := hGr.cell 0 _ rfl
    have g1 := hGr.cell 1 _ rfl
    have HQW := Lib.hid (HQ.out.trans (hB.out.mono HQ.out.size))
    clear hGr
    by_cases hkn : k < es.length
    · have hst := HC.out k hkn
      rw [← hH.out] at hst
      by_cases hz : ecode n es k = 0
      · rw [if_pos hz] at hst
        have H := Lib.hid hst; have HZ := Lib.hid hz
        clear hst hz hH
        go_wp2_with (go_at_call 66; (with_reducible refine (redge_any _ n _ es (HV.out.below HQW.out (Nat.le_refl _)) k hkn).mono ?_); rintro e w2 ⟨v, rfl, rfl, hb2⟩; rw [HZ.out])
        go_roundw
        case rel => exact ⟨k + 1, by omega, by go_num, H, Lib.hid (hB.out.trans (hb2.mono hB.out.size))⟩
        case measure => simp [intOf]; omega
      · rw [if_neg hz] at hst
        have H := Lib.hid hst
        have hz2 : (ecode n es k != 0) = true := by simp [hz]
        clear hst hz hH
        go_wp2_with (go_at_call 66; (with_reducible refine (redge_any _ n _ es (HV.out.below HQW.out (Nat.le_refl _)) k hkn).mono ?_); rintro e w2 ⟨v, rfl, rfl, hb2⟩)
        go_ret
        exact ⟨_, rfl, by rw [H.out]; rfl, HQW.out.trans (hb2.mono HQW.out.size)⟩
    · obtain rfl : k = es.length := by omega
      have H : Hid (chkG n es = 0) := Lib.hid (by rw [hH.out, estep_end])
      clear hH
      go_wp2
      go_ret
      exact ⟨_, rfl, by rw [H.out]; rfl, HQW.out⟩
end Go.Proofs.YtlnhocgjgmhfgaaGreatDoor
