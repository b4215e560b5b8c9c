/- The walk of the Euler law's awake: the chapter's examples. -/
import Derived.Test.YtlnhocgjgmhfgaaGreatDoorPk35
import Derived.Deep.CutRange
namespace Go.Proofs.YtlnhocgjgmhfgaaGreatDoor
open Go.RowKit
set_option maxRecDepth 100000

section
variable {P : Program} {ops : Array Oper} {Q : Exit → Act → World → Prop} {md : Region.Mode} {S : World → Prop} {A : Nat → Bool}
/-- Two operations may come up. -/
theorem wpAnyJ_twoE {i j : Nat} {o o' : Oper} {fuel : Nat} {listed : Array Bool} {a : Act} {w : World} (hr : Region.ready md ops listed = [i, j]) (ho : ops[i]? = some o) (ho' : ops[j]? = some o')
    (h : ∀ K' : Act → World → Prop, Shut (∀ a w, (A i = true → S w) → wpAnyJ P md ops Q S A fuel (listed.setIfInBounds i true) a w → K' a w) → if Region.wanted o (yielded ops a.tmps) = true then Oper.wp P o a w K' Q else K' (a.put o.dst undef) w)
    (h' : ∀ K' : Act → World → Prop, Shut (∀ a w, (A j = true → S w) → wpAnyJ P md ops Q S A fuel (listed.setIfInBounds j true) a w → K' a w) → if Region.wanted o' (yielded ops a.tmps) = true then Oper.wp P o' a w K' Q else K' (a.put o'.dst undef) w) :
    wpAnyJ P md ops Q S A (fuel + 1) listed a w :=
  ⟨fun h0 => absurd (hr ▸ h0) (by simp), by
    rw [hr]
    intro k hk
    rcases List.mem_cons.1 hk with rfl | hk
    · exact wpOp_step ho (fun K' hK => h K' (fun a w hS hW => hK a w ⟨hS, hW⟩))
    · rw [List.mem_singleton] at hk
      subst hk
      exact wpOp_step ho' (fun K' hK => h' K' (fun a w hS hW => hK a w ⟨hS, hW⟩))⟩
end
/-- A slice of ints still reads so when a block of an int and a slice is written. -/
theorem slk_off2 {α : Type} {enc : α → List Value} {f : α → Int} (hen : ∀ x, enc x = [.int .i64 (f x)]) {w : World} {g : Nat} {v : Value} {xs : List α} {T : TypeId} {x : Int} {a : Option Addr} {n c : Nat} (h : SlK enc 1 w v xs) (hl : 2 ≤ xs.length) (hk : Blk w g [.int .i64 x, .slice a n c] T) (u1 u2 : Value) :
    SlK enc 1 ((w.setCell ⟨g, 0, none⟩ u1).setCell ⟨g, 1, none⟩ u2) v xs := by
  obtain ⟨ad, b, o, cp, rfl, ha, hc, hm, hn, hx⟩ := h
  have hne : b ≠ g := by
    rintro rfl
    have c0 := hx.2 0 (by omega) 0 (.int .i64 (f xs[0])) (by rw [hen]; rfl)
    have c1 := hx.2 1 (by omega) 0 (.int .i64 (f xs[1])) (by rw [hen]; rfl)
    rw [cell_of_row w b _ _ T (0, 0) hk] at c0 c1
    match o with
    | 0 => simp at c1
    | 1 => simp at c0
    | o + 2 =>
      rw [Array.getElem?_eq_none (by simp)] at c0
      simp at c0
  have e1 : ∀ i, ((w.setCell ⟨g, 0, none⟩ u1).setCell ⟨g, 1, none⟩ u2).cell? ⟨b, i, none⟩ = w.cell? ⟨b, i, none⟩ := fun i => by
    have e2 : ∀ (W : World) (j : Nat) (u : Value), (W.setCell ⟨g, j, none⟩ u).heap[b]? = W.heap[b]? := fun W j u => Below.heap_setCell _ _ _ _ hne
    simp only [World.cell?, e2]
  refine ⟨ad, b, o, cp, rfl, ha, hc, hm, hn, fun h0 => by simpa [World.setCell] using hx.1 h0, fun i hi j u hu => ?_⟩
  rw [e1]
  exact hx.2 i hi j u hu

set_option maxHeartbeats 8000000 in
theorem awake47 (w : World) (he : Env w) : Calls Tryz.prog 8 #[] w (Rets fun v w' => v = .bool true ∧ Below w.heap.size w w') := by
  have HE := Lib.hid he
  clear he
  have q0 := Below.refl w.heap.size w
  have A0 := Lib.hid (fun (w1 : World) (o : Obj) => (Below.refl w1.heap.size w1).alloc (Nat.le_refl _) o)
  have L1 := Lib.hid (fun (w1 : World) (e : TypeId) => show SlK i1 1 (w1.alloc (.cells #[.int .i64 0, .int .i64 2, .int .i64 1, .int .i64 3] e)) (.slice (some ⟨w1.heap.size, 0, none⟩) 4 4) [0, 2, 1, 3] from SlK.ofOwns (base := 0) (e := e) (fun _ => rfl) (show World.ownsRow (w1.alloc (.cells #[.int .i64 0, .int .i64 2, .int .i64 1, .int .i64 3] e)) 0 e 1 (.slice (some ⟨w1.heap.size, 0, none⟩) 4 4) 4 (([0, 2, 1, 3] : List Nat).flatMap i1) from ⟨rfl, .inr ⟨w1.heap.size, 4, #[.int .i64 0, .int .i64 2, .int .i64 1, .int .i64 3], rfl, Nat.zero_le _, heap_alloc_new w1 _, by omega, by unfold maxLen; omega, rfl, rfl⟩⟩) rfl)
  have L2 := Lib.hid (fun (w1 : World) (e : TypeId) => show SlK i1 1 (w1.alloc (.cells #[.int .i64 0, .int .i64 2, .int .i64 1, .int .i64 5, .int .i64 3, .int .i64 4] e)) (.slice (some ⟨w1.heap.size, 0, none⟩) 6 6) [0, 2, 1, 5, 3, 4] from SlK.ofOwns (base := 0) (e := e) (fun _ => rfl) (show World.ownsRow (w1.alloc (.cells #[.int .i64 0, .int .i64 2, .int .i64 1, .int .i64 5, .int .i64 3, .int .i64 4] e)) 0 e 1 (.slice (some ⟨w1.heap.size, 0, none⟩) 6 6) 6 (([0, 2, 1, 5, 3, 4] : List Nat).flatMap i1) from ⟨rfl, .inr ⟨w1.heap.size, 6, #[.int .i64 0, .int .i64 2, .int .i64 1, .int .i64 5, .int .i64 3, .int .i64 4], rfl, Nat.zero_le _, heap_alloc_new w1 _, by omega, by unfold maxLen; omega, rfl, rfl⟩⟩) rfl)
  have L3 := Lib.hid (fun (w1 : World) (e : TypeId) => show SlK i1 1 (w1.alloc (.cells #[.int .i64 1, .int .i64 3, .int .i64 0, .int .i64 2] e)) (.slice (some ⟨w1.heap.size, 0, none⟩) 4 4) [1, 3, 0, 2] from SlK.ofOwns (base := 0) (e := e) (fun _ => rfl) (show World.ownsRow (w1.alloc (.cells #[.int .i64 1, .int .i64 3, .int .i64 0, .int .i64 2] e)) 0 e 1 (.slice (some ⟨w1.heap.size, 0, none⟩) 4 4) 4 (([1, 3, 0, 2] : List Nat).flatMap i1) from ⟨rfl, .inr ⟨w1.heap.size, 4, #[.int .i64 1, .int .i64 3, .int .i64 0, .int .i64 2], rfl, Nat.zero_le _, heap_alloc_new w1 _, by omega, by unfold maxLen; omega, rfl, rfl⟩⟩) rfl)
  have L4 := Lib.hid (fun (w1 : World) (e : TypeId) => show SlK iz 1 (w1.alloc (.cells #[.int .i64 0, .int .i64 0] e)) (.slice (some ⟨w1.heap.size, 0, none⟩) 2 2) [0, 0] from SlK.ofOwns (base := 0) (e := e) (fun _ => rfl) (show World.ownsRow (w1.alloc (.cells #[.int .i64 0, .int .i64 0] e)) 0 e 1 (.slice (some ⟨w1.heap.size, 0, none⟩) 2 2) 2 (([0, 0] : List Int).flatMap iz) from ⟨rfl, .inr ⟨w1.heap.size, 2, #[.int .i64 0, .int .i64 0], rfl, Nat.zero_le _, heap_alloc_new w1 _, by omega, by unfold maxLen; omega, rfl, rfl⟩⟩) rfl)
  have E1 := Lib.hid (fun (w1 : World) (v u : Value) (hv : SlK i1 1 w1 v [0, 2, 1, 3]) (hu : SlK i1 1 w1 u [0, 2, 1, 3]) => show Calls Tryz.prog 18 #[v, u] w1 (Rets fun r w' => r = .bool true ∧ Below w1.heap.size w1 w') from by have := EqualI_any w1 v u [0, 2, 1, 3] [0, 2, 1, 3] hv hu; rwa [decide_eq_true rfl] at this)
  have E2 := Lib.hid (fun (w1 : World) (v u : Value) (hv : SlK i1 1 w1 v [0, 2, 1, 5, 3, 4]) (hu : SlK i1 1 w1 u [0, 2, 1, 5, 3, 4]) => show Calls Tryz.prog 18 #[v, u] w1 (Rets fun r w' => r = .bool true ∧ Below w1.heap.size w1 w') from by have := EqualI_any w1 v u [0, 2, 1, 5, 3, 4] [0, 2, 1, 5, 3, 4] hv hu; rwa [decide_eq_true rfl] at this)
  have E3 := Lib.hid (fun (w1 : World) (v u : Value) (hv : SlK i1 1 w1 v [1, 3, 0, 2]) (hu : SlK i1 1 w1 u [1, 3, 0, 2]) => show Calls Tryz.prog 18 #[v, u] w1 (Rets fun r w' => r = .bool true ∧ Below w1.heap.size w1 w') from by have := EqualI_any w1 v u [1, 3, 0, 2] [1, 3, 0, 2] hv hu; rwa [decide_eq_true rfl] at this)
  go_enter Tryz.func8, Tryz.ntmps8
  go_wp2_with (first
    | (go_at_call 18; (with_reducible refine (E2.out _ _ _ (SB.out.below (A0.out _ _) (Nat.le_refl _)) (L2.out _ _)).mono ?_); rintro e w13 ⟨v, rfl, rfl, h13⟩; have h13 := (A0.out _ _).trans (h13.mono (by simp)); have HE := Lib.hid (HE.out.below h13 (Nat.le_refl _)); have SB := Lib.hid (SB.out.below h13 (Nat.le_refl _)); have q13 := q12.trans (h13.mono q12.size))
    | (go_at_call 35; (with_reducible refine (tTrees _ _ ST.out HE.out).mono ?_); rintro e w12 ⟨v, rfl, rfl, h12⟩; have HE := Lib.hid (HE.out.below h12 (Nat.le_refl _)); have ST := Lib.hid (ST.out.below h12 (Nat.le_refl _)); have SB := Lib.hid (SB.out.below h12 (Nat.le_refl _)); have BD := Lib.hid (BD.out.below h12 (Nat.le_refl _)); have c12_BD_0 := BD.out.cell 0 _ rfl; have c12_BD_1 := BD.out.cell 1 _ rfl; have q12 := q11.trans (h12.mono q11.size))
    | (go_at_call 34; (with_reducible refine (tTours _ _ ST.out HE.out).mono ?_); rintro e w11 ⟨v, rfl, rfl, h11⟩; have HE := Lib.hid (HE.out.below h11 (Nat.le_refl _)); have ST := Lib.hid (ST.out.below h11 (Nat.le_refl _)); have SB := Lib.hid (SB.out.below h11 (Nat.le_refl _)); have BD := Lib.hid (BD.out.below h11 (Nat.le_refl _)); have c11_BD_0 := BD.out.cell 0 _ rfl; have c11_BD_1 := BD.out.cell 1 _ rfl; have q11 := q10.trans (h11.mono q10.size))
    | (go_at_call 31; (with_reducible refine (tTour _ _ ST.out).mono ?_); rintro e w10 ⟨v, rfl, u10, rfl, s10, h10⟩; obtain ⟨ua10, uc10, rfl⟩ : ∃ a c, u10 = .slice a 6 c := s10.form; have SB := Lib.hid s10; clear s10; have HE := Lib.hid (HE.out.below h10 (Nat.le_refl _)); have ST := Lib.hid (ST.out.below h10 (Nat.le_refl _)); have BD := Lib.hid (BD.out.below h10 (Nat.le_refl _)); have c10_BD_0 := BD.out.cell 0 _ rfl; have c10_BD_1 := BD.out.cell 1 _ rfl; have q10 := q9.trans (h10.mono q9.size))
    | (go_at_call 9; (with_reducible refine (triTwo _ _ SD.out).mono ?_); rintro e w9 ⟨v, rfl, u9, rfl, s9, h90⟩; obtain ⟨ua9, uc9, rfl⟩ : ∃ a c, u9 = .slice a 6 c := s9.form; have h9 := h90.alloc h90.size (.cells #[.int .i64 3, .slice ua9 6 uc9] 28); have ST := Lib.hid (s9.below (A0.out w9 (.cells #[.int .i64 3, .slice ua9 6 uc9] 28)) (Nat.le_refl _)); have BD := Lib.hid (Blk.new w9 [.int .i64 3, .slice ua9 6 uc9] 28); clear s9; have HE := Lib.hid (HE.out.below h9 (Nat.le_refl _)); have c9_BD_0 := BD.out.cell 0 _ rfl; have c9_BD_1 := BD.out.cell 1 _ rfl; have q9 := q8.trans (h9.mono q8.size))
    | (go_at_call 36; (with_reducible refine (Triangle_any _).mono ?_); rintro e w8 ⟨v, rfl, u8, rfl, s8, h8⟩; obtain ⟨ua8, uc8, rfl⟩ : ∃ a c, u8 = .slice a 3 c := s8.form; have SD := Lib.hid s8; clear s8; have HE := Lib.hid (HE.out.below h8 (Nat.le_refl _)); have q8 := q7.trans (h8.mono q7.size))
    | (go_at_call 18; (with_reducible refine (E1.out _ _ _ (SA.out.below (A0.out _ _) (Nat.le_refl _)) (L1.out _ _)).mono ?_); rintro e w7 ⟨v, rfl, rfl, h7⟩; have h7 := (A0.out _ _).trans (h7.mono (by simp)); have HE := Lib.hid (HE.out.below h7 (Nat.le_refl _)); have SA := Lib.hid (SA.out.below h7 (Nat.le_refl _)); have q7 := q6.trans (h7.mono q6.size))
    | (go_at_call 35; (with_reducible refine (dTrees _ _ SD.out HE.out).mono ?_); rintro e w6 ⟨v, rfl, rfl, h6⟩; have HE := Lib.hid (HE.out.below h6 (Nat.le_refl _)); have SA := Lib.hid (SA.out.below h6 (Nat.le_refl _)); have q6 := q5.trans (h6.mono q5.size))
    | (go_at_call 33; (with_reducible refine (Double_any _).mono ?_); rintro e w5 ⟨v, rfl, u5, rfl, s5, h5⟩; obtain ⟨ua5, uc5, rfl⟩ : ∃ a c, u5 = .slice a 2 c := s5.form; have SD := Lib.hid s5; clear s5; have HE := Lib.hid (HE.out.below h5 (Nat.le_refl _)); have SA := Lib.hid (SA.out.below h5 (Nat.le_refl _)); have q5 := q4.trans (h5.mono q4.size))
    | (go_at_call 34; (with_reducible refine (dTours _ _ SD.out HE.out).mono ?_); rintro e w4 ⟨v, rfl, rfl, h4⟩; have HE := Lib.hid (HE.out.below h4 (Nat.le_refl _)); have SA := Lib.hid (SA.out.below h4 (Nat.le_refl _)); have q4 := q3.trans (h4.mono q3.size))
    | (go_at_call 33; (with_reducible refine (Double_any _).mono ?_); rintro e w3 ⟨v, rfl, u3, rfl, s3, h3⟩; obtain ⟨ua3, uc3, rfl⟩ : ∃ a c, u3 = .slice a 2 c := s3.form; have SD := Lib.hid s3; clear s3; have HE := Lib.hid (HE.out.below h3 (Nat.le_refl _)); have SA := Lib.hid (SA.out.below h3 (Nat.le_refl _)); have q3 := q2.trans (h3.mono q2.size))
    | (go_at_call 31; (with_reducible refine (dTour _ _ SD.out).mono ?_); rintro e w2 ⟨v, rfl, u2, rfl, s2, h2⟩; obtain ⟨ua2, uc2, rfl⟩ : ∃ a c, u2 = .slice a 4 c := s2.form; have SA := Lib.hid s2; clear s2; have HE := Lib.hid (HE.out.below h2 (Nat.le_refl _)); have q2 := q1.trans (h2.mono q1.size))
    | (go_at_call 33; (with_reducible refine (Double_any _).mono ?_); rintro e w1 ⟨v, rfl, u1, rfl, s1, h1⟩; obtain ⟨ua1, uc1, rfl⟩ : ∃ a c, u1 = .slice a 2 c := s1.form; have SD := Lib.hid s1; clear s1; have HE := Lib.hid (HE.out.below h1 (Nat.le_refl _)); have q1 := q0.trans (h1.mono q0.size)))
  have HSU0 := Lib.hid (show SlK iz 1 ((w13.alloc (.cells #[.int .i64 0, .int .i64 0] 3)).alloc (.cells #[.int .i64 0, .slice (some ⟨w13.heap.size, 0, none⟩) 2 2] 38)) (.slice (some ⟨w13.heap.size, 0, none⟩) 2 2) [0, 0] from (L4.out w13 3).below (A0.out _ _) (Nat.le_refl _))
  have HK0 := Lib.hid (show Blk ((w13.alloc (.cells #[.int .i64 0, .int .i64 0] 3)).alloc (.cells #[.int .i64 0, .slice (some ⟨w13.heap.size, 0, none⟩) 2 2] 38)) (w13.heap.size + 1) [.int .i64 0, .slice (some ⟨w13.heap.size, 0, none⟩) 2 2] 38 from by have h := Blk.new (w13.alloc (.cells #[.int .i64 0, .int .i64 0] 3)) [.int .i64 0, .slice (some ⟨w13.heap.size, 0, none⟩) 2 2] 38; rw [World.size_alloc] at h; exact h)
  have HB0 := Lib.hid (show Below w.heap.size w ((w13.alloc (.cells #[.int .i64 0, .int .i64 0] 3)).alloc (.cells #[.int .i64 0, .slice (some ⟨w13.heap.size, 0, none⟩) 2 2] 38)) from (q13.alloc q13.size _).alloc (Nat.le_trans q13.size (by simp)) _)
  obtain ⟨wz, hwz⟩ : ∃ x, ((w13.alloc (.cells #[.int .i64 0, .int .i64 0] 3)).alloc (.cells #[.int .i64 0, .slice (some ⟨w13.heap.size, 0, none⟩) 2 2] 38)) = x := ⟨_, rfl⟩
  obtain ⟨D, hD⟩ : ∃ D, w13.heap.size + 1 = D := ⟨_, rfl⟩
  obtain ⟨UV, hUV⟩ : ∃ u, Value.slice (some ⟨w13.heap.size, 0, none⟩) 2 2 = u := ⟨_, rfl⟩
  rw [hwz] at HSU0 HK0 HB0 ⊢
  rw [hD] at HK0
  try rw [hD]
  rw [hUV] at HSU0 HK0
  try rw [hUV]
  clear hwz hD hUV
  clear L1 L2 L4 E1 E2
  go_cut [2, 12, 13, 14] (fun s2 p12 p13 s14 wx => ∃ g x y, s2 = .int .i64 0 ∧ p12 = .pointer (some ⟨D, 0, none⟩) ∧ p13 = .pointer (some ⟨g, 0, none⟩) ∧ s14 = y ∧ Hid (SlK iz 1 wx x [0, 0]) ∧ Hid (SlK iz 1 wx UV [0, 0]) ∧ Hid (SlK i1 1 wx y [1, 3, 0, 2]) ∧ Hid (Blk wx D [.int .i64 0, UV] 38) ∧ Hid (Blk wx g [.int .i64 0, x] 38) ∧ Hid (Below w.heap.size w wx))
  case first =>
    refine wp_regionJ (S := fun w' => w'.cell? ⟨D, 0, none⟩ = some (.int .i64 0) ∧ w'.cell? ⟨D, 1, none⟩ = some UV) (A := fun _ => true) (by kernel_rfl) ?_
    have HK := Lib.hid (show Blk wz.drew D [.int .i64 0, UV] 38 from HK0.out); have HU := Lib.hid (HSU0.out.below ((Below.refl wz.heap.size wz).drew) (Nat.le_refl _)); have HB := Lib.hid (HB0.out.drew)
    obtain ⟨v0, hv0⟩ : ∃ x, wz.drew = x := ⟨_, rfl⟩
    rw [hv0] at HK HU HB ⊢
    clear hv0 HK0 HSU0 HB0
    have hS := (⟨HK.out.cell 0 _ rfl, HK.out.cell 1 _ rfl⟩ : v0.cell? ⟨D, 0, none⟩ = some (.int .i64 0) ∧ v0.cell? ⟨D, 1, none⟩ = some UV)
    refine wpAnyJ_take (i := 1) (oi := { dst := some 96, op := .load _ (.tmp 12), type := _, pos := _, after := _, guard := _ }) (v := ?_) rfl (by kernel_rfl) (by kernel_rfl) (by kernel_rfl) (early_sat (by kernel_rfl)) (fun _ _ _ h => h) (Or.inl ⟨by rfl, ?_⟩) hS ?_
    rotate_left
    · intro wl hSw
      obtain ⟨s0, s1⟩ := hSw
      go_simp
      with_reducible rfl
    simp only [Act.put, List.setIfInBounds_toArray, List.set_cons_zero, List.set_cons_succ]
    refine wpAnyJ_twoE (i := 0) (j := 7) (o := { dst := some 95, op := _, type := _, pos := _, after := _, guard := _ }) (o' := { dst := some 13, op := _, type := _, pos := _, after := _, guard := _ }) (by kernel_rfl) rfl rfl (fun K hK => ?_) (fun K hK => ?_)
    · go_simp
      refine (Double_any v0).mono ?_
      rintro e5 v1 ⟨v5, rfl, u5, rfl, hs, hb⟩
      have HK := Lib.hid (HK.out.below hb (Nat.le_refl _)); have HU := Lib.hid (HU.out.below hb (Nat.le_refl _)); have HB := Lib.hid (HB.out.trans (hb.mono HB.out.size))
      have HV := Lib.hid hs
      clear hs
      have hS := (⟨HK.out.cell 0 _ rfl, HK.out.cell 1 _ rfl⟩ : v1.cell? ⟨D, 0, none⟩ = some (.int .i64 0) ∧ v1.cell? ⟨D, 1, none⟩ = some UV)
      clear hb
      refine hK.out _ _ (fun _ => hS) ?_
      try simp only [Act.put, List.setIfInBounds_toArray, List.set_cons_zero, List.set_cons_succ]
      clear hK K
      refine wpAnyJ_twoE (i := 2) (j := 7) (o := { dst := some 97, op := _, type := _, pos := _, after := _, guard := _ }) (o' := { dst := some 13, op := _, type := _, pos := _, after := _, guard := _ }) (by kernel_rfl) rfl rfl (fun K hK => ?_) (fun K hK => ?_)
      · go_simp
        refine (dWalk v1 _ _ HV.out HU.out).mono ?_
        rintro e5 v2 ⟨v5, rfl, x5, y5, rfl, hsx, hsy, hb⟩
        have HK := Lib.hid (HK.out.below hb (Nat.le_refl _)); have HU := Lib.hid (HU.out.below hb (Nat.le_refl _)); have HB := Lib.hid (HB.out.trans (hb.mono HB.out.size))
        obtain ⟨xa5, xc5, rfl⟩ : ∃ a c, x5 = .slice a 2 c := hsx.form
        have HX := Lib.hid hsx; have HY := Lib.hid hsy
        clear hsx hsy
        have hS := (⟨HK.out.cell 0 _ rfl, HK.out.cell 1 _ rfl⟩ : v2.cell? ⟨D, 0, none⟩ = some (.int .i64 0) ∧ v2.cell? ⟨D, 1, none⟩ = some UV)
        clear hb
        refine hK.out _ _ (fun _ => hS) ?_
        try simp only [Act.put, List.setIfInBounds_toArray, List.set_cons_zero, List.set_cons_succ]
        clear hK K
        refine wpAnyJ_take (i := 3) (oi := { dst := some 94, op := .move (.tmp 97), type := _, pos := _, after := _, guard := _ }) (v := ?_) rfl (by kernel_rfl) (by kernel_rfl) (by kernel_rfl) (early_sat (by kernel_rfl)) (fun _ _ _ h => h) (Or.inl ⟨by rfl, ?_⟩) hS ?_
        rotate_left
        · intro wl hSw
          obtain ⟨s0, s1⟩ := hSw
          go_simp
          with_reducible rfl
        simp only [Act.put, List.setIfInBounds_toArray, List.set_cons_zero, List.set_cons_succ]
        refine wpAnyJ_take (i := 4) (oi := { dst := some 98, op := .extract (.tmp 94) 0, type := _, pos := _, after := _, guard := _ }) (v := ?_) rfl (by kernel_rfl) (by kernel_rfl) (by kernel_rfl) (early_sat (by kernel_rfl)) (fun _ _ _ h => h) (Or.inl ⟨by rfl, ?_⟩) hS ?_
        rotate_left
        · intro wl hSw
          obtain ⟨s0, s1⟩ := hSw
          go_simp
          with_reducible rfl
        simp only [Act.put, List.setIfInBounds_toArray, List.set_cons_zero, List.set_cons_succ]
        refine wpAnyJ_take (i := 5) (oi := { dst := some 99, op := .extract (.tmp 94) 1, type := _, pos := _, after := _, guard := _ }) (v := ?_) rfl (by kernel_rfl) (by kernel_rfl) (by kernel_rfl) (early_sat (by kernel_rfl)) (fun _ _ _ h => h) (Or.inl ⟨by rfl, ?_⟩) hS ?_
        rotate_left
        · intro wl hSw
          obtain ⟨s0, s1⟩ := hSw
          go_simp
          with_reducible rfl
        simp only [Act.put, List.setIfInBounds_toArray, List.set_cons_zero, List.set_cons_succ]
        refine wpAnyJ_take (i := 6) (oi := { dst := some 100, op := .extract (.tmp 94) 2, type := _, pos := _, after := _, guard := _ }) (v := ?_) rfl (by kernel_rfl) (by kernel_rfl) (by kernel_rfl) (early_sat (by kernel_rfl)) (fun _ _ _ h => h) (Or.inl ⟨by rfl, ?_⟩) hS ?_
        rotate_left
        · intro wl hSw
          obtain ⟨s0, s1⟩ := hSw
          go_simp
          with_reducible rfl
        simp only [Act.put, List.setIfInBounds_toArray, List.set_cons_zero, List.set_cons_succ]
        refine wpAnyJ_only (i := 7) (o := { dst := some 13, op := _, type := _, pos := _, after := _, guard := _ }) (by kernel_rfl) rfl (fun K hK => ?_)
        go_simp
        have hb := (Below.refl v2.heap.size v2).alloc (Nat.le_refl _) (.cells #[.int .i64 0, .slice none 0 0] 38)
        have HGL := Lib.hid (show D < v2.heap.size from HK.out.lt)
        have HGE := Lib.hid (show w.heap.size ≤ v2.heap.size from HB.out.size)
        have HK := Lib.hid (HK.out.below hb (Nat.le_refl _)); have HU := Lib.hid (HU.out.below hb (Nat.le_refl _)); have HX := Lib.hid (HX.out.below hb (Nat.le_refl _)); have HY := Lib.hid (HY.out.below hb (Nat.le_refl _)); have HB := Lib.hid (HB.out.trans (hb.mono HB.out.size))
        have HG := Lib.hid (Blk.new v2 [.int .i64 0, .slice none 0 0] 38)
        obtain ⟨g, hg⟩ : ∃ g, v2.heap.size = g := ⟨_, rfl⟩
        obtain ⟨v3, hv⟩ : ∃ x, v2.alloc (.cells #[.int .i64 0, .slice none 0 0] 38) = x := ⟨_, rfl⟩
        change Hid (Blk (v2.alloc (.cells #[.int .i64 0, .slice none 0 0] 38)) v2.heap.size [.int .i64 0, .slice none 0 0] 38) at HG
        rw [hv, hg] at HG
        rw [hg] at HGL HGE ⊢
        rw [hv] at HK HU HX HY HB ⊢
        have hS := (⟨HK.out.cell 0 _ rfl, HK.out.cell 1 _ rfl⟩ : v3.cell? ⟨D, 0, none⟩ = some (.int .i64 0) ∧ v3.cell? ⟨D, 1, none⟩ = some UV)
        clear hb hg hv
        refine hK.out _ _ (fun _ => hS) ?_
        try simp only [Act.put, List.setIfInBounds_toArray, List.set_cons_zero, List.set_cons_succ]
        clear hK K
        have m0 := HG.out.cell 0 _ rfl; have m1 := HG.out.cell 1 _ rfl; have f0 := HG.out.free 0; have f1 := HG.out.free 1; have hml := HG.out.lt
        have HK := Lib.hid (((HK.out.setCell (g' := g) (j := 0) (by have := HGL.out; omega) (.int .i64 0)).setCell (g' := g) (j := 1) (by have := HGL.out; omega) (.slice xa5 2 xc5)))
        have hS := (⟨HK.out.cell 0 _ rfl, HK.out.cell 1 _ rfl⟩ : ((v3.setCell ⟨g, 0, none⟩ (.int .i64 0)).setCell ⟨g, 1, none⟩ (.slice xa5 2 xc5)).cell? ⟨D, 0, none⟩ = some (.int .i64 0) ∧ ((v3.setCell ⟨g, 0, none⟩ (.int .i64 0)).setCell ⟨g, 1, none⟩ (.slice xa5 2 xc5)).cell? ⟨D, 1, none⟩ = some UV)
        refine wpAnyJ_only (i := 8) (o := { dst := none, op := .store _ (.tmp 13) (.tmp 98), type := _, pos := _, after := _, guard := _ }) (by kernel_rfl) rfl (fun K hK => ?_)
        go_simp
        refine hK.out _ _ (fun _ => hS) ?_
        try simp only [Act.put, List.setIfInBounds_toArray, List.set_cons_zero, List.set_cons_succ]
        clear hK K
        refine wpAnyJ_take (i := 9) (oi := { dst := some 14, op := .assign (.tmp 99), type := _, pos := _, after := _, guard := _ }) (v := ?_) rfl (by kernel_rfl) (by kernel_rfl) (by kernel_rfl) (early_sat (by kernel_rfl)) (fun _ _ _ h => h) (Or.inl ⟨by rfl, ?_⟩) hS ?_
        rotate_left
        · intro wl hSw
          obtain ⟨s0, s1⟩ := hSw
          go_simp
          with_reducible rfl
        simp only [Act.put, List.setIfInBounds_toArray, List.set_cons_zero, List.set_cons_succ]
        refine wpAnyJ_take (i := 10) (oi := { dst := some 2, op := .assign (.tmp 100), type := _, pos := _, after := _, guard := _ }) (v := ?_) rfl (by kernel_rfl) (by kernel_rfl) (by kernel_rfl) (early_sat (by kernel_rfl)) (fun _ _ _ h => h) (Or.inl ⟨by rfl, ?_⟩) hS ?_
        rotate_left
        · intro wl hSw
          obtain ⟨s0, s1⟩ := hSw
          go_simp
          with_reducible rfl
        simp only [Act.put, List.setIfInBounds_toArray, List.set_cons_zero, List.set_cons_succ]
        refine wpAnyJ_done (by kernel_rfl) ?_ _
        clear m0 m1 f0 f1 hml hS
        go_wp2
        go_meet
        case rel => exact ⟨g, _, y5, rfl, rfl, rfl, rfl, Lib.hid (slk_off2 (f := id) (fun _ => rfl) HX.out (by decide) HG.out _ (.slice xa5 2 xc5)), Lib.hid (slk_off2 (f := id) (fun _ => rfl) HU.out (by decide) HG.out _ (.slice xa5 2 xc5)), Lib.hid (slk_off2 (f := fun x : Nat => (x : Int)) (fun _ => rfl) HY.out (by decide) HG.out _ (.slice xa5 2 xc5)), HK, Lib.hid ((HG.out.set 0 (.int .i64 0)).set 1 (.slice xa5 2 xc5)), Lib.hid ((HB.out.setCell (p := ⟨g, 0, none⟩) HGE.out _).setCell (p := ⟨g, 1, none⟩) HGE.out _)⟩
      · go_simp
        have hb := (Below.refl v1.heap.size v1).alloc (Nat.le_refl _) (.cells #[.int .i64 0, .slice none 0 0] 38)
        have HGL := Lib.hid (show D < v1.heap.size from HK.out.lt)
        have HGE := Lib.hid (show w.heap.size ≤ v1.heap.size from HB.out.size)
        have HK := Lib.hid (HK.out.below hb (Nat.le_refl _)); have HU := Lib.hid (HU.out.below hb (Nat.le_refl _)); have HV := Lib.hid (HV.out.below hb (Nat.le_refl _)); have HB := Lib.hid (HB.out.trans (hb.mono HB.out.size))
        have HG := Lib.hid (Blk.new v1 [.int .i64 0, .slice none 0 0] 38)
        obtain ⟨g, hg⟩ : ∃ g, v1.heap.size = g := ⟨_, rfl⟩
        obtain ⟨v4, hv⟩ : ∃ x, v1.alloc (.cells #[.int .i64 0, .slice none 0 0] 38) = x := ⟨_, rfl⟩
        change Hid (Blk (v1.alloc (.cells #[.int .i64 0, .slice none 0 0] 38)) v1.heap.size [.int .i64 0, .slice none 0 0] 38) at HG
        rw [hv, hg] at HG
        rw [hg] at HGL HGE ⊢
        rw [hv] at HK HU HV HB ⊢
        have hS := (⟨HK.out.cell 0 _ rfl, HK.out.cell 1 _ rfl⟩ : v4.cell? ⟨D, 0, none⟩ = some (.int .i64 0) ∧ v4.cell? ⟨D, 1, none⟩ = some UV)
        clear hb hg hv
        refine hK.out _ _ (fun _ => hS) ?_
        try simp only [Act.put, List.setIfInBounds_toArray, List.set_cons_zero, List.set_cons_succ]
        clear hK K
        refine wpAnyJ_only (i := 2) (o := { dst := some 97, op := _, type := _, pos := _, after := _, guard := _ }) (by kernel_rfl) rfl (fun K hK => ?_)
        go_simp
        refine (dWalk v4 _ _ HV.out HU.out).mono ?_
        rintro e5 v5 ⟨v5, rfl, x5, y5, rfl, hsx, hsy, hb⟩
        have HK := Lib.hid (HK.out.below hb (Nat.le_refl _)); have HU := Lib.hid (HU.out.below hb (Nat.le_refl _)); have HG := Lib.hid (HG.out.below hb (Nat.le_refl _)); have HB := Lib.hid (HB.out.trans (hb.mono HB.out.size))
        obtain ⟨xa5, xc5, rfl⟩ : ∃ a c, x5 = .slice a 2 c := hsx.form
        have HX := Lib.hid hsx; have HY := Lib.hid hsy
        clear hsx hsy
        have hS := (⟨HK.out.cell 0 _ rfl, HK.out.cell 1 _ rfl⟩ : v5.cell? ⟨D, 0, none⟩ = some (.int .i64 0) ∧ v5.cell? ⟨D, 1, none⟩ = some UV)
        clear hb
        refine hK.out _ _ (fun _ => hS) ?_
        try simp only [Act.put, List.setIfInBounds_toArray, List.set_cons_zero, List.set_cons_succ]
        clear hK K
        refine wpAnyJ_take (i := 3) (oi := { dst := some 94, op := .move (.tmp 97), type := _, pos := _, after := _, guard := _ }) (v := ?_) rfl (by kernel_rfl) (by kernel_rfl) (by kernel_rfl) (early_sat (by kernel_rfl)) (fun _ _ _ h => h) (Or.inl ⟨by rfl, ?_⟩) hS ?_
        rotate_left
        · intro wl hSw
          obtain ⟨s0, s1⟩ := hSw
          go_simp
          with_reducible rfl
        simp only [Act.put, List.setIfInBounds_toArray, List.set_cons_zero, List.set_cons_succ]
        refine wpAnyJ_take (i := 4) (oi := { dst := some 98, op := .extract (.tmp 94) 0, type := _, pos := _, after := _, guard := _ }) (v := ?_) rfl (by kernel_rfl) (by kernel_rfl) (by kernel_rfl) (early_sat (by kernel_rfl)) (fun _ _ _ h => h) (Or.inl ⟨by rfl, ?_⟩) hS ?_
        rotate_left
        · intro wl hSw
          obtain ⟨s0, s1⟩ := hSw
          go_simp
          with_reducible rfl
        simp only [Act.put, List.setIfInBounds_toArray, List.set_cons_zero, List.set_cons_succ]
        refine wpAnyJ_take (i := 5) (oi := { dst := some 99, op := .extract (.tmp 94) 1, type := _, pos := _, after := _, guard := _ }) (v := ?_) rfl (by kernel_rfl) (by kernel_rfl) (by kernel_rfl) (early_sat (by kernel_rfl)) (fun _ _ _ h => h) (Or.inl ⟨by rfl, ?_⟩) hS ?_
        rotate_left
        · intro wl hSw
          obtain ⟨s0, s1⟩ := hSw
          go_simp
          with_reducible rfl
        simp only [Act.put, List.setIfInBounds_toArray, List.set_cons_zero, List.set_cons_succ]
        refine wpAnyJ_take (i := 6) (oi := { dst := some 100, op := .extract (.tmp 94) 2, type := _, pos := _, after := _, guard := _ }) (v := ?_) rfl (by kernel_rfl) (by kernel_rfl) (by kernel_rfl) (early_sat (by kernel_rfl)) (fun _ _ _ h => h) (Or.inl ⟨by rfl, ?_⟩) hS ?_
        rotate_left
        · intro wl hSw
          obtain ⟨s0, s1⟩ := hSw
          go_simp
          with_reducible rfl
        simp only [Act.put, List.setIfInBounds_toArray, List.set_cons_zero, List.set_cons_succ]
        have m0 := HG.out.cell 0 _ rfl; have m1 := HG.out.cell 1 _ rfl; have f0 := HG.out.free 0; have f1 := HG.out.free 1; have hml := HG.out.lt
        have HK := Lib.hid (((HK.out.setCell (g' := g) (j := 0) (by have := HGL.out; omega) (.int .i64 0)).setCell (g' := g) (j := 1) (by have := HGL.out; omega) (.slice xa5 2 xc5)))
        have hS := (⟨HK.out.cell 0 _ rfl, HK.out.cell 1 _ rfl⟩ : ((v5.setCell ⟨g, 0, none⟩ (.int .i64 0)).setCell ⟨g, 1, none⟩ (.slice xa5 2 xc5)).cell? ⟨D, 0, none⟩ = some (.int .i64 0) ∧ ((v5.setCell ⟨g, 0, none⟩ (.int .i64 0)).setCell ⟨g, 1, none⟩ (.slice xa5 2 xc5)).cell? ⟨D, 1, none⟩ = some UV)
        refine wpAnyJ_only (i := 8) (o := { dst := none, op := .store _ (.tmp 13) (.tmp 98), type := _, pos := _, after := _, guard := _ }) (by kernel_rfl) rfl (fun K hK => ?_)
        go_simp
        refine hK.out _ _ (fun _ => hS) ?_
        try simp only [Act.put, List.setIfInBounds_toArray, List.set_cons_zero, List.set_cons_succ]
        clear hK K
        refine wpAnyJ_take (i := 9) (oi := { dst := some 14, op := .assign (.tmp 99), type := _, pos := _, after := _, guard := _ }) (v := ?_) rfl (by kernel_rfl) (by kernel_rfl) (by kernel_rfl) (early_sat (by kernel_rfl)) (fun _ _ _ h => h) (Or.inl ⟨by rfl, ?_⟩) hS ?_
        rotate_left
        · intro wl hSw
          obtain ⟨s0, s1⟩ := hSw
          go_simp
          with_reducible rfl
        simp only [Act.put, List.setIfInBounds_toArray, List.set_cons_zero, List.set_cons_succ]
        refine wpAnyJ_take (i := 10) (oi := { dst := some 2, op := .assign (.tmp 100), type := _, pos := _, after := _, guard := _ }) (v := ?_) rfl (by kernel_rfl) (by kernel_rfl) (by kernel_rfl) (early_sat (by kernel_rfl)) (fun _ _ _ h => h) (Or.inl ⟨by rfl, ?_⟩) hS ?_
        rotate_left
        · intro wl hSw
          obtain ⟨s0, s1⟩ := hSw
          go_simp
          with_reducible rfl
        simp only [Act.put, List.setIfInBounds_toArray, List.set_cons_zero, List.set_cons_succ]
        refine wpAnyJ_done (by kernel_rfl) ?_ _
        clear m0 m1 f0 f1 hml hS
        go_wp2
        go_meet
        case rel => exact ⟨g, _, y5, rfl, rfl, rfl, rfl, Lib.hid (slk_off2 (f := id) (fun _ => rfl) HX.out (by decide) HG.out _ (.slice xa5 2 xc5)), Lib.hid (slk_off2 (f := id) (fun _ => rfl) HU.out (by decide) HG.out _ (.slice xa5 2 xc5)), Lib.hid (slk_off2 (f := fun x : Nat => (x : Int)) (fun _ => rfl) HY.out (by decide) HG.out _ (.slice xa5 2 xc5)), HK, Lib.hid ((HG.out.set 0 (.int .i64 0)).set 1 (.slice xa5 2 xc5)), Lib.hid ((HB.out.setCell (p := ⟨g, 0, none⟩) HGE.out _).setCell (p := ⟨g, 1, none⟩) HGE.out _)⟩
    · go_simp
      have hb := (Below.refl v0.heap.size v0).alloc (Nat.le_refl _) (.cells #[.int .i64 0, .slice none 0 0] 38)
      have HGL := Lib.hid (show D < v0.heap.size from HK.out.lt)
      have HGE := Lib.hid (show w.heap.size ≤ v0.heap.size from HB.out.size)
      have HK := Lib.hid (HK.out.below hb (Nat.le_refl _)); have HU := Lib.hid (HU.out.below hb (Nat.le_refl _)); have HB := Lib.hid (HB.out.trans (hb.mono HB.out.size))
      have HG := Lib.hid (Blk.new v0 [.int .i64 0, .slice none 0 0] 38)
      obtain ⟨g, hg⟩ : ∃ g, v0.heap.size = g := ⟨_, rfl⟩
      obtain ⟨v6, hv⟩ : ∃ x, v0.alloc (.cells #[.int .i64 0, .slice none 0 0] 38) = x := ⟨_, rfl⟩
      change Hid (Blk (v0.alloc (.cells #[.int .i64 0, .slice none 0 0] 38)) v0.heap.size [.int .i64 0, .slice none 0 0] 38) at HG
      rw [hv, hg] at HG
      rw [hg] at HGL HGE ⊢
      rw [hv] at HK HU HB ⊢
      have hS := (⟨HK.out.cell 0 _ rfl, HK.out.cell 1 _ rfl⟩ : v6.cell? ⟨D, 0, none⟩ = some (.int .i64 0) ∧ v6.cell? ⟨D, 1, none⟩ = some UV)
      clear hb hg hv
      refine hK.out _ _ (fun _ => hS) ?_
      try simp only [Act.put, List.setIfInBounds_toArray, List.set_cons_zero, List.set_cons_succ]
      clear hK K
      refine wpAnyJ_only (i := 0) (o := { dst := some 95, op := _, type := _, pos := _, after := _, guard := _ }) (by kernel_rfl) rfl (fun K hK => ?_)
      go_simp
      refine (Double_any v6).mono ?_
      rintro e5 v7 ⟨v5, rfl, u5, rfl, hs, hb⟩
      have HK := Lib.hid (HK.out.below hb (Nat.le_refl _)); have HU := Lib.hid (HU.out.below hb (Nat.le_refl _)); have HG := Lib.hid (HG.out.below hb (Nat.le_refl _)); have HB := Lib.hid (HB.out.trans (hb.mono HB.out.size))
      have HV := Lib.hid hs
      clear hs
      have hS := (⟨HK.out.cell 0 _ rfl, HK.out.cell 1 _ rfl⟩ : v7.cell? ⟨D, 0, none⟩ = some (.int .i64 0) ∧ v7.cell? ⟨D, 1, none⟩ = some UV)
      clear hb
      refine hK.out _ _ (fun _ => hS) ?_
      try simp only [Act.put, List.setIfInBounds_toArray, List.set_cons_zero, List.set_cons_succ]
      clear hK K
      refine wpAnyJ_only (i := 2) (o := { dst := some 97, op := _, type := _, pos := _, after := _, guard := _ }) (by kernel_rfl) rfl (fun K hK => ?_)
      go_simp
      refine (dWalk v7 _ _ HV.out HU.out).mono ?_
      rintro e5 v8 ⟨v5, rfl, x5, y5, rfl, hsx, hsy, hb⟩
      have HK := Lib.hid (HK.out.below hb (Nat.le_refl _)); have HU := Lib.hid (HU.out.below hb (Nat.le_refl _)); have HG := Lib.hid (HG.out.below hb (Nat.le_refl _)); have HB := Lib.hid (HB.out.trans (hb.mono HB.out.size))
      obtain ⟨xa5, xc5, rfl⟩ : ∃ a c, x5 = .slice a 2 c := hsx.form
      have HX := Lib.hid hsx; have HY := Lib.hid hsy
      clear hsx hsy
      have hS := (⟨HK.out.cell 0 _ rfl, HK.out.cell 1 _ rfl⟩ : v8.cell? ⟨D, 0, none⟩ = some (.int .i64 0) ∧ v8.cell? ⟨D, 1, none⟩ = some UV)
      clear hb
      refine hK.out _ _ (fun _ => hS) ?_
      try simp only [Act.put, List.setIfInBounds_toArray, List.set_cons_zero, List.set_cons_succ]
      clear hK K
      refine wpAnyJ_take (i := 3) (oi := { dst := some 94, op := .move (.tmp 97), type := _, pos := _, after := _, guard := _ }) (v := ?_) rfl (by kernel_rfl) (by kernel_rfl) (by kernel_rfl) (early_sat (by kernel_rfl)) (fun _ _ _ h => h) (Or.inl ⟨by rfl, ?_⟩) hS ?_
      rotate_left
      · intro wl hSw
        obtain ⟨s0, s1⟩ := hSw
        go_simp
        with_reducible rfl
      simp only [Act.put, List.setIfInBounds_toArray, List.set_cons_zero, List.set_cons_succ]
      refine wpAnyJ_take (i := 4) (oi := { dst := some 98, op := .extract (.tmp 94) 0, type := _, pos := _, after := _, guard := _ }) (v := ?_) rfl (by kernel_rfl) (by kernel_rfl) (by kernel_rfl) (early_sat (by kernel_rfl)) (fun _ _ _ h => h) (Or.inl ⟨by rfl, ?_⟩) hS ?_
      rotate_left
      · intro wl hSw
        obtain ⟨s0, s1⟩ := hSw
        go_simp
        with_reducible rfl
      simp only [Act.put, List.setIfInBounds_toArray, List.set_cons_zero, List.set_cons_succ]
      refine wpAnyJ_take (i := 5) (oi := { dst := some 99, op := .extract (.tmp 94) 1, type := _, pos := _, after := _, guard := _ }) (v := ?_) rfl (by kernel_rfl) (by kernel_rfl) (by kernel_rfl) (early_sat (by kernel_rfl)) (fun _ _ _ h => h) (Or.inl ⟨by rfl, ?_⟩) hS ?_
      rotate_left
      · intro wl hSw
        obtain ⟨s0, s1⟩ := hSw
        go_simp
        with_reducible rfl
      simp only [Act.put, List.setIfInBounds_toArray, List.set_cons_zero, List.set_cons_succ]
      refine wpAnyJ_take (i := 6) (oi := { dst := some 100, op := .extract (.tmp 94) 2, type := _, pos := _, after := _, guard := _ }) (v := ?_) rfl (by kernel_rfl) (by kernel_rfl) (by kernel_rfl) (early_sat (by kernel_rfl)) (fun _ _ _ h => h) (Or.inl ⟨by rfl, ?_⟩) hS ?_
      rotate_left
      · intro wl hSw
        obtain ⟨s0, s1⟩ := hSw
        go_simp
        with_reducible rfl
      simp only [Act.put, List.setIfInBounds_toArray, List.set_cons_zero, List.set_cons_succ]
      have m0 := HG.out.cell 0 _ rfl; have m1 := HG.out.cell 1 _ rfl; have f0 := HG.out.free 0; have f1 := HG.out.free 1; have hml := HG.out.lt
      have HK := Lib.hid (((HK.out.setCell (g' := g) (j := 0) (by have := HGL.out; omega) (.int .i64 0)).setCell (g' := g) (j := 1) (by have := HGL.out; omega) (.slice xa5 2 xc5)))
      have hS := (⟨HK.out.cell 0 _ rfl, HK.out.cell 1 _ rfl⟩ : ((v8.setCell ⟨g, 0, none⟩ (.int .i64 0)).setCell ⟨g, 1, none⟩ (.slice xa5 2 xc5)).cell? ⟨D, 0, none⟩ = some (.int .i64 0) ∧ ((v8.setCell ⟨g, 0, none⟩ (.int .i64 0)).setCell ⟨g, 1, none⟩ (.slice xa5 2 xc5)).cell? ⟨D, 1, none⟩ = some UV)
      refine wpAnyJ_only (i := 8) (o := { dst := none, op := .store _ (.tmp 13) (.tmp 98), type := _, pos := _, after := _, guard := _ }) (by kernel_rfl) rfl (fun K hK => ?_)
      go_simp
      refine hK.out _ _ (fun _ => hS) ?_
      try simp only [Act.put, List.setIfInBounds_toArray, List.set_cons_zero, List.set_cons_succ]
      clear hK K
      refine wpAnyJ_take (i := 9) (oi := { dst := some 14, op := .assign (.tmp 99), type := _, pos := _, after := _, guard := _ }) (v := ?_) rfl (by kernel_rfl) (by kernel_rfl) (by kernel_rfl) (early_sat (by kernel_rfl)) (fun _ _ _ h => h) (Or.inl ⟨by rfl, ?_⟩) hS ?_
      rotate_left
      · intro wl hSw
        obtain ⟨s0, s1⟩ := hSw
        go_simp
        with_reducible rfl
      simp only [Act.put, List.setIfInBounds_toArray, List.set_cons_zero, List.set_cons_succ]
      refine wpAnyJ_take (i := 10) (oi := { dst := some 2, op := .assign (.tmp 100), type := _, pos := _, after := _, guard := _ }) (v := ?_) rfl (by kernel_rfl) (by kernel_rfl) (by kernel_rfl) (early_sat (by kernel_rfl)) (fun _ _ _ h => h) (Or.inl ⟨by rfl, ?_⟩) hS ?_
      rotate_left
      · intro wl hSw
        obtain ⟨s0, s1⟩ := hSw
        go_simp
        with_reducible rfl
      simp only [Act.put, List.setIfInBounds_toArray, List.set_cons_zero, List.set_cons_succ]
      refine wpAnyJ_done (by kernel_rfl) ?_ _
      clear m0 m1 f0 f1 hml hS
      go_wp2
      go_meet
      case rel => exact ⟨g, _, y5, rfl, rfl, rfl, rfl, Lib.hid (slk_off2 (f := id) (fun _ => rfl) HX.out (by decide) HG.out _ (.slice xa5 2 xc5)), Lib.hid (slk_off2 (f := id) (fun _ => rfl) HU.out (by decide) HG.out _ (.slice xa5 2 xc5)), Lib.hid (slk_off2 (f := fun x : Nat => (x : Int)) (fun _ => rfl) HY.out (by decide) HG.out _ (.slice xa5 2 xc5)), HK, Lib.hid ((HG.out.set 0 (.int .i64 0)).set 1 (.slice xa5 2 xc5)), Lib.hid ((HB.out.setCell (p := ⟨g, 0, none⟩) HGE.out _).setCell (p := ⟨g, 1, none⟩) HGE.out _)⟩
  case rest =>
    rename_i hcut
    obtain ⟨g, x, y, rfl, rfl, rfl, rfl, HX, HU, HY, HK, HG, HB⟩ := hcut
    have k0 := HK.out.cell 0 _ rfl; have k1 := HK.out.cell 1 _ rfl; have kl := HK.out.lt
    have g0 := HG.out.cell 0 _ rfl; have g1 := HG.out.cell 1 _ rfl; have gl := HG.out.lt
    go_wp2_with (first
      | (go_at_call 18; (with_reducible refine (E3.out _ _ _ (HY.out.below (A0.out _ _) (Nat.le_refl _)) (L3.out _ _)).mono ?_); rintro e w3 ⟨v, rfl, rfl, h3⟩; have h3 := (A0.out _ _).trans (h3.mono (by simp)); have HB := Lib.hid (HB.out.trans (h3.mono HB.out.size)))
      | (go_at_call 17; (with_reducible refine (Same_same _ 0 _ _ [0, 0] HX.out HU.out).mono ?_); rintro e w2 ⟨v, rfl, rfl, h2⟩; have HY := Lib.hid (HY.out.below h2 (Nat.le_refl _)); have HB := Lib.hid (HB.out.trans (h2.mono HB.out.size))))
    go_ret
    exact ⟨_, rfl, rfl, HB.out⟩
end Go.Proofs.YtlnhocgjgmhfgaaGreatDoor
