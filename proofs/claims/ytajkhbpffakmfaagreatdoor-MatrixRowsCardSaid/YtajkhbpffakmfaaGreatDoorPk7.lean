/- The walks of matrix's eliminate, Determinant and Rank. The walks of slices.Equal and of the reference's Same over texts. The walk of the matrix law's awake: the chapter's examples. The walk of the reference's Few of matrices. Matrices by their numbers: what Determinant, Rank, Product and Transpose answer. -/
import Derived.Test.YtajkhbpffakmfaaGreatDoorPk6
import Derived.Test.YtajkhbpffakmfaaGreatDoorPk3
import Derived.BigQuiet
import Derived.WalkSpells
namespace Go.Proofs.YtajkhbpffakmfaaGreatDoor
open Go.RowKit
set_option maxRecDepth 100000

theorem kept_sml {m n k : Nat} {A : Mat} {s : Est} (h : Kept m n k A s) (hD : ∀ i j, i < m → j < n → dn (A i j) ≤ 60) (hm : m ≤ 6) :
    (∀ i j, s.rank ≤ i → i < m → j < n → sml (s.M i j)) ∧ sml s.last ∧ s.last ≠ 0 ∧ s.rank ≤ m := by
  obtain ⟨B, c, hI, -, σ, hσ, -⟩ := h.ex
  have hB : ∀ i j, i < m → j < n → dn (B i j) ≤ 60 := fun i j hi hj => by rw [(hσ i hi).2]; exact hD _ _ (hσ i hi).1 hj
  have hc : ∀ t, t < s.rank → c t < n := fun t ht => Nat.lt_of_lt_of_le (hI.ck t ht) hI.kn
  have hr := hI.rk
  have cap : ∀ p, p ≤ 6 → 1 + p * (60 + p) ≤ 400 := fun p hp => by
    have := Nat.mul_le_mul hp (show 60 + p ≤ 66 by omega); omega
  refine ⟨fun i j hi him hj => ?_, ?_, hI.d0, hr⟩
  · unfold sml
    rw [hI.minor hi him hj]
    refine Nat.le_trans (dn_det (D := 60) (s.rank + 1) _ fun x y hx hy => ?_) (cap _ (by omega))
    refine hB _ _ ?_ ?_
    · split <;> omega
    · split
      · exact hc _ (by assumption)
      · exact hj
  · unfold sml
    rw [hI.lead]
    exact Nat.le_trans (dn_det (D := 60) s.rank _ fun x y hx hy => hB _ _ (by omega) (hc _ hy)) (cap _ (by omega))
/-- What eliminate leaves. -/
def ElimP (w : World) (S : Est) : Ending → World → Prop := Rets fun x w' => ∃ g rv, x = .pointer (some ⟨g, 0, none⟩) ∧ w.heap.size ≤ g ∧ Blk w' g [rv, .string (txt S.last), .int .i64 (sgB S.neg), .int .i64 S.rank, .int .i64 0] 77 ∧ Below w.heap.size w w'
/-- The elimination's grid where it begins. -/
theorem Grid.start {w0 w : World} {g r c cap : Nat} {a : Option Addr} {A : Mat} {bs : List (Nat × Nat)} (hk : Blk w g [.slice a r cap, .string (txt 1), .int .i64 1, .int .i64 0, .int .i64 0] 77) (hr : w.ownsRow w0.heap.size 22 1 (.slice a r cap) r (bs.map (rowV c)))
    (hR : RowsAt w0.heap.size c A bs w) (hg : w0.heap.size ≤ g) (hb : Below w0.heap.size w0 w) : Grid w0 w g (.slice a r cap) bs r c (Est.start A) :=
  ⟨hk, hr, hR.row, hR.nod, hg, hb⟩
theorem RowsAt.low {base b c : Nat} {A : Mat} {bs : List (Nat × Nat)} {W : World} (h : RowsAt base c A bs W) (hb : b ≤ base) : RowsAt b c A bs W := ⟨fun i hi => own_low (h.row i hi) hb, h.nod, h.lt⟩
theorem RowsAt.below {base c : Nat} {A : Mat} {bs : List (Nat × Nat)} {W W' : World} (h : RowsAt base c A bs W) (hb : Below W.heap.size W W') : RowsAt base c A bs W' :=
  ⟨fun i hi => own_below (h.row i hi) hb (Nat.le_refl _), h.nod, fun b hm => Nat.lt_of_lt_of_le (h.lt b hm) hb.size⟩
set_option maxHeartbeats 4000000 in
theorem eliminate_ok (w : World) (v : Value) (xs : List ByteArray) (r c : Nat) (hv : Sl eS w v xs) (hrm : RM r (c + 1 : Nat) xs r (c + 1)) (hf : ∀ i j, i < r → j < c + 1 → dn (matF (c + 1) xs i j) ≤ 60) (hr : r ≤ 6) (he : Env w) :
    Calls Tryz.prog 43 #[.agg #[.int .i64 r, .int .i64 (c + 1 : Nat), v]] w (ElimP w ((Est.start (matF (c + 1) xs)).cols r (c + 1))) := by
  have HV := Lib.hid hv; have HE := Lib.hid he; have HX := Lib.hid hrm.cells; have HC16 := Lib.hid hrm.c16
  have HKP := Lib.hid (fun k (hk : k ≤ c + 1) => kept_sml (Kept.cols (m := r) (n := c + 1) (matF (c + 1) xs) k hk) hf hr)
  obtain ⟨A, hA⟩ : ∃ A, matF (c + 1) xs = A := ⟨_, rfl⟩
  rw [hA] at HX HKP ⊢
  have HCO := Lib.hid (fun (w1 : World) (B : Nat) (u : Value) (h1 : Blk w1 B [.int .i64 r, .int .i64 (c + 1 : Nat), u] 24) (h2 : Sl eS w1 u xs) => collect_any A h1 h2 HX.out (by omega) HC16.out)
  have HCOL := Lib.hid (fun (w1 : World) (g : Nat) (rv : Value) (bs : List (Nat × Nat)) (k : Nat) (hk : k < c + 1) (hG : Grid w w1 g rv bs r (c + 1) ((Est.start A).cols r k)) =>
    column_any k hG hk (HKP.out k (by omega)).2.2.2 (by omega) HC16.out (HKP.out k (by omega)).1 (HKP.out k (by omega)).2.1 (HKP.out k (by omega)).2.2.1 he)
  obtain ⟨n, hn⟩ : ∃ n, c + 1 = n := ⟨_, rfl⟩
  have HN := Lib.hid hn
  obtain ⟨ad, cap, rfl⟩ := sl_form hv
  clear hv hrm hf he hA HX HKP
  rw [hn] at HCO HCOL HC16 ⊢
  clear hn
  have hn16 := HC16.out
  have HB0 := Lib.hid ((Below.refl w.heap.size w).alloc (Nat.le_refl _) (.cells #[.int .i64 r, .int .i64 n, .slice ad xs.length cap] 24))
  have HK0 := Lib.hid (Blk.new w [.int .i64 r, .int .i64 n, .slice ad xs.length cap] 24)
  go_enter Tryz.func43, Tryz.ntmps43
  have HB1 := Lib.hid (HB0.out.alloc (by simp) (.cells #[.int .i64 r, .int .i64 n, .slice ad xs.length cap] 24))
  go_wp2_with (first
    | (go_at_call 93; (with_reducible refine (rows_any _ _ _ _ _ _).mono ?_); rintro e w1 ⟨rfl, rfl⟩)
    | (go_at_call 92; (with_reducible refine (HCO.out _ _ _ (Blk.at1 w _ _ _) ((HV.out.below HB0.out (Nat.le_refl _)).below ((Below.refl _ _).alloc (Nat.le_refl _) _) (Nat.le_refl _))).mono ?_); rintro e w2 ⟨x, rfl, bs, ⟨hl, h1⟩, h2, h3⟩; rw [hl] at h2; obtain ⟨xa, xc, rfl⟩ := own_form h2; have b2 := HB1.out.trans (h3.mono (by simp; omega)); have H1 := Lib.hid (h1.low (show w.heap.size ≤ _ by simp; omega)); have H2 := Lib.hid (own_low h2 (show w.heap.size ≤ _ by simp; omega)); have hK2 := ((HK0.out.alloc _).below h3 (Nat.le_refl _)); have HK2 := Lib.hid hK2; clear h1 h2 hK2)
    | (go_at_call 44; (with_reducible refine (Of_any _ 1 (by omega) (by omega) (HE.out.below b2 (Nat.le_refl _))).mono ?_); rintro e w4 ⟨v, rfl, rfl, hb4⟩; have b4 := b2.trans (hb4.mono b2.size); have b5 := b4.alloc b4.size (.cells #[.slice xa r xc, .string (txt 1), .int .i64 1, .int .i64 0, .int .i64 0] 77); have HK5 := Lib.hid ((HK2.out.below hb4 (Nat.le_refl _)).alloc (.cells #[.slice xa r xc, .string (txt 1), .int .i64 1, .int .i64 0, .int .i64 0] 77)); have c0 := HK5.out.cell 0 _ rfl; have c1 := HK5.out.cell 1 _ rfl; have hb5 := hb4.alloc hb4.size (.cells #[.slice xa r xc, .string (txt 1), .int .i64 1, .int .i64 0, .int .i64 0] 77); have HG := Lib.hid (Grid.start (w0 := w) (Blk.new w4 [.slice xa r xc, .string (txt 1), .int .i64 1, .int .i64 0, .int .i64 0] 77) (own_below H2.out hb5 (Nat.le_refl _)) (H1.out.below hb5) b4.size b5)))
  go_loopw [13] (fun i wr => ∃ k : Nat, k ≤ n ∧ i = .int .i64 k ∧ Hid (∃ bs', Grid w wr w4.heap.size (.slice xa r xc) bs' r n ((Est.start A).cols r k))) (fun i _ => n - (intOf i).toNat)
  case atStart => exact ⟨0, Nat.zero_le _, rfl, Lib.hid ⟨bs, HG.out⟩⟩
  case round =>
    clear c0 c1 HG
    obtain ⟨k, hk, rfl, hG⟩ := hrel
    by_cases hkn : k < n
    · obtain ⟨bs', hG'⟩ := hG.out
      have HC := Lib.hid (HCOL.out _ _ _ _ k hkn hG')
      clear hG'
      go_wp2_with (go_at_call 94; (with_reducible refine HC.out.mono ?_); rintro e w6 ⟨rfl, bs2, hG2⟩; have HG2 := Lib.hid hG2; clear hG2)
      go_roundw
      case rel => exact ⟨k + 1, by omega, by go_num, Lib.hid ⟨bs2, HG2.out⟩⟩
      case measure => simp [intOf]; omega
    · obtain rfl : k = n := by omega
      go_wp2
      go_ret
      obtain ⟨bs', hG'⟩ := hG.out
      exact ⟨_, rfl, _, _, rfl, hG'.gB, hG'.box, hG'.bel⟩
set_option maxHeartbeats 2000000 in
theorem eliminate0_ok (w : World) (v : Value) (r : Nat) (A : Mat) (hv : Sl eS w v []) (hr : r ≤ 16) (he : Env w) :
    Calls Tryz.prog 43 #[.agg #[.int .i64 r, .int .i64 0, v]] w (ElimP w (Est.start A)) := by
  have HV := Lib.hid hv; have HE := Lib.hid he
  have HCO := Lib.hid (fun (w1 : World) (B : Nat) (u : Value) (h1 : Blk w1 B [.int .i64 r, .int .i64 0, u] 24) (h2 : Sl eS w1 u []) => collect0_any h1 h2 hr)
  have HZ := Lib.hid (show sgB (Est.start A).neg = 1 ∧ (Est.start A).rank = 0 ∧ (Est.start A).last = 1 from ⟨rfl, rfl, rfl⟩)
  obtain ⟨ad, cap, rfl⟩ : ∃ a c, v = .slice a 0 c := by obtain ⟨a, c, h⟩ := sl_form hv; exact ⟨a, c, h⟩
  clear hv he hr
  have HB0 := Lib.hid ((Below.refl w.heap.size w).alloc (Nat.le_refl _) (.cells #[.int .i64 r, .int .i64 0, .slice ad 0 cap] 24))
  have HK0 := Lib.hid (Blk.new w [.int .i64 r, .int .i64 0, .slice ad 0 cap] 24)
  have HB1 := Lib.hid (HB0.out.alloc (by simp) (.cells #[.int .i64 r, .int .i64 0, .slice ad 0 cap] 24))
  go_enter Tryz.func43, Tryz.ntmps43
  go_wp2_with (first
    | (go_at_call 93; (with_reducible refine (rows_any _ _ _ _ _ _).mono ?_); rintro e w1 ⟨rfl, rfl⟩)
    | (go_at_call 92; (with_reducible refine (HCO.out _ _ _ (Blk.at1 w _ _ _) ((HV.out.below HB0.out (Nat.le_refl _)).below ((Below.refl _ _).alloc (Nat.le_refl _) _) (Nat.le_refl _))).mono ?_); rintro e w2 ⟨x, rfl, bs, hl, h2, h3⟩; rw [hl] at h2; obtain ⟨xa, xc, rfl⟩ := own_form h2; have b2 := HB1.out.trans (h3.mono (by simp; omega)); have HK2 := Lib.hid ((HK0.out.alloc _).below h3 (Nat.le_refl _)); clear h2)
    | (go_at_call 44; (with_reducible refine (Of_any _ 1 (by omega) (by omega) (HE.out.below b2 (Nat.le_refl _))).mono ?_); rintro e w4 ⟨v, rfl, rfl, hb4⟩; have b4 := b2.trans (hb4.mono b2.size); have b5 := b4.alloc b4.size (.cells #[.slice xa r xc, .string (txt 1), .int .i64 1, .int .i64 0, .int .i64 0] 77); have HK5 := Lib.hid ((HK2.out.below hb4 (Nat.le_refl _)).alloc (.cells #[.slice xa r xc, .string (txt 1), .int .i64 1, .int .i64 0, .int .i64 0] 77)); have c0 := HK5.out.cell 0 _ rfl; have c1 := HK5.out.cell 1 _ rfl; have HG := Lib.hid (Blk.new w4 [.slice xa r xc, .string (txt 1), .int .i64 1, .int .i64 0, .int .i64 0] 77)))
  go_loopw [13] (fun i wr => i = .int .i64 0 ∧ Hid (wr = w4.alloc (.cells #[.slice xa r xc, .string (txt 1), .int .i64 1, .int .i64 0, .int .i64 0] 77))) (fun i _ => 0)
  case atStart => exact ⟨rfl, Lib.hid rfl⟩
  case round =>
    obtain ⟨rfl, hW⟩ := hrel
    have hW := hW.out
    subst hW
    go_wp2
    go_ret
    exact ⟨_, rfl, _, _, rfl, b4.size, by rw [HZ.out.1, HZ.out.2.1, HZ.out.2.2]; exact HG.out, b5⟩
theorem elim_any (w : World) (v : Value) (xs : List ByteArray) (r c : Nat) (hv : Sl eS w v xs) (hrm : RM r c xs r c) (hf : ∀ i j, i < r → j < c → dn (matF c xs i j) ≤ 60) (hr : r ≤ 6) (he : Env w) :
    Calls Tryz.prog 43 #[.agg #[.int .i64 r, .int .i64 c, v]] w (ElimP w ((Est.start (matF c xs)).cols r c)) := by
  cases c with
  | zero =>
    have : xs = [] := List.length_eq_zero_iff.1 (by rw [hrm.len]; rfl)
    subst this
    exact eliminate0_ok w v r _ hv (by omega) he
  | succ c => exact eliminate_ok w v xs r c hv hrm hf hr he
/-- What Determinant answers. -/
def detS (R C : Int) (xs : List ByteArray) : ByteArray × Int := if mchkM R C xs = 0 then (if R = C then (txt (det R.toNat (matF C.toNat xs)), 0) else (⟨#[]⟩, 8)) else (⟨#[]⟩, mchkM R C xs)
/-- What Rank answers. -/
def rankS (R C : Int) (xs : List ByteArray) : Nat × Int := if mchkM R C xs = 0 then (((Est.start (matF C.toNat xs)).cols R.toNat C.toNat).rank, 0) else (0, mchkM R C xs)
theorem Fit.mono {D E : Nat} {xs : List ByteArray} (h : Fit D xs) (hde : D ≤ E) : Fit E xs := fun s hs => Nat.le_trans (h s hs) hde
set_option maxHeartbeats 4000000 in
theorem Determinant_any (w : World) (R C : Int) (v : Value) (xs : List ByteArray) (hv : Sl eS w v xs) (hf : Fit 60 xs) (h6 : mchkM R C xs = 0 → R ≤ 6 ∧ C ≤ 6) (he : Env w) :
    Calls Tryz.prog 12 #[.agg #[.int .i64 R, .int .i64 C, v]] w (Rets fun v w' => v = .tuple #[.string (detS R C xs).1, .int .i64 (detS R C xs).2] ∧ Below w.heap.size w w') := by
  have HSZ := Lib.hid (show xs.length ≤ 256 → ∀ s ∈ xs, s.size ≤ 1000000 from fun _ s hs => Nat.le_trans (hf s hs) (by omega))
  have HV := Lib.hid hv; have HE := Lib.hid he; have HF := Lib.hid hf
  obtain ⟨ad, cap, rfl⟩ := sl_form hv
  clear hv hf he
  by_cases h : mchkM R C xs = 0
  · have H := Lib.hid h
    obtain ⟨r, c, hrm⟩ := rm_of h
    obtain rfl := hrm.rows; obtain rfl := hrm.cols
    have HRM := Lib.hid hrm
    have hh6 := h6 h
    have HB := Lib.hid ((Below.refl w.heap.size w).alloc (Nat.le_refl _) (.cells #[.int .i64 r, .int .i64 c, .slice ad xs.length cap] 24))
    have HK := Lib.hid (Blk.new w [.int .i64 r, .int .i64 c, .slice ad xs.length cap] 24)
    by_cases hs : r = c
    · subst hs
      have hne : ((r : Int) != (r : Int)) = false := by simp
      have hE := elim_det (matF r xs) (Kept.cols (m := r) (n := r) (matF r xs) r (Nat.le_refl _))
      have hsm := kept_sml (Kept.cols (m := r) (n := r) (matF r xs) r (Nat.le_refl _)) (fun i j hi hj => hrm.dn HF.out hi hj) (by omega)
      have HEL := Lib.hid (fun (w1 : World) (u : Value) (h1 : Sl eS w1 u xs) (h2 : Env w1) => elim_any w1 u xs r r h1 hrm (fun i j hi hj => hrm.dn HF.out hi hj) (by omega) h2)
      obtain ⟨S, hS⟩ : ∃ S, (Est.start (matF r xs)).cols r r = S := ⟨_, rfl⟩
      rw [hS] at hE hsm HEL
      have HD := Lib.hid (show detS r r xs = (txt (if S.rank < r then 0 else sgB S.neg * S.last), 0) by unfold detS; rw [if_pos h, if_pos rfl, ← hE]; rfl)
      have HBG := Lib.hid (bigD (show dn S.last ≤ 1024 by have := hsm.2.1; unfold sml at this; omega))
      have HRS := Lib.hid (show resV (-S.last) = .tuple #[.string (txt (-S.last)), .int .i64 0] by unfold resV; rw [bigD (show dn (-S.last) ≤ 1024 by rw [dn_neg]; have := hsm.2.1; unfold sml at this; omega)]; rfl)
      clear h hrm h6 hS hE hsm hh6
      rcases Nat.lt_or_ge S.rank r with hq | hq
      · have HX := Lib.hid (show detS r r xs = (txt 0, 0) by rw [HD.out, if_pos hq])
        go_enter Tryz.func12, Tryz.ntmps12
        go_wp2_with (first
    | (go_at_call 43; (with_reducible refine (HEL.out _ _ (HV.out.below q1 (Nat.le_refl _)) (HE.out.below q1 (Nat.le_refl _))).mono ?_); rintro e w2 ⟨x, rfl, g, rv, rfl, hg, hk, h2⟩; have q2 := q1.trans (h2.mono q1.size); have HK2 := Lib.hid (HK1.out.below h2 (Nat.le_refl _)); have d0 := HK2.out.cell 0 _ rfl; have d1 := HK2.out.cell 1 _ rfl; have e1 := hk.cell 1 _ rfl; have e2 := hk.cell 2 _ rfl; have e3 := hk.cell 3 _ rfl; have e4 := hk.cell 4 _ rfl; clear hk)
    | (go_at_call 42; (with_reducible refine (MCheck_any _ _ _ _ xs (HV.out.below HB.out (Nat.le_refl _)) HSZ.out).mono ?_); rintro e w1 ⟨v, rfl, rfl, h1⟩; rw [H.out]; have q1 := HB.out.trans (h1.mono HB.out.size); have HK1 := Lib.hid (HK.out.below h1 (Nat.le_refl _)); have c0 := HK1.out.cell 0 _ rfl; have c1 := HK1.out.cell 1 _ rfl; have c2 := HK1.out.cell 2 _ rfl))
        go_region
        all_goals
          go_wp2_with (go_at_call 44; (with_reducible refine (Of_any _ 0 (by omega) (by omega) (HE.out.below q2.drew (Nat.le_refl _))).mono ?_); rintro e w4 ⟨v, rfl, rfl, hb4⟩; have q4 := q2.drew.trans (hb4.mono q2.size))
          go_ret2
          exact ⟨_, rfl, by rw [HX.out]; rfl, q4⟩
      · have hq' : ¬ S.rank < r := by omega
        cases hng : S.neg
        · have hsg : sgB S.neg = 1 := by rw [hng]; rfl
          have HX := Lib.hid (show detS r r xs = (txt S.last, 0) by rw [HD.out, if_neg hq', hsg, Int.one_mul])
          have HSG := Lib.hid hsg
          clear hng hsg
          go_enter Tryz.func12, Tryz.ntmps12
          go_wp2_with (first
    | (go_at_call 43; (with_reducible refine (HEL.out _ _ (HV.out.below q1 (Nat.le_refl _)) (HE.out.below q1 (Nat.le_refl _))).mono ?_); rintro e w2 ⟨x, rfl, g, rv, rfl, hg, hk, h2⟩; have q2 := q1.trans (h2.mono q1.size); have HK2 := Lib.hid (HK1.out.below h2 (Nat.le_refl _)); have d0 := HK2.out.cell 0 _ rfl; have d1 := HK2.out.cell 1 _ rfl; have e1 := hk.cell 1 _ rfl; have e2 := hk.cell 2 _ rfl; have e3 := hk.cell 3 _ rfl; have e4 := hk.cell 4 _ rfl; rw [HSG.out] at e2; clear hk)
    | (go_at_call 42; (with_reducible refine (MCheck_any _ _ _ _ xs (HV.out.below HB.out (Nat.le_refl _)) HSZ.out).mono ?_); rintro e w1 ⟨v, rfl, rfl, h1⟩; rw [H.out]; have q1 := HB.out.trans (h1.mono HB.out.size); have HK1 := Lib.hid (HK.out.below h1 (Nat.le_refl _)); have c0 := HK1.out.cell 0 _ rfl; have c1 := HK1.out.cell 1 _ rfl; have c2 := HK1.out.cell 2 _ rfl))
          go_region
          all_goals
            go_wp2_with fail
            go_ret2
            exact ⟨_, rfl, by rw [HX.out]; rfl, q2.drew⟩
        · have hsg : sgB S.neg = -1 := by rw [hng]; rfl
          have HX := Lib.hid (show detS r r xs = (txt (-S.last), 0) by rw [HD.out, if_neg hq', hsg]; congr 2; omega)
          have HSG := Lib.hid hsg
          clear hng hsg
          go_enter Tryz.func12, Tryz.ntmps12
          go_wp2_with (first
    | (go_at_call 43; (with_reducible refine (HEL.out _ _ (HV.out.below q1 (Nat.le_refl _)) (HE.out.below q1 (Nat.le_refl _))).mono ?_); rintro e w2 ⟨x, rfl, g, rv, rfl, hg, hk, h2⟩; have q2 := q1.trans (h2.mono q1.size); have HK2 := Lib.hid (HK1.out.below h2 (Nat.le_refl _)); have d0 := HK2.out.cell 0 _ rfl; have d1 := HK2.out.cell 1 _ rfl; have e1 := hk.cell 1 _ rfl; have e2 := hk.cell 2 _ rfl; have e3 := hk.cell 3 _ rfl; have e4 := hk.cell 4 _ rfl; rw [HSG.out] at e2; clear hk)
    | (go_at_call 42; (with_reducible refine (MCheck_any _ _ _ _ xs (HV.out.below HB.out (Nat.le_refl _)) HSZ.out).mono ?_); rintro e w1 ⟨v, rfl, rfl, h1⟩; rw [H.out]; have q1 := HB.out.trans (h1.mono HB.out.size); have HK1 := Lib.hid (HK.out.below h1 (Nat.le_refl _)); have c0 := HK1.out.cell 0 _ rfl; have c1 := HK1.out.cell 1 _ rfl; have c2 := HK1.out.cell 2 _ rfl))
          go_region
          all_goals
            go_wp2_with (go_at_call 13; (with_reducible refine (Neg_ok _ _ S.last (.of HBG.out) (HE.out.below q2.drew (Nat.le_refl _))).mono ?_); rintro e w4 ⟨v, rfl, rfl, hb4⟩; have q4 := q2.drew.trans (hb4.mono q2.size); rw [HRS.out])
            go_ret2
            exact ⟨_, rfl, by rw [HX.out]; rfl, q4⟩
    · have hne : ((r : Int) != (c : Int)) = true := by simp; omega
      have HX := Lib.hid (show detS r c xs = (⟨#[]⟩, 8) by unfold detS; rw [if_pos h, if_neg (by omega)])
      clear h hrm h6 hh6
      go_enter Tryz.func12, Tryz.ntmps12
      go_wp2_with (first
    | (go_at_call 42; (with_reducible refine (MCheck_any _ _ _ _ xs (HV.out.below HB.out (Nat.le_refl _)) HSZ.out).mono ?_); rintro e w1 ⟨v, rfl, rfl, h1⟩; rw [H.out]; have q1 := HB.out.trans (h1.mono HB.out.size); have HK1 := Lib.hid (HK.out.below h1 (Nat.le_refl _)); have c0 := HK1.out.cell 0 _ rfl; have c1 := HK1.out.cell 1 _ rfl; have c2 := HK1.out.cell 2 _ rfl))
      go_ret2
      exact ⟨_, rfl, by rw [HX.out]; rfl, q1⟩
  · have hne : (mchkM R C xs != 0) = true := by simp [h]
    have HX := Lib.hid (show detS R C xs = (⟨#[]⟩, mchkM R C xs) by unfold detS; rw [if_neg h])
    have HB := Lib.hid ((Below.refl w.heap.size w).alloc (Nat.le_refl _) (.cells #[.int .i64 R, .int .i64 C, .slice ad xs.length cap] 24))
    clear h h6
    go_enter Tryz.func12, Tryz.ntmps12
    go_wp2_with (go_at_call 42; (with_reducible refine (MCheck_any _ R C _ xs (HV.out.below HB.out (Nat.le_refl _)) HSZ.out).mono ?_); rintro e w1 ⟨v, rfl, rfl, h1⟩; have q1 := HB.out.trans (h1.mono HB.out.size))
    go_ret2
    exact ⟨_, rfl, by rw [HX.out]; rfl, q1⟩
set_option maxHeartbeats 4000000 in
theorem Rank_any (w : World) (R C : Int) (v : Value) (xs : List ByteArray) (hv : Sl eS w v xs) (hf : Fit 60 xs) (h6 : mchkM R C xs = 0 → R ≤ 6 ∧ C ≤ 6) (he : Env w) :
    Calls Tryz.prog 36 #[.agg #[.int .i64 R, .int .i64 C, v]] w (Rets fun v w' => v = .tuple #[.int .i64 (rankS R C xs).1, .int .i64 (rankS R C xs).2] ∧ Below w.heap.size w w') := by
  have HSZ := Lib.hid (show xs.length ≤ 256 → ∀ s ∈ xs, s.size ≤ 1000000 from fun _ s hs => Nat.le_trans (hf s hs) (by omega))
  have HV := Lib.hid hv; have HE := Lib.hid he; have HF := Lib.hid hf
  obtain ⟨ad, cap, rfl⟩ := sl_form hv
  clear hv hf he
  by_cases h : mchkM R C xs = 0
  · have H := Lib.hid h
    obtain ⟨r, c, hrm⟩ := rm_of h
    obtain rfl := hrm.rows; obtain rfl := hrm.cols
    have HRM := Lib.hid hrm
    have hh6 := h6 h
    have HB := Lib.hid ((Below.refl w.heap.size w).alloc (Nat.le_refl _) (.cells #[.int .i64 r, .int .i64 c, .slice ad xs.length cap] 24))
    have HK := Lib.hid (Blk.new w [.int .i64 r, .int .i64 c, .slice ad xs.length cap] 24)
    have HEL := Lib.hid (fun (w1 : World) (u : Value) (h1 : Sl eS w1 u xs) (h2 : Env w1) => elim_any w1 u xs r c h1 hrm (fun i j hi hj => hrm.dn HF.out hi hj) (by omega) h2)
    have HX := Lib.hid (show rankS r c xs = (((Est.start (matF c xs)).cols r c).rank, 0) by unfold rankS; rw [if_pos h]; rfl)
    obtain ⟨S, hS⟩ : ∃ S, (Est.start (matF c xs)).cols r c = S := ⟨_, rfl⟩
    rw [hS] at HEL HX
    clear h hrm h6 hS hh6
    go_enter Tryz.func36, Tryz.ntmps36
    go_wp2_with (first
    | (go_at_call 43; (with_reducible refine (HEL.out _ _ (HV.out.below q1 (Nat.le_refl _)) (HE.out.below q1 (Nat.le_refl _))).mono ?_); rintro e w2 ⟨x, rfl, g, rv, rfl, hg, hk, h2⟩; have q2 := q1.trans (h2.mono q1.size); have HK2 := Lib.hid (HK1.out.below h2 (Nat.le_refl _)); have d0 := HK2.out.cell 0 _ rfl; have d1 := HK2.out.cell 1 _ rfl; have e1 := hk.cell 1 _ rfl; have e2 := hk.cell 2 _ rfl; have e3 := hk.cell 3 _ rfl; have e4 := hk.cell 4 _ rfl; clear hk)
    | (go_at_call 42; (with_reducible refine (MCheck_any _ _ _ _ xs (HV.out.below HB.out (Nat.le_refl _)) HSZ.out).mono ?_); rintro e w1 ⟨v, rfl, rfl, h1⟩; rw [H.out]; have q1 := HB.out.trans (h1.mono HB.out.size); have HK1 := Lib.hid (HK.out.below h1 (Nat.le_refl _)); have c0 := HK1.out.cell 0 _ rfl; have c1 := HK1.out.cell 1 _ rfl; have c2 := HK1.out.cell 2 _ rfl))
    go_ret2
    exact ⟨_, rfl, by rw [HX.out]; rfl, q2⟩
  · have hne : (mchkM R C xs != 0) = true := by simp [h]
    have HX := Lib.hid (show rankS R C xs = (0, mchkM R C xs) by unfold rankS; rw [if_neg h])
    have HB := Lib.hid ((Below.refl w.heap.size w).alloc (Nat.le_refl _) (.cells #[.int .i64 R, .int .i64 C, .slice ad xs.length cap] 24))
    clear h h6
    go_enter Tryz.func36, Tryz.ntmps36
    go_wp2_with (go_at_call 42; (with_reducible refine (MCheck_any _ R C _ xs (HV.out.below HB.out (Nat.le_refl _)) HSZ.out).mono ?_); rintro e w1 ⟨v, rfl, rfl, h1⟩; have q1 := HB.out.trans (h1.mono HB.out.size))
    go_ret2
    exact ⟨_, rfl, by rw [HX.out]; rfl, q1⟩
end Go.Proofs.YtajkhbpffakmfaaGreatDoor

namespace Go.Proofs.YtajkhbpffakmfaaGreatDoor
open Go.RowKit
set_option maxRecDepth 100000

theorem bytesM_ne {s t : ByteArray} (h : s ≠ t) : (s.toList == t.toList) = false := by
  rw [beq_eq_false_iff_ne]
  intro e
  apply h
  rw [ByteArray.toList_eq, ByteArray.toList_eq] at e
  exact ByteArray.ext (Array.toList_inj.1 e)
set_option maxHeartbeats 2000000 in
theorem rSameM_any (w : World) (v u : Value) (xs ys : List ByteArray) (hv : Sl eS w v xs) (hu : Sl eS w u ys) :
    Calls Tryz.prog 63 #[v, u] w (Rets fun r w' => r = .bool (decide (xs = ys)) ∧ Below w.heap.size w w') := by
  obtain ⟨a, b, o, c, rfl, hi, hp, hc, hm⟩ := hv.open elemStr
  obtain ⟨a', b', o', c', rfl, hi', hp', hc', hm'⟩ := hu.open elemStr
  clear hv hu
  unfold maxLen at hm hm'
  by_cases hl : xs.length = ys.length
  · have HL := Lib.hid hl
    have hne : ((xs.length : Int) != (ys.length : Int)) = false := by simp [hl]
    clear hl
    go_enter Tryz.func63, Tryz.ntmps63
    go_wp2
    go_loopw [5] (fun i wr => ∃ k : Nat, k ≤ xs.length ∧ i = .int .i64 k ∧ Hid (xs.take k = ys.take k) ∧ Below w.heap.size w wr) (fun i _ => xs.length - (intOf i).toNat)
    case atStart => exact ⟨0, Nat.zero_le _, rfl, Lib.hid (by simp), Below.refl _ _⟩
    case round =>
      obtain ⟨k, hk, rfl, hE, hb⟩ := hrel
      by_cases hkn : k < xs.length
      · have hky : k < ys.length := by rw [← HL.out]; exact hkn
        have h1 : wr.cell? ⟨b, o + k, none⟩ = some (.string xs[k]) := hp.at hb (Nat.le_refl _) k hkn
        have h2 : wr.cell? ⟨b', o' + k, none⟩ = some (.string ys[k]) := hp'.at hb (Nat.le_refl _) k hky
        have q1 : (0 : Int) ≤ (k : Int) := by omega
        have q2 : (k : Int) < (xs.length : Int) := by omega
        have q3 : (k : Int) < (ys.length : Int) := by omega
        by_cases hx : xs[k] = ys[k]
        · rw [hx] at h1
          have HN := Lib.hid (show xs.take (k + 1) = ys.take (k + 1) by rw [List.take_succ_eq_append_getElem hkn, List.take_succ_eq_append_getElem hky, hE.out, hx])
          clear hx
          go_wp2_with fail
          go_quiet (fail)
          have b3 := below_drewN hb nq
          go_wp2
          go_roundw
          case rel => exact ⟨k + 1, by omega, by go_num, HN, b3⟩
          case measure => simp [intOf]; omega
        · have HD := Lib.hid (show decide (xs = ys) = false by
            rw [decide_eq_false_iff_not]
            intro e
            apply hx
            subst e
            rfl)
          have ht := bytesM_ne hx
          clear hx
          go_wp2_with fail
          go_quiet (fail)
          have b3 := below_drewN hb nq
          go_wp2
          go_ret
          exact ⟨_, rfl, by rw [HD.out]; rfl, b3⟩
      · obtain rfl : k = xs.length := by omega
        have HD := Lib.hid (show decide (xs = ys) = true by
          rw [decide_eq_true_iff]
          have := hE.out
          rw [List.take_length, HL.out, List.take_length] at this
          exact this)
        go_wp2
        go_ret
        exact ⟨_, rfl, by rw [HD.out]; rfl, hb⟩
  · have hne : ((xs.length : Int) != (ys.length : Int)) = true := by simp; omega
    have HD := Lib.hid (show decide (xs = ys) = false by rw [decide_eq_false_iff_not]; intro e; exact hl (by rw [e]))
    clear hl
    go_enter Tryz.func63, Tryz.ntmps63
    go_wp2
    go_ret
    exact ⟨_, rfl, by rw [HD.out]; rfl, Below.refl _ _⟩

set_option maxHeartbeats 2000000 in
theorem EqualM_any (w : World) (v u : Value) (xs ys : List ByteArray) (hv : Sl eS w v xs) (hu : Sl eS w u ys) :
    Calls Tryz.prog 38 #[v, u] w (Rets fun r w' => r = .bool (decide (xs = ys)) ∧ Below w.heap.size w w') := by
  obtain ⟨a, b, o, c, rfl, hi, hp, hc, hm⟩ := hv.open elemStr
  obtain ⟨a', b', o', c', rfl, hi', hp', hc', hm'⟩ := hu.open elemStr
  clear hv hu
  unfold maxLen at hm hm'
  by_cases hl : xs.length = ys.length
  · have HL := Lib.hid hl
    have hne : ((xs.length : Int) != (ys.length : Int)) = false := by simp [hl]
    clear hl
    go_enter Tryz.func38, Tryz.ntmps38
    go_wp2
    go_loopw [13] (fun i wr => ∃ k : Nat, k ≤ xs.length ∧ i = .int .i64 k ∧ Hid (xs.take k = ys.take k) ∧ Below w.heap.size w wr) (fun i _ => xs.length - (intOf i).toNat)
    case atStart => exact ⟨0, Nat.zero_le _, rfl, Lib.hid (by simp), Below.refl _ _⟩
    case round =>
      obtain ⟨k, hk, rfl, hE, hb⟩ := hrel
      by_cases hkn : k < xs.length
      · have hky : k < ys.length := by rw [← HL.out]; exact hkn
        have h1 : wr.cell? ⟨b, o + k, none⟩ = some (.string xs[k]) := hp.at hb (Nat.le_refl _) k hkn
        have h2 : wr.cell? ⟨b', o' + k, none⟩ = some (.string ys[k]) := hp'.at hb (Nat.le_refl _) k hky
        have q1 : (0 : Int) ≤ (k : Int) := by omega
        have q2 : (k : Int) < (xs.length : Int) := by omega
        have q3 : (k : Int) < (ys.length : Int) := by omega
        by_cases hx : xs[k] = ys[k]
        · rw [hx] at h1
          have HN := Lib.hid (show xs.take (k + 1) = ys.take (k + 1) by rw [List.take_succ_eq_append_getElem hkn, List.take_succ_eq_append_getElem hky, hE.out, hx])
          clear hx
          go_wp2_with fail
          go_quiet (fail)
          have b3 := below_drewN hb nq
          go_wp2
          go_roundw
          case rel => exact ⟨k + 1, by omega, by go_num, HN, b3⟩
          case measure => simp [intOf]; omega
        · have HD := Lib.hid (show decide (xs = ys) = false by
            rw [decide_eq_false_iff_not]
            intro e
            apply hx
            subst e
            rfl)
          have ht := bytesM_ne hx
          clear hx
          go_wp2_with fail
          go_quiet (fail)
          have b3 := below_drewN hb nq
          go_wp2
          go_ret
          exact ⟨_, rfl, by rw [HD.out]; rfl, b3⟩
      · obtain rfl : k = xs.length := by omega
        have HD := Lib.hid (show decide (xs = ys) = true by
          rw [decide_eq_true_iff]
          have := hE.out
          rw [List.take_length, HL.out, List.take_length] at this
          exact this)
        go_wp2
        go_ret
        exact ⟨_, rfl, by rw [HD.out]; rfl, hb⟩
  · have hne : ((xs.length : Int) != (ys.length : Int)) = true := by simp; omega
    have HD := Lib.hid (show decide (xs = ys) = false by rw [decide_eq_false_iff_not]; intro e; exact hl (by rw [e]))
    clear hl
    go_enter Tryz.func38, Tryz.ntmps38
    go_wp2
    go_ret
    exact ⟨_, rfl, by rw [HD.out]; rfl, Below.refl _ _⟩

end Go.Proofs.YtajkhbpffakmfaaGreatDoor

namespace Go.Proofs.YtajkhbpffakmfaaGreatDoor
open Go.RowKit
set_option maxRecDepth 100000

theorem Sl.lit {α : Type} (enc : α → Value) (w : World) (xs : List α) (e : TypeId) (h : xs.length ≤ 1000) : Sl enc (w.alloc (.cells (xs.map enc).toArray e)) (.slice (some ⟨w.heap.size, 0, none⟩) xs.length xs.length) xs :=
  Sl.ofOwns (n := xs.length) (base := 0) (e := e) ⟨by simp, .inr ⟨w.heap.size, xs.length, _, rfl, by omega, heap_alloc_new w _, by omega, by unfold maxLen; omega, by simp, by simp [List.take_of_length_le]⟩⟩
theorem MR.eq {m : MR} {R C : Int} {xs : List ByteArray} {k : Int} (h1 : m.R = R) (h2 : m.C = C) (h3 : m.xs = xs) (h4 : m.k = k) : m = ⟨R, C, xs, k⟩ := by cases m; subst h1 h2 h3 h4; rfl
theorem retM_of {P : Program} {f : FuncId} {a : Array Value} {w : World} {m : MR} {R C : Int} {xs : List ByteArray} {k : Int} (h : Calls P f a w (RetMR w m)) (e : m = ⟨R, C, xs, k⟩) : Calls P f a w (RetM w R C xs k) := by subst e; exact h
theorem retS_of {P : Program} {f : FuncId} {a : Array Value} {w : World} {p : ByteArray × Int} {t : ByteArray} {k : Int} (h : Calls P f a w (Rets fun v w' => v = .tuple #[.string p.1, .int .i64 p.2] ∧ Below w.heap.size w w')) (e : p = (t, k)) :
    Calls P f a w (Rets fun v w' => v = .tuple #[.string t, .int .i64 k] ∧ Below w.heap.size w w') := by subst e; exact h
theorem retN_of {P : Program} {f : FuncId} {a : Array Value} {w : World} {p : Nat × Int} {t : Nat} {k : Int} (h : Calls P f a w (Rets fun v w' => v = .tuple #[.int .i64 p.1, .int .i64 p.2] ∧ Below w.heap.size w w')) (e : p = (t, k)) :
    Calls P f a w (Rets fun v w' => v = .tuple #[.int .i64 t, .int .i64 k] ∧ Below w.heap.size w w') := by subst e; exact h
set_option maxHeartbeats 4000000 in
theorem awake03 (w : World) (he : Env w) : Calls Tryz.prog 8 #[] w (Rets fun v w' => v = .bool true ∧ Below w.heap.size w w') := by
  have HE := Lib.hid he
  clear he
  have q0 := Below.refl w.heap.size w
  obtain ⟨x1, hx1⟩ : ∃ l : List ByteArray, l = [⟨#[50]⟩, ⟨#[49]⟩, ⟨#[55]⟩, ⟨#[52]⟩] := ⟨_, rfl⟩
  obtain ⟨x2, hx2⟩ : ∃ l : List ByteArray, l = [⟨#[49]⟩, ⟨#[50]⟩, ⟨#[51]⟩, ⟨#[52]⟩, ⟨#[53]⟩, ⟨#[54]⟩, ⟨#[55]⟩, ⟨#[56]⟩, ⟨#[57]⟩] := ⟨_, rfl⟩
  obtain ⟨x3, hx3⟩ : ∃ l : List ByteArray, l = [⟨#[49, 49]⟩, ⟨#[54]⟩, ⟨#[52, 50]⟩, ⟨#[50, 51]⟩] := ⟨_, rfl⟩
  obtain ⟨x4, hx4⟩ : ∃ l : List ByteArray, l = [⟨#[53]⟩, ⟨#[54]⟩, ⟨#[56]⟩, ⟨#[57]⟩] := ⟨_, rfl⟩
  have f1 : Fit 60 x1 := by subst hx1; unfold Fit; decide
  have f2 : Fit 60 x2 := by subst hx2; unfold Fit; decide
  have f4 : Fit 60 x4 := by subst hx4; unfold Fit; decide
  have M1 := Lib.hid (fun (w1 : World) (v : Value) (hv : Sl eZ w1 v [2, 1, 7, 4]) (he : Env w1) => show Calls Tryz.prog 34 #[.int .i64 2, .int .i64 2, v] w1 (RetM w1 2 2 x1 0) from retM_of (Make_any w1 2 2 v _ hv (by decide) he) (MR.eq rfl rfl (by subst hx1; decide +kernel) rfl))
  have M2 := Lib.hid (fun (w1 : World) (v : Value) (hv : Sl eZ w1 v [1, 2, 3, 4, 5, 6, 7, 8, 9]) (he : Env w1) => show Calls Tryz.prog 34 #[.int .i64 3, .int .i64 3, v] w1 (RetM w1 3 3 x2 0) from retM_of (Make_any w1 3 3 v _ hv (by decide) he) (MR.eq rfl rfl (by subst hx2; decide +kernel) rfl))
  have D1 := Lib.hid (fun (w1 : World) (v : Value) (hv : Sl eS w1 v x1) (he : Env w1) => retS_of (Determinant_any w1 2 2 v x1 hv f1 (fun _ => by omega) he) (show detS 2 2 x1 = (⟨#[49]⟩, 0) by subst hx1; decide +kernel))
  have D2 := Lib.hid (fun (w1 : World) (v : Value) (hv : Sl eS w1 v x2) (he : Env w1) => retS_of (Determinant_any w1 3 3 v x2 hv f2 (fun _ => by omega) he) (show detS 3 3 x2 = (⟨#[48]⟩, 0) by subst hx2; decide +kernel))
  have D4 := Lib.hid (fun (w1 : World) (v : Value) (hv : Sl eS w1 v x4) (he : Env w1) => retS_of (Determinant_any w1 2 2 v x4 hv f4 (fun _ => by omega) he) (show detS 2 2 x4 = (⟨#[45, 51]⟩, 0) by subst hx4; decide +kernel))
  have R2 := Lib.hid (fun (w1 : World) (v : Value) (hv : Sl eS w1 v x2) (he : Env w1) => retN_of (Rank_any w1 3 3 v x2 hv f2 (fun _ => by omega) he) (show rankS 3 3 x2 = (2, 0) by subst hx2; decide +kernel))
  have P1 := Lib.hid (fun (w1 : World) (v u : Value) (hv : Sl eS w1 v x1) (hu : Sl eS w1 u x1) (he : Env w1) => show Calls Tryz.prog 35 #[.agg #[.int .i64 2, .int .i64 2, v], .agg #[.int .i64 2, .int .i64 2, u]] w1 (RetM w1 2 2 x3 0) from retM_of (Product_any w1 2 2 2 2 v u x1 x1 hv hu (fun _ s hs => Nat.le_trans (f1 s hs) (by omega)) (fun _ s hs => Nat.le_trans (f1 s hs) (by omega)) (f1.mono (by omega)) (f1.mono (by omega)) he)
    (MR.eq (by subst hx1; decide +kernel) (by subst hx1; decide +kernel) (by subst hx1 hx3; decide +kernel) (by subst hx1; decide +kernel)))
  have N2 := Lib.hid (fun (w1 : World) (v : Value) (hv : Sl eS w1 v x2) => show Calls Tryz.prog 37 #[.agg #[.int .i64 3, .int .i64 3, v], .int .i64 0, .int .i64 0] w1 (RetM w1 2 2 x4 0) from retM_of (Minor_any w1 3 3 v x2 0 0 hv (fun _ s hs => Nat.le_trans (f2 s hs) (by omega)))
    (MR.eq (by subst hx2; decide +kernel) (by subst hx2; decide +kernel) (by subst hx2 hx4; decide +kernel) (by subst hx2; decide +kernel)))
  have L1 := Lib.hid (fun (w1 : World) (e : TypeId) => show Sl eZ (w1.alloc (.cells #[.int .i64 2, .int .i64 1, .int .i64 7, .int .i64 4] e)) (.slice (some ⟨w1.heap.size, 0, none⟩) 4 4) [2, 1, 7, 4] from Sl.lit eZ w1 [2, 1, 7, 4] e (by simp))
  have L2 := Lib.hid (fun (w1 : World) (o : Obj) (e : TypeId) => show Sl eZ ((w1.alloc o).alloc (.cells #[.int .i64 1, .int .i64 2, .int .i64 3, .int .i64 4, .int .i64 5, .int .i64 6, .int .i64 7, .int .i64 8, .int .i64 9] e)) (.slice (some ⟨w1.heap.size + 1, 0, none⟩) 9 9) [1, 2, 3, 4, 5, 6, 7, 8, 9] from by have := Sl.lit eZ (w1.alloc o) [1, 2, 3, 4, 5, 6, 7, 8, 9] e (by simp); rw [World.size_alloc] at this; exact this)
  have L3 := Lib.hid (fun (w1 : World) (e : TypeId) => show Sl eS (w1.alloc (.cells #[.string ⟨#[49, 49]⟩, .string ⟨#[54]⟩, .string ⟨#[52, 50]⟩, .string ⟨#[50, 51]⟩] e)) (.slice (some ⟨w1.heap.size, 0, none⟩) 4 4) x3 by rw [hx3]; exact Sl.lit eS w1 [⟨#[49, 49]⟩, ⟨#[54]⟩, ⟨#[52, 50]⟩, ⟨#[50, 51]⟩] e (by simp))
  have A0 := Lib.hid (fun (w1 : World) (o : Obj) => (Below.refl w1.heap.size w1).alloc (Nat.le_refl _) o)
  clear hx1 hx2 hx3 hx4 f1 f2 f4
  go_enter Tryz.func8, Tryz.ntmps8
  go_wp2_with (first
    | (go_at_call 38; (with_reducible refine (EqualM_any _ _ _ x3 x3 (S3.out.below (A0.out _ _) (Nat.le_refl _)) (L3.out _ _)).mono ?_); rintro e w9 ⟨v, rfl, rfl, h9⟩; rw [decide_eq_true rfl]; have h9 := ((A0.out _ _).trans (h9.mono (by simp))); have HE := Lib.hid (HE.out.below h9 (Nat.le_refl _)); have S1 := Lib.hid (S1.out.below h9 (Nat.le_refl _)); have S3 := Lib.hid (S3.out.below h9 (Nat.le_refl _)); have S2 := Lib.hid (S2.out.below h9 (Nat.le_refl _)); have S4 := Lib.hid (S4.out.below h9 (Nat.le_refl _)); have B1 := Lib.hid (B1.out.below h9 (Nat.le_refl _)); have B3 := Lib.hid (B3.out.below h9 (Nat.le_refl _)); have B2 := Lib.hid (B2.out.below h9 (Nat.le_refl _)); have B4 := Lib.hid (B4.out.below h9 (Nat.le_refl _)); have c9_B1_0 := B1.out.cell 0 _ rfl; have c9_B1_1 := B1.out.cell 1 _ rfl; have c9_B1_2 := B1.out.cell 2 _ rfl; have c9_B3_0 := B3.out.cell 0 _ rfl; have c9_B3_1 := B3.out.cell 1 _ rfl; have c9_B3_2 := B3.out.cell 2 _ rfl; have c9_B2_0 := B2.out.cell 0 _ rfl; have c9_B2_1 := B2.out.cell 1 _ rfl; have c9_B2_2 := B2.out.cell 2 _ rfl; have c9_B4_0 := B4.out.cell 0 _ rfl; have c9_B4_1 := B4.out.cell 1 _ rfl; have c9_B4_2 := B4.out.cell 2 _ rfl; have q9 := q8.trans (h9.mono q8.size))
    | (go_at_call 12; (with_reducible refine (D4.out _ _ S4.out HE.out).mono ?_); rintro e w8 ⟨v, rfl, rfl, h8⟩; have HE := Lib.hid (HE.out.below h8 (Nat.le_refl _)); have S1 := Lib.hid (S1.out.below h8 (Nat.le_refl _)); have S3 := Lib.hid (S3.out.below h8 (Nat.le_refl _)); have S2 := Lib.hid (S2.out.below h8 (Nat.le_refl _)); have S4 := Lib.hid (S4.out.below h8 (Nat.le_refl _)); have B1 := Lib.hid (B1.out.below h8 (Nat.le_refl _)); have B3 := Lib.hid (B3.out.below h8 (Nat.le_refl _)); have B2 := Lib.hid (B2.out.below h8 (Nat.le_refl _)); have B4 := Lib.hid (B4.out.below h8 (Nat.le_refl _)); have c8_B1_0 := B1.out.cell 0 _ rfl; have c8_B1_1 := B1.out.cell 1 _ rfl; have c8_B1_2 := B1.out.cell 2 _ rfl; have c8_B3_0 := B3.out.cell 0 _ rfl; have c8_B3_1 := B3.out.cell 1 _ rfl; have c8_B3_2 := B3.out.cell 2 _ rfl; have c8_B2_0 := B2.out.cell 0 _ rfl; have c8_B2_1 := B2.out.cell 1 _ rfl; have c8_B2_2 := B2.out.cell 2 _ rfl; have c8_B4_0 := B4.out.cell 0 _ rfl; have c8_B4_1 := B4.out.cell 1 _ rfl; have c8_B4_2 := B4.out.cell 2 _ rfl; have q8 := q7.trans (h8.mono q7.size))
    | (go_at_call 37; (with_reducible refine (N2.out _ _ S2.out).mono ?_); rintro e w7 ⟨v, rfl, x7, rfl, s7, h7⟩; obtain ⟨a7, k7, rfl⟩ := sl_form s7; have g7 := h7.alloc h7.size (.cells #[.int .i64 2, .int .i64 2, .slice a7 (x4).length k7] 24); have S4 := Lib.hid (s7.below ((Below.refl w7.heap.size w7).alloc (Nat.le_refl _) (.cells #[.int .i64 2, .int .i64 2, .slice a7 (x4).length k7] 24)) (Nat.le_refl _)); clear s7; have B4 := Lib.hid (Blk.new w7 [.int .i64 2, .int .i64 2, .slice a7 (x4).length k7] 24); have HE := Lib.hid (HE.out.below g7 (Nat.le_refl _)); have S1 := Lib.hid (S1.out.below g7 (Nat.le_refl _)); have S3 := Lib.hid (S3.out.below g7 (Nat.le_refl _)); have S2 := Lib.hid (S2.out.below g7 (Nat.le_refl _)); have B1 := Lib.hid (B1.out.below g7 (Nat.le_refl _)); have B3 := Lib.hid (B3.out.below g7 (Nat.le_refl _)); have B2 := Lib.hid (B2.out.below g7 (Nat.le_refl _)); have c7_B1_0 := B1.out.cell 0 _ rfl; have c7_B1_1 := B1.out.cell 1 _ rfl; have c7_B1_2 := B1.out.cell 2 _ rfl; have c7_B3_0 := B3.out.cell 0 _ rfl; have c7_B3_1 := B3.out.cell 1 _ rfl; have c7_B3_2 := B3.out.cell 2 _ rfl; have c7_B2_0 := B2.out.cell 0 _ rfl; have c7_B2_1 := B2.out.cell 1 _ rfl; have c7_B2_2 := B2.out.cell 2 _ rfl; have c7_B4_0 := B4.out.cell 0 _ rfl; have c7_B4_1 := B4.out.cell 1 _ rfl; have c7_B4_2 := B4.out.cell 2 _ rfl; have q7 := q6.trans (g7.mono q6.size))
    | (go_at_call 36; (with_reducible refine (R2.out _ _ S2.out HE.out).mono ?_); rintro e w6 ⟨v, rfl, rfl, h6⟩; have HE := Lib.hid (HE.out.below h6 (Nat.le_refl _)); have S1 := Lib.hid (S1.out.below h6 (Nat.le_refl _)); have S3 := Lib.hid (S3.out.below h6 (Nat.le_refl _)); have S2 := Lib.hid (S2.out.below h6 (Nat.le_refl _)); have B1 := Lib.hid (B1.out.below h6 (Nat.le_refl _)); have B3 := Lib.hid (B3.out.below h6 (Nat.le_refl _)); have B2 := Lib.hid (B2.out.below h6 (Nat.le_refl _)); have c6_B1_0 := B1.out.cell 0 _ rfl; have c6_B1_1 := B1.out.cell 1 _ rfl; have c6_B1_2 := B1.out.cell 2 _ rfl; have c6_B3_0 := B3.out.cell 0 _ rfl; have c6_B3_1 := B3.out.cell 1 _ rfl; have c6_B3_2 := B3.out.cell 2 _ rfl; have c6_B2_0 := B2.out.cell 0 _ rfl; have c6_B2_1 := B2.out.cell 1 _ rfl; have c6_B2_2 := B2.out.cell 2 _ rfl; have q6 := q5.trans (h6.mono q5.size))
    | (go_at_call 12; (with_reducible refine (D2.out _ _ S2.out HE.out).mono ?_); rintro e w5 ⟨v, rfl, rfl, h5⟩; have HE := Lib.hid (HE.out.below h5 (Nat.le_refl _)); have S1 := Lib.hid (S1.out.below h5 (Nat.le_refl _)); have S3 := Lib.hid (S3.out.below h5 (Nat.le_refl _)); have S2 := Lib.hid (S2.out.below h5 (Nat.le_refl _)); have B1 := Lib.hid (B1.out.below h5 (Nat.le_refl _)); have B3 := Lib.hid (B3.out.below h5 (Nat.le_refl _)); have B2 := Lib.hid (B2.out.below h5 (Nat.le_refl _)); have c5_B1_0 := B1.out.cell 0 _ rfl; have c5_B1_1 := B1.out.cell 1 _ rfl; have c5_B1_2 := B1.out.cell 2 _ rfl; have c5_B3_0 := B3.out.cell 0 _ rfl; have c5_B3_1 := B3.out.cell 1 _ rfl; have c5_B3_2 := B3.out.cell 2 _ rfl; have c5_B2_0 := B2.out.cell 0 _ rfl; have c5_B2_1 := B2.out.cell 1 _ rfl; have c5_B2_2 := B2.out.cell 2 _ rfl; have q5 := q4.trans (h5.mono q4.size))
    | (go_at_call_of 34 (Value.int .i64 3); (with_reducible refine (M2.out _ _ (L2.out _ _ _) (HE.out.below (A0.out _ _) (Nat.le_refl _))).mono ?_); rintro e w4 ⟨v, rfl, x4, rfl, s4, h4⟩; obtain ⟨a4, k4, rfl⟩ := sl_form s4; have h4 := ((A0.out _ (.cells #[.int .i64 1, .int .i64 2, .int .i64 3, .int .i64 4, .int .i64 5, .int .i64 6, .int .i64 7, .int .i64 8, .int .i64 9] 3)).trans (h4.mono (by simp))); have g4 := h4.alloc h4.size (.cells #[.int .i64 3, .int .i64 3, .slice a4 (x2).length k4] 24); have S2 := Lib.hid (s4.below ((Below.refl w4.heap.size w4).alloc (Nat.le_refl _) (.cells #[.int .i64 3, .int .i64 3, .slice a4 (x2).length k4] 24)) (Nat.le_refl _)); clear s4; have B2 := Lib.hid (Blk.new w4 [.int .i64 3, .int .i64 3, .slice a4 (x2).length k4] 24); have HE := Lib.hid (HE.out.below g4 (Nat.le_refl _)); have S1 := Lib.hid (S1.out.below g4 (Nat.le_refl _)); have S3 := Lib.hid (S3.out.below g4 (Nat.le_refl _)); have B1 := Lib.hid (B1.out.below g4 (Nat.le_refl _)); have B3 := Lib.hid (B3.out.below g4 (Nat.le_refl _)); have c4_B1_0 := B1.out.cell 0 _ rfl; have c4_B1_1 := B1.out.cell 1 _ rfl; have c4_B1_2 := B1.out.cell 2 _ rfl; have c4_B3_0 := B3.out.cell 0 _ rfl; have c4_B3_1 := B3.out.cell 1 _ rfl; have c4_B3_2 := B3.out.cell 2 _ rfl; have c4_B2_0 := B2.out.cell 0 _ rfl; have c4_B2_1 := B2.out.cell 1 _ rfl; have c4_B2_2 := B2.out.cell 2 _ rfl; have q4 := q3.trans (g4.mono q3.size))
    | (go_at_call 35; (with_reducible refine (P1.out _ _ _ S1.out S1.out HE.out).mono ?_); rintro e w3 ⟨v, rfl, x3, rfl, s3, h3⟩; obtain ⟨a3, k3, rfl⟩ := sl_form s3; have g3 := h3.alloc h3.size (.cells #[.int .i64 2, .int .i64 2, .slice a3 (x3).length k3] 24); have S3 := Lib.hid (s3.below ((Below.refl w3.heap.size w3).alloc (Nat.le_refl _) (.cells #[.int .i64 2, .int .i64 2, .slice a3 (x3).length k3] 24)) (Nat.le_refl _)); clear s3; have B3 := Lib.hid (Blk.new w3 [.int .i64 2, .int .i64 2, .slice a3 (x3).length k3] 24); have HE := Lib.hid (HE.out.below g3 (Nat.le_refl _)); have S1 := Lib.hid (S1.out.below g3 (Nat.le_refl _)); have B1 := Lib.hid (B1.out.below g3 (Nat.le_refl _)); have c3_B1_0 := B1.out.cell 0 _ rfl; have c3_B1_1 := B1.out.cell 1 _ rfl; have c3_B1_2 := B1.out.cell 2 _ rfl; have c3_B3_0 := B3.out.cell 0 _ rfl; have c3_B3_1 := B3.out.cell 1 _ rfl; have c3_B3_2 := B3.out.cell 2 _ rfl; have q3 := q2.trans (g3.mono q2.size))
    | (go_at_call 12; (with_reducible refine (D1.out _ _ S1.out HE.out).mono ?_); rintro e w2 ⟨v, rfl, rfl, h2⟩; have HE := Lib.hid (HE.out.below h2 (Nat.le_refl _)); have S1 := Lib.hid (S1.out.below h2 (Nat.le_refl _)); have B1 := Lib.hid (B1.out.below h2 (Nat.le_refl _)); have c2_B1_0 := B1.out.cell 0 _ rfl; have c2_B1_1 := B1.out.cell 1 _ rfl; have c2_B1_2 := B1.out.cell 2 _ rfl; have q2 := q1.trans (h2.mono q1.size))
    | (go_at_call_of 34 (Value.int .i64 2); (with_reducible refine (M1.out _ _ (L1.out _ _) (HE.out.below (A0.out _ _) (Nat.le_refl _))).mono ?_); rintro e w1 ⟨v, rfl, x1, rfl, s1, h1⟩; obtain ⟨a1, k1, rfl⟩ := sl_form s1; have h1 := ((A0.out _ (.cells #[.int .i64 2, .int .i64 1, .int .i64 7, .int .i64 4] 3)).trans (h1.mono (by simp))); have g1 := h1.alloc h1.size (.cells #[.int .i64 2, .int .i64 2, .slice a1 (x1).length k1] 24); have S1 := Lib.hid (s1.below ((Below.refl w1.heap.size w1).alloc (Nat.le_refl _) (.cells #[.int .i64 2, .int .i64 2, .slice a1 (x1).length k1] 24)) (Nat.le_refl _)); clear s1; have B1 := Lib.hid (Blk.new w1 [.int .i64 2, .int .i64 2, .slice a1 (x1).length k1] 24); have HE := Lib.hid (HE.out.below g1 (Nat.le_refl _)); have c1_B1_0 := B1.out.cell 0 _ rfl; have c1_B1_1 := B1.out.cell 1 _ rfl; have c1_B1_2 := B1.out.cell 2 _ rfl; have q1 := q0.trans (g1.mono q0.size)))
  go_ret
  exact ⟨_, rfl, rfl, q9⟩
end Go.Proofs.YtajkhbpffakmfaaGreatDoor

namespace Go.Proofs.YtajkhbpffakmfaaGreatDoor
open Go.RowKit
set_option maxRecDepth 100000

def nine (xs : List ByteArray) : Bool := xs.all fun s => decide (s.size ≤ 9)
theorem nine_drop (xs : List ByteArray) (k : Nat) (h : k < xs.length) : nine (xs.drop k) = (decide (xs[k].size ≤ 9) && nine (xs.drop (k + 1))) := by
  rw [nine, List.drop_eq_getElem_cons h, List.all_cons]; rfl
theorem nine_iff (xs : List ByteArray) : nine xs = true ↔ ∀ s ∈ xs, s.size ≤ 9 := by simp [nine]
def lenOk (n : Nat) : Bool := !(decide (60 < n) && decide (n < 400)) && !decide (1000 < n)
def sideOk (most R C : Int) (n : Nat) : Bool := decide (R ≤ most) && decide (C ≤ most) || !sideB R || !sideB C || !decide ((n : Int) = R * C)
/-- What Few answers. -/
def few03 (most R C : Int) (xs : List ByteArray) : Bool := lenOk xs.length && nine xs && sideOk most R C xs.length
theorem few03_rm {most R C : Int} {xs : List ByteArray} (h : few03 most R C xs = true) : Fit 9 xs ∧ (mchkM R C xs = 0 → R ≤ most ∧ C ≤ most) := by
  unfold few03 at h
  simp only [Bool.and_eq_true] at h
  refine ⟨(nine_iff xs).1 h.1.2, fun hm => ?_⟩
  obtain ⟨r, c, hrm⟩ := rm_of hm
  have h1 : sideB R = true := (sideB_iff R).2 (by have := hrm.rows; have := hrm.r16; omega)
  have h2 : sideB C = true := (sideB_iff C).2 (by have := hrm.cols; have := hrm.c16; omega)
  have h3 : (xs.length : Int) = R * C := by rw [hrm.rows, hrm.cols, hrm.len]; exact Int.natCast_mul _ _
  have h4 := h.2
  unfold sideOk at h4
  rw [h1, h2, decide_eq_true h3] at h4
  simpa using h4
set_option maxHeartbeats 8000000 in
theorem Few03_any (w : World) (most R C : Int) (v : Value) (xs : List ByteArray) (hv : Sl eS w v xs) (hsz : ∀ s ∈ xs, s.size ≤ 9223372036854775807) :
    Calls Tryz.prog 32 #[.agg #[.int .i64 R, .int .i64 C, v], .int .i64 most] w (Rets fun v w' => v = .bool (few03 most R C xs) ∧ Below w.heap.size w w') := by
  obtain ⟨ad, b, o, cap, rfl, hx, hp, hcc, hm⟩ := hv.open elemStr
  have HSZ := Lib.hid hsz
  unfold maxLen at hm
  clear hv hsz
  obtain ⟨W0, hW0⟩ : ∃ W0, w.alloc (.cells #[.int .i64 R, .int .i64 C, .slice ad xs.length cap] 24) = W0 := ⟨_, rfl⟩
  have HB := Lib.hid (show Below w.heap.size w W0 by rw [← hW0]; exact (Below.refl _ _).alloc (Nat.le_refl _) _)
  have hK : Blk W0 w.heap.size [.int .i64 R, .int .i64 C, .slice ad xs.length cap] 24 := by rw [← hW0]; exact Blk.new w _ _
  have k0 := hK.cell 0 _ rfl; have k1 := hK.cell 1 _ rfl; have k2 := hK.cell 2 _ rfl
  have hp0 := hp.below HB.out (Nat.le_refl _)
  have HW0 := Lib.hid hW0
  clear hW0 hK hp
  rcases (show (60 < xs.length ∧ xs.length < 400) ∨ 1000 < xs.length ∨ xs.length ≤ 60 ∨ (60 < xs.length ∧ 400 ≤ xs.length ∧ xs.length ≤ 1000) by omega) with h1 | h1 | h1 | h1
  · have HF := Lib.hid (show few03 most R C xs = false by unfold few03; rw [show lenOk xs.length = false by unfold lenOk; simp; omega]; rfl)
    go_enter Tryz.func32, Tryz.ntmps32
    go_wp2
    go_ret
    exact ⟨_, rfl, by rw [HF.out]; rfl, by rw [HW0.out]; exact HB.out⟩
  · have HF := Lib.hid (show few03 most R C xs = false by unfold few03; rw [show lenOk xs.length = false by unfold lenOk; simp; omega]; rfl)
    go_enter Tryz.func32, Tryz.ntmps32
    go_wp2
    go_ret
    exact ⟨_, rfl, by rw [HF.out]; rfl, by rw [HW0.out]; exact HB.out⟩
  · have HL := Lib.hid (show lenOk xs.length = true by unfold lenOk; simp; omega)
    go_enter Tryz.func32, Tryz.ntmps32
    go_wp2
    rw [HW0.out]
    go_loopw [5] (fun i wr => ∃ k : Nat, k ≤ xs.length ∧ i = .int .i64 k ∧ Hid (nine xs = nine (xs.drop k)) ∧ W0 = wr) (fun i _ => xs.length - (intOf i).toNat)
    case atStart => exact ⟨0, Nat.zero_le _, rfl, Lib.hid rfl, rfl⟩
    case round =>
      obtain ⟨k, hk, rfl, ho, rfl⟩ := hrel
      by_cases hkn : k < xs.length
      · have g1 : W0.cell? ⟨b, o + k, none⟩ = some (.string xs[k]) := hp0.2 k hkn
        have hD := nine_drop xs k hkn
        have hS := HSZ.out _ (List.getElem_mem hkn)
        obtain ⟨s, hs⟩ : ∃ s, xs[k] = s := ⟨_, rfl⟩
        rw [hs] at g1 hD hS
        clear hs
        by_cases h9 : s.size ≤ 9
        · have HD := Lib.hid (show nine (xs.drop k) = nine (xs.drop (k + 1)) by rw [hD]; simp [h9])
          have hq : (s.size : Int) ≤ 9 := by omega
          clear hD
          go_wp2
          go_roundw
          case rel => exact ⟨k + 1, by omega, by go_num, Lib.hid (by rw [ho.out, HD.out]), trivial⟩
          case measure => simp [intOf]; omega
        · have HF := Lib.hid (show few03 most R C xs = false by unfold few03; rw [ho.out, hD]; simp [h9])
          have hq : (9 : Int) < (s.size : Int) := by omega
          clear hD
          go_wp2
          go_ret
          exact ⟨_, rfl, by rw [HF.out]; rfl, HB.out⟩
      · obtain rfl : k = xs.length := by omega
        have HN := Lib.hid (show nine xs = true by rw [ho.out, List.drop_length]; rfl)
        clear ho hp0
        rcases Int.lt_or_le most R with a1 | a1
        rotate_left
        rcases Int.lt_or_le most C with a2 | a2
        rotate_left
        · have HV := Lib.hid (show few03 most R C xs = true by unfold few03; rw [HL.out, HN.out]; unfold sideOk; simp [a1, a2])
          go_wp2
          go_ret
          exact ⟨_, rfl, by rw [HV.out]; rfl, HB.out⟩
        · have b1x : decide (R ≤ most) = false := by simp; omega
          by_cases hR : sideB R = true
          · by_cases hC : sideB C = true
            · have HR := Lib.hid hR; have HC := Lib.hid hC
              have hm2 := side_mul hR hC
              obtain ⟨p, hRC⟩ : ∃ p, R * C = p := ⟨_, rfl⟩
              rw [hRC] at hm2
              by_cases hl : (xs.length : Int) = p
              · have hne : ((xs.length : Int) != p) = false := by simp [hl]
                have HV := Lib.hid (show few03 most R C xs = false by unfold few03; rw [HL.out, HN.out]; unfold sideOk; rw [hR, hC, hRC, hl]; simp; omega)
                clear hl hR hC
                go_wp2_with (first
                  | (go_at_call_of 77 (Value.int .i64 R); (with_reducible refine (rMside_any _ R).mono ?_); rintro e w1 ⟨v, rfl, rfl, rfl⟩; rw [HR.out])
                  | (go_at_call_of 77 (Value.int .i64 C); (with_reducible refine (rMside_any _ C).mono ?_); rintro e w1 ⟨v, rfl, rfl, rfl⟩; rw [HC.out]))
                go_ret
                exact ⟨_, rfl, by rw [HV.out]; rfl, HB.out⟩
              · have hne : ((xs.length : Int) != p) = true := by simp [hl]
                have HV := Lib.hid (show few03 most R C xs = true by unfold few03; rw [HL.out, HN.out]; unfold sideOk; rw [hRC]; simp [hl])
                clear hl hR hC
                go_wp2_with (first
                  | (go_at_call_of 77 (Value.int .i64 R); (with_reducible refine (rMside_any _ R).mono ?_); rintro e w1 ⟨v, rfl, rfl, rfl⟩; rw [HR.out])
                  | (go_at_call_of 77 (Value.int .i64 C); (with_reducible refine (rMside_any _ C).mono ?_); rintro e w1 ⟨v, rfl, rfl, rfl⟩; rw [HC.out]))
                go_ret
                exact ⟨_, rfl, by rw [HV.out]; rfl, HB.out⟩
            · have HR := Lib.hid hR; have HC := Lib.hid (show sideB C = false by simpa using hC)
              have HV := Lib.hid (show few03 most R C xs = true by unfold few03; rw [HL.out, HN.out]; unfold sideOk; rw [HC.out]; simp)
              clear hR hC
              go_wp2_with (first
                | (go_at_call_of 77 (Value.int .i64 R); (with_reducible refine (rMside_any _ R).mono ?_); rintro e w1 ⟨v, rfl, rfl, rfl⟩; rw [HR.out])
                | (go_at_call_of 77 (Value.int .i64 C); (with_reducible refine (rMside_any _ C).mono ?_); rintro e w1 ⟨v, rfl, rfl, rfl⟩; rw [HC.out]))
              go_ret
              exact ⟨_, rfl, by rw [HV.out]; rfl, HB.out⟩
          · have HR := Lib.hid (show sideB R = false by simpa using hR)
            have HV := Lib.hid (show few03 most R C xs = true by unfold few03; rw [HL.out, HN.out]; unfold sideOk; rw [HR.out]; simp)
            clear hR
            go_wp2_with (first
              | (go_at_call_of 77 (Value.int .i64 R); (with_reducible refine (rMside_any _ R).mono ?_); rintro e w1 ⟨v, rfl, rfl, rfl⟩; rw [HR.out]))
            go_ret
            exact ⟨_, rfl, by rw [HV.out]; rfl, HB.out⟩
        · have b2 : decide (C ≤ most) = false := by simp; omega
          by_cases hR : sideB R = true
          · by_cases hC : sideB C = true
            · have HR := Lib.hid hR; have HC := Lib.hid hC
              have hm2 := side_mul hR hC
              obtain ⟨p, hRC⟩ : ∃ p, R * C = p := ⟨_, rfl⟩
              rw [hRC] at hm2
              by_cases hl : (xs.length : Int) = p
              · have hne : ((xs.length : Int) != p) = false := by simp [hl]
                have HV := Lib.hid (show few03 most R C xs = false by unfold few03; rw [HL.out, HN.out]; unfold sideOk; rw [hR, hC, hRC, hl]; simp; omega)
                clear hl hR hC
                go_wp2_with (first
                  | (go_at_call_of 77 (Value.int .i64 R); (with_reducible refine (rMside_any _ R).mono ?_); rintro e w1 ⟨v, rfl, rfl, rfl⟩; rw [HR.out])
                  | (go_at_call_of 77 (Value.int .i64 C); (with_reducible refine (rMside_any _ C).mono ?_); rintro e w1 ⟨v, rfl, rfl, rfl⟩; rw [HC.out]))
                go_ret
                exact ⟨_, rfl, by rw [HV.out]; rfl, HB.out⟩
              · have hne : ((xs.length : Int) != p) = true := by simp [hl]
                have HV := Lib.hid (show few03 most R C xs = true by unfold few03; rw [HL.out, HN.out]; unfold sideOk; rw [hRC]; simp [hl])
                clear hl hR hC
                go_wp2_with (first
                  | (go_at_call_of 77 (Value.int .i64 R); (with_reducible refine (rMside_any _ R).mono ?_); rintro e w1 ⟨v, rfl, rfl, rfl⟩; rw [HR.out])
                  | (go_at_call_of 77 (Value.int .i64 C); (with_reducible refine (rMside_any _ C).mono ?_); rintro e w1 ⟨v, rfl, rfl, rfl⟩; rw [HC.out]))
                go_ret
                exact ⟨_, rfl, by rw [HV.out]; rfl, HB.out⟩
            · have HR := Lib.hid hR; have HC := Lib.hid (show sideB C = false by simpa using hC)
              have HV := Lib.hid (show few03 most R C xs = true by unfold few03; rw [HL.out, HN.out]; unfold sideOk; rw [HC.out]; simp)
              clear hR hC
              go_wp2_with (first
                | (go_at_call_of 77 (Value.int .i64 R); (with_reducible refine (rMside_any _ R).mono ?_); rintro e w1 ⟨v, rfl, rfl, rfl⟩; rw [HR.out])
                | (go_at_call_of 77 (Value.int .i64 C); (with_reducible refine (rMside_any _ C).mono ?_); rintro e w1 ⟨v, rfl, rfl, rfl⟩; rw [HC.out]))
              go_ret
              exact ⟨_, rfl, by rw [HV.out]; rfl, HB.out⟩
          · have HR := Lib.hid (show sideB R = false by simpa using hR)
            have HV := Lib.hid (show few03 most R C xs = true by unfold few03; rw [HL.out, HN.out]; unfold sideOk; rw [HR.out]; simp)
            clear hR
            go_wp2_with (first
              | (go_at_call_of 77 (Value.int .i64 R); (with_reducible refine (rMside_any _ R).mono ?_); rintro e w1 ⟨v, rfl, rfl, rfl⟩; rw [HR.out]))
            go_ret
            exact ⟨_, rfl, by rw [HV.out]; rfl, HB.out⟩
  · have HL := Lib.hid (show lenOk xs.length = true by unfold lenOk; simp; omega)
    go_enter Tryz.func32, Tryz.ntmps32
    go_wp2
    rw [HW0.out]
    go_loopw [5] (fun i wr => ∃ k : Nat, k ≤ xs.length ∧ i = .int .i64 k ∧ Hid (nine xs = nine (xs.drop k)) ∧ W0 = wr) (fun i _ => xs.length - (intOf i).toNat)
    case atStart => exact ⟨0, Nat.zero_le _, rfl, Lib.hid rfl, rfl⟩
    case round =>
      obtain ⟨k, hk, rfl, ho, rfl⟩ := hrel
      by_cases hkn : k < xs.length
      · have g1 : W0.cell? ⟨b, o + k, none⟩ = some (.string xs[k]) := hp0.2 k hkn
        have hD := nine_drop xs k hkn
        have hS := HSZ.out _ (List.getElem_mem hkn)
        obtain ⟨s, hs⟩ : ∃ s, xs[k] = s := ⟨_, rfl⟩
        rw [hs] at g1 hD hS
        clear hs
        by_cases h9 : s.size ≤ 9
        · have HD := Lib.hid (show nine (xs.drop k) = nine (xs.drop (k + 1)) by rw [hD]; simp [h9])
          have hq : (s.size : Int) ≤ 9 := by omega
          clear hD
          go_wp2
          go_roundw
          case rel => exact ⟨k + 1, by omega, by go_num, Lib.hid (by rw [ho.out, HD.out]), trivial⟩
          case measure => simp [intOf]; omega
        · have HF := Lib.hid (show few03 most R C xs = false by unfold few03; rw [ho.out, hD]; simp [h9])
          have hq : (9 : Int) < (s.size : Int) := by omega
          clear hD
          go_wp2
          go_ret
          exact ⟨_, rfl, by rw [HF.out]; rfl, HB.out⟩
      · obtain rfl : k = xs.length := by omega
        have HN := Lib.hid (show nine xs = true by rw [ho.out, List.drop_length]; rfl)
        clear ho hp0
        rcases Int.lt_or_le most R with a1 | a1
        rotate_left
        rcases Int.lt_or_le most C with a2 | a2
        rotate_left
        · have HV := Lib.hid (show few03 most R C xs = true by unfold few03; rw [HL.out, HN.out]; unfold sideOk; simp [a1, a2])
          go_wp2
          go_ret
          exact ⟨_, rfl, by rw [HV.out]; rfl, HB.out⟩
        · have b1x : decide (R ≤ most) = false := by simp; omega
          by_cases hR : sideB R = true
          · by_cases hC : sideB C = true
            · have HR := Lib.hid hR; have HC := Lib.hid hC
              have hm2 := side_mul hR hC
              obtain ⟨p, hRC⟩ : ∃ p, R * C = p := ⟨_, rfl⟩
              rw [hRC] at hm2
              by_cases hl : (xs.length : Int) = p
              · have hne : ((xs.length : Int) != p) = false := by simp [hl]
                have HV := Lib.hid (show few03 most R C xs = false by unfold few03; rw [HL.out, HN.out]; unfold sideOk; rw [hR, hC, hRC, hl]; simp; omega)
                clear hl hR hC
                go_wp2_with (first
                  | (go_at_call_of 77 (Value.int .i64 R); (with_reducible refine (rMside_any _ R).mono ?_); rintro e w1 ⟨v, rfl, rfl, rfl⟩; rw [HR.out])
                  | (go_at_call_of 77 (Value.int .i64 C); (with_reducible refine (rMside_any _ C).mono ?_); rintro e w1 ⟨v, rfl, rfl, rfl⟩; rw [HC.out]))
                go_ret
                exact ⟨_, rfl, by rw [HV.out]; rfl, HB.out⟩
              · have hne : ((xs.length : Int) != p) = true := by simp [hl]
                have HV := Lib.hid (show few03 most R C xs = true by unfold few03; rw [HL.out, HN.out]; unfold sideOk; rw [hRC]; simp [hl])
                clear hl hR hC
                go_wp2_with (first
                  | (go_at_call_of 77 (Value.int .i64 R); (with_reducible refine (rMside_any _ R).mono ?_); rintro e w1 ⟨v, rfl, rfl, rfl⟩; rw [HR.out])
                  | (go_at_call_of 77 (Value.int .i64 C); (with_reducible refine (rMside_any _ C).mono ?_); rintro e w1 ⟨v, rfl, rfl, rfl⟩; rw [HC.out]))
                go_ret
                exact ⟨_, rfl, by rw [HV.out]; rfl, HB.out⟩
            · have HR := Lib.hid hR; have HC := Lib.hid (show sideB C = false by simpa using hC)
              have HV := Lib.hid (show few03 most R C xs = true by unfold few03; rw [HL.out, HN.out]; unfold sideOk; rw [HC.out]; simp)
              clear hR hC
              go_wp2_with (first
                | (go_at_call_of 77 (Value.int .i64 R); (with_reducible refine (rMside_any _ R).mono ?_); rintro e w1 ⟨v, rfl, rfl, rfl⟩; rw [HR.out])
                | (go_at_call_of 77 (Value.int .i64 C); (with_reducible refine (rMside_any _ C).mono ?_); rintro e w1 ⟨v, rfl, rfl, rfl⟩; rw [HC.out]))
              go_ret
              exact ⟨_, rfl, by rw [HV.out]; rfl, HB.out⟩
          · have HR := Lib.hid (show sideB R = false by simpa using hR)
            have HV := Lib.hid (show few03 most R C xs = true by unfold few03; rw [HL.out, HN.out]; unfold sideOk; rw [HR.out]; simp)
            clear hR
            go_wp2_with (first
              | (go_at_call_of 77 (Value.int .i64 R); (with_reducible refine (rMside_any _ R).mono ?_); rintro e w1 ⟨v, rfl, rfl, rfl⟩; rw [HR.out]))
            go_ret
            exact ⟨_, rfl, by rw [HV.out]; rfl, HB.out⟩
        · have b2 : decide (C ≤ most) = false := by simp; omega
          by_cases hR : sideB R = true
          · by_cases hC : sideB C = true
            · have HR := Lib.hid hR; have HC := Lib.hid hC
              have hm2 := side_mul hR hC
              obtain ⟨p, hRC⟩ : ∃ p, R * C = p := ⟨_, rfl⟩
              rw [hRC] at hm2
              by_cases hl : (xs.length : Int) = p
              · have hne : ((xs.length : Int) != p) = false := by simp [hl]
                have HV := Lib.hid (show few03 most R C xs = false by unfold few03; rw [HL.out, HN.out]; unfold sideOk; rw [hR, hC, hRC, hl]; simp; omega)
                clear hl hR hC
                go_wp2_with (first
                  | (go_at_call_of 77 (Value.int .i64 R); (with_reducible refine (rMside_any _ R).mono ?_); rintro e w1 ⟨v, rfl, rfl, rfl⟩; rw [HR.out])
                  | (go_at_call_of 77 (Value.int .i64 C); (with_reducible refine (rMside_any _ C).mono ?_); rintro e w1 ⟨v, rfl, rfl, rfl⟩; rw [HC.out]))
                go_ret
                exact ⟨_, rfl, by rw [HV.out]; rfl, HB.out⟩
              · have hne : ((xs.length : Int) != p) = true := by simp [hl]
                have HV := Lib.hid (show few03 most R C xs = true by unfold few03; rw [HL.out, HN.out]; unfold sideOk; rw [hRC]; simp [hl])
                clear hl hR hC
                go_wp2_with (first
                  | (go_at_call_of 77 (Value.int .i64 R); (with_reducible refine (rMside_any _ R).mono ?_); rintro e w1 ⟨v, rfl, rfl, rfl⟩; rw [HR.out])
                  | (go_at_call_of 77 (Value.int .i64 C); (with_reducible refine (rMside_any _ C).mono ?_); rintro e w1 ⟨v, rfl, rfl, rfl⟩; rw [HC.out]))
                go_ret
                exact ⟨_, rfl, by rw [HV.out]; rfl, HB.out⟩
            · have HR := Lib.hid hR; have HC := Lib.hid (show sideB C = false by simpa using hC)
              have HV := Lib.hid (show few03 most R C xs = true by unfold few03; rw [HL.out, HN.out]; unfold sideOk; rw [HC.out]; simp)
              clear hR hC
              go_wp2_with (first
                | (go_at_call_of 77 (Value.int .i64 R); (with_reducible refine (rMside_any _ R).mono ?_); rintro e w1 ⟨v, rfl, rfl, rfl⟩; rw [HR.out])
                | (go_at_call_of 77 (Value.int .i64 C); (with_reducible refine (rMside_any _ C).mono ?_); rintro e w1 ⟨v, rfl, rfl, rfl⟩; rw [HC.out]))
              go_ret
              exact ⟨_, rfl, by rw [HV.out]; rfl, HB.out⟩
          · have HR := Lib.hid (show sideB R = false by simpa using hR)
            have HV := Lib.hid (show few03 most R C xs = true by unfold few03; rw [HL.out, HN.out]; unfold sideOk; rw [HR.out]; simp)
            clear hR
            go_wp2_with (first
              | (go_at_call_of 77 (Value.int .i64 R); (with_reducible refine (rMside_any _ R).mono ?_); rintro e w1 ⟨v, rfl, rfl, rfl⟩; rw [HR.out]))
            go_ret
            exact ⟨_, rfl, by rw [HV.out]; rfl, HB.out⟩
end Go.Proofs.YtajkhbpffakmfaaGreatDoor

namespace Go.Proofs.YtajkhbpffakmfaaGreatDoor
open Go.RowKit
set_option maxRecDepth 100000

theorem size_txt (z : Int) : (txt z).size ≤ dn z + 2 := by
  have h := itoa_len z
  simpa [txt, ByteArray.size] using h
theorem fit_cells {r c D : Nat} {A : Mat} (h : ∀ i k, i < r → k < c → dn (A i k) ≤ D) : Fit (D + 2) (cellsF r c A) := by
  intro s hs
  obtain ⟨t, ht, rfl⟩ := List.mem_map.1 hs
  have ht' : t < r * c := by simpa using ht
  have hc : 0 < c := by rcases Nat.eq_zero_or_pos c with e | e; · simp [e] at ht'
                        · exact e
  have := h (t / c) (t % c) (Nat.div_lt_of_lt_mul (by rw [Nat.mul_comm]; exact ht')) (Nat.mod_lt _ hc)
  have := size_txt (A (t / c) (t % c))
  omega
theorem matF_cells {r c i k : Nat} {A : Mat} (hi : i < r) (hk : k < c) (hb : big (A i k) = false) : matF c (cellsF r c A) i k = A i k := by
  unfold matF
  rw [List.getD_eq_getElem?_getD, cellsF_get? A hi hk]
  exact Good.num (.of hb)
theorem rm_cells {r c D : Nat} {A : Mat} (hr : r ≤ 16) (hc : c ≤ 16) (hD : D ≤ 1024) (h : ∀ i k, i < r → k < c → dn (A i k) ≤ D) : RM r c (cellsF r c A) r c :=
  rm_cellsF hr hc fun i k hi hk => bigD (Nat.le_trans (h i k hi hk) hD)
theorem rank_of {xs : List ByteArray} {r c : Nat} (h : RM r c xs r c) : ∃ k, rankS r c xs = (k, 0) ∧ Rk r c (matF c xs) k ∧ k ≤ r ∧ k ≤ c := by
  have hK := Kept.cols (m := r) (n := c) (matF c xs) c (Nat.le_refl _)
  exact ⟨_, by unfold rankS; rw [if_pos h.mchk]; rfl, hK.rk, hK.rank_le⟩
theorem rank_cells {r c D : Nat} {A : Mat} (hr : r ≤ 16) (hc : c ≤ 16) (hD : D ≤ 1024) (h : ∀ i k, i < r → k < c → dn (A i k) ≤ D) : ∃ k, rankS r c (cellsF r c A) = (k, 0) ∧ Rk r c A k ∧ k ≤ r ∧ k ≤ c := by
  obtain ⟨k, h1, h2, h3⟩ := rank_of (rm_cells hr hc hD h)
  exact ⟨k, h1, rk_congr h2 fun i j hi hj => matF_cells hi hj (bigD (Nat.le_trans (h i j hi hj) hD)), h3⟩
theorem det_of {xs : List ByteArray} {n : Nat} (h : RM n n xs n n) : detS n n xs = (txt (det n (matF n xs)), 0) := by
  unfold detS; rw [if_pos h.mchk, if_pos rfl]; rfl
theorem det_cells {n D : Nat} {A : Mat} (hn : n ≤ 16) (hD : D ≤ 1024) (h : ∀ i k, i < n → k < n → dn (A i k) ≤ D) : detS n n (cellsF n n A) = (txt (det n A), 0) := by
  rw [det_of (rm_cells hn hn hD h), det_congr fun i j hi hj => matF_cells hi hj (bigD (Nat.le_trans (h i j hi hj) hD))]
theorem prod_of {xs ys : List ByteArray} {r n p : Nat} (h : RM r n xs r n) (h' : RM n p ys n p) : prodS r n xs n p ys = ⟨r, p, cellsF r p (mulM n (matF n xs) (matF p ys)), 0⟩ := by
  unfold prodS twoM; rw [if_pos h.mchk, if_pos h'.mchk, if_pos rfl]; rfl
theorem tr_of {xs : List ByteArray} {r c : Nat} (h : RM r c xs r c) : trS r c xs = ⟨c, r, cellsF c r (tr (matF c xs)), 0⟩ := by
  unfold trS; rw [if_pos h.mchk]; rfl
theorem RM.self {R C : Int} {xs : List ByteArray} {r c : Nat} (h : RM R C xs r c) : RM r c xs r c := ⟨rfl, rfl, h.r16, h.c16, h.len, h.chk⟩
theorem Fit.big {D : Nat} {xs : List ByteArray} (h : Fit D xs) (hD : D ≤ 1000000) : ∀ s ∈ xs, s.size ≤ 1000000 := fun s hs => Nat.le_trans (h s hs) hD
/-- Functions of matrices, at right ones with few digits. -/
theorem det_call {w : World} {v : Value} {xs : List ByteArray} {n D : Nat} {A : Mat} (hv : Sl eS w v xs) (hx : xs = cellsF n n A) (hn : n ≤ 6) (hD : D ≤ 58) (h : ∀ i k, i < n → k < n → dn (A i k) ≤ D) (he : Env w) :
    Calls Tryz.prog 12 #[.agg #[.int .i64 n, .int .i64 n, v]] w (Rets fun v w' => v = .tuple #[.string (txt (det n A)), .int .i64 0] ∧ Below w.heap.size w w') := by
  subst hx
  exact retS_of (Determinant_any w n n v _ hv ((fit_cells h).mono (by omega)) (fun _ => by omega) he) (det_cells (by omega) (by omega) h)
theorem prod_call {w : World} {v u : Value} {xs ys : List ByteArray} {r n p D : Nat} {A B : Mat} (hv : Sl eS w v xs) (hu : Sl eS w u ys) (hx : xs = cellsF r n A) (hy : ys = cellsF n p B) (hr : r ≤ 16) (hn : n ≤ 16) (hp : p ≤ 16) (hD : D ≤ 498) (hA : ∀ i k, i < r → k < n → dn (A i k) ≤ D) (hB : ∀ i k, i < n → k < p → dn (B i k) ≤ D) (he : Env w) :
    Calls Tryz.prog 35 #[.agg #[.int .i64 r, .int .i64 n, v], .agg #[.int .i64 n, .int .i64 p, u]] w (RetM w r p (cellsF r p (mulM n A B)) 0) := by
  subst hx hy
  refine retM_of (Product_any w r n n p v u _ _ hv hu (fun _ => (fit_cells hA).big (by omega)) (fun _ => (fit_cells hB).big (by omega)) ((fit_cells hA).mono (by omega)) ((fit_cells hB).mono (by omega)) he) ?_
  rw [prod_of (rm_cells hr hn (by omega) hA) (rm_cells hn hp (by omega) hB), cellsF_congr fun i k hi hk => ?_]
  exact sm_congr fun j hj => by rw [matF_cells hi hj (bigD (Nat.le_trans (hA i j hi hj) (by omega))), matF_cells hj hk (bigD (Nat.le_trans (hB j k hj hk) (by omega)))]
theorem rank_call {w : World} {v : Value} {xs : List ByteArray} {r c D k : Nat} {A : Mat} (hv : Sl eS w v xs) (hx : xs = cellsF r c A) (hr : r ≤ 6) (hc : c ≤ 6) (hD : D ≤ 58) (h : ∀ i k, i < r → k < c → dn (A i k) ≤ D) (hk : Rk r c A k) (he : Env w) :
    Calls Tryz.prog 36 #[.agg #[.int .i64 r, .int .i64 c, v]] w (Rets fun v w' => v = .tuple #[.int .i64 k, .int .i64 0] ∧ Below w.heap.size w w') := by
  subst hx
  obtain ⟨k', h1, h2, -⟩ := rank_cells (r := r) (c := c) (D := D) (A := A) (by omega) (by omega) (by omega) h
  obtain rfl := h2.uniq hk
  exact retN_of (Rank_any w r c v _ hv ((fit_cells h).mono (by omega)) (fun _ => by omega) he) h1
end Go.Proofs.YtajkhbpffakmfaaGreatDoor
