/- The condition 'early' of XJ by one closure in place of all orders. The walks of the reference's two, bounded and Add of matrices. The walks of the reference's Times, Product and Column of matrices. The walks of Apply, of the reference and of matrix. Plain law: the coefficients of the greatest common divisor, by Euclid's divisions. The walk of integer's coefficient. The walk of integer's Bezout. The public functions at the chapter's examples. The walk of the law's awake. The walks of the reference's Total and Sum. -/
import Derived.Test.YtfhdmhifdaiehaaGreatDoorPk5
import Derived.Test.YtfhdmhifdaiehaaGreatDoorPk6
import Derived.Test.YtfhdmhifdaiehaaGreatDoorPk3
import Derived.Laws.EntriesVeiled
import Derived.Test.YtfhdmhifdaiehaaGreatDoorPk11
namespace Go.Proofs.YtfhdmhifdaiehaaGreatDoor
open Go.RowKit
set_option maxRecDepth 100000

section
variable {ops : Array Oper} {md : Region.Mode} {A : Nat → Bool}
def gro1 (i : Nat) (L : Array Bool) (j : Nat) : Array Bool := if j == i then L else L.setIfInBounds j true
def grow (i : Nat) (rs : List Nat) (L : Array Bool) : Array Bool := rs.foldl (fun L j => gro1 i L j) L
/-- All that can come up before i is not late: the closure of what is ready without i. -/
def sat (md : Region.Mode) (ops : Array Oper) (A : Nat → Bool) (i : Nat) : Nat → Array Bool → Bool
  | 0, _ => true
  | n + 1, L => (Region.ready md ops L).all (fun j => j == i || A j) && sat md ops A i n (grow i (Region.ready md ops L) L)
theorem getD_setB (L : Array Bool) (j k : Nat) : (L.setIfInBounds j true).getD k false = if k = j ∧ j < L.size then true else L.getD k false := by
  simp only [Array.getD_eq_getD_getElem?, Array.getElem?_setIfInBounds]
  by_cases h : j = k
  · subst h
    by_cases hj : j < L.size
    · simp [hj]
    · simp [hj, Array.getElem?_eq_none (Nat.le_of_not_lt hj)]
  · simp [h, Ne.symm h]
theorem grow_size (i : Nat) : ∀ (rs : List Nat) (L : Array Bool), (grow i rs L).size = L.size
  | [], _ => rfl
  | j :: rs, L => by
    show (grow i rs _).size = _
    rw [grow_size]
    show (gro1 i L j).size = _
    unfold gro1; split <;> simp
theorem grow_mono (i : Nat) : ∀ (rs : List Nat) (L : Array Bool) (k : Nat), L.getD k false = true → (grow i rs L).getD k false = true
  | [], _, _, h => h
  | j :: rs, L, k, h => by
    show (grow i rs _).getD k false = true
    refine grow_mono i rs _ k ?_
    show (gro1 i L j).getD k false = true
    unfold gro1
    split
    · exact h
    · rw [getD_setB]; split <;> simp_all
theorem grow_mem (i : Nat) : ∀ (rs : List Nat) (L : Array Bool) (j : Nat), j ∈ rs → j ≠ i → j < L.size → (grow i rs L).getD j false = true
  | [], _, _, h, _, _ => by cases h
  | q :: rs, L, j, h, hji, hj => by
    show (grow i rs _).getD j false = true
    rcases List.mem_cons.1 h with rfl | h
    · refine grow_mono i rs _ j ?_
      show (gro1 i L j).getD j false = true
      unfold gro1
      rw [if_neg (by simpa using hji), getD_setB, if_pos ⟨rfl, hj⟩]
    · refine grow_mem i rs _ j h hji ?_
      show j < (gro1 i L q).size
      unfold gro1
      split
      · exact hj
      · simpa using hj
theorem grow_true (i : Nat) : ∀ (rs : List Nat) (L : Array Bool) (k : Nat), (grow i rs L).getD k false = true → L.getD k false = true ∨ (k ∈ rs ∧ k ≠ i)
  | [], _, _, h => Or.inl h
  | q :: rs, L, k, h => by
    rcases grow_true i rs _ k h with h1 | ⟨h1, h2⟩
    · have h1 : (gro1 i L q).getD k false = true := h1
      unfold gro1 at h1
      by_cases hq : q == i
      · rw [if_pos hq] at h1; exact Or.inl h1
      · rw [if_neg hq, getD_setB] at h1
        by_cases e : k = q ∧ q < L.size
        · refine Or.inr ⟨by rw [e.1]; exact List.mem_cons_self, ?_⟩
          rw [e.1]; simpa using hq
        · rw [if_neg e] at h1; exact Or.inl h1
    · exact Or.inr ⟨List.mem_cons_of_mem _ h1, h2⟩
theorem un_lt {l : Array Bool} {j : Nat} (h : l.getD j true = false) : j < l.size ∧ l.getD j false = false := by
  rcases Nat.lt_or_ge j l.size with h' | h'
  · refine ⟨h', ?_⟩
    simp [Array.getD_eq_getD_getElem?, h'] at h ⊢
    exact h
  · simp [Array.getD_eq_getD_getElem?, Array.getElem?_eq_none h'] at h
theorem un_of {l : Array Bool} {j : Nat} (h : j < l.size) (h0 : l.getD j false = false) : l.getD j true = false := by
  simp [Array.getD_eq_getD_getElem?, h] at h0 ⊢
  exact h0
theorem early_of (i : Nat) : ∀ (n : Nat) (l L : Array Bool), sat md ops A i n L = true → l.size = L.size → (∀ k, l.getD k false = true → L.getD k false = true) →
    (∀ k, L.getD k false = true → l.getD k false = true ∨ A k = true) → early md ops A i n l = true
  | 0, _, _, _, _, _, _ => rfl
  | n + 1, l, L, h, hsz, hsub, hA => by
    unfold sat at h
    simp only [Bool.and_eq_true] at h
    obtain ⟨h1, h2⟩ := h
    have h1 := List.all_eq_true.1 h1
    unfold early
    refine List.all_eq_true.2 fun j hj => ?_
    by_cases hji : j = i
    · simp [hji]
    · have hm := mem_ready.1 hj
      obtain ⟨hu, o, ho, hall⟩ := hm
      obtain ⟨hjl, hjf⟩ := un_lt hu
      have hrd : L.getD j false = false → j ∈ Region.ready md ops L := fun e => mem_ready.2 ⟨un_of (by omega) e, o, ho, fun e' he hb => hsub _ (hall e' he hb)⟩
      have hAj : A j = true := by
        by_cases e : L.getD j false = true
        · rcases hA j e with e' | e'
          · rw [hjf] at e'; cases e'
          · exact e'
        · have := h1 j (hrd (by simpa using e))
          simpa [hji] using this
      simp only [Bool.or_eq_true, Bool.and_eq_true]
      refine Or.inr ⟨hAj, early_of i n _ (grow i (Region.ready md ops L) L) h2 (by rw [grow_size]; simpa using hsz) (fun k hk => ?_) (fun k hk => ?_)⟩
      · rw [getD_setB] at hk
        by_cases e : k = j ∧ j < l.size
        · obtain ⟨rfl, -⟩ := e
          by_cases e : L.getD k false = true
          · exact grow_mono i _ _ _ e
          · exact grow_mem i _ _ _ (hrd (by simpa using e)) hji (by omega)
        · rw [if_neg e] at hk; exact grow_mono i _ _ _ (hsub k hk)
      · rcases grow_true i _ _ k hk with e | ⟨e, e'⟩
        · rcases hA k e with e2 | e2
          · left; rw [getD_setB]; split
            · rfl
            · exact e2
          · exact Or.inr e2
        · have := h1 k e
          right
          simpa [e'] using this
theorem early_sat {i n : Nat} {l : Array Bool} (h : sat md ops A i n l = true) : early md ops A i n l = true := early_of i n l l h rfl (fun _ h => h) (fun _ h => Or.inl h)
end
end Go.Proofs.YtfhdmhifdaiehaaGreatDoor

namespace Go.Proofs.YtfhdmhifdaiehaaGreatDoor
open Go.RowKit
set_option maxRecDepth 100000

/-- What holds of a matrix in the making at g; below g all is as in W. -/
structure GB (W : World) (g : Nat) (wr : World) (R C : Int) (v : Value) (os : List ByteArray) : Prop where
  sz : W.heap.size = g
  box : Blk wr g [.int .i64 R, .int .i64 C, v] 24
  row : wr.ownsRow (g + 1) 27 1 v os.length (os.map eS)
  bel : Below g W wr
theorem GB.lt {w wr : World} {h : Nat} {R C : Int} {v : Value} {os : List ByteArray} (H : GB w h wr R C v os) : h < wr.heap.size := H.box.lt
theorem GB.keep {w wr w' : World} {h : Nat} {R C : Int} {v : Value} {os : List ByteArray} (H : GB w h wr R C v os) (hb : Below wr.heap.size wr w') : GB w h w' R C v os :=
  ⟨H.sz, H.box.below hb (Nat.le_refl _), own_below H.row hb (Nat.le_refl _), H.bel.trans (hb.mono (by have := H.lt; omega))⟩
theorem GB.drew {w wr : World} {h : Nat} {R C : Int} {v : Value} {os : List ByteArray} (H : GB w h wr R C v os) : GB w h wr.drew R C v os := H.keep (Below.refl _ _).drew
theorem GB.start (w : World) (R C : Int) : GB w w.heap.size (w.alloc (.cells #[.int .i64 R, .int .i64 C, .slice none 0 0] 24)) R C (.slice none 0 0) [] :=
  ⟨rfl, Blk.new w [.int .i64 R, .int .i64 C, .slice none 0 0] 24, World.ownsRow_nil _ _ _ _, (Below.refl _ _).alloc (Nat.le_refl _) _⟩
theorem GB.push {w w1 w2 : World} {h : Nat} {R C : Int} {v v' : Value} {os : List ByteArray} {s : ByteArray} (H : GB w h w1 R C v os) (hb : Below (h + 1) w1 w2) (ho : w2.ownsRow (h + 1) 27 1 v' (os.length + 1) (os.map eS ++ [.string s])) :
    GB w h (w2.setCell ⟨h, 2, none⟩ v') R C v' (os ++ [s]) := by
  have b2 : Blk w2 h [.int .i64 R, .int .i64 C, v] 24 := (hb.block _ (by omega)).trans H.box
  refine ⟨H.sz, ?_, ?_, (H.bel.trans (hb.mono (by omega))).setCell (by simp) _⟩
  · have := b2.set 2 v'
    simpa using this
  · refine ownsRow_cast (n := os.length + 1) (ys := os.map eS ++ [.string s]) ?_ (by simp) (by simp [eS])
    exact ⟨ho.1, ho.2.imp_right fun ⟨g', cap, cur, h1, h2, h3, r⟩ => ⟨g', cap, cur, h1, h2, (Below.heap_setCell _ _ _ _ (show g' ≠ h by omega)).trans h3, r⟩⟩
theorem GB.box6 {w w1 w2 : World} {h : Nat} {R C : Int} {v : Value} {os : List ByteArray} (H : GB w h w1 R C v os) (hb : Below (h + 1) w1 w2) : Blk w2 h [.int .i64 R, .int .i64 C, v] 24 := (hb.block _ (by omega)).trans H.box
set_option maxHeartbeats 2000000 in
theorem rtwo_any (w : World) (R C R' C' : Int) (v u : Value) (xs ys : List ByteArray) (hv : Sl eS w v xs) (hu : Sl eS w u ys) (hsz : xs.length ≤ 256 → ∀ s ∈ xs, s.size ≤ 1000000) (hsz' : ys.length ≤ 256 → ∀ s ∈ ys, s.size ≤ 1000000) :
    Calls Tryz.prog 79 #[.agg #[.int .i64 R, .int .i64 C, v], .agg #[.int .i64 R', .int .i64 C', u]] w (Rets fun v' w' => v' = .int .i64 (twoM R C xs R' C' ys) ∧ Below w.heap.size w w') := by
  have HV := Lib.hid hv; have HU := Lib.hid hu; have HSZ := Lib.hid hsz; have HSZ' := Lib.hid hsz'
  obtain ⟨ad, cap, rfl⟩ := sl_form hv
  obtain ⟨ad', cap', rfl⟩ := sl_form hu
  clear hv hu hsz hsz'
  have HB := Lib.hid (((Below.refl w.heap.size w).alloc (Nat.le_refl _) (.cells #[.int .i64 R, .int .i64 C, .slice ad xs.length cap] 24)).alloc (by simp) (.cells #[.int .i64 R', .int .i64 C', .slice ad' ys.length cap'] 24))
  have HV := Lib.hid (HV.out.below HB.out (Nat.le_refl _))
  have HU := Lib.hid (HU.out.below HB.out (Nat.le_refl _))
  have HK := Lib.hid ((Blk.new w [.int .i64 R, .int .i64 C, .slice ad xs.length cap] 24).alloc (.cells #[.int .i64 R', .int .i64 C', .slice ad' ys.length cap'] 24))
  have HK2 := Lib.hid (Blk.at1 w (.cells #[.int .i64 R, .int .i64 C, .slice ad xs.length cap] 24) [.int .i64 R', .int .i64 C', .slice ad' ys.length cap'] 24)
  by_cases h : mchkM R C xs = 0
  · have H := Lib.hid h
    have HX := Lib.hid (show twoM R C xs R' C' ys = mchkM R' C' ys by unfold twoM; rw [if_pos h])
    clear h
    go_enter Tryz.func79, Tryz.ntmps79
    go_wp2_with (first
      | (go_at_call_of 27 (Value.agg #[Value.int .i64 R', Value.int .i64 C', Value.slice ad' ys.length cap']); (with_reducible refine (rMCheck_any _ R' C' _ ys HU.out HSZ'.out).mono ?_); rintro e w2 ⟨v, rfl, rfl, h2⟩; have HV := Lib.hid (HV.out.below h2 (Nat.le_refl _)); have HU := Lib.hid (HU.out.below h2 (Nat.le_refl _)); have HK := Lib.hid (HK.out.below h2 (Nat.le_refl _)); have HK2 := Lib.hid (HK2.out.below h2 (Nat.le_refl _)); have c2_HK_0 := HK.out.cell 0 _ rfl; have c2_HK_1 := HK.out.cell 1 _ rfl; have c2_HK_2 := HK.out.cell 2 _ rfl; have c2_HK2_0 := HK2.out.cell 0 _ rfl; have c2_HK2_1 := HK2.out.cell 1 _ rfl; have c2_HK2_2 := HK2.out.cell 2 _ rfl; have q2 := q1.trans (h2.mono q1.size))
      | (go_at_call_of 27 (Value.agg #[Value.int .i64 R, Value.int .i64 C, Value.slice ad xs.length cap]); (with_reducible refine (rMCheck_any _ R C _ xs HV.out HSZ.out).mono ?_); rintro e w1 ⟨v, rfl, rfl, h1⟩; rw [H.out]; have HV := Lib.hid (HV.out.below h1 (Nat.le_refl _)); have HU := Lib.hid (HU.out.below h1 (Nat.le_refl _)); have HK := Lib.hid (HK.out.below h1 (Nat.le_refl _)); have HK2 := Lib.hid (HK2.out.below h1 (Nat.le_refl _)); have c1_HK_0 := HK.out.cell 0 _ rfl; have c1_HK_1 := HK.out.cell 1 _ rfl; have c1_HK_2 := HK.out.cell 2 _ rfl; have c1_HK2_0 := HK2.out.cell 0 _ rfl; have c1_HK2_1 := HK2.out.cell 1 _ rfl; have c1_HK2_2 := HK2.out.cell 2 _ rfl; have q1 := HB.out.trans (h1.mono HB.out.size)))
    go_ret
    exact ⟨_, rfl, by rw [HX.out]; rfl, q2⟩
  · have hne : (mchkM R C xs != 0) = true := by simp [h]
    have HX := Lib.hid (show twoM R C xs R' C' ys = mchkM R C xs by unfold twoM; rw [if_neg h])
    clear h
    go_enter Tryz.func79, Tryz.ntmps79
    go_wp2_with (first
      | (go_at_call_of 27 (Value.agg #[Value.int .i64 R, Value.int .i64 C, Value.slice ad xs.length cap]); (with_reducible refine (rMCheck_any _ R C _ xs HV.out HSZ.out).mono ?_); rintro e w1 ⟨v, rfl, rfl, h1⟩; have HV := Lib.hid (HV.out.below h1 (Nat.le_refl _)); have HU := Lib.hid (HU.out.below h1 (Nat.le_refl _)); have HK := Lib.hid (HK.out.below h1 (Nat.le_refl _)); have HK2 := Lib.hid (HK2.out.below h1 (Nat.le_refl _)); have c1_HK_0 := HK.out.cell 0 _ rfl; have c1_HK_1 := HK.out.cell 1 _ rfl; have c1_HK_2 := HK.out.cell 2 _ rfl; have c1_HK2_0 := HK2.out.cell 0 _ rfl; have c1_HK2_1 := HK2.out.cell 1 _ rfl; have c1_HK2_2 := HK2.out.cell 2 _ rfl; have q1 := HB.out.trans (h1.mono HB.out.size)))
    go_ret
    exact ⟨_, rfl, by rw [HX.out]; rfl, q1⟩
theorem cellsF_idx {r c t : Nat} (A : Mat) (ht : t < r * c) (h : t < (cellsF r c A).length) : (cellsF r c A)[t] = txt (A (t / c) (t % c)) ∧ t / c < r ∧ t % c < c := by
  have hc : 0 < c := by rcases Nat.eq_zero_or_pos c with e | e; · simp [e] at ht
                        · exact e
  exact ⟨by simp [cellsF], Nat.div_lt_of_lt_mul (by rw [Nat.mul_comm]; exact ht), Nat.mod_lt _ hc⟩
set_option maxHeartbeats 2000000 in
theorem rbounded_ok (w : World) (r c : Nat) (v : Value) (xs : List ByteArray) (A : Mat) (hv : Sl eS w v xs) (hx : xs = cellsF r c A) (hr : r ≤ 16) (hc : c ≤ 16) (hd : ∀ i k, i < r → k < c → dn (A i k) ≤ 1024) :
    Calls Tryz.prog 81 #[.agg #[.int .i64 r, .int .i64 c, v]] w (RetM w r c xs 0) := by
  have HLX := Lib.hid (show xs.length ≤ 256 by rw [hx, cellsF_len]; exact Nat.mul_le_mul hr hc)
  have HG := Lib.hid (fun t (h : t < xs.length) => show ∃ z, xs[t] = txt z ∧ dn z ≤ 1024 by
    subst hx
    have ht : t < r * c := by rw [← cellsF_len r c A]; exact h
    obtain ⟨e, e1, e2⟩ := cellsF_idx A ht h
    exact ⟨_, e, hd _ _ e1 e2⟩)
  have HV := Lib.hid hv
  obtain ⟨ad, b, o, cap, rfl, hi, hp, hcc, hm⟩ := hv.open elemStr
  unfold maxLen at hm
  have HP := Lib.hid hp
  have HB := Lib.hid (((Below.refl w.heap.size w).alloc (Nat.le_refl _) (.cells #[.int .i64 r, .int .i64 c, .slice ad xs.length cap] 24)).alloc (by simp) (.cells #[.int .i64 0, .int .i64 0, .slice none 0 0] 24))
  have HK := Lib.hid ((Blk.new w [.int .i64 r, .int .i64 c, .slice ad xs.length cap] 24).alloc (.cells #[.int .i64 0, .int .i64 0, .slice none 0 0] 24))
  have HR := Lib.hid (Blk.at1 w (.cells #[.int .i64 r, .int .i64 c, .slice ad xs.length cap] 24) [.int .i64 0, .int .i64 0, .slice none 0 0] 24)
  clear hv hx hd hp
  go_enter Tryz.func81, Tryz.ntmps81
  go_wp2
  go_loopw [4] (fun i wr => ∃ k : Nat, k ≤ xs.length ∧ i = .int .i64 k ∧ Hid (Below (w.heap.size + 2) ((w.alloc (.cells #[.int .i64 r, .int .i64 c, .slice ad xs.length cap] 24)).alloc (.cells #[.int .i64 0, .int .i64 0, .slice none 0 0] 24)) wr)) (fun i _ => xs.length - (intOf i).toNat)
  case atStart => exact ⟨0, Nat.zero_le _, rfl, Lib.hid (Below.refl _ _)⟩
  case round =>
    obtain ⟨k, hk, rfl, hb⟩ := hrel
    have q := HB.out.trans (hb.out.mono (by omega))
    have HK := Lib.hid (HK.out.below hb.out (by simp))
    have HR := Lib.hid (HR.out.below hb.out (by simp))
    have m0 := HK.out.cell 0 _ rfl; have m1 := HK.out.cell 1 _ rfl; have m2 := HK.out.cell 2 _ rfl
    by_cases hkn : k < xs.length
    · obtain ⟨z, hz, hdz⟩ := HG.out k hkn
      have h1 : wr.cell? ⟨b, o + k, none⟩ = some (.string xs[k]) := HP.out.at q (Nat.le_refl _) k hkn
      rw [hz] at h1
      have HRS := Lib.hid (show resV z = .tuple #[.string (txt z), .int .i64 0] by unfold resV; rw [bigD (by omega)]; rfl)
      have HDZ := Lib.hid hdz
      clear hz hdz
      go_wp2_with (go_at_call 50; (with_reducible refine (Bounded_any _ z (by have := HDZ.out; omega)).mono ?_); rintro e w1 ⟨v, rfl, rfl, hb1⟩; rw [HRS.out])
      go_roundw
      case rel => exact ⟨k + 1, by omega, by go_num, Lib.hid (hb.out.trans (hb1.mono (by have := hb.out.size; simpa using this)))⟩
      case measure => simp [intOf]; omega
    · obtain rfl : k = xs.length := by omega
      have f0 := HR.out.free 0; have f1 := HR.out.free 1; have f2 := HR.out.free 2
      have g0 := HR.out.cell 0 _ rfl; have g1 := HR.out.cell 1 _ rfl; have g2 := HR.out.cell 2 _ rfl
      have HV := Lib.hid (HV.out.below q (Nat.le_refl _))
      go_wp2
      obtain ⟨hR, hS, hW⟩ := res_done (R := r) (C := c) q (by omega) HR.out HV.out
      have z0 := hR.cell 0 _ rfl; have z1 := hR.cell 1 _ rfl; have z2 := hR.cell 2 _ rfl
      exact bodyPost_ret (v := .tuple #[.agg #[.int .i64 r, .int .i64 c, .slice ad xs.length cap], .int .i64 0]) (by simp [results, Tryz.results81, go_sem, z0, z1, z2]) rfl ⟨_, rfl, _, rfl, hS, hW⟩
set_option maxHeartbeats 8000000 in
theorem rMAdd_ok (w : World) (r c : Nat) (v u : Value) (xs ys : List ByteArray) (hv : Sl eS w v xs) (hu : Sl eS w u ys) (hsz : xs.length ≤ 256 → ∀ s ∈ xs, s.size ≤ 1000000) (hsz' : ys.length ≤ 256 → ∀ s ∈ ys, s.size ≤ 1000000) (hf : Fit 500 xs) (hf' : Fit 500 ys) (hrm : RM r c xs r c) (hrm' : RM r c ys r c) (h : twoM r c xs r c ys = 0) (he : Env w) :
    Calls Tryz.prog 41 #[.agg #[.int .i64 r, .int .i64 c, v], .agg #[.int .i64 r, .int .i64 c, u]] w (RetM w r c (cellsF r c (fun i k => matF c xs i k + matF c ys i k)) 0) := by
  have HV := Lib.hid hv; have HU := Lib.hid hu; have HSZ := Lib.hid hsz; have HSZ' := Lib.hid hsz'; have HE := Lib.hid he
  obtain ⟨ad, cap, rfl⟩ := sl_form hv
  obtain ⟨ad', cap', rfl⟩ := sl_form hu
  clear hv hu hsz hsz' he
  have H := Lib.hid h
  have hx := hrm.cells; have hy := hrm'.cells
  have hA := fun i k (hi : i < r) (hk : k < c) => hrm.dn hf hi hk
  have hB := fun i k (hi : i < r) (hk : k < c) => hrm'.dn hf' hi hk
  have hr16 := hrm.r16; have hc16 := hrm.c16
  obtain ⟨A, hAA⟩ : ∃ A, matF c xs = A := ⟨_, rfl⟩
  obtain ⟨B, hBB⟩ : ∃ B, matF c ys = B := ⟨_, rfl⟩
  rw [hAA] at hA hx ⊢
  rw [hBB] at hB hy ⊢
  have hLx : xs.length = r * c := by rw [hx, cellsF_len]
  have hLy : ys.length = r * c := by rw [hy, cellsF_len]
  have hmul : r * c ≤ 256 := Nat.mul_le_mul hr16 hc16
  obtain ⟨L, hL⟩ : ∃ L, cellsF r c (fun i k => A i k + B i k) = L := ⟨_, rfl⟩
  rw [hL]
  have HLL := Lib.hid (show L.length = xs.length by rw [← hL, cellsF_len, hLx])
  have HLC := Lib.hid hL
  have HAB := Lib.hid (fun i k (hi : i < r) (hk : k < c) => show dn (A i k + B i k) ≤ 1024 by
    have := hA i k hi hk; have := hB i k hi hk; have := dn_add (A i k) (B i k); omega)
  have HG := Lib.hid (fun t (h : t < xs.length) => show ∃ x y, xs[t] = txt x ∧ (∃ h' : t < ys.length, ys[t] = txt y) ∧ dn x ≤ 500 ∧ dn y ≤ 500 ∧ L.take (t + 1) = L.take t ++ [txt (x + y)] by
    have ht : t < r * c := by omega
    have e := cellsF_idx A ht (by rw [cellsF_len]; exact ht)
    have e' := cellsF_idx B ht (by rw [cellsF_len]; exact ht)
    have eL := cellsF_idx (fun i k => A i k + B i k) ht (by rw [cellsF_len]; exact ht)
    refine ⟨_, _, ?_, ⟨by omega, ?_⟩, hA _ _ e.2.1 e.2.2, hB _ _ e.2.1 e.2.2, ?_⟩
    · rw [← e.1]; congr 1
    · rw [← e'.1]; congr 1
    · have hlt : t < L.length := by rw [← hL, cellsF_len]; exact ht
      rw [List.take_succ_eq_append_getElem hlt]
      congr 2
      rw [← eL.1]; congr 1; exact hL.symm)
  have HLM := Lib.hid (show xs.length ≤ 256 by omega)
  have HLE := Lib.hid (show ys.length = xs.length by omega)
  have HR16 := Lib.hid hr16; have HC16 := Lib.hid hc16
  have HB := Lib.hid ((((Below.refl w.heap.size w).alloc (Nat.le_refl _) (.cells #[.int .i64 r, .int .i64 c, .slice ad xs.length cap] 24)).alloc (by simp) (.cells #[.int .i64 r, .int .i64 c, .slice ad' ys.length cap'] 24)).alloc (by simp; omega) (.cells #[.int .i64 0, .int .i64 0, .slice none 0 0] 24))
  have q0 := HB.out
  have HK := Lib.hid (((Blk.new w [.int .i64 r, .int .i64 c, .slice ad xs.length cap] 24).alloc (.cells #[.int .i64 r, .int .i64 c, .slice ad' ys.length cap'] 24)).alloc (.cells #[.int .i64 0, .int .i64 0, .slice none 0 0] 24))
  have HK2 := Lib.hid ((Blk.at1 w (.cells #[.int .i64 r, .int .i64 c, .slice ad xs.length cap] 24) [.int .i64 r, .int .i64 c, .slice ad' ys.length cap'] 24).alloc (.cells #[.int .i64 0, .int .i64 0, .slice none 0 0] 24))
  have HR := Lib.hid (Blk.at2 w (.cells #[.int .i64 r, .int .i64 c, .slice ad xs.length cap] 24) (.cells #[.int .i64 r, .int .i64 c, .slice ad' ys.length cap'] 24) [.int .i64 0, .int .i64 0, .slice none 0 0] 24)
  have HV := Lib.hid (HV.out.below HB.out (Nat.le_refl _))
  have HU := Lib.hid (HU.out.below HB.out (Nat.le_refl _))
  have HE := Lib.hid (HE.out.below HB.out (Nat.le_refl _))
  clear h hrm hrm' hf hf' hx hy hA hB hAA hBB hL hLx hLy hmul
  obtain ⟨ad1, b1, o1, cap1, ex1, hi1, hp1, hcc1, hm1⟩ := HV.out.open elemStr
  obtain ⟨ad2, b2, o2, cap2, ex2, hi2, hp2, hcc2, hm2⟩ := HU.out.open elemStr
  obtain ⟨rfl, rfl⟩ : ad = ad1 ∧ cap = cap1 := by simpa using ex1
  obtain ⟨rfl, rfl⟩ : ad' = ad2 ∧ cap' = cap2 := by simpa using ex2
  unfold maxLen at hm1 hm2
  have HP1 := Lib.hid hp1; have HP2 := Lib.hid hp2
  clear hp1 hp2 ex1 ex2
  have hl12 : (ys.length : Int) = xs.length := by have := HLE.out; omega
  go_enter Tryz.func41, Tryz.ntmps41
  go_wp2_with (go_at_call 79; (with_reducible refine (rtwo_any _ r c r c _ _ xs ys HV.out HU.out HSZ.out HSZ'.out).mono ?_); rintro e w1 ⟨v, rfl, rfl, h1⟩; rw [H.out]; have HK1 := Lib.hid (HK.out.below h1 (Nat.le_refl _)); have HK21 := Lib.hid (HK2.out.below h1 (Nat.le_refl _)); have HR1 := Lib.hid (HR.out.below h1 (Nat.le_refl _)); have q1 := q0.trans (h1.mono q0.size); have a0 := HK1.out.cell 0 _ rfl; have a1 := HK1.out.cell 1 _ rfl; have a2 := HK1.out.cell 2 _ rfl; have b0 := HK21.out.cell 0 _ rfl; have b1' := HK21.out.cell 1 _ rfl; have b2' := HK21.out.cell 2 _ rfl)
  have HB0 := Lib.hid (GB.start w1 r c)
  have HQ1 := Lib.hid q1; have HH1 := Lib.hid h1
  clear a0 a1 a2 b0 b1' b2' q1 q0 h1
  go_loopw [8] (fun i wr => ∃ k : Nat, k ≤ xs.length ∧ i = .int .i64 k ∧ ∃ v, Hid (GB w1 w1.heap.size wr r c v (L.take k))) (fun i _ => xs.length - (intOf i).toNat)
  case atStart => exact ⟨0, Nat.zero_le _, rfl, _, HB0⟩
  case round =>
    clear HB0
    obtain ⟨k, hk, rfl, v, hB⟩ := hrel
    have hU : Up w1.heap.size w1 wr := ⟨Nat.le_refl _, hB.out.bel⟩
    have hKr := Lib.hid (hU.box HK1.out HK1.out.lt); have hK2r := Lib.hid (hU.box HK21.out HK21.out.lt)
    have m0 := hKr.out.cell 2 _ rfl
    have m1 := hK2r.out.cell 2 _ rfl
    by_cases hkl : k < xs.length
    · obtain ⟨x, y, ex, ⟨hky, ey⟩, hdx, hdy, hNX⟩ := HG.out k hkl
      have HHx := Lib.hid (fun w' (H : Up w1.heap.size w1 w') => show w'.cell? ⟨b1, o1 + k, none⟩ = some (.string (txt x)) ∧ w'.cell? ⟨b2, o2 + k, none⟩ = some (.string (txt y)) from by
        have hq := HH1.out.trans (H.2.mono HH1.out.size)
        have u1 := HP1.out.at hq (Nat.le_refl _) k hkl
        have u2 := HP2.out.at hq (Nat.le_refl _) k hky
        rw [ex] at u1; rw [ey] at u2
        exact ⟨u1, u2⟩)
      have HH := Lib.hid (fun w' (H : Up w1.heap.size w1 w') => show Up w1.heap.size w1 w' ∧ w'.cell? ⟨w.heap.size, 2, none⟩ = some (.slice ad xs.length cap) ∧ w'.cell? ⟨w.heap.size + 1, 2, none⟩ = some (.slice ad' ys.length cap') ∧ w'.cell? ⟨b1, o1 + k, none⟩ = some (.string (txt x)) ∧ w'.cell? ⟨b2, o2 + k, none⟩ = some (.string (txt y)) from ⟨H, (H.box HK1.out HK1.out.lt).cell 2 _ rfl, (H.box HK21.out HK21.out.lt).cell 2 _ rfl, HHx.out w' H⟩)
      obtain ⟨e0, e1⟩ := HHx.out wr hU
      obtain ⟨T, hTT⟩ : ∃ T, L.take k = T := ⟨_, rfl⟩
      rw [hTT] at hB hNX
      have HNX := Lib.hid hNX
      have HDX := Lib.hid hdx; have HDY := Lib.hid hdy
      have HTL := Lib.hid (show T.length ≤ 1000000 by rw [← hTT, List.length_take]; have := HLM.out; omega)
      have HU9 := Lib.hid hU
      have k2 := hB.out.box.cell 2 _ rfl
      have hlt := hB.out.lt
      have y0 : (0 : Int) ≤ (k : Int) := by omega
      have y1 : (k : Int) < (xs.length : Int) := by omega
      clear hU hNX hTT hdx hdy ex ey
      go_wp2_with fail
      have hSd : wr.drew.cell? ⟨w1.heap.size, 2, none⟩ = some (v) ∧ wr.drew.cell? ⟨w.heap.size, 2, none⟩ = some (.slice ad xs.length cap) ∧ wr.drew.cell? ⟨w.heap.size + 1, 2, none⟩ = some (.slice ad' ys.length cap') ∧ wr.drew.cell? ⟨b1, o1 + k, none⟩ = some (.string (txt x)) ∧ wr.drew.cell? ⟨b2, o2 + k, none⟩ = some (.string (txt y)) := ⟨k2, m0, m1, e0, e1⟩
      refine wp_regionJ (S := fun w' => w'.cell? ⟨w1.heap.size, 2, none⟩ = some (v) ∧ w'.cell? ⟨w.heap.size, 2, none⟩ = some (.slice ad xs.length cap) ∧ w'.cell? ⟨w.heap.size + 1, 2, none⟩ = some (.slice ad' ys.length cap') ∧ w'.cell? ⟨b1, o1 + k, none⟩ = some (.string (txt x)) ∧ w'.cell? ⟨b2, o2 + k, none⟩ = some (.string (txt y))) (A := fun i => decide (i < 16)) (by kernel_rfl) ?_
      refine wpAnyJ_take (i := 0) (oi := { dst := some 41, op := .fieldAddr _ (.tmp 7) 2, type := _, pos := _, after := _, guard := _ }) (v := ?_) rfl (by kernel_rfl) (by kernel_rfl) (by kernel_rfl) (early_sat (by kernel_rfl)) (fun _ _ _ h => h) (Or.inl ⟨by rfl, ?_⟩) hSd ?_
      rotate_left
      · intro wl hSw
        obtain ⟨s0, s1, s2, s3, s4⟩ := hSw
        go_simp
        with_reducible rfl
      simp only [Act.put, List.setIfInBounds_toArray, List.set_cons_zero, List.set_cons_succ]
      refine wpAnyJ_take (i := 1) (oi := { dst := some 42, op := .load _ (.tmp 41), type := _, pos := _, after := _, guard := _ }) (v := ?_) rfl (by kernel_rfl) (by kernel_rfl) (by kernel_rfl) (early_sat (by kernel_rfl)) (fun _ _ _ h => h) (Or.inl ⟨by rfl, ?_⟩) hSd ?_
      rotate_left
      · intro wl hSw
        obtain ⟨s0, s1, s2, s3, s4⟩ := hSw
        go_simp
        with_reducible rfl
      simp only [Act.put, List.setIfInBounds_toArray, List.set_cons_zero, List.set_cons_succ]
      refine wpAnyJ_take (i := 2) (oi := { dst := some 43, op := .fieldAddr _ (.tmp 2) 2, type := _, pos := _, after := _, guard := _ }) (v := ?_) rfl (by kernel_rfl) (by kernel_rfl) (by kernel_rfl) (early_sat (by kernel_rfl)) (fun _ _ _ h => h) (Or.inl ⟨by rfl, ?_⟩) hSd ?_
      rotate_left
      · intro wl hSw
        obtain ⟨s0, s1, s2, s3, s4⟩ := hSw
        go_simp
        with_reducible rfl
      simp only [Act.put, List.setIfInBounds_toArray, List.set_cons_zero, List.set_cons_succ]
      refine wpAnyJ_take (i := 3) (oi := { dst := some 44, op := .load _ (.tmp 43), type := _, pos := _, after := _, guard := _ }) (v := ?_) rfl (by kernel_rfl) (by kernel_rfl) (by kernel_rfl) (early_sat (by kernel_rfl)) (fun _ _ _ h => h) (Or.inl ⟨by rfl, ?_⟩) hSd ?_
      rotate_left
      · intro wl hSw
        obtain ⟨s0, s1, s2, s3, s4⟩ := hSw
        go_simp
        with_reducible rfl
      simp only [Act.put, List.setIfInBounds_toArray, List.set_cons_zero, List.set_cons_succ]
      refine wpAnyJ_take (i := 4) (oi := { dst := some 45, op := .move (.tmp 8), type := _, pos := _, after := _, guard := _ }) (v := ?_) rfl (by kernel_rfl) (by kernel_rfl) (by kernel_rfl) (early_sat (by kernel_rfl)) (fun _ _ _ h => h) (Or.inl ⟨by rfl, ?_⟩) hSd ?_
      rotate_left
      · intro wl hSw
        obtain ⟨s0, s1, s2, s3, s4⟩ := hSw
        go_simp
        with_reducible rfl
      simp only [Act.put, List.setIfInBounds_toArray, List.set_cons_zero, List.set_cons_succ]
      refine wpAnyJ_take (i := 5) (oi := { dst := some 46, op := .indexAddr _ (.tmp 44) (.tmp 45), type := _, pos := _, after := _, guard := _ }) (v := ?_) rfl (by kernel_rfl) (by kernel_rfl) (by kernel_rfl) (early_sat (by kernel_rfl)) (fun _ _ _ h => h) (Or.inl ⟨by rfl, ?_⟩) hSd ?_
      rotate_left
      · intro wl hSw
        obtain ⟨s0, s1, s2, s3, s4⟩ := hSw
        go_simp
        with_reducible rfl
      simp only [Act.put, List.setIfInBounds_toArray, List.set_cons_zero, List.set_cons_succ]
      refine wpAnyJ_take (i := 6) (oi := { dst := some 47, op := .load _ (.tmp 46), type := _, pos := _, after := _, guard := _ }) (v := ?_) rfl (by kernel_rfl) (by kernel_rfl) (by kernel_rfl) (early_sat (by kernel_rfl)) (fun _ _ _ h => h) (Or.inl ⟨by rfl, ?_⟩) hSd ?_
      rotate_left
      · intro wl hSw
        obtain ⟨s0, s1, s2, s3, s4⟩ := hSw
        go_simp
        with_reducible rfl
      simp only [Act.put, List.setIfInBounds_toArray, List.set_cons_zero, List.set_cons_succ]
      refine wpAnyJ_take (i := 7) (oi := { dst := some 48, op := .fieldAddr _ (.tmp 3) 2, type := _, pos := _, after := _, guard := _ }) (v := ?_) rfl (by kernel_rfl) (by kernel_rfl) (by kernel_rfl) (early_sat (by kernel_rfl)) (fun _ _ _ h => h) (Or.inl ⟨by rfl, ?_⟩) hSd ?_
      rotate_left
      · intro wl hSw
        obtain ⟨s0, s1, s2, s3, s4⟩ := hSw
        go_simp
        with_reducible rfl
      simp only [Act.put, List.setIfInBounds_toArray, List.set_cons_zero, List.set_cons_succ]
      refine wpAnyJ_take (i := 8) (oi := { dst := some 49, op := .load _ (.tmp 48), type := _, pos := _, after := _, guard := _ }) (v := ?_) rfl (by kernel_rfl) (by kernel_rfl) (by kernel_rfl) (early_sat (by kernel_rfl)) (fun _ _ _ h => h) (Or.inl ⟨by rfl, ?_⟩) hSd ?_
      rotate_left
      · intro wl hSw
        obtain ⟨s0, s1, s2, s3, s4⟩ := hSw
        go_simp
        with_reducible rfl
      simp only [Act.put, List.setIfInBounds_toArray, List.set_cons_zero, List.set_cons_succ]
      refine wpAnyJ_take (i := 9) (oi := { dst := some 50, op := .move (.tmp 8), type := _, pos := _, after := _, guard := _ }) (v := ?_) rfl (by kernel_rfl) (by kernel_rfl) (by kernel_rfl) (early_sat (by kernel_rfl)) (fun _ _ _ h => h) (Or.inl ⟨by rfl, ?_⟩) hSd ?_
      rotate_left
      · intro wl hSw
        obtain ⟨s0, s1, s2, s3, s4⟩ := hSw
        go_simp
        with_reducible rfl
      simp only [Act.put, List.setIfInBounds_toArray, List.set_cons_zero, List.set_cons_succ]
      refine wpAnyJ_take (i := 10) (oi := { dst := some 51, op := .indexAddr _ (.tmp 49) (.tmp 50), type := _, pos := _, after := _, guard := _ }) (v := ?_) rfl (by kernel_rfl) (by kernel_rfl) (by kernel_rfl) (early_sat (by kernel_rfl)) (fun _ _ _ h => h) (Or.inl ⟨by rfl, ?_⟩) hSd ?_
      rotate_left
      · intro wl hSw
        obtain ⟨s0, s1, s2, s3, s4⟩ := hSw
        go_simp
        with_reducible rfl
      simp only [Act.put, List.setIfInBounds_toArray, List.set_cons_zero, List.set_cons_succ]
      refine wpAnyJ_take (i := 11) (oi := { dst := some 52, op := .load _ (.tmp 51), type := _, pos := _, after := _, guard := _ }) (v := ?_) rfl (by kernel_rfl) (by kernel_rfl) (by kernel_rfl) (early_sat (by kernel_rfl)) (fun _ _ _ h => h) (Or.inl ⟨by rfl, ?_⟩) hSd ?_
      rotate_left
      · intro wl hSw
        obtain ⟨s0, s1, s2, s3, s4⟩ := hSw
        go_simp
        with_reducible rfl
      simp only [Act.put, List.setIfInBounds_toArray, List.set_cons_zero, List.set_cons_succ]
      refine wpAnyJ_only (i := 12) (o := { dst := some 53, op := _, type := _, pos := _, after := _, guard := _ }) (by kernel_rfl) rfl (fun K hK => ?_)
      go_simp
      refine (Plus_any _ x y (by have := HDX.out; omega) (by have := HDY.out; omega)).mono ?_
      rintro e w3 ⟨u3, rfl, rfl, hb3⟩
      have H3 := Lib.hid (hB.out.drew.keep hb3)
      have hlt3 := H3.out.lt
      have hU3 := HU9.out.drew.call hb3
      have hS3 := And.intro (H3.out.box.cell 2 _ rfl) (HH.out w3 hU3).2
      refine hK.out _ _ (fun _ => hS3) ?_
      try simp only [Act.put, List.setIfInBounds_toArray, List.set_cons_zero, List.set_cons_succ]
      clear hK K
      refine wpAnyJ_only (i := 13) (o := { dst := some 54, op := _, type := _, pos := _, after := _, guard := _ }) (by kernel_rfl) rfl (fun K hK => ?_)
      go_simp
      refine hK.out _ _ (fun _ => ⟨(H3.out.box.alloc _).cell 2 _ rfl, (HH.out _ (hU3.alloc _)).2⟩) ?_
      try simp only [Act.put, List.setIfInBounds_toArray, List.set_cons_zero, List.set_cons_succ]
      clear hK K
      refine wpAnyJ_only (i := 14) (o := { dst := some 55, op := _, type := _, pos := _, after := _, guard := _ }) (by kernel_rfl) rfl (fun K hK => ?_)
      refine app1R (news := [_]) elemStr rfl _ _ rfl rfl rfl H3.out.row (Below.refl _ _) (Nat.le_refl _) hlt3 rfl (by simp [Value.oneCell']) (by have := HTL.out; omega) (by unfold maxLen; have := HTL.out; omega) ?_
      intro v5 w5 ho5 hb5
      obtain ⟨g6, cap6, rfl⟩ := ownsRow_succ ho5
      have H5 := Lib.hid (H3.out.push hb5 ho5)
      have B5 := H3.out.box6 hb5
      have j2 := B5.cell 2 _ rfl
      have f2 := B5.free 2
      have hS5 := And.intro j2 (HH.out w5 (hU3.app hb5 (by omega))).2
      clear ho5 B5
      refine hK.out _ _ (fun _ => hS5) ?_
      try simp only [Act.put, List.setIfInBounds_toArray, List.set_cons_zero, List.set_cons_succ]
      clear hK K
      refine wpAnyJ_take (i := 15) (oi := { dst := some 56, op := .fieldAddr _ (.tmp 7) 2, type := _, pos := _, after := _, guard := _ }) (v := ?_) rfl (by kernel_rfl) (by kernel_rfl) (by kernel_rfl) (early_sat (by kernel_rfl)) (fun _ _ _ h => h) (Or.inl ⟨by rfl, ?_⟩) hS5 ?_
      rotate_left
      · intro wl hSw
        obtain ⟨s0, s1, s2, s3, s4⟩ := hSw
        go_simp
        with_reducible rfl
      simp only [Act.put, List.setIfInBounds_toArray, List.set_cons_zero, List.set_cons_succ]
      refine wpAnyJ_only (i := 16) (o := { dst := none, op := .store _ (.tmp 56) (.tmp 55), type := _, pos := _, after := _, guard := _ }) (by kernel_rfl) rfl (fun K hK => ?_)
      go_simp
      refine hK.out _ _ (fun h => absurd h (by decide)) ?_
      try simp only [Act.put, List.setIfInBounds_toArray, List.set_cons_zero, List.set_cons_succ]
      clear hK K
      refine wpAnyJ_done (by kernel_rfl) ?_ _
      go_wp2_with fail
      go_roundw
      case rel => exact ⟨k + 1, by omega, by go_num, _, Lib.hid (by rw [HNX.out]; exact H5.out)⟩
      case measure => simp [intOf]; omega
    · obtain rfl : k = xs.length := by omega
      have HB9 := Lib.hid (show GB w1 w1.heap.size wr r c v L by have := hB.out; rwa [← HLL.out, List.take_length] at this)
      obtain ⟨va, vc, rfl⟩ := own_form HB9.out.row
      have k0 := HB9.out.box.cell 0 _ rfl; have k1 := HB9.out.box.cell 1 _ rfl; have k2 := HB9.out.box.cell 2 _ rfl
      have HSL := Lib.hid (Sl.ofOwns HB9.out.row)
      have HRr := Lib.hid (hU.box HR1.out HR1.out.lt)
      have q2 := HQ1.out.trans (HB9.out.bel.mono HQ1.out.size)
      clear hB hU
      go_wp2_with (go_at_call 81; (with_reducible refine (rbounded_ok _ r c _ L _ HSL.out HLC.out.symm HR16.out HC16.out HAB.out).mono ?_); rintro e w3 ⟨v3, rfl, u3, rfl, s3, h3⟩; obtain ⟨a3, c3, rfl⟩ := sl_form s3; have HR3 := Lib.hid (HRr.out.below h3 (Nat.le_refl _)); have q3 := q2.trans (h3.mono q2.size); have f0 := HR3.out.free 0; have f1 := HR3.out.free 1; have f2 := HR3.out.free 2; have g0 := HR3.out.cell 0 _ rfl; have g1 := HR3.out.cell 1 _ rfl; have g2 := HR3.out.cell 2 _ rfl)
      obtain ⟨hR, hS, hW⟩ := res_done (R := r) (C := c) q3 (by omega) HR3.out s3
      have z0 := hR.cell 0 _ rfl; have z1 := hR.cell 1 _ rfl; have z2 := hR.cell 2 _ rfl
      exact bodyPost_ret (v := .tuple #[.agg #[.int .i64 r, .int .i64 c, .slice a3 L.length c3], .int .i64 0]) (by simp [results, Tryz.results41, go_sem, z0, z1, z2]) rfl ⟨_, rfl, _, rfl, hS, hW⟩
set_option maxHeartbeats 4000000 in
theorem rMAdd_any (w : World) (R C R' C' : Int) (v u : Value) (xs ys : List ByteArray) (hv : Sl eS w v xs) (hu : Sl eS w u ys) (hsz : xs.length ≤ 256 → ∀ s ∈ xs, s.size ≤ 1000000) (hsz' : ys.length ≤ 256 → ∀ s ∈ ys, s.size ≤ 1000000) (hf : Fit 500 xs) (hf' : Fit 500 ys) (he : Env w) :
    Calls Tryz.prog 41 #[.agg #[.int .i64 R, .int .i64 C, v], .agg #[.int .i64 R', .int .i64 C', u]] w (RetMR w (addS3 R C xs R' C' ys)) := by
  have HV := Lib.hid hv; have HU := Lib.hid hu; have HSZ := Lib.hid hsz; have HSZ' := Lib.hid hsz'; have HE := Lib.hid he
  obtain ⟨ad, cap, rfl⟩ := sl_form hv
  obtain ⟨ad', cap', rfl⟩ := sl_form hu
  clear hv hu hsz hsz' he
  by_cases h : twoM R C xs R' C' ys = 0
  · have H := Lib.hid h
    obtain ⟨h1, h2⟩ := two_ok h
    obtain ⟨r, c, hrm⟩ := rm_of h1
    obtain ⟨r', c', hrm'⟩ := rm_of h2
    by_cases hs : R = R' ∧ C = C'
    · obtain ⟨rfl, rfl⟩ := hs
      obtain rfl := hrm.rows; obtain rfl := hrm.cols
      have er := hrm'.rows; have ec := hrm'.cols
      obtain rfl : r = r' := by omega
      obtain rfl : c = c' := by omega
      show Calls _ _ _ _ (RetM w (addS3 r c xs r c ys).R (addS3 r c xs r c ys).C (addS3 r c xs r c ys).xs (addS3 r c xs r c ys).k)
      rw [show addS3 r c xs r c ys = ⟨r, c, cellsF r c (fun i k => matF c xs i k + matF c ys i k), 0⟩ by unfold addS3; rw [if_pos h, if_pos ⟨rfl, rfl⟩]; rfl]
      exact rMAdd_ok w r c _ _ xs ys HV.out HU.out HSZ.out HSZ'.out hf hf' hrm hrm' h HE.out
    · have HX := Lib.hid (show addS3 R C xs R' C' ys = .bad 8 by unfold addS3; rw [if_pos h, if_neg hs])
      by_cases e1 : R = R'
      · have e2 : C ≠ C' := fun e => hs ⟨e1, e⟩
        subst e1
        have hne : (C != C') = true := by simp [e2]
        show Calls _ _ _ _ (RetM w (addS3 R C xs R C' ys).R (addS3 R C xs R C' ys).C (addS3 R C xs R C' ys).xs (addS3 R C xs R C' ys).k)
        rw [show addS3 R C xs R C' ys = .bad 8 by exact HX.out]
        have HB := Lib.hid ((((Below.refl w.heap.size w).alloc (Nat.le_refl _) (.cells #[.int .i64 R, .int .i64 C, .slice ad xs.length cap] 24)).alloc (by simp) (.cells #[.int .i64 R, .int .i64 C', .slice ad' ys.length cap'] 24)).alloc (by simp; omega) (.cells #[.int .i64 0, .int .i64 0, .slice none 0 0] 24))
        have q0 := HB.out
        have HK := Lib.hid (((Blk.new w [.int .i64 R, .int .i64 C, .slice ad xs.length cap] 24).alloc (.cells #[.int .i64 R, .int .i64 C', .slice ad' ys.length cap'] 24)).alloc (.cells #[.int .i64 0, .int .i64 0, .slice none 0 0] 24))
        have HK2 := Lib.hid ((Blk.at1 w (.cells #[.int .i64 R, .int .i64 C, .slice ad xs.length cap] 24) [.int .i64 R, .int .i64 C', .slice ad' ys.length cap'] 24).alloc (.cells #[.int .i64 0, .int .i64 0, .slice none 0 0] 24))
        have HR := Lib.hid (Blk.at2 w (.cells #[.int .i64 R, .int .i64 C, .slice ad xs.length cap] 24) (.cells #[.int .i64 R, .int .i64 C', .slice ad' ys.length cap'] 24) [.int .i64 0, .int .i64 0, .slice none 0 0] 24)
        have HV := Lib.hid (HV.out.below HB.out (Nat.le_refl _))
        have HU := Lib.hid (HU.out.below HB.out (Nat.le_refl _))
        have HE := Lib.hid (HE.out.below HB.out (Nat.le_refl _))
        clear h h1 h2 hrm hrm' hs e2
        go_enter Tryz.func41, Tryz.ntmps41
        go_wp2_with (first
          | (go_at_call 79; (with_reducible refine (rtwo_any _ R C R C' _ _ xs ys HV.out HU.out HSZ.out HSZ'.out).mono ?_); rintro e w1 ⟨v, rfl, rfl, h1⟩; rw [H.out]; have HV := Lib.hid (HV.out.below h1 (Nat.le_refl _)); have HU := Lib.hid (HU.out.below h1 (Nat.le_refl _)); have HE := Lib.hid (HE.out.below h1 (Nat.le_refl _)); have HK := Lib.hid (HK.out.below h1 (Nat.le_refl _)); have c1_HK_0 := HK.out.cell 0 _ rfl; have c1_HK_1 := HK.out.cell 1 _ rfl; have c1_HK_2 := HK.out.cell 2 _ rfl; have HK2 := Lib.hid (HK2.out.below h1 (Nat.le_refl _)); have c1_HK2_0 := HK2.out.cell 0 _ rfl; have c1_HK2_1 := HK2.out.cell 1 _ rfl; have c1_HK2_2 := HK2.out.cell 2 _ rfl; have HR := Lib.hid (HR.out.below h1 (Nat.le_refl _)); have f1_HR_0 := HR.out.free 0; have f1_HR_1 := HR.out.free 1; have f1_HR_2 := HR.out.free 2; have c1_HR_0 := HR.out.cell 0 _ rfl; have c1_HR_1 := HR.out.cell 1 _ rfl; have c1_HR_2 := HR.out.cell 2 _ rfl; have q1 := q0.trans (h1.mono q0.size)))
        obtain ⟨hR, hS, hW⟩ := res_done (R := 0) (C := 0) q1 (by omega) HR.out (Sl.nil' eS _)
        have z0 := hR.cell 0 _ rfl; have z1 := hR.cell 1 _ rfl; have z2 := hR.cell 2 _ rfl
        exact bodyPost_ret (v := .tuple #[.agg #[.int .i64 0, .int .i64 0, .slice none 0 0], .int .i64 8]) (by simp [results, Tryz.results41, go_sem, z0, z1, z2]) rfl ⟨_, rfl, _, rfl, hS, hW⟩
      · have hne : (R != R') = true := by simp [e1]
        show Calls _ _ _ _ (RetM w (addS3 R C xs R' C' ys).R (addS3 R C xs R' C' ys).C (addS3 R C xs R' C' ys).xs (addS3 R C xs R' C' ys).k)
        rw [show addS3 R C xs R' C' ys = .bad 8 by exact HX.out]
        have HB := Lib.hid ((((Below.refl w.heap.size w).alloc (Nat.le_refl _) (.cells #[.int .i64 R, .int .i64 C, .slice ad xs.length cap] 24)).alloc (by simp) (.cells #[.int .i64 R', .int .i64 C', .slice ad' ys.length cap'] 24)).alloc (by simp; omega) (.cells #[.int .i64 0, .int .i64 0, .slice none 0 0] 24))
        have q0 := HB.out
        have HK := Lib.hid (((Blk.new w [.int .i64 R, .int .i64 C, .slice ad xs.length cap] 24).alloc (.cells #[.int .i64 R', .int .i64 C', .slice ad' ys.length cap'] 24)).alloc (.cells #[.int .i64 0, .int .i64 0, .slice none 0 0] 24))
        have HK2 := Lib.hid ((Blk.at1 w (.cells #[.int .i64 R, .int .i64 C, .slice ad xs.length cap] 24) [.int .i64 R', .int .i64 C', .slice ad' ys.length cap'] 24).alloc (.cells #[.int .i64 0, .int .i64 0, .slice none 0 0] 24))
        have HR := Lib.hid (Blk.at2 w (.cells #[.int .i64 R, .int .i64 C, .slice ad xs.length cap] 24) (.cells #[.int .i64 R', .int .i64 C', .slice ad' ys.length cap'] 24) [.int .i64 0, .int .i64 0, .slice none 0 0] 24)
        have HV := Lib.hid (HV.out.below HB.out (Nat.le_refl _))
        have HU := Lib.hid (HU.out.below HB.out (Nat.le_refl _))
        have HE := Lib.hid (HE.out.below HB.out (Nat.le_refl _))
        clear h h1 h2 hrm hrm' hs e1
        go_enter Tryz.func41, Tryz.ntmps41
        go_wp2_with (first
          | (go_at_call 79; (with_reducible refine (rtwo_any _ R C R' C' _ _ xs ys HV.out HU.out HSZ.out HSZ'.out).mono ?_); rintro e w1 ⟨v, rfl, rfl, h1⟩; rw [H.out]; have HV := Lib.hid (HV.out.below h1 (Nat.le_refl _)); have HU := Lib.hid (HU.out.below h1 (Nat.le_refl _)); have HE := Lib.hid (HE.out.below h1 (Nat.le_refl _)); have HK := Lib.hid (HK.out.below h1 (Nat.le_refl _)); have c1_HK_0 := HK.out.cell 0 _ rfl; have c1_HK_1 := HK.out.cell 1 _ rfl; have c1_HK_2 := HK.out.cell 2 _ rfl; have HK2 := Lib.hid (HK2.out.below h1 (Nat.le_refl _)); have c1_HK2_0 := HK2.out.cell 0 _ rfl; have c1_HK2_1 := HK2.out.cell 1 _ rfl; have c1_HK2_2 := HK2.out.cell 2 _ rfl; have HR := Lib.hid (HR.out.below h1 (Nat.le_refl _)); have f1_HR_0 := HR.out.free 0; have f1_HR_1 := HR.out.free 1; have f1_HR_2 := HR.out.free 2; have c1_HR_0 := HR.out.cell 0 _ rfl; have c1_HR_1 := HR.out.cell 1 _ rfl; have c1_HR_2 := HR.out.cell 2 _ rfl; have q1 := q0.trans (h1.mono q0.size)))
        obtain ⟨hR, hS, hW⟩ := res_done (R := 0) (C := 0) q1 (by omega) HR.out (Sl.nil' eS _)
        have z0 := hR.cell 0 _ rfl; have z1 := hR.cell 1 _ rfl; have z2 := hR.cell 2 _ rfl
        exact bodyPost_ret (v := .tuple #[.agg #[.int .i64 0, .int .i64 0, .slice none 0 0], .int .i64 8]) (by simp [results, Tryz.results41, go_sem, z0, z1, z2]) rfl ⟨_, rfl, _, rfl, hS, hW⟩
  · have hne : (twoM R C xs R' C' ys != 0) = true := by simp [h]
    show Calls _ _ _ _ (RetM w (addS3 R C xs R' C' ys).R (addS3 R C xs R' C' ys).C (addS3 R C xs R' C' ys).xs (addS3 R C xs R' C' ys).k)
    rw [show addS3 R C xs R' C' ys = .bad (twoM R C xs R' C' ys) by unfold addS3; rw [if_neg h]]
    have HB := Lib.hid ((((Below.refl w.heap.size w).alloc (Nat.le_refl _) (.cells #[.int .i64 R, .int .i64 C, .slice ad xs.length cap] 24)).alloc (by simp) (.cells #[.int .i64 R', .int .i64 C', .slice ad' ys.length cap'] 24)).alloc (by simp; omega) (.cells #[.int .i64 0, .int .i64 0, .slice none 0 0] 24))
    have q0 := HB.out
    have HK := Lib.hid (((Blk.new w [.int .i64 R, .int .i64 C, .slice ad xs.length cap] 24).alloc (.cells #[.int .i64 R', .int .i64 C', .slice ad' ys.length cap'] 24)).alloc (.cells #[.int .i64 0, .int .i64 0, .slice none 0 0] 24))
    have HK2 := Lib.hid ((Blk.at1 w (.cells #[.int .i64 R, .int .i64 C, .slice ad xs.length cap] 24) [.int .i64 R', .int .i64 C', .slice ad' ys.length cap'] 24).alloc (.cells #[.int .i64 0, .int .i64 0, .slice none 0 0] 24))
    have HR := Lib.hid (Blk.at2 w (.cells #[.int .i64 R, .int .i64 C, .slice ad xs.length cap] 24) (.cells #[.int .i64 R', .int .i64 C', .slice ad' ys.length cap'] 24) [.int .i64 0, .int .i64 0, .slice none 0 0] 24)
    have HV := Lib.hid (HV.out.below HB.out (Nat.le_refl _))
    have HU := Lib.hid (HU.out.below HB.out (Nat.le_refl _))
    have HE := Lib.hid (HE.out.below HB.out (Nat.le_refl _))
    clear h
    go_enter Tryz.func41, Tryz.ntmps41
    go_wp2_with (first
      | (go_at_call 79; (with_reducible refine (rtwo_any _ R C R' C' _ _ xs ys HV.out HU.out HSZ.out HSZ'.out).mono ?_); rintro e w1 ⟨v, rfl, rfl, h1⟩; have HV := Lib.hid (HV.out.below h1 (Nat.le_refl _)); have HU := Lib.hid (HU.out.below h1 (Nat.le_refl _)); have HE := Lib.hid (HE.out.below h1 (Nat.le_refl _)); have HK := Lib.hid (HK.out.below h1 (Nat.le_refl _)); have c1_HK_0 := HK.out.cell 0 _ rfl; have c1_HK_1 := HK.out.cell 1 _ rfl; have c1_HK_2 := HK.out.cell 2 _ rfl; have HK2 := Lib.hid (HK2.out.below h1 (Nat.le_refl _)); have c1_HK2_0 := HK2.out.cell 0 _ rfl; have c1_HK2_1 := HK2.out.cell 1 _ rfl; have c1_HK2_2 := HK2.out.cell 2 _ rfl; have HR := Lib.hid (HR.out.below h1 (Nat.le_refl _)); have f1_HR_0 := HR.out.free 0; have f1_HR_1 := HR.out.free 1; have f1_HR_2 := HR.out.free 2; have c1_HR_0 := HR.out.cell 0 _ rfl; have c1_HR_1 := HR.out.cell 1 _ rfl; have c1_HR_2 := HR.out.cell 2 _ rfl; have q1 := q0.trans (h1.mono q0.size)))
    obtain ⟨hR, hS, hW⟩ := res_done (R := 0) (C := 0) q1 (by omega) HR.out (Sl.nil' eS _)
    have z0 := hR.cell 0 _ rfl; have z1 := hR.cell 1 _ rfl; have z2 := hR.cell 2 _ rfl
    exact bodyPost_ret (v := .tuple #[.agg #[.int .i64 0, .int .i64 0, .slice none 0 0], .int .i64 (twoM R C xs R' C' ys)]) (by simp [results, Tryz.results41, go_sem, z0, z1, z2]) rfl ⟨_, rfl, _, rfl, hS, hW⟩
end Go.Proofs.YtfhdmhifdaiehaaGreatDoor

namespace Go.Proofs.YtfhdmhifdaiehaaGreatDoor
open Go.RowKit
set_option maxRecDepth 100000

set_option maxHeartbeats 8000000 in
theorem rTimes3_any (w : World) (v u : Value) (xs ys : List ByteArray) (r n p : Nat) (A B : Mat) (hv : Sl eS w v xs) (hu : Sl eS w u ys) (hx : xs = cellsF r n A) (hy : ys = cellsF n p B) (hr : r ≤ 16) (hn : n ≤ 16) (hp : p ≤ 16) (hA : ∀ i k, i < r → k < n → dn (A i k) ≤ 1000) (hB : ∀ i k, i < n → k < p → dn (B i k) ≤ 1000) :
    Calls Tryz.prog 82 #[.agg #[.int .i64 r, .int .i64 n, v], .agg #[.int .i64 n, .int .i64 p, u]] w (Rets fun v' w' => ∃ u, v' = .agg #[.int .i64 r, .int .i64 p, u] ∧ Sl eS w' u (cellsF r p (mulM n A B)) ∧ Below w.heap.size w w') := by
  have HV := Lib.hid hv; have HU := Lib.hid hu; have HX := Lib.hid hx; have HY := Lib.hid hy; have HA := Lib.hid hA; have HBB := Lib.hid hB
  obtain ⟨ad, cap, rfl⟩ := sl_form hv
  obtain ⟨ad', cap', rfl⟩ := sl_form hu
  have HL2 := Lib.hid (show xs.length ≤ 256 by rw [hx, cellsF_len]; exact Nat.mul_le_mul hr hn)
  have HL2' := Lib.hid (show ys.length ≤ 256 by rw [hy, cellsF_len]; exact Nat.mul_le_mul hn hp)
  clear hv hu hx hy hA hB
  obtain ⟨L, hL⟩ : ∃ L, cellsF r p (mulM n A B) = L := ⟨_, rfl⟩
  have HLG := Lib.hid (fun a b (ha : a < r) (hb : b < p) (h : a * p + b < L.length) => show L.take (a * p + b + 1) = L.take (a * p + b) ++ [txt (mulM n A B a b)] by
    rw [List.take_succ_eq_append_getElem h]; subst hL; rw [cellsF_get _ hb h])
  have HLL := Lib.hid (show L.length = r * p by rw [← hL, cellsF_len])
  have HLM := Lib.hid (show L.length ≤ 256 by rw [← hL, cellsF_len]; exact Nat.mul_le_mul hr hp)
  rw [hL]
  clear hL
  have hF0 := FB.start ((w.alloc (.cells #[.int .i64 r, .int .i64 n, .slice ad xs.length cap] 24)).alloc (.cells #[.int .i64 n, .int .i64 p, .slice ad' ys.length cap'] 24)) (r : Int) (p : Int)
  have hsz : ((w.alloc (.cells #[.int .i64 r, .int .i64 n, .slice ad xs.length cap] 24)).alloc (.cells #[.int .i64 n, .int .i64 p, .slice ad' ys.length cap'] 24)).heap.size = w.heap.size + 2 := by simp
  rw [hsz] at hF0
  have bM := (Blk.new w [.int .i64 r, .int .i64 n, .slice ad xs.length cap] 24).alloc (.cells #[.int .i64 n, .int .i64 p, .slice ad' ys.length cap'] 24)
  have bM2 := Blk.at1 w (.cells #[.int .i64 r, .int .i64 n, .slice ad xs.length cap] 24) [.int .i64 n, .int .i64 p, .slice ad' ys.length cap'] 24
  have hbW : Below w.heap.size w ((w.alloc (.cells #[.int .i64 r, .int .i64 n, .slice ad xs.length cap] 24)).alloc (.cells #[.int .i64 n, .int .i64 p, .slice ad' ys.length cap'] 24)) := ((Below.refl _ _).alloc (Nat.le_refl _) _).alloc (by simp) _
  obtain ⟨W0, hW0⟩ : ∃ W0, (w.alloc (.cells #[.int .i64 r, .int .i64 n, .slice ad xs.length cap] 24)).alloc (.cells #[.int .i64 n, .int .i64 p, .slice ad' ys.length cap'] 24) = W0 := ⟨_, rfl⟩
  rw [hW0] at hF0 bM bM2 hbW
  have HH := Lib.hid (held_two bM bM2 (h := w.heap.size + 2) (by omega) (by omega))
  have HS0 : Hid (w.heap.size + 2 ≤ W0.heap.size) := Lib.hid (by rw [← hW0]; simp)
  have HBW := Lib.hid hbW; have HW0 := Lib.hid hW0
  have HF0 := Lib.hid hF0
  clear hF0 bM bM2 hbW hW0 hsz
  go_enter Tryz.func82, Tryz.ntmps82
  go_wp2
  rw [HW0.out]
  go_loopw [6] (fun i wr => ∃ a : Nat, a ≤ r ∧ i = .int .i64 a ∧ ∃ v, Hid (FB W0 (w.heap.size + 2) wr (r : Int) (p : Int) v (L.take (a * p)))) (fun i _ => r - (intOf i).toNat)
  case atStart => exact ⟨0, Nat.zero_le _, rfl, _, Lib.hid (by rw [Nat.zero_mul]; exact HF0.out)⟩
  case round =>
    clear HF0
    obtain ⟨a, ha, rfl, v, hB⟩ := hrel
    obtain ⟨WA, rfl⟩ : ∃ W, W = wr := ⟨_, rfl⟩
    obtain ⟨-, ⟨m0, m1, m2⟩, d0, d1, d2⟩ := HH.out WA ⟨HS0.out, hB.out.bel⟩
    by_cases har : a < r
    · go_wp2
      go_loopw [7] (fun i wr => ∃ b : Nat, b ≤ p ∧ i = .int .i64 b ∧ ∃ v, Hid (FB W0 (w.heap.size + 2) wr (r : Int) (p : Int) v (L.take (a * p + b)))) (fun i _ => p - (intOf i).toNat)
      case atStart => exact ⟨0, Nat.zero_le _, rfl, _, hB⟩
      case round =>
        clear hB m0 m1 m2 d0 d1 d2
        obtain ⟨b, hb, rfl, v, hB⟩ := hrel
        obtain ⟨WB, rfl⟩ : ∃ W, W = wr := ⟨_, rfl⟩
        obtain ⟨-, ⟨m0, m1, m2⟩, d0, d1, d2⟩ := HH.out WB ⟨HS0.out, hB.out.bel⟩
        by_cases hbp : b < p
        · have hNX := HLG.out a b har hbp (by rw [HLL.out]; exact mul_lt har hbp)
          obtain ⟨T, hTT⟩ : ∃ T, L.take (a * p + b) = T := ⟨_, rfl⟩
          rw [hTT] at hB hNX
          have HNX := Lib.hid hNX
          have HTL := Lib.hid (show T.length ≤ 1000000 by rw [← hTT, List.length_take]; have := HLM.out; omega)
          clear hNX hTT
          go_wp2
          go_loopw [8, 9] (fun sv j wr => ∃ q : Nat, q ≤ n ∧ j = .int .i64 q ∧ sv = .string (txt (sm q fun j => A a j * B j b)) ∧ Hid (FB W0 (w.heap.size + 2) wr (r : Int) (p : Int) v T)) (fun _ j _ => n - (intOf j).toNat)
          case atStart => exact ⟨0, Nat.zero_le _, rfl, by rw [sm, txt0], hB⟩
          case round =>
            clear hB m0 m1 m2 d0 d1 d2
            obtain ⟨q, hq, rfl, rfl, hB⟩ := hrel
            have hU : Up (w.heap.size + 2) W0 wr := ⟨HS0.out, hB.out.bel⟩
            obtain ⟨-, ⟨m0, m1, m2⟩, d0, d1, d2⟩ := HH.out wr hU
            by_cases hqn : q < n
            · have HX' := Lib.hid (show xs[a * n + q]? = some (txt (A a q)) by rw [HX.out]; exact cellsF_get? A har hqn)
              have HY' := Lib.hid (show ys[q * p + b]? = some (txt (B q b)) by rw [HY.out]; exact cellsF_get? B hqn hbp)
              have hda := HA.out a q har hqn; have hdb := HBB.out q b hqn hbp
              have hds : dn (sm q fun j => A a j * B j b) ≤ 2000 + q := dn_sm _ q fun j hj => by
                have h1 := HA.out a j har (by omega); have h2 := HBB.out j b (by omega) hbp
                have h3 := dn_mul (A a j) (B j b); omega
              have hdm := dn_mul (A a q) (B q b)
              have HDA := Lib.hid hda; have HDB := Lib.hid hdb; have HDS := Lib.hid (show dn (sm q fun j => A a j * B j b) ≤ 100000 by omega); have HDM := Lib.hid (show dn (A a q * B q b) ≤ 100000 by omega)
              have HSM := Lib.hid (show sm (q + 1) (fun j => A a j * B j b) = sm q (fun j => A a j * B j b) + A a q * B q b from rfl)
              obtain ⟨S, hS⟩ : ∃ S, sm q (fun j => A a j * B j b) = S := ⟨_, rfl⟩
              rw [hS] at HDS HSM ⊢
              have HVr := Lib.hid (hU.sl HV.out HBW.out (by omega)); have HUr := Lib.hid (hU.sl HU.out HBW.out (by omega))
              have HBr := Lib.hid (Below.refl wr.heap.size wr); have HU0 := Lib.hid (Up.start wr)
              have HHr := Lib.hid (fun w' (H : Up wr.heap.size wr w') => show Up wr.heap.size wr w' ∧ (w'.cell? ⟨w.heap.size, 0, none⟩ = some (.int .i64 r) ∧ w'.cell? ⟨w.heap.size, 1, none⟩ = some (.int .i64 n) ∧ w'.cell? ⟨w.heap.size, 2, none⟩ = some (.slice ad xs.length cap)) ∧ w'.cell? ⟨w.heap.size + 1, 0, none⟩ = some (.int .i64 n) ∧ w'.cell? ⟨w.heap.size + 1, 1, none⟩ = some (.int .i64 p) ∧ w'.cell? ⟨w.heap.size + 1, 2, none⟩ = some (.slice ad' ys.length cap') from ⟨H, (HH.out w' ⟨HS0.out, hU.2.trans (H.2.mono (Nat.le_trans HS0.out hU.2.size))⟩).2⟩)
              clear hda hdb hds hdm hS hU
              go_wp2_with fail
              go_region_held3 (fun w' => Up wr.heap.size wr w' ∧ (w'.cell? ⟨w.heap.size, 0, none⟩ = some (.int .i64 r) ∧ w'.cell? ⟨w.heap.size, 1, none⟩ = some (.int .i64 n) ∧ w'.cell? ⟨w.heap.size, 2, none⟩ = some (.slice ad xs.length cap)) ∧ w'.cell? ⟨w.heap.size + 1, 0, none⟩ = some (.int .i64 n) ∧ w'.cell? ⟨w.heap.size + 1, 1, none⟩ = some (.int .i64 p) ∧ w'.cell? ⟨w.heap.size + 1, 2, none⟩ = some (.slice ad' ys.length cap'))
                (((refine HHr.out _ ?_); first
                  | with_reducible exact HU0.out.drew
                  | with_reducible exact Up.call (And.left (by assumption)) (by assumption)
                  | with_reducible assumption
                  | with_reducible exact And.left (by assumption)))
                (first
                  | (go_at_call_of 71 (Value.agg #[Value.int .i64 (r : Int), Value.int .i64 (n : Int), Value.slice ad xs.length cap]); (with_reducible refine (rMat_any _ (r : Int) (n : Int) _ xs n a q _ (Up.sl (And.left (by assumption)) HVr.out HBr.out (Nat.le_refl _)) rfl HL2.out HX'.out).mono ?_); rintro e w4 ⟨u4, rfl, rfl, hb4⟩)
                  | (go_at_call_of 71 (Value.agg #[Value.int .i64 (n : Int), Value.int .i64 (p : Int), Value.slice ad' ys.length cap']); (with_reducible refine (rMat_any _ (n : Int) (p : Int) _ ys p q b _ (Up.sl (And.left (by assumption)) HUr.out HBr.out (Nat.le_refl _)) rfl HL2'.out HY'.out).mono ?_); rintro e w5 ⟨u5, rfl, rfl, hb5⟩)
                  | (go_at_call 89; (with_reducible refine (Times_any _ (A a q) (B q b) (by have := HDA.out; omega) (by have := HDB.out; omega)).mono ?_); rintro e w6 ⟨u6, rfl, rfl, hb6⟩)
                  | (go_at_call 80; (with_reducible refine (Plus_any _ S (A a q * B q b) HDS.out HDM.out).mono ?_); rintro e w7 ⟨u7, rfl, rfl, hb7⟩))
              all_goals
                go_wp2_with fail
                go_roundw
                case rel => exact ⟨q + 1, by omega, by go_num, by rw [HSM.out], Lib.hid (hB.out.keep (Up.bel (And.left (by assumption))))⟩
                case measure => simp [intOf]; omega
            · obtain rfl : q = n := by omega
              have k2 := hB.out.box.cell 2 _ rfl
              obtain ⟨z, hz⟩ : ∃ z, sm q (fun j => A a j * B j b) = z := ⟨_, rfl⟩
              have HZ := Lib.hid (show mulM q A B a b = z from hz)
              rw [hz]
              clear hz
              go_wp2_with (at_builtin; refine app1 (news := [.string (txt z)]) elemStr rfl _ _ rfl rfl rfl hB.out.row (Below.refl _ _) (Nat.le_refl _) (by have := hB.out.box.lt; omega) rfl (by simp [Value.oneCell']) (by have := HTL.out; omega) (by unfold maxLen; have := HTL.out; omega) ?_; intro v6 w6 hown6 hb6; obtain ⟨g6, cap6, rfl⟩ := ownsRow_succ hown6; have H6 := Lib.hid (hB.out.push hb6 hown6); have B6 := hB.out.box6 hb6; have j2 := B6.cell 2 _ rfl; have f2 := B6.free 2; clear hown6 B6)
              go_roundw
              case rel => exact ⟨b + 1, by omega, by go_num, _, Lib.hid (by rw [← Nat.add_assoc, HNX.out, HZ.out]; exact H6.out)⟩
              case measure => simp [intOf]; omega
        · obtain rfl : b = p := by omega
          go_wp2
          go_roundw
          case rel => exact ⟨a + 1, by omega, by go_num, v, Lib.hid (by rw [Nat.add_mul, Nat.one_mul]; exact hB.out)⟩
          case measure => simp [intOf]; omega
    · obtain rfl : a = r := by omega
      have H := Lib.hid (show FB W0 (w.heap.size + 2) WA (a : Int) (p : Int) v L by have := hB.out; rwa [← HLL.out, List.take_length] at this)
      obtain ⟨va, vc, rfl⟩ := own_form H.out.row
      have k0 := H.out.box.cell 0 _ rfl; have k1 := H.out.box.cell 1 _ rfl; have k2 := H.out.box.cell 2 _ rfl
      have r0 := H.out.res.cell 0 _ rfl; have r1 := H.out.res.cell 1 _ rfl; have r2 := H.out.res.cell 2 _ rfl
      have f0 := H.out.res.free 0; have f1 := H.out.res.free 1; have f2 := H.out.res.free 2
      clear hB
      go_wp2
      obtain ⟨hR, hS, hW⟩ := H.out.done
      have q0 := hR.cell 0 _ rfl; have q1 := hR.cell 1 _ rfl; have q2 := hR.cell 2 _ rfl
      exact bodyPost_ret (v := .agg #[.int .i64 a, .int .i64 p, .slice va L.length vc]) (by simp [results, Tryz.results82, go_sem, q0, q1, q2]) rfl ⟨_, rfl, _, rfl, hS, HBW.out.trans (hW.mono (Nat.le_trans (by omega) HS0.out))⟩
set_option maxHeartbeats 4000000 in
theorem rProduct_any (w : World) (R C R' C' : Int) (v u : Value) (xs ys : List ByteArray) (hv : Sl eS w v xs) (hu : Sl eS w u ys) (hsz : xs.length ≤ 256 → ∀ s ∈ xs, s.size ≤ 1000000) (hsz' : ys.length ≤ 256 → ∀ s ∈ ys, s.size ≤ 1000000) (hf : Fit 500 xs) (hf' : Fit 500 ys) (he : Env w) :
    Calls Tryz.prog 42 #[.agg #[.int .i64 R, .int .i64 C, v], .agg #[.int .i64 R', .int .i64 C', u]] w (RetMR w (prodS R C xs R' C' ys)) := by
  have HV := Lib.hid hv; have HU := Lib.hid hu; have HSZ := Lib.hid hsz; have HSZ' := Lib.hid hsz'; have HE := Lib.hid he
  obtain ⟨ad, cap, rfl⟩ := sl_form hv
  obtain ⟨ad', cap', rfl⟩ := sl_form hu
  clear hv hu hsz hsz' he
  by_cases h : twoM R C xs R' C' ys = 0
  · have H := Lib.hid h
    obtain ⟨h1, h2⟩ := two_ok h
    obtain ⟨r, n, hrm⟩ := rm_of h1
    obtain ⟨n', p, hrm'⟩ := rm_of h2
    by_cases hs : C = R'
    · obtain rfl := hrm.rows; obtain rfl := hrm.cols
      obtain rfl := hrm'.rows; obtain rfl := hrm'.cols
      obtain rfl : n = n' := by omega
      have HRM := Lib.hid hrm; have HRM' := Lib.hid hrm'
      have HDA := Lib.hid (fun i k (hi : i < r) (hk : k < n) => hrm.dn hf hi hk)
      have HDB := Lib.hid (fun i k (hi : i < n) (hk : k < p) => hrm'.dn hf' hi hk)
      have HC := Lib.hid hrm.cells; have HC' := Lib.hid hrm'.cells
      show Calls _ _ _ _ (RetM w (prodS r n xs n p ys).R (prodS r n xs n p ys).C (prodS r n xs n p ys).xs (prodS r n xs n p ys).k)
      rw [show prodS r n xs n p ys = ⟨r, p, cellsF r p (mulM n (matF n xs) (matF p ys)), 0⟩ by unfold prodS; rw [if_pos h, if_pos rfl]; rfl]
      obtain ⟨A, hAA⟩ : ∃ A, matF n xs = A := ⟨_, rfl⟩
      obtain ⟨B, hBB⟩ : ∃ B, matF p ys = B := ⟨_, rfl⟩
      rw [hAA] at HDA HC ⊢
      rw [hBB] at HDB HC' ⊢
      obtain ⟨L, hL⟩ : ∃ L, cellsF r p (mulM n A B) = L := ⟨_, rfl⟩
      have HLC := Lib.hid hL
      have HDM := Lib.hid (fun i k (hi : i < r) (hk : k < p) => show dn (mulM n A B i k) ≤ 1024 by
        have h3 := dn_mulM (A := A) (B := B) (i := i) (k := k) (n := n) (fun j hj => HDA.out i j hi hj) (fun j hj => HDB.out j k hj hk); have := hrm.c16; omega)
      have HT := Lib.hid (fun (w1 : World) (v u : Value) (hv : Sl eS w1 v xs) (hu : Sl eS w1 u ys) => show Calls Tryz.prog 82 #[.agg #[.int .i64 r, .int .i64 n, v], .agg #[.int .i64 n, .int .i64 p, u]] w1 (Rets fun v' w' => ∃ u, v' = .agg #[.int .i64 r, .int .i64 p, u] ∧ Sl eS w' u L ∧ Below w1.heap.size w1 w') from hL ▸ rTimes3_any w1 v u xs ys r n p A B hv hu HC.out HC'.out HRM.out.r16 HRM.out.c16 HRM'.out.c16 (fun i k hi hk => Nat.le_trans (HDA.out i k hi hk) (by omega)) (fun i k hi hk => Nat.le_trans (HDB.out i k hi hk) (by omega)))
      rw [hL]
      have HB := Lib.hid ((((Below.refl w.heap.size w).alloc (Nat.le_refl _) (.cells #[.int .i64 r, .int .i64 n, .slice ad xs.length cap] 24)).alloc (by simp) (.cells #[.int .i64 n, .int .i64 p, .slice ad' ys.length cap'] 24)).alloc (by simp; omega) (.cells #[.int .i64 0, .int .i64 0, .slice none 0 0] 24))
      have q0 := HB.out
      have HK := Lib.hid (((Blk.new w [.int .i64 r, .int .i64 n, .slice ad xs.length cap] 24).alloc (.cells #[.int .i64 n, .int .i64 p, .slice ad' ys.length cap'] 24)).alloc (.cells #[.int .i64 0, .int .i64 0, .slice none 0 0] 24))
      have HK2 := Lib.hid ((Blk.at1 w (.cells #[.int .i64 r, .int .i64 n, .slice ad xs.length cap] 24) [.int .i64 n, .int .i64 p, .slice ad' ys.length cap'] 24).alloc (.cells #[.int .i64 0, .int .i64 0, .slice none 0 0] 24))
      have HR := Lib.hid (Blk.at2 w (.cells #[.int .i64 r, .int .i64 n, .slice ad xs.length cap] 24) (.cells #[.int .i64 n, .int .i64 p, .slice ad' ys.length cap'] 24) [.int .i64 0, .int .i64 0, .slice none 0 0] 24)
      have HV := Lib.hid (HV.out.below HB.out (Nat.le_refl _))
      have HU := Lib.hid (HU.out.below HB.out (Nat.le_refl _))
      have HE := Lib.hid (HE.out.below HB.out (Nat.le_refl _))
      clear h h1 h2 hrm hrm' hf hf' hs hAA hBB hL
      go_enter Tryz.func42, Tryz.ntmps42
      go_wp2_with (first
        | (go_at_call 81; (with_reducible refine (rbounded_ok _ r p _ L _ HS.out HLC.out.symm HRM.out.r16 HRM'.out.c16 HDM.out).mono ?_); rintro e w3 ⟨v, rfl, x3, rfl, s3, h3⟩; have HS9 := Lib.hid s3; obtain ⟨a3, k3, rfl⟩ := sl_form s3; clear s3; have HV := Lib.hid (HV.out.below h3 (Nat.le_refl _)); have HU := Lib.hid (HU.out.below h3 (Nat.le_refl _)); have HE := Lib.hid (HE.out.below h3 (Nat.le_refl _)); have HK := Lib.hid (HK.out.below h3 (Nat.le_refl _)); have c3_HK_0 := HK.out.cell 0 _ rfl; have c3_HK_1 := HK.out.cell 1 _ rfl; have c3_HK_2 := HK.out.cell 2 _ rfl; have HK2 := Lib.hid (HK2.out.below h3 (Nat.le_refl _)); have c3_HK2_0 := HK2.out.cell 0 _ rfl; have c3_HK2_1 := HK2.out.cell 1 _ rfl; have c3_HK2_2 := HK2.out.cell 2 _ rfl; have HR := Lib.hid (HR.out.below h3 (Nat.le_refl _)); have f3_HR_0 := HR.out.free 0; have f3_HR_1 := HR.out.free 1; have f3_HR_2 := HR.out.free 2; have c3_HR_0 := HR.out.cell 0 _ rfl; have c3_HR_1 := HR.out.cell 1 _ rfl; have c3_HR_2 := HR.out.cell 2 _ rfl; have q3 := q2.trans (h3.mono q2.size))
        | (go_at_call 82; (with_reducible refine (HT.out _ _ _ HV.out HU.out).mono ?_); rintro e w2 ⟨v2, rfl, u2, rfl, s2, h2⟩; obtain ⟨a2, k2, rfl⟩ := sl_form s2; have HS := Lib.hid s2; clear s2; have HV := Lib.hid (HV.out.below h2 (Nat.le_refl _)); have HU := Lib.hid (HU.out.below h2 (Nat.le_refl _)); have HE := Lib.hid (HE.out.below h2 (Nat.le_refl _)); have HK := Lib.hid (HK.out.below h2 (Nat.le_refl _)); have c2_HK_0 := HK.out.cell 0 _ rfl; have c2_HK_1 := HK.out.cell 1 _ rfl; have c2_HK_2 := HK.out.cell 2 _ rfl; have HK2 := Lib.hid (HK2.out.below h2 (Nat.le_refl _)); have c2_HK2_0 := HK2.out.cell 0 _ rfl; have c2_HK2_1 := HK2.out.cell 1 _ rfl; have c2_HK2_2 := HK2.out.cell 2 _ rfl; have HR := Lib.hid (HR.out.below h2 (Nat.le_refl _)); have f2_HR_0 := HR.out.free 0; have f2_HR_1 := HR.out.free 1; have f2_HR_2 := HR.out.free 2; have c2_HR_0 := HR.out.cell 0 _ rfl; have c2_HR_1 := HR.out.cell 1 _ rfl; have c2_HR_2 := HR.out.cell 2 _ rfl; have q2 := q1.trans (h2.mono q1.size))
        | (go_at_call 79; (with_reducible refine (rtwo_any _ r n n p _ _ xs ys HV.out HU.out HSZ.out HSZ'.out).mono ?_); rintro e w1 ⟨v, rfl, rfl, h1⟩; rw [H.out]; have HV := Lib.hid (HV.out.below h1 (Nat.le_refl _)); have HU := Lib.hid (HU.out.below h1 (Nat.le_refl _)); have HE := Lib.hid (HE.out.below h1 (Nat.le_refl _)); have HK := Lib.hid (HK.out.below h1 (Nat.le_refl _)); have c1_HK_0 := HK.out.cell 0 _ rfl; have c1_HK_1 := HK.out.cell 1 _ rfl; have c1_HK_2 := HK.out.cell 2 _ rfl; have HK2 := Lib.hid (HK2.out.below h1 (Nat.le_refl _)); have c1_HK2_0 := HK2.out.cell 0 _ rfl; have c1_HK2_1 := HK2.out.cell 1 _ rfl; have c1_HK2_2 := HK2.out.cell 2 _ rfl; have HR := Lib.hid (HR.out.below h1 (Nat.le_refl _)); have f1_HR_0 := HR.out.free 0; have f1_HR_1 := HR.out.free 1; have f1_HR_2 := HR.out.free 2; have c1_HR_0 := HR.out.cell 0 _ rfl; have c1_HR_1 := HR.out.cell 1 _ rfl; have c1_HR_2 := HR.out.cell 2 _ rfl; have q1 := q0.trans (h1.mono q0.size)))
      obtain ⟨hR, hS, hW⟩ := res_done (R := r) (C := p) q3 (by omega) HR.out HS9.out
      have z0 := hR.cell 0 _ rfl; have z1 := hR.cell 1 _ rfl; have z2 := hR.cell 2 _ rfl
      exact bodyPost_ret (v := .tuple #[.agg #[.int .i64 r, .int .i64 p, .slice a3 L.length k3], .int .i64 0]) (by simp [results, Tryz.results42, go_sem, z0, z1, z2]) rfl ⟨_, rfl, _, rfl, hS, hW⟩
    · have HX := Lib.hid (show prodS R C xs R' C' ys = .bad 8 by unfold prodS; rw [if_pos h, if_neg hs])
      have hne : (C != R') = true := by simp [hs]
      show Calls _ _ _ _ (RetM w (prodS R C xs R' C' ys).R (prodS R C xs R' C' ys).C (prodS R C xs R' C' ys).xs (prodS R C xs R' C' ys).k)
      rw [show prodS R C xs R' C' ys = .bad 8 by exact HX.out]
      have HB := Lib.hid ((((Below.refl w.heap.size w).alloc (Nat.le_refl _) (.cells #[.int .i64 R, .int .i64 C, .slice ad xs.length cap] 24)).alloc (by simp) (.cells #[.int .i64 R', .int .i64 C', .slice ad' ys.length cap'] 24)).alloc (by simp; omega) (.cells #[.int .i64 0, .int .i64 0, .slice none 0 0] 24))
      have q0 := HB.out
      have HK := Lib.hid (((Blk.new w [.int .i64 R, .int .i64 C, .slice ad xs.length cap] 24).alloc (.cells #[.int .i64 R', .int .i64 C', .slice ad' ys.length cap'] 24)).alloc (.cells #[.int .i64 0, .int .i64 0, .slice none 0 0] 24))
      have HK2 := Lib.hid ((Blk.at1 w (.cells #[.int .i64 R, .int .i64 C, .slice ad xs.length cap] 24) [.int .i64 R', .int .i64 C', .slice ad' ys.length cap'] 24).alloc (.cells #[.int .i64 0, .int .i64 0, .slice none 0 0] 24))
      have HR := Lib.hid (Blk.at2 w (.cells #[.int .i64 R, .int .i64 C, .slice ad xs.length cap] 24) (.cells #[.int .i64 R', .int .i64 C', .slice ad' ys.length cap'] 24) [.int .i64 0, .int .i64 0, .slice none 0 0] 24)
      have HV := Lib.hid (HV.out.below HB.out (Nat.le_refl _))
      have HU := Lib.hid (HU.out.below HB.out (Nat.le_refl _))
      have HE := Lib.hid (HE.out.below HB.out (Nat.le_refl _))
      clear h h1 h2 hrm hrm' hs
      go_enter Tryz.func42, Tryz.ntmps42
      go_wp2_with (first
        | (go_at_call 79; (with_reducible refine (rtwo_any _ R C R' C' _ _ xs ys HV.out HU.out HSZ.out HSZ'.out).mono ?_); rintro e w1 ⟨v, rfl, rfl, h1⟩; rw [H.out]; have HV := Lib.hid (HV.out.below h1 (Nat.le_refl _)); have HU := Lib.hid (HU.out.below h1 (Nat.le_refl _)); have HE := Lib.hid (HE.out.below h1 (Nat.le_refl _)); have HK := Lib.hid (HK.out.below h1 (Nat.le_refl _)); have c1_HK_0 := HK.out.cell 0 _ rfl; have c1_HK_1 := HK.out.cell 1 _ rfl; have c1_HK_2 := HK.out.cell 2 _ rfl; have HK2 := Lib.hid (HK2.out.below h1 (Nat.le_refl _)); have c1_HK2_0 := HK2.out.cell 0 _ rfl; have c1_HK2_1 := HK2.out.cell 1 _ rfl; have c1_HK2_2 := HK2.out.cell 2 _ rfl; have HR := Lib.hid (HR.out.below h1 (Nat.le_refl _)); have f1_HR_0 := HR.out.free 0; have f1_HR_1 := HR.out.free 1; have f1_HR_2 := HR.out.free 2; have c1_HR_0 := HR.out.cell 0 _ rfl; have c1_HR_1 := HR.out.cell 1 _ rfl; have c1_HR_2 := HR.out.cell 2 _ rfl; have q1 := q0.trans (h1.mono q0.size)))
      obtain ⟨hR, hS, hW⟩ := res_done (R := 0) (C := 0) q1 (by omega) HR.out (Sl.nil' eS _)
      have z0 := hR.cell 0 _ rfl; have z1 := hR.cell 1 _ rfl; have z2 := hR.cell 2 _ rfl
      exact bodyPost_ret (v := .tuple #[.agg #[.int .i64 0, .int .i64 0, .slice none 0 0], .int .i64 8]) (by simp [results, Tryz.results42, go_sem, z0, z1, z2]) rfl ⟨_, rfl, _, rfl, hS, hW⟩
  · have hne : (twoM R C xs R' C' ys != 0) = true := by simp [h]
    show Calls _ _ _ _ (RetM w (prodS R C xs R' C' ys).R (prodS R C xs R' C' ys).C (prodS R C xs R' C' ys).xs (prodS R C xs R' C' ys).k)
    rw [show prodS R C xs R' C' ys = .bad (twoM R C xs R' C' ys) by unfold prodS; rw [if_neg h]]
    have HB := Lib.hid ((((Below.refl w.heap.size w).alloc (Nat.le_refl _) (.cells #[.int .i64 R, .int .i64 C, .slice ad xs.length cap] 24)).alloc (by simp) (.cells #[.int .i64 R', .int .i64 C', .slice ad' ys.length cap'] 24)).alloc (by simp; omega) (.cells #[.int .i64 0, .int .i64 0, .slice none 0 0] 24))
    have q0 := HB.out
    have HK := Lib.hid (((Blk.new w [.int .i64 R, .int .i64 C, .slice ad xs.length cap] 24).alloc (.cells #[.int .i64 R', .int .i64 C', .slice ad' ys.length cap'] 24)).alloc (.cells #[.int .i64 0, .int .i64 0, .slice none 0 0] 24))
    have HK2 := Lib.hid ((Blk.at1 w (.cells #[.int .i64 R, .int .i64 C, .slice ad xs.length cap] 24) [.int .i64 R', .int .i64 C', .slice ad' ys.length cap'] 24).alloc (.cells #[.int .i64 0, .int .i64 0, .slice none 0 0] 24))
    have HR := Lib.hid (Blk.at2 w (.cells #[.int .i64 R, .int .i64 C, .slice ad xs.length cap] 24) (.cells #[.int .i64 R', .int .i64 C', .slice ad' ys.length cap'] 24) [.int .i64 0, .int .i64 0, .slice none 0 0] 24)
    have HV := Lib.hid (HV.out.below HB.out (Nat.le_refl _))
    have HU := Lib.hid (HU.out.below HB.out (Nat.le_refl _))
    have HE := Lib.hid (HE.out.below HB.out (Nat.le_refl _))
    clear h
    go_enter Tryz.func42, Tryz.ntmps42
    go_wp2_with (first
      | (go_at_call 79; (with_reducible refine (rtwo_any _ R C R' C' _ _ xs ys HV.out HU.out HSZ.out HSZ'.out).mono ?_); rintro e w1 ⟨v, rfl, rfl, h1⟩; have HV := Lib.hid (HV.out.below h1 (Nat.le_refl _)); have HU := Lib.hid (HU.out.below h1 (Nat.le_refl _)); have HE := Lib.hid (HE.out.below h1 (Nat.le_refl _)); have HK := Lib.hid (HK.out.below h1 (Nat.le_refl _)); have c1_HK_0 := HK.out.cell 0 _ rfl; have c1_HK_1 := HK.out.cell 1 _ rfl; have c1_HK_2 := HK.out.cell 2 _ rfl; have HK2 := Lib.hid (HK2.out.below h1 (Nat.le_refl _)); have c1_HK2_0 := HK2.out.cell 0 _ rfl; have c1_HK2_1 := HK2.out.cell 1 _ rfl; have c1_HK2_2 := HK2.out.cell 2 _ rfl; have HR := Lib.hid (HR.out.below h1 (Nat.le_refl _)); have f1_HR_0 := HR.out.free 0; have f1_HR_1 := HR.out.free 1; have f1_HR_2 := HR.out.free 2; have c1_HR_0 := HR.out.cell 0 _ rfl; have c1_HR_1 := HR.out.cell 1 _ rfl; have c1_HR_2 := HR.out.cell 2 _ rfl; have q1 := q0.trans (h1.mono q0.size)))
    obtain ⟨hR, hS, hW⟩ := res_done (R := 0) (C := 0) q1 (by omega) HR.out (Sl.nil' eS _)
    have z0 := hR.cell 0 _ rfl; have z1 := hR.cell 1 _ rfl; have z2 := hR.cell 2 _ rfl
    exact bodyPost_ret (v := .tuple #[.agg #[.int .i64 0, .int .i64 0, .slice none 0 0], .int .i64 (twoM R C xs R' C' ys)]) (by simp [results, Tryz.results42, go_sem, z0, z1, z2]) rfl ⟨_, rfl, _, rfl, hS, hW⟩
set_option maxHeartbeats 1000000 in
theorem rColumn_any (w : World) (v : Value) (xs : List ByteArray) (hv : Sl eS w v xs) (hl : xs.length ≤ 256) :
    Calls Tryz.prog 83 #[v] w (Rets fun v' w' => v' = .agg #[.int .i64 xs.length, .int .i64 1, v] ∧ Below w.heap.size w w') := by
  obtain ⟨ad, cap, rfl⟩ := sl_form hv
  have HB := Lib.hid ((Below.refl w.heap.size w).alloc (Nat.le_refl _) (.cells #[.int .i64 0, .int .i64 0, .slice none 0 0] 24))
  have HR := Lib.hid (Blk.new w [.int .i64 0, .int .i64 0, .slice none 0 0] 24)
  have HV := Lib.hid (hv.below HB.out (Nat.le_refl _))
  clear hv
  have f0 := HR.out.free 0; have f1 := HR.out.free 1; have f2 := HR.out.free 2
  go_enter Tryz.func83, Tryz.ntmps83
  go_wp2
  have hR := Blk.new w [.int .i64 xs.length, .int .i64 1, .slice ad xs.length cap] 24
  have z0 := hR.cell 0 _ rfl; have z1 := hR.cell 1 _ rfl; have z2 := hR.cell 2 _ rfl
  exact bodyPost_ret (v := .agg #[.int .i64 xs.length, .int .i64 1, .slice ad xs.length cap]) (by simp [results, Tryz.results83, go_sem, z0, z1, z2]) rfl ⟨_, rfl, rfl, (Below.refl _ _).alloc (Nat.le_refl _) _⟩
end Go.Proofs.YtfhdmhifdaiehaaGreatDoor

namespace Go.Proofs.YtfhdmhifdaiehaaGreatDoor
open Go.RowKit
set_option maxRecDepth 100000

section
variable {P : Program} {ops : Array Oper} {Q : Exit → Act → World → Prop} {md : Region.Mode} {S : World → Prop} {A : Nat → Bool}
/-- Two operations may come up. -/
theorem wpAnyJ_two {i j : Nat} {o o' : Oper} {fuel : Nat} {listed : Array Bool} {a : Act} {w : World} (hr : Region.ready md ops listed = [i, j]) (ho : ops[i]? = some o) (ho' : ops[j]? = some o')
    (h : ∀ K' : Act → World → Prop, Shut (∀ a w, (A i = true → S w) → wpAnyJ P md ops Q S A fuel (listed.setIfInBounds i true) a w → K' a w) → if Region.wanted o (yielded ops a.tmps) = true then Oper.wp P o a w K' Q else K' (a.put o.dst undef) w)
    (h' : ∀ K' : Act → World → Prop, Shut (∀ a w, (A j = true → S w) → wpAnyJ P md ops Q S A fuel (listed.setIfInBounds j true) a w → K' a w) → if Region.wanted o' (yielded ops a.tmps) = true then Oper.wp P o' a w K' Q else K' (a.put o'.dst undef) w) :
    wpAnyJ P md ops Q S A (fuel + 1) listed a w :=
  ⟨fun h0 => absurd (hr ▸ h0) (by simp), by
    rw [hr]
    intro k hk
    rcases List.mem_cons.1 hk with rfl | hk
    · exact wpOp_step ho (fun K' hK => h K' (fun a w hS hW => hK a w ⟨hS, hW⟩))
    · rw [List.mem_singleton] at hk
      subst hk
      exact wpOp_step ho' (fun K' hK => h' K' (fun a w hS hW => hK a w ⟨hS, hW⟩))⟩
end
def RetL (w : World) (ys : List ByteArray) (k : Int) : Ending → World → Prop := Rets fun v w' => ∃ u, v = .tuple #[u, .int .i64 k] ∧ Sl eS w' u ys ∧ Below w.heap.size w w'
/-- What Apply answers. -/
def applyS (R C : Int) (xs ls : List ByteArray) : List ByteArray × Int :=
  if mchkM R C xs = 0 then (if (ls.length : Int) = C then (if chks ls = 0 then (cellsF R.toNat 1 (mulM C.toNat (matF C.toNat xs) (matF 1 ls)), 0) else ([], chks ls)) else ([], 8)) else ([], mchkM R C xs)
set_option maxHeartbeats 4000000 in
theorem rApply_any (w : World) (R C : Int) (v u : Value) (xs ls : List ByteArray) (hv : Sl eS w v xs) (hu : Sl eS w u ls) (hf : Fit 500 xs) (hs' : ls.length ≤ 16 → ∀ s ∈ ls, s.size ≤ 1000000) (hf' : ls.length ≤ 16 → chks ls = 0 → Fit 500 ls) (he : Env w) :
    Calls Tryz.prog 44 #[.agg #[.int .i64 R, .int .i64 C, v], u] w (RetL w (applyS R C xs ls).1 (applyS R C xs ls).2) := by
  have HSZ := Lib.hid (show xs.length ≤ 256 → ∀ s ∈ xs, s.size ≤ 1000000 from fun _ s hs => Nat.le_trans (hf s hs) (by omega))
  have HV := Lib.hid hv; have HU := Lib.hid hu; have HE := Lib.hid he
  obtain ⟨ad, cap, rfl⟩ := sl_form hv
  obtain ⟨ad', b, o, cap', rfl, hi, hp, hcc, hm⟩ := hu.open elemStr
  unfold maxLen at hm
  have HP := Lib.hid hp
  clear hv hu hp he
  by_cases h : mchkM R C xs = 0
  rotate_left
  · have hne : (mchkM R C xs != 0) = true := by simp [h]
    have HX := Lib.hid (show applyS R C xs ls = ([], mchkM R C xs) by unfold applyS; rw [if_neg h])
    rw [HX.out]
    have HB := Lib.hid ((Below.refl w.heap.size w).alloc (Nat.le_refl _) (.cells #[.int .i64 R, .int .i64 C, .slice ad xs.length cap] 24))
    have HV := Lib.hid (HV.out.below HB.out (Nat.le_refl _))
    have HK := Lib.hid (Blk.new w [.int .i64 R, .int .i64 C, .slice ad xs.length cap] 24)
    clear h
    go_enter Tryz.func44, Tryz.ntmps44
    go_wp2_with (go_at_call 27; (with_reducible refine (rMCheck_any _ R C _ xs HV.out HSZ.out).mono ?_); rintro e w1 ⟨v, rfl, rfl, h1⟩; have HK1 := Lib.hid (HK.out.below h1 (Nat.le_refl _)); have q1 := HB.out.trans (h1.mono HB.out.size); have k0 := HK1.out.cell 0 _ rfl; have k1 := HK1.out.cell 1 _ rfl; have k2 := HK1.out.cell 2 _ rfl)
    go_ret2
    exact ⟨_, rfl, _, rfl, Sl.nil' _ _, q1⟩
  have H := Lib.hid h
  obtain ⟨r, c, hrm⟩ := rm_of h
  obtain rfl := hrm.rows; obtain rfl := hrm.cols
  have HRM := Lib.hid hrm
  have hc16 := hrm.c16
  by_cases hl : (ls.length : Int) = c
  rotate_left
  · have hne : ((ls.length : Int) != (c : Int)) = true := by simp; omega
    have HX := Lib.hid (show applyS r c xs ls = ([], 8) by unfold applyS; rw [if_pos h, if_neg hl])
    rw [HX.out]
    have HB := Lib.hid ((Below.refl w.heap.size w).alloc (Nat.le_refl _) (.cells #[.int .i64 r, .int .i64 c, .slice ad xs.length cap] 24))
    have HV := Lib.hid (HV.out.below HB.out (Nat.le_refl _))
    have HK := Lib.hid (Blk.new w [.int .i64 r, .int .i64 c, .slice ad xs.length cap] 24)
    clear h hl hrm
    go_enter Tryz.func44, Tryz.ntmps44
    go_wp2_with (go_at_call 27; (with_reducible refine (rMCheck_any _ r c _ xs HV.out HSZ.out).mono ?_); rintro e w1 ⟨v, rfl, rfl, h1⟩; rw [H.out]; have HK1 := Lib.hid (HK.out.below h1 (Nat.le_refl _)); have q1 := HB.out.trans (h1.mono HB.out.size); have k0 := HK1.out.cell 0 _ rfl; have k1 := HK1.out.cell 1 _ rfl; have k2 := HK1.out.cell 2 _ rfl)
    go_ret2
    exact ⟨_, rfl, _, rfl, Sl.nil' _ _, q1⟩
  obtain rfl : ls.length = c := by omega
  have HX := Lib.hid (show applyS r ls.length xs ls = if chks ls = 0 then (cellsF r 1 (mulM ls.length (matF ls.length xs) (matF 1 ls)), 0) else ([], chks ls) by unfold applyS; rw [if_pos h, if_pos rfl]; rfl)
  have hne : ((ls.length : Int) != (ls.length : Int)) = false := by simp
  have HF := Lib.hid hf; have HS' := Lib.hid (hs' hc16); have HFF := Lib.hid (hf' hc16)
  obtain ⟨PS, hPS⟩ : ∃ PS, applyS r ls.length xs ls = PS := ⟨_, rfl⟩
  rw [hPS] at HX ⊢
  have HB := Lib.hid ((Below.refl w.heap.size w).alloc (Nat.le_refl _) (.cells #[.int .i64 r, .int .i64 ls.length, .slice ad xs.length cap] 24))
  have HV := Lib.hid (HV.out.below HB.out (Nat.le_refl _))
  have HK := Lib.hid (Blk.new w [.int .i64 r, .int .i64 ls.length, .slice ad xs.length cap] 24)
  clear h hl hrm hPS
  go_enter Tryz.func44, Tryz.ntmps44
  go_wp2_with (go_at_call 27; (with_reducible refine (rMCheck_any _ r ls.length _ xs HV.out HSZ.out).mono ?_); rintro e w1 ⟨v, rfl, rfl, h1⟩; rw [H.out]; have HK1 := Lib.hid (HK.out.below h1 (Nat.le_refl _)); have q1 := HB.out.trans (h1.mono HB.out.size); have k0 := HK1.out.cell 0 _ rfl; have k1 := HK1.out.cell 1 _ rfl; have k2 := HK1.out.cell 2 _ rfl)
  have HH1 := Lib.hid h1; have HQ1 := Lib.hid q1
  clear h1 q1
  go_loopw [7] (fun i wr => ∃ k : Nat, k ≤ ls.length ∧ i = .int .i64 k ∧ Hid (chks ls = chks (ls.drop k)) ∧ Hid (Up w1.heap.size w1 wr)) (fun i _ => ls.length - (intOf i).toNat)
  case atStart => exact ⟨0, Nat.zero_le _, rfl, Lib.hid rfl, Lib.hid (Up.start w1)⟩
  case round =>
    clear k0 k1 k2
    obtain ⟨k, hk, rfl, ho, hU⟩ := hrel
    have q2 := HQ1.out.trans (hU.out.2.mono HQ1.out.size)
    have HKr := Lib.hid (hU.out.box HK1.out HK1.out.lt)
    have k0 := HKr.out.cell 0 _ rfl; have k1 := HKr.out.cell 1 _ rfl; have k2 := HKr.out.cell 2 _ rfl
    by_cases hkn : k < ls.length
    · have h1 : wr.cell? ⟨b, o + k, none⟩ = some (.string ls[k]) := HP.out.at q2 (Nat.le_refl _) k hkn
      have hS : ls[k].size ≤ 1000000 := HS'.out _ (List.getElem_mem hkn)
      have hD := chksD ls k hkn
      by_cases h0 : chk ls[k].data.toList = 0
      · rw [if_pos h0] at hD
        have HD := Lib.hid hD; have HC := Lib.hid h0
        clear hD h0
        go_wp2_with (go_at_call 19; (with_reducible refine (rCheck_any _ _ hS).mono ?_); rintro e w2 ⟨v, rfl, rfl, rfl⟩; rw [HC.out])
        go_roundw
        case rel => exact ⟨k + 1, by omega, by go_num, Lib.hid (by rw [ho.out, HD.out]), hU⟩
        case measure => simp [intOf]; omega
      · rw [if_neg h0] at hD
        have hne2 : (chk ls[k].data.toList != 0) = true := by simp [h0]
        have HX2 := Lib.hid (show PS = ([], chk ls[k].data.toList) by rw [HX.out, ho.out, hD, if_neg h0])
        rw [HX2.out]
        clear hD h0
        go_wp2_with (go_at_call 19; (with_reducible refine (rCheck_any _ _ hS).mono ?_); rintro e w2 ⟨v, rfl, rfl, rfl⟩)
        go_ret2
        exact ⟨_, rfl, _, rfl, Sl.nil' _ _, q2⟩
    · obtain rfl : k = ls.length := by omega
      have hc0 : chks ls = 0 := by rw [ho.out, List.drop_length]; rfl
      have HX2 := Lib.hid (show PS = (cellsF r 1 (mulM ls.length (matF ls.length xs) (matF 1 ls)), 0) by rw [HX.out, if_pos hc0])
      have hrm' : RM ls.length 1 ls ls.length 1 := ⟨rfl, rfl, hc16, by omega, by omega, hc0⟩
      have HRM' := Lib.hid hrm'; have HF' := Lib.hid (HFF.out hc0)
      have HVr := Lib.hid (HV.out.below (HH1.out.trans (hU.out.2.mono HH1.out.size)) (Nat.le_refl _))
      have HUr := Lib.hid (HU.out.below q2 (Nat.le_refl _))
      have HEr := Lib.hid (HE.out.below q2 (Nat.le_refl _))
      clear hc0 hrm'
      have HUr := Lib.hid (HUr.out.below (Below.refl _ _).drew (Nat.le_refl _)); have HVr := Lib.hid (HVr.out.below (Below.refl _ _).drew (Nat.le_refl _)); have HKr := Lib.hid (HKr.out.below (Below.refl _ _).drew (Nat.le_refl _))
      have q := Lib.hid (q2.trans ((Below.refl _ _).drew.mono q2.size))
      have hmul : r * 1 ≤ 256 := by have := HRM.out.r16; omega
      obtain ⟨L, hL⟩ : ∃ L, cellsF r 1 (mulM ls.length (matF ls.length xs) (matF 1 ls)) = L := ⟨_, rfl⟩
      have HXL := Lib.hid (show PS = (L, 0) by rw [HX2.out, hL])
      have HDM : Hid (∀ i k, i < r → k < 1 → dn (mulM ls.length (matF ls.length xs) (matF 1 ls) i k) ≤ 1024) := Lib.hid (fun i k hi hk => by
        have h3 := dn_mulM (A := matF ls.length xs) (B := matF 1 ls) (i := i) (k := k) (n := ls.length) (fun j hj => HRM.out.dn HF.out hi hj) (fun j hj => HRM'.out.dn HF'.out hj hk); omega)
      have HCol := Lib.hid (fun (w1 : World) (u : Value) (hu : Sl eS w1 u ls) => rColumn_any w1 u ls hu (by omega))
      have HT := Lib.hid (fun (w1 : World) (v u : Value) (hv : Sl eS w1 v xs) (hu : Sl eS w1 u ls) => show Calls Tryz.prog 82 #[.agg #[.int .i64 r, .int .i64 ls.length, v], .agg #[.int .i64 ls.length, .int .i64 1, u]] w1 (Rets fun v' w' => ∃ u, v' = .agg #[.int .i64 r, .int .i64 1, u] ∧ Sl eS w' u L ∧ Below w1.heap.size w1 w') from hL ▸ rTimes3_any w1 v u xs ls r ls.length 1 (matF ls.length xs) (matF 1 ls) hv hu HRM.out.cells HRM'.out.cells HRM.out.r16 HRM.out.c16 (by omega) (fun i k hi hk => Nat.le_trans (HRM.out.dn HF.out hi hk) (by omega)) (fun i k hi hk => Nat.le_trans (HRM'.out.dn HF'.out hi hk) (by omega)))
      have HBd := Lib.hid (fun (w1 : World) (u : Value) (hu : Sl eS w1 u L) => show Calls Tryz.prog 81 #[.agg #[.int .i64 r, .int .i64 1, u]] w1 (RetM w1 r 1 L 0) from rbounded_ok w1 r 1 u L _ hu hL.symm HRM.out.r16 (by omega) HDM.out)
      have hSd : wr.drew.cell? ⟨w.heap.size, 0, none⟩ = some (.int .i64 r) ∧ wr.drew.cell? ⟨w.heap.size, 1, none⟩ = some (.int .i64 ls.length) ∧ wr.drew.cell? ⟨w.heap.size, 2, none⟩ = some (.slice ad xs.length cap) := ⟨HKr.out.cell 0 _ rfl, HKr.out.cell 1 _ rfl, HKr.out.cell 2 _ rfl⟩
      clear hmul hL hU
      go_wp2_with fail
      refine wp_regionJ (S := fun w' => w'.cell? ⟨w.heap.size, 0, none⟩ = some (.int .i64 r) ∧ w'.cell? ⟨w.heap.size, 1, none⟩ = some (.int .i64 ls.length) ∧ w'.cell? ⟨w.heap.size, 2, none⟩ = some (.slice ad xs.length cap)) (A := fun i => decide (i < 10)) (by kernel_rfl) ?_
      obtain ⟨v0, hv0⟩ : ∃ v0, wr.drew = v0 := ⟨_, rfl⟩
      rw [hv0] at HUr HVr HKr q hSd ⊢
      clear hv0
      refine wpAnyJ_take (i := 0) (oi := { dst := some 36, op := .load _ (.tmp 2), type := _, pos := _, after := _, guard := _ }) (v := ?_) rfl (by kernel_rfl) (by kernel_rfl) (by kernel_rfl) (early_sat (by kernel_rfl)) (fun _ _ _ h => h) (Or.inl ⟨by rfl, ?_⟩) hSd ?_
      rotate_left
      · intro wl hSw
        obtain ⟨s0, s1, s2⟩ := hSw
        go_simp
        with_reducible rfl
      simp only [Act.put, List.setIfInBounds_toArray, List.set_cons_zero, List.set_cons_succ]
      refine wpAnyJ_take (i := 1) (oi := { dst := some 37, op := .move (.tmp 1), type := _, pos := _, after := _, guard := _ }) (v := ?_) rfl (by kernel_rfl) (by kernel_rfl) (by kernel_rfl) (early_sat (by kernel_rfl)) (fun _ _ _ h => h) (Or.inl ⟨by rfl, ?_⟩) hSd ?_
      rotate_left
      · intro wl hSw
        obtain ⟨s0, s1, s2⟩ := hSw
        go_simp
        with_reducible rfl
      simp only [Act.put, List.setIfInBounds_toArray, List.set_cons_zero, List.set_cons_succ]
      have hS := hSd
      refine wpAnyJ_two (i := 2) (j := 8) (o := { dst := some 38, op := _, type := _, pos := _, after := _, guard := _ }) (o' := { dst := some 9, op := _, type := _, pos := _, after := _, guard := _ }) (by kernel_rfl) rfl rfl (fun K hK => ?_) (fun K hK => ?_)
      · go_simp
        refine (HCol.out _ _ HUr.out).mono ?_
        rintro e v1 ⟨c1, rfl, rfl, h1⟩
        have HUr := Lib.hid (HUr.out.below h1 (Nat.le_refl _))
        have HVr := Lib.hid (HVr.out.below h1 (Nat.le_refl _))
        have HKr := Lib.hid (HKr.out.below h1 (Nat.le_refl _))
        have q := Lib.hid (q.out.trans (h1.mono q.out.size))
        have hS := (⟨HKr.out.cell 0 _ rfl, HKr.out.cell 1 _ rfl, HKr.out.cell 2 _ rfl⟩ : v1.cell? ⟨w.heap.size, 0, none⟩ = some (.int .i64 r) ∧ v1.cell? ⟨w.heap.size, 1, none⟩ = some (.int .i64 ls.length) ∧ v1.cell? ⟨w.heap.size, 2, none⟩ = some (.slice ad xs.length cap))
        refine hK.out _ _ (fun _ => hS) ?_
        try simp only [Act.put, List.setIfInBounds_toArray, List.set_cons_zero, List.set_cons_succ]
        clear hK K
        refine wpAnyJ_two (i := 3) (j := 8) (o := { dst := some 39, op := _, type := _, pos := _, after := _, guard := _ }) (o' := { dst := some 9, op := _, type := _, pos := _, after := _, guard := _ }) (by kernel_rfl) rfl rfl (fun K hK => ?_) (fun K hK => ?_)
        · go_simp
          refine (HT.out _ _ _ HVr.out HUr.out).mono ?_
          rintro e v2 ⟨c2, rfl, x2, rfl, s2, h2⟩; obtain ⟨a2, e2, rfl⟩ := sl_form s2; have HS1 := Lib.hid s2; clear s2
          have HUr := Lib.hid (HUr.out.below h2 (Nat.le_refl _))
          have HVr := Lib.hid (HVr.out.below h2 (Nat.le_refl _))
          have HKr := Lib.hid (HKr.out.below h2 (Nat.le_refl _))
          have q := Lib.hid (q.out.trans (h2.mono q.out.size))
          have hS := (⟨HKr.out.cell 0 _ rfl, HKr.out.cell 1 _ rfl, HKr.out.cell 2 _ rfl⟩ : v2.cell? ⟨w.heap.size, 0, none⟩ = some (.int .i64 r) ∧ v2.cell? ⟨w.heap.size, 1, none⟩ = some (.int .i64 ls.length) ∧ v2.cell? ⟨w.heap.size, 2, none⟩ = some (.slice ad xs.length cap))
          refine hK.out _ _ (fun _ => hS) ?_
          try simp only [Act.put, List.setIfInBounds_toArray, List.set_cons_zero, List.set_cons_succ]
          clear hK K
          refine wpAnyJ_two (i := 4) (j := 8) (o := { dst := some 40, op := _, type := _, pos := _, after := _, guard := _ }) (o' := { dst := some 9, op := _, type := _, pos := _, after := _, guard := _ }) (by kernel_rfl) rfl rfl (fun K hK => ?_) (fun K hK => ?_)
          · go_simp
            refine (HBd.out _ _ HS1.out).mono ?_
            rintro e v3 ⟨c3, rfl, x3, rfl, s3, h3⟩; obtain ⟨a3, e3, rfl⟩ := sl_form s3; have HS2 := Lib.hid s3; clear s3
            have HUr := Lib.hid (HUr.out.below h3 (Nat.le_refl _))
            have HVr := Lib.hid (HVr.out.below h3 (Nat.le_refl _))
            have HKr := Lib.hid (HKr.out.below h3 (Nat.le_refl _))
            have HS1 := Lib.hid (HS1.out.below h3 (Nat.le_refl _))
            have q := Lib.hid (q.out.trans (h3.mono q.out.size))
            have hS := (⟨HKr.out.cell 0 _ rfl, HKr.out.cell 1 _ rfl, HKr.out.cell 2 _ rfl⟩ : v3.cell? ⟨w.heap.size, 0, none⟩ = some (.int .i64 r) ∧ v3.cell? ⟨w.heap.size, 1, none⟩ = some (.int .i64 ls.length) ∧ v3.cell? ⟨w.heap.size, 2, none⟩ = some (.slice ad xs.length cap))
            refine hK.out _ _ (fun _ => hS) ?_
            try simp only [Act.put, List.setIfInBounds_toArray, List.set_cons_zero, List.set_cons_succ]
            clear hK K
            refine wpAnyJ_take (i := 5) (oi := { dst := some 35, op := .move (.tmp 40), type := _, pos := _, after := _, guard := _ }) (v := ?_) rfl (by kernel_rfl) (by kernel_rfl) (by kernel_rfl) (early_sat (by kernel_rfl)) (fun _ _ _ h => h) (Or.inl ⟨by rfl, ?_⟩) hS ?_
            rotate_left
            · intro wl hSw
              obtain ⟨s0, s1, s2⟩ := hSw
              go_simp
              with_reducible rfl
            simp only [Act.put, List.setIfInBounds_toArray, List.set_cons_zero, List.set_cons_succ]
            refine wpAnyJ_take (i := 6) (oi := { dst := some 41, op := .extract (.tmp 35) 0, type := _, pos := _, after := _, guard := _ }) (v := ?_) rfl (by kernel_rfl) (by kernel_rfl) (by kernel_rfl) (early_sat (by kernel_rfl)) (fun _ _ _ h => h) (Or.inl ⟨by rfl, ?_⟩) hS ?_
            rotate_left
            · intro wl hSw
              obtain ⟨s0, s1, s2⟩ := hSw
              go_simp
              with_reducible rfl
            simp only [Act.put, List.setIfInBounds_toArray, List.set_cons_zero, List.set_cons_succ]
            refine wpAnyJ_take (i := 7) (oi := { dst := some 42, op := .extract (.tmp 35) 1, type := _, pos := _, after := _, guard := _ }) (v := ?_) rfl (by kernel_rfl) (by kernel_rfl) (by kernel_rfl) (early_sat (by kernel_rfl)) (fun _ _ _ h => h) (Or.inl ⟨by rfl, ?_⟩) hS ?_
            rotate_left
            · intro wl hSw
              obtain ⟨s0, s1, s2⟩ := hSw
              go_simp
              with_reducible rfl
            simp only [Act.put, List.setIfInBounds_toArray, List.set_cons_zero, List.set_cons_succ]
            refine wpAnyJ_only (i := 8) (o := { dst := some 9, op := _, type := _, pos := _, after := _, guard := _ }) (by kernel_rfl) rfl (fun K hK => ?_)
            go_simp
            have h4 := (Below.refl v3.heap.size v3).alloc (Nat.le_refl _) (.cells #[.int .i64 0, .int .i64 0, .slice none 0 0] 24)
            have HG := Lib.hid (Blk.new v3 [.int .i64 0, .int .i64 0, .slice none 0 0] 24); have GSZ := Lib.hid q.out.size; have GLT := Lib.hid HKr.out.lt
            have HUr := Lib.hid (HUr.out.below h4 (Nat.le_refl _))
            have HVr := Lib.hid (HVr.out.below h4 (Nat.le_refl _))
            have HKr := Lib.hid (HKr.out.below h4 (Nat.le_refl _))
            have HS1 := Lib.hid (HS1.out.below h4 (Nat.le_refl _))
            have HS2 := Lib.hid (HS2.out.below h4 (Nat.le_refl _))
            have q := Lib.hid (q.out.trans (h4.mono q.out.size))
            obtain ⟨v4, hv4⟩ : ∃ v4, v3.alloc (.cells #[.int .i64 0, .int .i64 0, .slice none 0 0] 24) = v4 := ⟨_, rfl⟩
            rw [hv4] at HG q HUr HVr HKr HS1 HS2
            have hS := (⟨HKr.out.cell 0 _ rfl, HKr.out.cell 1 _ rfl, HKr.out.cell 2 _ rfl⟩ : v4.cell? ⟨w.heap.size, 0, none⟩ = some (.int .i64 r) ∧ v4.cell? ⟨w.heap.size, 1, none⟩ = some (.int .i64 ls.length) ∧ v4.cell? ⟨w.heap.size, 2, none⟩ = some (.slice ad xs.length cap))
            refine hK.out _ _ (fun _ => hv4 ▸ hS) ?_
            rw [hv4]
            try simp only [Act.put, List.setIfInBounds_toArray, List.set_cons_zero, List.set_cons_succ]
            clear hK K h4 hv4
            have g0 := HG.out.free 0; have g1 := HG.out.free 1; have g2 := HG.out.free 2; have g3 := HG.out.cell 0 _ rfl; have g4 := HG.out.cell 1 _ rfl; have g5 := HG.out.cell 2 _ rfl
            refine wpAnyJ_only (i := 9) (o := { dst := none, op := .store _ (.tmp 9) (.tmp 41), type := _, pos := _, after := _, guard := _ }) (by kernel_rfl) rfl (fun K hK => ?_)
            go_simp
            have HK3 := fun a b c => ((HKr.out.setCell (j := 0) (show w.heap.size ≠ _ from Nat.ne_of_lt GLT.out) a).setCell (j := 1) (show w.heap.size ≠ _ from Nat.ne_of_lt GLT.out) b).setCell (j := 2) (show w.heap.size ≠ _ from Nat.ne_of_lt GLT.out) c
            refine hK.out _ _ (fun _ => ⟨(HK3 _ _ _).cell 0 _ rfl, (HK3 _ _ _).cell 1 _ rfl, (HK3 _ _ _).cell 2 _ rfl⟩) ?_
            try simp only [Act.put, List.setIfInBounds_toArray, List.set_cons_zero, List.set_cons_succ]
            clear hK K HK3
            refine wpAnyJ_only (i := 10) (o := { dst := some 10, op := .assign (.tmp 42), type := _, pos := _, after := _, guard := _ }) (by kernel_rfl) rfl (fun K hK => ?_)
            go_simp
            refine hK.out _ _ (fun h => absurd h (by decide)) ?_
            try simp only [Act.put, List.setIfInBounds_toArray, List.set_cons_zero, List.set_cons_succ]
            clear hK K
            refine wpAnyJ_done (by kernel_rfl) ?_ _
            obtain ⟨hR, hS9, hW⟩ := res_done (R := r) (C := 1) q.out GSZ.out HG.out HS2.out
            have z0 := hR.cell 0 _ rfl; have z1 := hR.cell 1 _ rfl; have z2 := hR.cell 2 _ rfl
            have HS10 := Lib.hid hS9; have HW10 := Lib.hid hW
            clear hS9 hW hR g0 g1 g2 g3 g4 g5
            go_wp2_with fail
            go_ret2
            refine ⟨_, rfl, ?_⟩
            rw [HXL.out]
            exact ⟨_, rfl, HS10.out, HW10.out⟩
          · go_simp
            have h3 := (Below.refl v2.heap.size v2).alloc (Nat.le_refl _) (.cells #[.int .i64 0, .int .i64 0, .slice none 0 0] 24)
            have HG := Lib.hid (Blk.new v2 [.int .i64 0, .int .i64 0, .slice none 0 0] 24); have GSZ := Lib.hid q.out.size; have GLT := Lib.hid HKr.out.lt
            have HUr := Lib.hid (HUr.out.below h3 (Nat.le_refl _))
            have HVr := Lib.hid (HVr.out.below h3 (Nat.le_refl _))
            have HKr := Lib.hid (HKr.out.below h3 (Nat.le_refl _))
            have HS1 := Lib.hid (HS1.out.below h3 (Nat.le_refl _))
            have q := Lib.hid (q.out.trans (h3.mono q.out.size))
            obtain ⟨v3, hv3⟩ : ∃ v3, v2.alloc (.cells #[.int .i64 0, .int .i64 0, .slice none 0 0] 24) = v3 := ⟨_, rfl⟩
            rw [hv3] at HG q HUr HVr HKr HS1
            have hS := (⟨HKr.out.cell 0 _ rfl, HKr.out.cell 1 _ rfl, HKr.out.cell 2 _ rfl⟩ : v3.cell? ⟨w.heap.size, 0, none⟩ = some (.int .i64 r) ∧ v3.cell? ⟨w.heap.size, 1, none⟩ = some (.int .i64 ls.length) ∧ v3.cell? ⟨w.heap.size, 2, none⟩ = some (.slice ad xs.length cap))
            refine hK.out _ _ (fun _ => hv3 ▸ hS) ?_
            rw [hv3]
            try simp only [Act.put, List.setIfInBounds_toArray, List.set_cons_zero, List.set_cons_succ]
            clear hK K h3 hv3
            refine wpAnyJ_only (i := 4) (o := { dst := some 40, op := _, type := _, pos := _, after := _, guard := _ }) (by kernel_rfl) rfl (fun K hK => ?_)
            go_simp
            refine (HBd.out _ _ HS1.out).mono ?_
            rintro e v4 ⟨c4, rfl, x4, rfl, s4, h4⟩; obtain ⟨a4, e4, rfl⟩ := sl_form s4; have HS2 := Lib.hid s4; clear s4
            have HUr := Lib.hid (HUr.out.below h4 (Nat.le_refl _))
            have HVr := Lib.hid (HVr.out.below h4 (Nat.le_refl _))
            have HKr := Lib.hid (HKr.out.below h4 (Nat.le_refl _))
            have HS1 := Lib.hid (HS1.out.below h4 (Nat.le_refl _))
            have HG := Lib.hid (HG.out.below h4 (Nat.le_refl _))
            have q := Lib.hid (q.out.trans (h4.mono q.out.size))
            have hS := (⟨HKr.out.cell 0 _ rfl, HKr.out.cell 1 _ rfl, HKr.out.cell 2 _ rfl⟩ : v4.cell? ⟨w.heap.size, 0, none⟩ = some (.int .i64 r) ∧ v4.cell? ⟨w.heap.size, 1, none⟩ = some (.int .i64 ls.length) ∧ v4.cell? ⟨w.heap.size, 2, none⟩ = some (.slice ad xs.length cap))
            refine hK.out _ _ (fun _ => hS) ?_
            try simp only [Act.put, List.setIfInBounds_toArray, List.set_cons_zero, List.set_cons_succ]
            clear hK K
            refine wpAnyJ_take (i := 5) (oi := { dst := some 35, op := .move (.tmp 40), type := _, pos := _, after := _, guard := _ }) (v := ?_) rfl (by kernel_rfl) (by kernel_rfl) (by kernel_rfl) (early_sat (by kernel_rfl)) (fun _ _ _ h => h) (Or.inl ⟨by rfl, ?_⟩) hS ?_
            rotate_left
            · intro wl hSw
              obtain ⟨s0, s1, s2⟩ := hSw
              go_simp
              with_reducible rfl
            simp only [Act.put, List.setIfInBounds_toArray, List.set_cons_zero, List.set_cons_succ]
            refine wpAnyJ_take (i := 6) (oi := { dst := some 41, op := .extract (.tmp 35) 0, type := _, pos := _, after := _, guard := _ }) (v := ?_) rfl (by kernel_rfl) (by kernel_rfl) (by kernel_rfl) (early_sat (by kernel_rfl)) (fun _ _ _ h => h) (Or.inl ⟨by rfl, ?_⟩) hS ?_
            rotate_left
            · intro wl hSw
              obtain ⟨s0, s1, s2⟩ := hSw
              go_simp
              with_reducible rfl
            simp only [Act.put, List.setIfInBounds_toArray, List.set_cons_zero, List.set_cons_succ]
            refine wpAnyJ_take (i := 7) (oi := { dst := some 42, op := .extract (.tmp 35) 1, type := _, pos := _, after := _, guard := _ }) (v := ?_) rfl (by kernel_rfl) (by kernel_rfl) (by kernel_rfl) (early_sat (by kernel_rfl)) (fun _ _ _ h => h) (Or.inl ⟨by rfl, ?_⟩) hS ?_
            rotate_left
            · intro wl hSw
              obtain ⟨s0, s1, s2⟩ := hSw
              go_simp
              with_reducible rfl
            simp only [Act.put, List.setIfInBounds_toArray, List.set_cons_zero, List.set_cons_succ]
            have g0 := HG.out.free 0; have g1 := HG.out.free 1; have g2 := HG.out.free 2; have g3 := HG.out.cell 0 _ rfl; have g4 := HG.out.cell 1 _ rfl; have g5 := HG.out.cell 2 _ rfl
            refine wpAnyJ_only (i := 9) (o := { dst := none, op := .store _ (.tmp 9) (.tmp 41), type := _, pos := _, after := _, guard := _ }) (by kernel_rfl) rfl (fun K hK => ?_)
            go_simp
            have HK3 := fun a b c => ((HKr.out.setCell (j := 0) (show w.heap.size ≠ _ from Nat.ne_of_lt GLT.out) a).setCell (j := 1) (show w.heap.size ≠ _ from Nat.ne_of_lt GLT.out) b).setCell (j := 2) (show w.heap.size ≠ _ from Nat.ne_of_lt GLT.out) c
            refine hK.out _ _ (fun _ => ⟨(HK3 _ _ _).cell 0 _ rfl, (HK3 _ _ _).cell 1 _ rfl, (HK3 _ _ _).cell 2 _ rfl⟩) ?_
            try simp only [Act.put, List.setIfInBounds_toArray, List.set_cons_zero, List.set_cons_succ]
            clear hK K HK3
            refine wpAnyJ_only (i := 10) (o := { dst := some 10, op := .assign (.tmp 42), type := _, pos := _, after := _, guard := _ }) (by kernel_rfl) rfl (fun K hK => ?_)
            go_simp
            refine hK.out _ _ (fun h => absurd h (by decide)) ?_
            try simp only [Act.put, List.setIfInBounds_toArray, List.set_cons_zero, List.set_cons_succ]
            clear hK K
            refine wpAnyJ_done (by kernel_rfl) ?_ _
            obtain ⟨hR, hS9, hW⟩ := res_done (R := r) (C := 1) q.out GSZ.out HG.out HS2.out
            have z0 := hR.cell 0 _ rfl; have z1 := hR.cell 1 _ rfl; have z2 := hR.cell 2 _ rfl
            have HS10 := Lib.hid hS9; have HW10 := Lib.hid hW
            clear hS9 hW hR g0 g1 g2 g3 g4 g5
            go_wp2_with fail
            go_ret2
            refine ⟨_, rfl, ?_⟩
            rw [HXL.out]
            exact ⟨_, rfl, HS10.out, HW10.out⟩
        · go_simp
          have h2 := (Below.refl v1.heap.size v1).alloc (Nat.le_refl _) (.cells #[.int .i64 0, .int .i64 0, .slice none 0 0] 24)
          have HG := Lib.hid (Blk.new v1 [.int .i64 0, .int .i64 0, .slice none 0 0] 24); have GSZ := Lib.hid q.out.size; have GLT := Lib.hid HKr.out.lt
          have HUr := Lib.hid (HUr.out.below h2 (Nat.le_refl _))
          have HVr := Lib.hid (HVr.out.below h2 (Nat.le_refl _))
          have HKr := Lib.hid (HKr.out.below h2 (Nat.le_refl _))
          have q := Lib.hid (q.out.trans (h2.mono q.out.size))
          obtain ⟨v2, hv2⟩ : ∃ v2, v1.alloc (.cells #[.int .i64 0, .int .i64 0, .slice none 0 0] 24) = v2 := ⟨_, rfl⟩
          rw [hv2] at HG q HUr HVr HKr
          have hS := (⟨HKr.out.cell 0 _ rfl, HKr.out.cell 1 _ rfl, HKr.out.cell 2 _ rfl⟩ : v2.cell? ⟨w.heap.size, 0, none⟩ = some (.int .i64 r) ∧ v2.cell? ⟨w.heap.size, 1, none⟩ = some (.int .i64 ls.length) ∧ v2.cell? ⟨w.heap.size, 2, none⟩ = some (.slice ad xs.length cap))
          refine hK.out _ _ (fun _ => hv2 ▸ hS) ?_
          rw [hv2]
          try simp only [Act.put, List.setIfInBounds_toArray, List.set_cons_zero, List.set_cons_succ]
          clear hK K h2 hv2
          refine wpAnyJ_only (i := 3) (o := { dst := some 39, op := _, type := _, pos := _, after := _, guard := _ }) (by kernel_rfl) rfl (fun K hK => ?_)
          go_simp
          refine (HT.out _ _ _ HVr.out HUr.out).mono ?_
          rintro e v3 ⟨c3, rfl, x3, rfl, s3, h3⟩; obtain ⟨a3, e3, rfl⟩ := sl_form s3; have HS1 := Lib.hid s3; clear s3
          have HUr := Lib.hid (HUr.out.below h3 (Nat.le_refl _))
          have HVr := Lib.hid (HVr.out.below h3 (Nat.le_refl _))
          have HKr := Lib.hid (HKr.out.below h3 (Nat.le_refl _))
          have HG := Lib.hid (HG.out.below h3 (Nat.le_refl _))
          have q := Lib.hid (q.out.trans (h3.mono q.out.size))
          have hS := (⟨HKr.out.cell 0 _ rfl, HKr.out.cell 1 _ rfl, HKr.out.cell 2 _ rfl⟩ : v3.cell? ⟨w.heap.size, 0, none⟩ = some (.int .i64 r) ∧ v3.cell? ⟨w.heap.size, 1, none⟩ = some (.int .i64 ls.length) ∧ v3.cell? ⟨w.heap.size, 2, none⟩ = some (.slice ad xs.length cap))
          refine hK.out _ _ (fun _ => hS) ?_
          try simp only [Act.put, List.setIfInBounds_toArray, List.set_cons_zero, List.set_cons_succ]
          clear hK K
          refine wpAnyJ_only (i := 4) (o := { dst := some 40, op := _, type := _, pos := _, after := _, guard := _ }) (by kernel_rfl) rfl (fun K hK => ?_)
          go_simp
          refine (HBd.out _ _ HS1.out).mono ?_
          rintro e v4 ⟨c4, rfl, x4, rfl, s4, h4⟩; obtain ⟨a4, e4, rfl⟩ := sl_form s4; have HS2 := Lib.hid s4; clear s4
          have HUr := Lib.hid (HUr.out.below h4 (Nat.le_refl _))
          have HVr := Lib.hid (HVr.out.below h4 (Nat.le_refl _))
          have HKr := Lib.hid (HKr.out.below h4 (Nat.le_refl _))
          have HG := Lib.hid (HG.out.below h4 (Nat.le_refl _))
          have HS1 := Lib.hid (HS1.out.below h4 (Nat.le_refl _))
          have q := Lib.hid (q.out.trans (h4.mono q.out.size))
          have hS := (⟨HKr.out.cell 0 _ rfl, HKr.out.cell 1 _ rfl, HKr.out.cell 2 _ rfl⟩ : v4.cell? ⟨w.heap.size, 0, none⟩ = some (.int .i64 r) ∧ v4.cell? ⟨w.heap.size, 1, none⟩ = some (.int .i64 ls.length) ∧ v4.cell? ⟨w.heap.size, 2, none⟩ = some (.slice ad xs.length cap))
          refine hK.out _ _ (fun _ => hS) ?_
          try simp only [Act.put, List.setIfInBounds_toArray, List.set_cons_zero, List.set_cons_succ]
          clear hK K
          refine wpAnyJ_take (i := 5) (oi := { dst := some 35, op := .move (.tmp 40), type := _, pos := _, after := _, guard := _ }) (v := ?_) rfl (by kernel_rfl) (by kernel_rfl) (by kernel_rfl) (early_sat (by kernel_rfl)) (fun _ _ _ h => h) (Or.inl ⟨by rfl, ?_⟩) hS ?_
          rotate_left
          · intro wl hSw
            obtain ⟨s0, s1, s2⟩ := hSw
            go_simp
            with_reducible rfl
          simp only [Act.put, List.setIfInBounds_toArray, List.set_cons_zero, List.set_cons_succ]
          refine wpAnyJ_take (i := 6) (oi := { dst := some 41, op := .extract (.tmp 35) 0, type := _, pos := _, after := _, guard := _ }) (v := ?_) rfl (by kernel_rfl) (by kernel_rfl) (by kernel_rfl) (early_sat (by kernel_rfl)) (fun _ _ _ h => h) (Or.inl ⟨by rfl, ?_⟩) hS ?_
          rotate_left
          · intro wl hSw
            obtain ⟨s0, s1, s2⟩ := hSw
            go_simp
            with_reducible rfl
          simp only [Act.put, List.setIfInBounds_toArray, List.set_cons_zero, List.set_cons_succ]
          refine wpAnyJ_take (i := 7) (oi := { dst := some 42, op := .extract (.tmp 35) 1, type := _, pos := _, after := _, guard := _ }) (v := ?_) rfl (by kernel_rfl) (by kernel_rfl) (by kernel_rfl) (early_sat (by kernel_rfl)) (fun _ _ _ h => h) (Or.inl ⟨by rfl, ?_⟩) hS ?_
          rotate_left
          · intro wl hSw
            obtain ⟨s0, s1, s2⟩ := hSw
            go_simp
            with_reducible rfl
          simp only [Act.put, List.setIfInBounds_toArray, List.set_cons_zero, List.set_cons_succ]
          have g0 := HG.out.free 0; have g1 := HG.out.free 1; have g2 := HG.out.free 2; have g3 := HG.out.cell 0 _ rfl; have g4 := HG.out.cell 1 _ rfl; have g5 := HG.out.cell 2 _ rfl
          refine wpAnyJ_only (i := 9) (o := { dst := none, op := .store _ (.tmp 9) (.tmp 41), type := _, pos := _, after := _, guard := _ }) (by kernel_rfl) rfl (fun K hK => ?_)
          go_simp
          have HK3 := fun a b c => ((HKr.out.setCell (j := 0) (show w.heap.size ≠ _ from Nat.ne_of_lt GLT.out) a).setCell (j := 1) (show w.heap.size ≠ _ from Nat.ne_of_lt GLT.out) b).setCell (j := 2) (show w.heap.size ≠ _ from Nat.ne_of_lt GLT.out) c
          refine hK.out _ _ (fun _ => ⟨(HK3 _ _ _).cell 0 _ rfl, (HK3 _ _ _).cell 1 _ rfl, (HK3 _ _ _).cell 2 _ rfl⟩) ?_
          try simp only [Act.put, List.setIfInBounds_toArray, List.set_cons_zero, List.set_cons_succ]
          clear hK K HK3
          refine wpAnyJ_only (i := 10) (o := { dst := some 10, op := .assign (.tmp 42), type := _, pos := _, after := _, guard := _ }) (by kernel_rfl) rfl (fun K hK => ?_)
          go_simp
          refine hK.out _ _ (fun h => absurd h (by decide)) ?_
          try simp only [Act.put, List.setIfInBounds_toArray, List.set_cons_zero, List.set_cons_succ]
          clear hK K
          refine wpAnyJ_done (by kernel_rfl) ?_ _
          obtain ⟨hR, hS9, hW⟩ := res_done (R := r) (C := 1) q.out GSZ.out HG.out HS2.out
          have z0 := hR.cell 0 _ rfl; have z1 := hR.cell 1 _ rfl; have z2 := hR.cell 2 _ rfl
          have HS10 := Lib.hid hS9; have HW10 := Lib.hid hW
          clear hS9 hW hR g0 g1 g2 g3 g4 g5
          go_wp2_with fail
          go_ret2
          refine ⟨_, rfl, ?_⟩
          rw [HXL.out]
          exact ⟨_, rfl, HS10.out, HW10.out⟩
      · go_simp
        have h1 := (Below.refl v0.heap.size v0).alloc (Nat.le_refl _) (.cells #[.int .i64 0, .int .i64 0, .slice none 0 0] 24)
        have HG := Lib.hid (Blk.new v0 [.int .i64 0, .int .i64 0, .slice none 0 0] 24); have GSZ := Lib.hid q.out.size; have GLT := Lib.hid HKr.out.lt
        have HUr := Lib.hid (HUr.out.below h1 (Nat.le_refl _))
        have HVr := Lib.hid (HVr.out.below h1 (Nat.le_refl _))
        have HKr := Lib.hid (HKr.out.below h1 (Nat.le_refl _))
        have q := Lib.hid (q.out.trans (h1.mono q.out.size))
        obtain ⟨v1, hv1⟩ : ∃ v1, v0.alloc (.cells #[.int .i64 0, .int .i64 0, .slice none 0 0] 24) = v1 := ⟨_, rfl⟩
        rw [hv1] at HG q HUr HVr HKr
        have hS := (⟨HKr.out.cell 0 _ rfl, HKr.out.cell 1 _ rfl, HKr.out.cell 2 _ rfl⟩ : v1.cell? ⟨w.heap.size, 0, none⟩ = some (.int .i64 r) ∧ v1.cell? ⟨w.heap.size, 1, none⟩ = some (.int .i64 ls.length) ∧ v1.cell? ⟨w.heap.size, 2, none⟩ = some (.slice ad xs.length cap))
        refine hK.out _ _ (fun _ => hv1 ▸ hS) ?_
        rw [hv1]
        try simp only [Act.put, List.setIfInBounds_toArray, List.set_cons_zero, List.set_cons_succ]
        clear hK K h1 hv1
        refine wpAnyJ_only (i := 2) (o := { dst := some 38, op := _, type := _, pos := _, after := _, guard := _ }) (by kernel_rfl) rfl (fun K hK => ?_)
        go_simp
        refine (HCol.out _ _ HUr.out).mono ?_
        rintro e v2 ⟨c2, rfl, rfl, h2⟩
        have HUr := Lib.hid (HUr.out.below h2 (Nat.le_refl _))
        have HVr := Lib.hid (HVr.out.below h2 (Nat.le_refl _))
        have HKr := Lib.hid (HKr.out.below h2 (Nat.le_refl _))
        have HG := Lib.hid (HG.out.below h2 (Nat.le_refl _))
        have q := Lib.hid (q.out.trans (h2.mono q.out.size))
        have hS := (⟨HKr.out.cell 0 _ rfl, HKr.out.cell 1 _ rfl, HKr.out.cell 2 _ rfl⟩ : v2.cell? ⟨w.heap.size, 0, none⟩ = some (.int .i64 r) ∧ v2.cell? ⟨w.heap.size, 1, none⟩ = some (.int .i64 ls.length) ∧ v2.cell? ⟨w.heap.size, 2, none⟩ = some (.slice ad xs.length cap))
        refine hK.out _ _ (fun _ => hS) ?_
        try simp only [Act.put, List.setIfInBounds_toArray, List.set_cons_zero, List.set_cons_succ]
        clear hK K
        refine wpAnyJ_only (i := 3) (o := { dst := some 39, op := _, type := _, pos := _, after := _, guard := _ }) (by kernel_rfl) rfl (fun K hK => ?_)
        go_simp
        refine (HT.out _ _ _ HVr.out HUr.out).mono ?_
        rintro e v3 ⟨c3, rfl, x3, rfl, s3, h3⟩; obtain ⟨a3, e3, rfl⟩ := sl_form s3; have HS1 := Lib.hid s3; clear s3
        have HUr := Lib.hid (HUr.out.below h3 (Nat.le_refl _))
        have HVr := Lib.hid (HVr.out.below h3 (Nat.le_refl _))
        have HKr := Lib.hid (HKr.out.below h3 (Nat.le_refl _))
        have HG := Lib.hid (HG.out.below h3 (Nat.le_refl _))
        have q := Lib.hid (q.out.trans (h3.mono q.out.size))
        have hS := (⟨HKr.out.cell 0 _ rfl, HKr.out.cell 1 _ rfl, HKr.out.cell 2 _ rfl⟩ : v3.cell? ⟨w.heap.size, 0, none⟩ = some (.int .i64 r) ∧ v3.cell? ⟨w.heap.size, 1, none⟩ = some (.int .i64 ls.length) ∧ v3.cell? ⟨w.heap.size, 2, none⟩ = some (.slice ad xs.length cap))
        refine hK.out _ _ (fun _ => hS) ?_
        try simp only [Act.put, List.setIfInBounds_toArray, List.set_cons_zero, List.set_cons_succ]
        clear hK K
        refine wpAnyJ_only (i := 4) (o := { dst := some 40, op := _, type := _, pos := _, after := _, guard := _ }) (by kernel_rfl) rfl (fun K hK => ?_)
        go_simp
        refine (HBd.out _ _ HS1.out).mono ?_
        rintro e v4 ⟨c4, rfl, x4, rfl, s4, h4⟩; obtain ⟨a4, e4, rfl⟩ := sl_form s4; have HS2 := Lib.hid s4; clear s4
        have HUr := Lib.hid (HUr.out.below h4 (Nat.le_refl _))
        have HVr := Lib.hid (HVr.out.below h4 (Nat.le_refl _))
        have HKr := Lib.hid (HKr.out.below h4 (Nat.le_refl _))
        have HG := Lib.hid (HG.out.below h4 (Nat.le_refl _))
        have HS1 := Lib.hid (HS1.out.below h4 (Nat.le_refl _))
        have q := Lib.hid (q.out.trans (h4.mono q.out.size))
        have hS := (⟨HKr.out.cell 0 _ rfl, HKr.out.cell 1 _ rfl, HKr.out.cell 2 _ rfl⟩ : v4.cell? ⟨w.heap.size, 0, none⟩ = some (.int .i64 r) ∧ v4.cell? ⟨w.heap.size, 1, none⟩ = some (.int .i64 ls.length) ∧ v4.cell? ⟨w.heap.size, 2, none⟩ = some (.slice ad xs.length cap))
        refine hK.out _ _ (fun _ => hS) ?_
        try simp only [Act.put, List.setIfInBounds_toArray, List.set_cons_zero, List.set_cons_succ]
        clear hK K
        refine wpAnyJ_take (i := 5) (oi := { dst := some 35, op := .move (.tmp 40), type := _, pos := _, after := _, guard := _ }) (v := ?_) rfl (by kernel_rfl) (by kernel_rfl) (by kernel_rfl) (early_sat (by kernel_rfl)) (fun _ _ _ h => h) (Or.inl ⟨by rfl, ?_⟩) hS ?_
        rotate_left
        · intro wl hSw
          obtain ⟨s0, s1, s2⟩ := hSw
          go_simp
          with_reducible rfl
        simp only [Act.put, List.setIfInBounds_toArray, List.set_cons_zero, List.set_cons_succ]
        refine wpAnyJ_take (i := 6) (oi := { dst := some 41, op := .extract (.tmp 35) 0, type := _, pos := _, after := _, guard := _ }) (v := ?_) rfl (by kernel_rfl) (by kernel_rfl) (by kernel_rfl) (early_sat (by kernel_rfl)) (fun _ _ _ h => h) (Or.inl ⟨by rfl, ?_⟩) hS ?_
        rotate_left
        · intro wl hSw
          obtain ⟨s0, s1, s2⟩ := hSw
          go_simp
          with_reducible rfl
        simp only [Act.put, List.setIfInBounds_toArray, List.set_cons_zero, List.set_cons_succ]
        refine wpAnyJ_take (i := 7) (oi := { dst := some 42, op := .extract (.tmp 35) 1, type := _, pos := _, after := _, guard := _ }) (v := ?_) rfl (by kernel_rfl) (by kernel_rfl) (by kernel_rfl) (early_sat (by kernel_rfl)) (fun _ _ _ h => h) (Or.inl ⟨by rfl, ?_⟩) hS ?_
        rotate_left
        · intro wl hSw
          obtain ⟨s0, s1, s2⟩ := hSw
          go_simp
          with_reducible rfl
        simp only [Act.put, List.setIfInBounds_toArray, List.set_cons_zero, List.set_cons_succ]
        have g0 := HG.out.free 0; have g1 := HG.out.free 1; have g2 := HG.out.free 2; have g3 := HG.out.cell 0 _ rfl; have g4 := HG.out.cell 1 _ rfl; have g5 := HG.out.cell 2 _ rfl
        refine wpAnyJ_only (i := 9) (o := { dst := none, op := .store _ (.tmp 9) (.tmp 41), type := _, pos := _, after := _, guard := _ }) (by kernel_rfl) rfl (fun K hK => ?_)
        go_simp
        have HK3 := fun a b c => ((HKr.out.setCell (j := 0) (show w.heap.size ≠ _ from Nat.ne_of_lt GLT.out) a).setCell (j := 1) (show w.heap.size ≠ _ from Nat.ne_of_lt GLT.out) b).setCell (j := 2) (show w.heap.size ≠ _ from Nat.ne_of_lt GLT.out) c
        refine hK.out _ _ (fun _ => ⟨(HK3 _ _ _).cell 0 _ rfl, (HK3 _ _ _).cell 1 _ rfl, (HK3 _ _ _).cell 2 _ rfl⟩) ?_
        try simp only [Act.put, List.setIfInBounds_toArray, List.set_cons_zero, List.set_cons_succ]
        clear hK K HK3
        refine wpAnyJ_only (i := 10) (o := { dst := some 10, op := .assign (.tmp 42), type := _, pos := _, after := _, guard := _ }) (by kernel_rfl) rfl (fun K hK => ?_)
        go_simp
        refine hK.out _ _ (fun h => absurd h (by decide)) ?_
        try simp only [Act.put, List.setIfInBounds_toArray, List.set_cons_zero, List.set_cons_succ]
        clear hK K
        refine wpAnyJ_done (by kernel_rfl) ?_ _
        obtain ⟨hR, hS9, hW⟩ := res_done (R := r) (C := 1) q.out GSZ.out HG.out HS2.out
        have z0 := hR.cell 0 _ rfl; have z1 := hR.cell 1 _ rfl; have z2 := hR.cell 2 _ rfl
        have HS10 := Lib.hid hS9; have HW10 := Lib.hid hW
        clear hS9 hW hR g0 g1 g2 g3 g4 g5
        go_wp2_with fail
        go_ret2
        refine ⟨_, rfl, ?_⟩
        rw [HXL.out]
        exact ⟨_, rfl, HS10.out, HW10.out⟩
set_option maxHeartbeats 4000000 in
theorem Apply_any (w : World) (R C : Int) (v u : Value) (xs ls : List ByteArray) (hv : Sl eS w v xs) (hu : Sl eS w u ls) (hf : Fit 500 xs) (hs' : ls.length ≤ 16 → ∀ s ∈ ls, s.size ≤ 1000000) (hf' : ls.length ≤ 16 → chks ls = 0 → Fit 500 ls) (he : Env w) :
    Calls Tryz.prog 43 #[.agg #[.int .i64 R, .int .i64 C, v], u] w (RetL w (applyS R C xs ls).1 (applyS R C xs ls).2) := by
  have HSZ := Lib.hid (show xs.length ≤ 256 → ∀ s ∈ xs, s.size ≤ 1000000 from fun _ s hs => Nat.le_trans (hf s hs) (by omega))
  have HV := Lib.hid hv; have HU := Lib.hid hu; have HE := Lib.hid he
  obtain ⟨ad, cap, rfl⟩ := sl_form hv
  obtain ⟨ad', b, o, cap', rfl, hi, hp, hcc, hm⟩ := hu.open elemStr
  unfold maxLen at hm
  have HP := Lib.hid hp
  clear hv hu hp he
  by_cases h : mchkM R C xs = 0
  rotate_left
  · have hne : (mchkM R C xs != 0) = true := by simp [h]
    have HX := Lib.hid (show applyS R C xs ls = ([], mchkM R C xs) by unfold applyS; rw [if_neg h])
    rw [HX.out]
    have HB := Lib.hid ((Below.refl w.heap.size w).alloc (Nat.le_refl _) (.cells #[.int .i64 R, .int .i64 C, .slice ad xs.length cap] 24))
    have HV := Lib.hid (HV.out.below HB.out (Nat.le_refl _))
    have HK := Lib.hid (Blk.new w [.int .i64 R, .int .i64 C, .slice ad xs.length cap] 24)
    clear h
    go_enter Tryz.func43, Tryz.ntmps43
    go_wp2_with (go_at_call 38; (with_reducible refine (MCheck_any _ R C _ xs HV.out HSZ.out).mono ?_); rintro e w1 ⟨v, rfl, rfl, h1⟩; have HK1 := Lib.hid (HK.out.below h1 (Nat.le_refl _)); have q1 := HB.out.trans (h1.mono HB.out.size); have k0 := HK1.out.cell 0 _ rfl; have k1 := HK1.out.cell 1 _ rfl; have k2 := HK1.out.cell 2 _ rfl)
    go_ret2
    exact ⟨_, rfl, _, rfl, Sl.nil' _ _, q1⟩
  have H := Lib.hid h
  obtain ⟨r, c, hrm⟩ := rm_of h
  obtain rfl := hrm.rows; obtain rfl := hrm.cols
  have HRM := Lib.hid hrm
  have hc16 := hrm.c16
  by_cases hl : (ls.length : Int) = c
  rotate_left
  · have hne : ((ls.length : Int) != (c : Int)) = true := by simp; omega
    have HX := Lib.hid (show applyS r c xs ls = ([], 8) by unfold applyS; rw [if_pos h, if_neg hl])
    rw [HX.out]
    have HB := Lib.hid ((Below.refl w.heap.size w).alloc (Nat.le_refl _) (.cells #[.int .i64 r, .int .i64 c, .slice ad xs.length cap] 24))
    have HV := Lib.hid (HV.out.below HB.out (Nat.le_refl _))
    have HK := Lib.hid (Blk.new w [.int .i64 r, .int .i64 c, .slice ad xs.length cap] 24)
    clear h hl hrm
    go_enter Tryz.func43, Tryz.ntmps43
    go_wp2_with (go_at_call 38; (with_reducible refine (MCheck_any _ r c _ xs HV.out HSZ.out).mono ?_); rintro e w1 ⟨v, rfl, rfl, h1⟩; rw [H.out]; have HK1 := Lib.hid (HK.out.below h1 (Nat.le_refl _)); have q1 := HB.out.trans (h1.mono HB.out.size); have k0 := HK1.out.cell 0 _ rfl; have k1 := HK1.out.cell 1 _ rfl; have k2 := HK1.out.cell 2 _ rfl)
    go_ret2
    exact ⟨_, rfl, _, rfl, Sl.nil' _ _, q1⟩
  obtain rfl : ls.length = c := by omega
  have HX := Lib.hid (show applyS r ls.length xs ls = if chks ls = 0 then (cellsF r 1 (mulM ls.length (matF ls.length xs) (matF 1 ls)), 0) else ([], chks ls) by unfold applyS; rw [if_pos h, if_pos rfl]; rfl)
  have hne : ((ls.length : Int) != (ls.length : Int)) = false := by simp
  have HF := Lib.hid hf; have HS' := Lib.hid (hs' hc16); have HFF := Lib.hid (hf' hc16)
  obtain ⟨PS, hPS⟩ : ∃ PS, applyS r ls.length xs ls = PS := ⟨_, rfl⟩
  rw [hPS] at HX ⊢
  have HB := Lib.hid ((Below.refl w.heap.size w).alloc (Nat.le_refl _) (.cells #[.int .i64 r, .int .i64 ls.length, .slice ad xs.length cap] 24))
  have HV := Lib.hid (HV.out.below HB.out (Nat.le_refl _))
  have HK := Lib.hid (Blk.new w [.int .i64 r, .int .i64 ls.length, .slice ad xs.length cap] 24)
  clear h hl hrm hPS
  go_enter Tryz.func43, Tryz.ntmps43
  go_wp2_with (go_at_call 38; (with_reducible refine (MCheck_any _ r ls.length _ xs HV.out HSZ.out).mono ?_); rintro e w1 ⟨v, rfl, rfl, h1⟩; rw [H.out]; have HK1 := Lib.hid (HK.out.below h1 (Nat.le_refl _)); have q1 := HB.out.trans (h1.mono HB.out.size); have k0 := HK1.out.cell 0 _ rfl; have k1 := HK1.out.cell 1 _ rfl; have k2 := HK1.out.cell 2 _ rfl)
  have HH1 := Lib.hid h1; have HQ1 := Lib.hid q1
  clear h1 q1
  go_loopw [24] (fun i wr => ∃ k : Nat, k ≤ ls.length ∧ i = .int .i64 k ∧ Hid (chks ls = chks (ls.drop k)) ∧ Hid (Up w1.heap.size w1 wr)) (fun i _ => ls.length - (intOf i).toNat)
  case atStart => exact ⟨0, Nat.zero_le _, rfl, Lib.hid rfl, Lib.hid (Up.start w1)⟩
  case round =>
    clear k0 k1 k2
    obtain ⟨k, hk, rfl, ho, hU⟩ := hrel
    have q2 := HQ1.out.trans (hU.out.2.mono HQ1.out.size)
    have HKr := Lib.hid (hU.out.box HK1.out HK1.out.lt)
    have k0 := HKr.out.cell 0 _ rfl; have k1 := HKr.out.cell 1 _ rfl; have k2 := HKr.out.cell 2 _ rfl
    by_cases hkn : k < ls.length
    · have h1 : wr.cell? ⟨b, o + k, none⟩ = some (.string ls[k]) := HP.out.at q2 (Nat.le_refl _) k hkn
      have hS : ls[k].size ≤ 1000000 := HS'.out _ (List.getElem_mem hkn)
      have hD := chksD ls k hkn
      by_cases h0 : chk ls[k].data.toList = 0
      · rw [if_pos h0] at hD
        have HD := Lib.hid hD; have HC := Lib.hid h0
        clear hD h0
        go_wp2_with (go_at_call 56; (with_reducible refine (check_any _ _ hS).mono ?_); rintro e w2 ⟨v, rfl, rfl, hb2⟩; rw [HC.out])
        go_roundw
        case rel => exact ⟨k + 1, by omega, by go_num, Lib.hid (by rw [ho.out, HD.out]), Lib.hid (hU.out.call hb2)⟩
        case measure => simp [intOf]; omega
      · rw [if_neg h0] at hD
        have hne2 : (chk ls[k].data.toList != 0) = true := by simp [h0]
        have HX2 := Lib.hid (show PS = ([], chk ls[k].data.toList) by rw [HX.out, ho.out, hD, if_neg h0])
        rw [HX2.out]
        clear hD h0
        go_wp2_with (go_at_call 56; (with_reducible refine (check_any _ _ hS).mono ?_); rintro e w2 ⟨v, rfl, rfl, hb2⟩)
        go_ret2
        exact ⟨_, rfl, _, rfl, Sl.nil' _ _, q2.trans (hb2.mono q2.size)⟩
    · obtain rfl : k = ls.length := by omega
      have hc0 : chks ls = 0 := by rw [ho.out, List.drop_length]; rfl
      have HX2 := Lib.hid (show PS = (cellsF r 1 (mulM ls.length (matF ls.length xs) (matF 1 ls)), 0) by rw [HX.out, if_pos hc0])
      have hrm' : RM ls.length 1 ls ls.length 1 := ⟨rfl, rfl, hc16, by omega, by omega, hc0⟩
      have HRM' := Lib.hid hrm'; have HF' := Lib.hid (HFF.out hc0)
      have HVr := Lib.hid (HV.out.below (HH1.out.trans (hU.out.2.mono HH1.out.size)) (Nat.le_refl _))
      have HUr := Lib.hid (HU.out.below q2 (Nat.le_refl _))
      have HEr := Lib.hid (HE.out.below q2 (Nat.le_refl _))
      clear hc0 hrm'
      obtain ⟨L, hL⟩ : ∃ L, cellsF r 1 (mulM ls.length (matF ls.length xs) (matF 1 ls)) = L := ⟨_, rfl⟩
      have HXL := Lib.hid (show PS = (L, 0) by rw [HX2.out, hL])
      have HMP := Lib.hid (fun (w1 : World) (v u : Value) (hv : Sl eS w1 v xs) (hu : Sl eS w1 u ls) (he : Env w1) => show Calls Tryz.prog 61 #[.agg #[.int .i64 r, .int .i64 ls.length, v], .agg #[.int .i64 ls.length, .int .i64 1, u]] w1 (RetM w1 r 1 L 0) from hL ▸ Mproduct_ok w1 v u xs ls r ls.length 1 hv hu HRM.out HRM'.out HF.out HF'.out he)
      clear hL hU
      go_wp2_with (go_at_call 61; (with_reducible refine (HMP.out _ _ _ HVr.out HUr.out HEr.out).mono ?_); rintro e w3 ⟨v3, rfl, u3, rfl, s3, h3⟩; obtain ⟨a3, c3, rfl⟩ := sl_form s3; have HG := Lib.hid (Blk.new w3 [.int .i64 r, .int .i64 1, .slice a3 L.length c3] 24); have g0 := HG.out.cell 0 _ rfl; have g1 := HG.out.cell 1 _ rfl; have g2 := HG.out.cell 2 _ rfl; have HS3 := Lib.hid (s3.below ((Below.refl w3.heap.size w3).alloc (Nat.le_refl _) (.cells #[.int .i64 r, .int .i64 1, .slice a3 L.length c3] 24)) (Nat.le_refl _)); have q3 := q2.trans ((h3.alloc h3.size (.cells #[.int .i64 r, .int .i64 1, .slice a3 L.length c3] 24)).mono q2.size))
      go_ret2
      refine ⟨_, rfl, ?_⟩
      rw [HXL.out]
      exact ⟨_, rfl, HS3.out, q3⟩
end Go.Proofs.YtfhdmhifdaiehaaGreatDoor

namespace Go.Proofs.YtfhdmhifdaiehaaGreatDoor

/-- x is the least coefficient, not negative, of a. -/
def IsCo (a b x : Int) : Prop := 0 ≤ x ∧ x * (Int.gcd a b : Int) < b.natAbs ∧ ∃ k, a * x - (Int.gcd a b : Int) = b * k
theorem co_unique {a b x y : Int} (hb : b ≠ 0) (hx : IsCo a b x) (hy : IsCo a b y) : x = y := by
  obtain ⟨hx0, hx1, k, hk⟩ := hx
  obtain ⟨hy0, hy1, l, hl⟩ := hy
  have hg : 0 < Int.gcd a b := Int.gcd_pos_of_ne_zero_right _ hb
  obtain ⟨a', ha⟩ : (Int.gcd a b : Int) ∣ a := Int.gcd_dvd_left ..
  obtain ⟨b', hb'⟩ : (Int.gcd a b : Int) ∣ b := Int.gcd_dvd_right ..
  have hco : Int.gcd a' b' = 1 := by
    have h := Int.gcd_mul_left (Int.gcd a b : Int) a' b'
    rw [← ha, ← hb'] at h
    simp only [Int.natAbs_natCast] at h
    have : Int.gcd a b * 1 = Int.gcd a b * Int.gcd a' b' := by rw [Nat.mul_one]; exact h
    exact (Nat.eq_of_mul_eq_mul_left hg this).symm
  generalize hgg : (Int.gcd a b : Int) = g at *
  have hgp : 0 < g := by omega
  have h1 : a' * (x - y) = b' * (k - l) := by
    have : g * (a' * (x - y)) = g * (b' * (k - l)) := by
      have e1 : g * (a' * (x - y)) = a * x - a * y := by rw [← Int.mul_assoc, ← ha, Int.mul_sub]
      have e2 : g * (b' * (k - l)) = b * k - b * l := by rw [← Int.mul_assoc, ← hb', Int.mul_sub]
      rw [e1, e2]; omega
    exact Int.eq_of_mul_eq_mul_left (by omega) this
  have h2 : b' ∣ (x - y) := by
    have h3 : b'.natAbs ∣ a'.natAbs * (x - y).natAbs := by rw [← Int.natAbs_mul, Int.natAbs_dvd_natAbs]; exact ⟨k - l, h1⟩
    refine Int.natAbs_dvd_natAbs.1 (Nat.Coprime.dvd_of_dvd_mul_left (k := b'.natAbs) (m := a'.natAbs) ?_ h3)
    rw [Nat.coprime_comm]; exact hco
  obtain ⟨m, hm⟩ := h2
  have h3 : (x - y) * g = b * m := by rw [hm, hb']; grind
  have h4 : ((x - y) * g).natAbs < b.natAbs := by
    have : (x - y) * g = x * g - y * g := Int.sub_mul ..
    have h5 : 0 ≤ x * g := Int.mul_nonneg hx0 (by omega)
    have h6 : 0 ≤ y * g := Int.mul_nonneg hy0 (by omega)
    omega
  rw [h3, Int.natAbs_mul] at h4
  have hm0 : m = 0 := by
    rcases Nat.eq_zero_or_pos m.natAbs with h | h
    · omega
    · have := Nat.le_mul_of_pos_right b.natAbs h; omega
  rw [hm0] at hm
  omega

/-- What the divisions keep. -/
structure CoInv (a M r rest s nx : Int) : Prop where
  pos : 0 < M
  r0 : 0 ≤ r
  rM : r ≤ M
  e0 : 0 ≤ rest
  eM : rest ≤ M
  g : Int.gcd r rest = Int.gcd a M
  co : ∃ k, a * s - r = M * k
  no : ∃ k, a * nx - rest = M * k
  sz : (s.natAbs : Int) * rest + (nx.natAbs : Int) * r ≤ M
  sM : (s.natAbs : Int) ≤ M
  nM : (nx.natAbs : Int) ≤ M
theorem gcd_fmod (a m : Int) : Int.gcd (Int.fmod a m) m = Int.gcd a m := by
  have h := Int.fmod_add_mul_fdiv a m
  have : Int.gcd (Int.fmod a m + m * Int.fdiv a m) m = Int.gcd (Int.fmod a m) m := by
    rw [Int.gcd_comm, Int.gcd_add_mul_left_right, Int.gcd_comm]
  rw [← this, h]
theorem fmod_bd (x y : Int) (h : 0 < y) : 0 ≤ Int.fmod x y ∧ Int.fmod x y < y := ⟨Int.fmod_nonneg_of_pos _ h, Int.fmod_lt_of_pos _ h⟩
theorem CoInv.start (a M : Int) (h : 0 < M) : CoInv a M (Int.fmod a M) M 1 0 := by
  have h1 := fmod_bd a M h
  refine ⟨h, h1.1, by omega, by omega, by omega, gcd_fmod a M, ⟨Int.fdiv a M, ?_⟩, ⟨-1, by simp⟩, by simp, by simp; omega, by simp; omega⟩
  have := Int.fmod_add_mul_fdiv a M; omega
theorem CoInv.step {a M r rest s nx : Int} (h : CoInv a M r rest s nx) (hr : rest ≠ 0) : CoInv a M rest (Int.fmod r rest) nx (s - Int.fdiv r rest * nx) := by
  obtain ⟨pos, r0, rM, e0, eM, g, ⟨k, co⟩, ⟨l, no⟩, sz, sM, nM⟩ := h
  have hp : 0 < rest := by omega
  have h1 := fmod_bd r rest hp
  have h2 := Int.fmod_add_mul_fdiv r rest
  have hq : 0 ≤ Int.fdiv r rest := Int.fdiv_nonneg r0 e0
  generalize Int.fmod r rest = m at *
  generalize Int.fdiv r rest = q at *
  have habs : ((s - q * nx).natAbs : Int) ≤ s.natAbs + q * nx.natAbs := by
    have : ((q * nx).natAbs : Int) = q * nx.natAbs := by rw [Int.natAbs_mul, Int.natCast_mul, Int.natAbs_of_nonneg hq]
    omega
  have hsz : (nx.natAbs : Int) * m + ((s - q * nx).natAbs : Int) * rest ≤ M := by
    have e1 : ((s - q * nx).natAbs : Int) * rest ≤ (s.natAbs + q * nx.natAbs) * rest := Int.mul_le_mul_of_nonneg_right habs e0
    have e2 : m = r - rest * q := by omega
    have e3 : (nx.natAbs : Int) * m + (s.natAbs + q * nx.natAbs) * rest = s.natAbs * rest + nx.natAbs * r := by rw [e2]; grind
    omega
  refine ⟨pos, e0, eM, h1.1, by omega, ?_, ⟨l, no⟩, ⟨k - q * l, ?_⟩, hsz, nM, ?_⟩
  · rw [← g]
    have h3 : Int.gcd r rest = Int.gcd (m + rest * q) rest := by rw [h2]
    rw [h3, Int.gcd_comm (m + rest * q), Int.gcd_add_mul_left_right]
  · have e : a * (s - q * nx) - m = (a * s - r) - q * (a * nx - rest) := by
      have : m = r - rest * q := by omega
      rw [this]; grind
    rw [e, co, no]; grind
  · have e1 : 0 ≤ (nx.natAbs : Int) * m := Int.mul_nonneg (by omega) h1.1
    have e2 : ((s - q * nx).natAbs : Int) * 1 ≤ ((s - q * nx).natAbs : Int) * rest := Int.mul_le_mul_of_nonneg_left (by omega) (by omega)
    omega
theorem CoInv.stop {a M r s nx : Int} (h : CoInv a M r 0 s nx) : r = Int.gcd a M ∧ 0 < r ∧ 0 < Int.fdiv M r ∧ Int.fdiv M r * r = M ∧
    (0 ≤ Int.fmod s (Int.fdiv M r) ∧ Int.fmod s (Int.fdiv M r) * r < M ∧ ∃ k, a * Int.fmod s (Int.fdiv M r) - r = M * k) := by
  obtain ⟨pos, r0, rM, e0, eM, g, ⟨k, co⟩, -, sz, sM, nM⟩ := h
  have hr : r = Int.gcd a M := by
    rw [← g, Int.gcd_zero_right]; omega
  have hgp : 0 < Int.gcd a M := Int.gcd_pos_of_ne_zero_right _ (by omega)
  have hrp : 0 < r := by omega
  obtain ⟨a', ha⟩ : r ∣ a := by rw [hr]; exact Int.gcd_dvd_left ..
  obtain ⟨m', hm'⟩ : r ∣ M := by rw [hr]; exact Int.gcd_dvd_right ..
  have hd : Int.fdiv M r = m' := by rw [hm', Int.mul_fdiv_cancel_left _ (by omega)]
  have hmp : 0 < m' := by
    rcases Int.lt_or_le 0 m' with h | h
    · exact h
    · have := Int.mul_le_mul_of_nonneg_left h (show 0 ≤ r by omega); rw [← hm', Int.mul_zero] at this; omega
  have h1 := fmod_bd s m' hmp
  have h2 := Int.fmod_add_mul_fdiv s m'
  rw [hd]
  generalize Int.fmod s m' = x at *
  generalize Int.fdiv s m' = t at *
  refine ⟨hr, hrp, hmp, by rw [hm', Int.mul_comm], h1.1, ?_, ⟨k - a' * t, ?_⟩⟩
  · rw [hm', Int.mul_comm r]; exact Int.mul_lt_mul_of_pos_right h1.2 hrp
  · have e : x = s - m' * t := by omega
    have e2 : a * x - r = (a * s - r) - a * m' * t := by rw [e]; grind
    rw [e2, co, ha]
    have e3 : r * a' * m' * t = M * (a' * t) := by rw [hm']; grind
    rw [e3, Int.mul_sub]
theorem CoInv.isCo {a b x : Int} (h : 0 ≤ x ∧ x * (Int.gcd a b.natAbs : Int) < (b.natAbs : Int) ∧ ∃ k, a * x - (Int.gcd a b.natAbs : Int) = (b.natAbs : Int) * k) : IsCo a b x := by
  obtain ⟨h0, h1, k, hk⟩ := h
  have e : Int.gcd a (b.natAbs : Int) = Int.gcd a b := by simp [Int.gcd]
  rw [e] at h1 hk
  refine ⟨h0, h1, ?_⟩
  rcases Int.lt_or_le b 0 with hb | hb
  · exact ⟨-k, by rw [hk, Int.ofNat_natAbs_of_nonpos (by omega)]; grind⟩
  · exact ⟨k, by rw [hk, Int.natAbs_of_nonneg hb]⟩
open Classical in
/-- The coefficient of a that Bezout returns. -/
noncomputable def cox (a b : Int) : Int := if h : ∃ x, IsCo a b x then Classical.choose h else 0
theorem cox_eq {a b x : Int} (hb : b ≠ 0) (h : IsCo a b x) : cox a b = x := by
  have hex : ∃ x, IsCo a b x := ⟨x, h⟩
  unfold cox
  rw [dif_pos hex]
  exact co_unique hb (Classical.choose_spec hex) h
end Go.Proofs.YtfhdmhifdaiehaaGreatDoor

namespace Go.Proofs.YtfhdmhifdaiehaaGreatDoor
open Go.RowKit
set_option maxRecDepth 100000

theorem Bq.other {w : World} {g g' : Nat} (h : Bq w g) (hne : g ≠ g') (u v : Value) : Bq ((w.setCell ⟨g', 0, none⟩ u).setCell ⟨g', 1, none⟩ v) g := by
  obtain ⟨p, q, T, hk, hp, hq⟩ := h; exact ⟨p, q, T, (hk.setCell hne _).setCell hne _, hp, hq⟩
theorem Bq.self {w : World} {g : Nat} (h : Bq w g) (m : Bool) (a : Option Addr) (n c : Nat) : Bq ((w.setCell ⟨g, 0, none⟩ (.bool m)).setCell ⟨g, 1, none⟩ (.slice a n c)) g := by
  obtain ⟨p, q, T, hk, hp, hq⟩ := h; exact ⟨_, _, T, (hk.set 0 (.bool m)).set 1 (.slice a n c), by simp [eU], by simp [eU]⟩
theorem Bq.new (w : World) (m : Bool) (a : Option Addr) (n c : Nat) (T : TypeId) : Bq (w.alloc (.cells #[.bool m, .slice a n c] T)) w.heap.size := ⟨_, _, T, Blk.new w [.bool m, .slice a n c] T, by simp [eU], by simp [eU]⟩
theorem Bq.alloc {w : World} {g : Nat} (h : Bq w g) (o : Obj) : Bq (w.alloc o) g := h.below ((Below.refl _ w).alloc (Nat.le_refl _) o) (Nat.le_refl _)

theorem Num.setBx {w : World} {g : Nat} {v : Value} {z : Int} (h : Num w v z) (hk : Bq w g) (m : Bool) (a : Option Addr) (n c : Nat) : Num ((w.setCell ⟨g, 0, none⟩ (.bool m)).setCell ⟨g, 1, none⟩ (.slice a n c)) v z := by
  obtain ⟨m1, a1, n1, c1, rfl, hm, hs⟩ := h
  exact ⟨m1, a1, n1, c1, rfl, hm, hs.setBx hk m a n c⟩
theorem NBox.new' {w : World} {z : Int} {m : Bool} {a : Option Addr} {n c : Nat} {T : TypeId} {g : Nat} (hg : g = w.heap.size) (hv : Num w (.agg #[.bool m, .slice a n c]) z) : NBox (w.alloc (.cells #[.bool m, .slice a n c] T)) g z := by subst hg; exact NBox.new hv
theorem Blk.new' {w : World} {m : Bool} {a : Option Addr} {n c : Nat} {T : TypeId} {g : Nat} (hg : g = w.heap.size) : Blk (w.alloc (.cells #[.bool m, .slice a n c] T)) g [.bool m, .slice a n c] T := by subst hg; exact Blk.new w [.bool m, .slice a n c] T
theorem NBox.of {w : World} {z : Int} {m : Bool} {a : Option Addr} {n c : Nat} {T : TypeId} {g : Nat} (hk : Blk w g [.bool m, .slice a n c] T) (hv : Num w (.agg #[.bool m, .slice a n c]) z) : NBox w g z := by
  obtain ⟨m1, a1, n1, c1, he, hm, hs⟩ := hv
  cases he
  exact ⟨m, a, n, c, T, hk, hm, hs⟩
theorem Num.one' (w : World) (e : TypeId) {g : Nat} (hg : g = w.heap.size) : Num (w.alloc (.cells #[.int .u32 1] e)) (.agg #[.bool false, .slice (some ⟨g, 0, none⟩) 1 1]) 1 := by subst hg; exact Num.one w e
theorem NBox.drew {w : World} {g : Nat} {z : Int} (h : NBox w g z) : NBox w.drew g z := h.below (Below.refl _ _).drew (Nat.le_refl _)
theorem Bq.drew {w : World} {g : Nat} (h : Bq w g) : Bq w.drew g := h.below (Below.refl _ _).drew (Nat.le_refl _)
theorem Below.allocs {w w' : World} {B : Nat} (h : Below B w w' ∧ B ≤ w'.heap.size) (o : Obj) : Below B w (w'.alloc o) ∧ B ≤ (w'.alloc o).heap.size := ⟨h.1.alloc h.2 o, by have := h.2; simp; omega⟩

/-- Where the boxes lie. -/
def Geo (B g4 g5 g6 g8 g9 g10 g11 : Nat) : Prop := B ≤ g4 ∧ g4 < g5 ∧ g5 < g6 ∧ g6 < g8 ∧ g8 < g9 ∧ g8 < g10 ∧ g8 < g11 ∧ g9 ≠ g10 ∧ g9 ≠ g11 ∧ g10 ≠ g11
/-- The boxes of coefficient. -/
structure CB (w : World) (g4 g5 g6 g8 g9 g10 g11 : Nat) (M r s rest nx : Int) (wr : World) : Prop where
  bel : Below w.heap.size w wr
  geo : Geo w.heap.size g4 g5 g6 g8 g9 g10 g11
  q4 : Bq wr g4
  q5 : Bq wr g5
  n6 : NBox wr g6 M
  n8 : NBox wr g8 r
  n9 : NBox wr g9 s
  n10 : NBox wr g10 rest
  n11 : NBox wr g11 nx
section
variable {w wr wr' : World} {g4 g5 g6 g8 g9 g10 g11 : Nat} {M r s rest nx z : Int} {m : Bool} {a : Option Addr} {n c : Nat}
theorem CB.keep (h : CB w g4 g5 g6 g8 g9 g10 g11 M r s rest nx wr) (hb : Below wr.heap.size wr wr') : CB w g4 g5 g6 g8 g9 g10 g11 M r s rest nx wr' :=
  have l := Nat.le_refl wr.heap.size
  ⟨h.bel.trans (hb.mono h.bel.size), h.geo, h.q4.below hb l, h.q5.below hb l, h.n6.below hb l, h.n8.below hb l, h.n9.below hb l, h.n10.below hb l, h.n11.below hb l⟩
theorem CB.alloc (h : CB w g4 g5 g6 g8 g9 g10 g11 M r s rest nx wr) (o : Obj) : CB w g4 g5 g6 g8 g9 g10 g11 M r s rest nx (wr.alloc o) := h.keep ((Below.refl _ wr).alloc (Nat.le_refl _) o)
theorem CB.drew (h : CB w g4 g5 g6 g8 g9 g10 g11 M r s rest nx wr) : CB w g4 g5 g6 g8 g9 g10 g11 M r s rest nx wr.drew := h.keep (Below.refl _ wr).drew
theorem CB.st8 (h : CB w g4 g5 g6 g8 g9 g10 g11 M r s rest nx wr) (hv : Num wr (.agg #[.bool m, .slice a n c]) z) :
    CB w g4 g5 g6 g8 g9 g10 g11 M z s rest nx ((wr.setCell ⟨g8, 0, none⟩ (.bool m)).setCell ⟨g8, 1, none⟩ (.slice a n c)) := by
  obtain ⟨l1, l2, l3, l4, l5, l6, l7, l8, l9, l10⟩ := h.geo
  have hq := h.n8.bx
  exact ⟨(h.bel.setCell (by simp; omega) _).setCell (by simp; omega) _, h.geo, h.q4.other (by omega) _ _, h.q5.other (by omega) _ _, h.n6.other hq (by omega) m a n c, NBox.self hq hv, h.n9.other hq (by omega) m a n c, h.n10.other hq (by omega) m a n c, h.n11.other hq (by omega) m a n c⟩
theorem CB.st9 (h : CB w g4 g5 g6 g8 g9 g10 g11 M r s rest nx wr) (hv : Num wr (.agg #[.bool m, .slice a n c]) z) :
    CB w g4 g5 g6 g8 g9 g10 g11 M r z rest nx ((wr.setCell ⟨g9, 0, none⟩ (.bool m)).setCell ⟨g9, 1, none⟩ (.slice a n c)) := by
  obtain ⟨l1, l2, l3, l4, l5, l6, l7, l8, l9, l10⟩ := h.geo
  have hq := h.n9.bx
  exact ⟨(h.bel.setCell (by simp; omega) _).setCell (by simp; omega) _, h.geo, h.q4.other (by omega) _ _, h.q5.other (by omega) _ _, h.n6.other hq (by omega) m a n c, h.n8.other hq (by omega) m a n c, NBox.self hq hv, h.n10.other hq (by omega) m a n c, h.n11.other hq (by omega) m a n c⟩
theorem CB.st10 (h : CB w g4 g5 g6 g8 g9 g10 g11 M r s rest nx wr) (hv : Num wr (.agg #[.bool m, .slice a n c]) z) :
    CB w g4 g5 g6 g8 g9 g10 g11 M r s z nx ((wr.setCell ⟨g10, 0, none⟩ (.bool m)).setCell ⟨g10, 1, none⟩ (.slice a n c)) := by
  obtain ⟨l1, l2, l3, l4, l5, l6, l7, l8, l9, l10⟩ := h.geo
  have hq := h.n10.bx
  exact ⟨(h.bel.setCell (by simp; omega) _).setCell (by simp; omega) _, h.geo, h.q4.other (by omega) _ _, h.q5.other (by omega) _ _, h.n6.other hq (by omega) m a n c, h.n8.other hq (by omega) m a n c, h.n9.other hq (by omega) m a n c, NBox.self hq hv, h.n11.other hq (by omega) m a n c⟩
theorem CB.st11 (h : CB w g4 g5 g6 g8 g9 g10 g11 M r s rest nx wr) (hv : Num wr (.agg #[.bool m, .slice a n c]) z) :
    CB w g4 g5 g6 g8 g9 g10 g11 M r s rest z ((wr.setCell ⟨g11, 0, none⟩ (.bool m)).setCell ⟨g11, 1, none⟩ (.slice a n c)) := by
  obtain ⟨l1, l2, l3, l4, l5, l6, l7, l8, l9, l10⟩ := h.geo
  have hq := h.n11.bx
  exact ⟨(h.bel.setCell (by simp; omega) _).setCell (by simp; omega) _, h.geo, h.q4.other (by omega) _ _, h.q5.other (by omega) _ _, h.n6.other hq (by omega) m a n c, h.n8.other hq (by omega) m a n c, h.n9.other hq (by omega) m a n c, h.n10.other hq (by omega) m a n c, NBox.self hq hv⟩
/-- The results. -/
theorem CB.fin (h : CB w g4 g5 g6 g8 g9 g10 g11 M r s rest nx wr) {z' : Int} {m' : Bool} {a' : Option Addr} {n' c' : Nat} (hv : Num wr (.agg #[.bool m, .slice a n c]) z) (hv' : Num wr (.agg #[.bool m', .slice a' n' c']) z') :
    ((((wr.setCell ⟨g4, 0, none⟩ (.bool m)).setCell ⟨g4, 1, none⟩ (.slice a n c)).setCell ⟨g5, 0, none⟩ (.bool m')).setCell ⟨g5, 1, none⟩ (.slice a' n' c')).cell? ⟨g4, 0, none⟩ = some (.bool m) ∧
    ((((wr.setCell ⟨g4, 0, none⟩ (.bool m)).setCell ⟨g4, 1, none⟩ (.slice a n c)).setCell ⟨g5, 0, none⟩ (.bool m')).setCell ⟨g5, 1, none⟩ (.slice a' n' c')).cell? ⟨g4, 1, none⟩ = some (.slice a n c) ∧
    ((((wr.setCell ⟨g4, 0, none⟩ (.bool m)).setCell ⟨g4, 1, none⟩ (.slice a n c)).setCell ⟨g5, 0, none⟩ (.bool m')).setCell ⟨g5, 1, none⟩ (.slice a' n' c')).cell? ⟨g5, 0, none⟩ = some (.bool m') ∧
    ((((wr.setCell ⟨g4, 0, none⟩ (.bool m)).setCell ⟨g4, 1, none⟩ (.slice a n c)).setCell ⟨g5, 0, none⟩ (.bool m')).setCell ⟨g5, 1, none⟩ (.slice a' n' c')).cell? ⟨g5, 1, none⟩ = some (.slice a' n' c') ∧
    Num ((((wr.setCell ⟨g4, 0, none⟩ (.bool m)).setCell ⟨g4, 1, none⟩ (.slice a n c)).setCell ⟨g5, 0, none⟩ (.bool m')).setCell ⟨g5, 1, none⟩ (.slice a' n' c')) (.agg #[.bool m, .slice a n c]) z ∧
    Num ((((wr.setCell ⟨g4, 0, none⟩ (.bool m)).setCell ⟨g4, 1, none⟩ (.slice a n c)).setCell ⟨g5, 0, none⟩ (.bool m')).setCell ⟨g5, 1, none⟩ (.slice a' n' c')) (.agg #[.bool m', .slice a' n' c']) z' ∧
    Below w.heap.size w ((((wr.setCell ⟨g4, 0, none⟩ (.bool m)).setCell ⟨g4, 1, none⟩ (.slice a n c)).setCell ⟨g5, 0, none⟩ (.bool m')).setCell ⟨g5, 1, none⟩ (.slice a' n' c')) := by
  obtain ⟨l1, l2, l3, l4, l5, l6, l7, l8, l9, l10⟩ := h.geo
  have q5 := h.q5.other (g' := g4) (by omega) (.bool m) (.slice a n c)
  have v1 := (hv.setBx h.q4 m a n c).setBx q5 m' a' n' c'
  have v2 := (hv'.setBx h.q4 m a n c).setBx q5 m' a' n' c'
  obtain ⟨p, q, T, hk, hp, hq⟩ := h.q4
  obtain ⟨p5, q5', T5, hk5, hp5, hq5⟩ := q5
  have k4 := (((hk.set 0 (.bool m)).set 1 (.slice a n c)).setCell (j := 0) (show g4 ≠ g5 by omega) (.bool m')).setCell (j := 1) (show g4 ≠ g5 by omega) (.slice a' n' c')
  have k5 := (hk5.set 0 (.bool m')).set 1 (.slice a' n' c')
  exact ⟨k4.cell 0 _ rfl, k4.cell 1 _ rfl, k5.cell 0 _ rfl, k5.cell 1 _ rfl, v1, v2, (((h.bel.setCell (by simp; omega) _).setCell (by simp; omega) _).setCell (by simp; omega) _).setCell (by simp; omega) _⟩
/-- The remainders move on. -/
theorem CB.move (h : CB w g4 g5 g6 g8 g9 g10 g11 M r s rest nx wr) {left q : Int} {m' : Bool} {a' : Option Addr} {n' c' g : Nat} (hg : g10 < g ∧ g8 < g) (hv : Num wr (.agg #[.bool m, .slice a n c]) rest) (hv' : Num wr (.agg #[.bool m', .slice a' n' c']) left) (hq : NBox wr g q) :
    CB w g4 g5 g6 g8 g9 g10 g11 M rest s left nx ((((wr.setCell ⟨g8, 0, none⟩ (.bool m)).setCell ⟨g8, 1, none⟩ (.slice a n c)).setCell ⟨g10, 0, none⟩ (.bool m')).setCell ⟨g10, 1, none⟩ (.slice a' n' c')) ∧
    NBox ((((wr.setCell ⟨g8, 0, none⟩ (.bool m)).setCell ⟨g8, 1, none⟩ (.slice a n c)).setCell ⟨g10, 0, none⟩ (.bool m')).setCell ⟨g10, 1, none⟩ (.slice a' n' c')) g q := by
  have h1 := h.st8 hv
  have h2 := hv'.setBx h.n8.bx m a n c
  exact ⟨h1.st10 h2, (hq.other h.n8.bx (by omega) m a n c).other h1.n10.bx (by omega) m' a' n' c'⟩
/-- The coefficients move on. -/
theorem CB.turn (h : CB w g4 g5 g6 g8 g9 g10 g11 M r s rest nx wr) {z : Int} {m' : Bool} {a' : Option Addr} {n' c' : Nat} (hv : Num wr (.agg #[.bool m, .slice a n c]) nx) (hv' : Num wr (.agg #[.bool m', .slice a' n' c']) z) :
    CB w g4 g5 g6 g8 g9 g10 g11 M r nx rest z ((((wr.setCell ⟨g9, 0, none⟩ (.bool m)).setCell ⟨g9, 1, none⟩ (.slice a n c)).setCell ⟨g11, 0, none⟩ (.bool m')).setCell ⟨g11, 1, none⟩ (.slice a' n' c')) := by
  have h1 := h.st9 hv
  exact h1.st11 (hv'.setBx h.n9.bx m a n c)
end

/-- What the two cells of a box hold. -/
def C2 (w : World) (g : Nat) (u v : Value) : Prop := w.cell? ⟨g, 0, none⟩ = some u ∧ w.cell? ⟨g, 1, none⟩ = some v ∧ w.frozen? ⟨g, 0, none⟩ = false ∧ w.frozen? ⟨g, 1, none⟩ = false
theorem C2.below {w w1 : World} {g : Nat} {u v : Value} (h : C2 w g u v) {B : Nat} (hb : Below B w.drew w1) (hg : g < B) : w1.cell? ⟨g, 0, none⟩ = some u ∧ w1.cell? ⟨g, 1, none⟩ = some v ∧ w1.frozen? ⟨g, 0, none⟩ = false ∧ w1.frozen? ⟨g, 1, none⟩ = false :=
  ⟨(hb.cell (p := ⟨g, 0, none⟩) hg).trans h.1, (hb.cell (p := ⟨g, 1, none⟩) hg).trans h.2.1, (hb.frozen (p := ⟨g, 0, none⟩) hg).trans h.2.2.1, (hb.frozen (p := ⟨g, 1, none⟩) hg).trans h.2.2.2⟩
theorem C2.six {w w1 : World} {g g' g'' : Nat} {u v u' v' u'' v'' : Value} (h : C2 w g u v) (h' : C2 w g' u' v') (h'' : C2 w g'' u'' v'') {B : Nat} (hb : Below B w.drew w1) (hg : g < B) (hg' : g' < B) (hg'' : g'' < B) :
    w1.cell? ⟨g, 0, none⟩ = some u ∧ w1.cell? ⟨g, 1, none⟩ = some v ∧ w1.cell? ⟨g', 0, none⟩ = some u' ∧ w1.cell? ⟨g', 1, none⟩ = some v' ∧ w1.cell? ⟨g'', 0, none⟩ = some u'' ∧ w1.cell? ⟨g'', 1, none⟩ = some v'' :=
  ⟨(h.below hb hg).1, (h.below hb hg).2.1, (h'.below hb hg').1, (h'.below hb hg').2.1, (h''.below hb hg'').1, (h''.below hb hg'').2.1⟩
theorem wl_le {x M : Int} {K : Nat} (h : (x.natAbs : Int) ≤ M) (hl : wl M ≤ K) : wl x ≤ K := by
  have := digs_len_mono 1000000000 (by omega) (show x.natAbs ≤ M.natAbs by omega)
  unfold wl at *; omega
theorem Blk.drew {w : World} {g : Nat} {cs : List Value} {T : TypeId} (h : Blk w g cs T) : Blk w.drew g cs T := h
theorem Blk.held {w : World} {g : Nat} {u v : Value} {T : TypeId} (h : Blk w g [u, v] T) : Blk w g [u, v] T ∧ w.cell? ⟨g, 0, none⟩ = some u ∧ w.cell? ⟨g, 1, none⟩ = some v := ⟨h, h.cell 0 _ rfl, h.cell 1 _ rfl⟩

end Go.Proofs.YtfhdmhifdaiehaaGreatDoor

namespace Go.Proofs.YtfhdmhifdaiehaaGreatDoor
open Go.RowKit
set_option maxRecDepth 100000

theorem txt_nat (n : Nat) : txt (n : Int) = ⟨(Lib.decDigits n).toArray⟩ := by
  unfold txt; rw [itoa_cases, if_neg (by omega), Int.natAbs_natCast]
theorem Blk.heldB {W w : World} {g : Nat} {u v : Value} {T : TypeId} (h : Blk W g [u, v] T) (hb : Below W.heap.size W w) : Below W.heap.size W w ∧ w.cell? ⟨g, 0, none⟩ = some u ∧ w.cell? ⟨g, 1, none⟩ = some v :=
  have hk := h.below hb (Nat.le_refl _)
  ⟨hb, hk.cell 0 _ rfl, hk.cell 1 _ rfl⟩
/-- The boxes of the two numbers. -/
def ZB (w : World) (g : Nat) (x y : Int) (wr : World) : Prop := Below w.heap.size w wr ∧ w.heap.size ≤ g ∧ NBox wr g x ∧ NBox wr (g + 1) y
theorem ZB.keep {w w1 w2 : World} {g : Nat} {x y : Int} (h : ZB w g x y w1) (hb : Below w1.heap.size w1 w2) : ZB w g x y w2 :=
  ⟨h.1.trans (hb.mono h.1.size), h.2.1, h.2.2.1.below hb (Nat.le_refl _), h.2.2.2.below hb (Nat.le_refl _)⟩

theorem ZB.made {w w3 : World} {x y : Int} {m m' : Bool} {a a' : Option Addr} {n c n' c' : Nat} (hb : Below w.heap.size w w3) (hx : Num w3 (.agg #[.bool m, .slice a n c]) x) (hy : Num w3 (.agg #[.bool m', .slice a' n' c']) y) :
    ZB w w3.heap.size x y ((w3.alloc (.cells #[.bool m, .slice a n c] 90)).alloc (.cells #[.bool m', .slice a' n' c'] 90)) := by
  have k2 := NBox.new (T := 90) (hy.alloc (.cells #[.bool m, .slice a n c] 90))
  rw [World.size_alloc] at k2
  exact ⟨hb.trans ((((Below.refl _ w3).alloc (Nat.le_refl _) _).alloc (by simp) _).mono hb.size), hb.size, (NBox.new hx).alloc _, k2⟩

theorem Bq.top {X w' : World} {m : Bool} {a : Option Addr} {n c B : Nat} {T : TypeId} (hb : Below B (X.alloc (.cells #[.bool m, .slice a n c] T)) w') (hB : (X.alloc (.cells #[.bool m, .slice a n c] T)).heap.size ≤ B) : Bq w' X.heap.size := (Bq.new X m a n c T).below hb hB
theorem Bq.topd {X w' : World} {m : Bool} {a : Option Addr} {n c B : Nat} {T : TypeId} (hb : Below B (X.alloc (.cells #[.bool m, .slice a n c] T)).drew w') (hB : (X.alloc (.cells #[.bool m, .slice a n c] T)).drew.heap.size ≤ B) : Bq w' X.heap.size := (Bq.new X m a n c T).drew.below hb hB
theorem Bq.top2 {X w' : World} {m : Bool} {a : Option Addr} {n c B : Nat} {T : TypeId} {o : Obj} (hb : Below B ((X.alloc (.cells #[.bool m, .slice a n c] T)).alloc o) w') (hB : ((X.alloc (.cells #[.bool m, .slice a n c] T)).alloc o).heap.size ≤ B) : Bq w' X.heap.size := ((Bq.new X m a n c T).alloc o).below hb hB
theorem Bq.top2d {X w' : World} {m : Bool} {a : Option Addr} {n c B : Nat} {T : TypeId} {o : Obj} (hb : Below B ((X.alloc (.cells #[.bool m, .slice a n c] T)).alloc o).drew w') (hB : ((X.alloc (.cells #[.bool m, .slice a n c] T)).alloc o).drew.heap.size ≤ B) : Bq w' X.heap.size := ((Bq.new X m a n c T).alloc o).drew.below hb hB
theorem Bq.topo {X w' : World} {m : Bool} {a : Option Addr} {n c B : Nat} {T : TypeId} {o : Obj} (hb : Below B ((X.alloc o).alloc (.cells #[.bool m, .slice a n c] T)) w') (hB : ((X.alloc o).alloc (.cells #[.bool m, .slice a n c] T)).heap.size ≤ B) : Bq w' (X.heap.size + 1) := by
  have := (Bq.new (X.alloc o) m a n c T).below hb hB
  rwa [World.size_alloc] at this
theorem Bq.topod {X w' : World} {m : Bool} {a : Option Addr} {n c B : Nat} {T : TypeId} {o : Obj} (hb : Below B ((X.alloc o).alloc (.cells #[.bool m, .slice a n c] T)).drew w') (hB : ((X.alloc o).alloc (.cells #[.bool m, .slice a n c] T)).drew.heap.size ≤ B) : Bq w' (X.heap.size + 1) := by
  have := (Bq.new (X.alloc o) m a n c T).drew.below hb hB
  rwa [World.size_alloc] at this
theorem Bq.fresh {w : World} {g : Nat} (_ : Bq w g) :
    (∀ u v, (((w.setCell ⟨g, 0, none⟩ u).setCell ⟨g, 1, none⟩ v).alloc (.cells #[.bool false, .slice none 0 0] 90)).cell? ⟨w.heap.size, 0, none⟩ = some (.bool false)) ∧
    (∀ u v, (((w.setCell ⟨g, 0, none⟩ u).setCell ⟨g, 1, none⟩ v).alloc (.cells #[.bool false, .slice none 0 0] 90)).cell? ⟨w.heap.size, 1, none⟩ = some (.slice none 0 0)) ∧
    (∀ u v, (((w.setCell ⟨g, 0, none⟩ u).setCell ⟨g, 1, none⟩ v).alloc (.cells #[.bool false, .slice none 0 0] 90)).frozen? ⟨w.heap.size, 0, none⟩ = false) ∧
    (∀ u v, (((w.setCell ⟨g, 0, none⟩ u).setCell ⟨g, 1, none⟩ v).alloc (.cells #[.bool false, .slice none 0 0] 90)).frozen? ⟨w.heap.size, 1, none⟩ = false) := by
  have k : ∀ u v, Blk (((w.setCell ⟨g, 0, none⟩ u).setCell ⟨g, 1, none⟩ v).alloc (.cells #[.bool false, .slice none 0 0] 90)) w.heap.size [.bool false, .slice none 0 0] 90 := fun u v => by
    have := Blk.new ((w.setCell ⟨g, 0, none⟩ u).setCell ⟨g, 1, none⟩ v) [.bool false, .slice none 0 0] 90
    simpa using this
  exact ⟨fun u v => (k u v).cell 0 _ rfl, fun u v => (k u v).cell 1 _ rfl, fun u v => (k u v).free 0, fun u v => (k u v).free 1⟩
theorem Bq.lt {w : World} {g : Nat} (h : Bq w g) : g < w.heap.size := by obtain ⟨p, q, T, hk, -, -⟩ := h; exact hk.lt
section
variable {W w : World} {m m' : Bool} {a a' : Option Addr} {n c n' c' g h : Nat} {z : Int} {T T' : TypeId}
theorem fin1 (hb : Below W.heap.size W w) (hq : Num w (.agg #[.bool m, .slice a n c]) z) : Below W.heap.size W ((w.alloc (.cells #[.bool m, .slice a n c] T)).alloc (.cells #[.bool m', .slice a' n' c'] T')) ∧ NBox ((w.alloc (.cells #[.bool m, .slice a n c] T)).alloc (.cells #[.bool m', .slice a' n' c'] T')) w.heap.size z :=
  ⟨(hb.alloc hb.size _).alloc (by have := hb.size; simp; omega) _, (NBox.new hq).alloc _⟩
theorem fin2 (hb : Below W.heap.size W w) (hq : Num w (.agg #[.bool m, .slice a n c]) z) : Below W.heap.size W ((w.alloc (.cells #[.bool m', .slice a' n' c'] T')).alloc (.cells #[.bool m, .slice a n c] T)) ∧ NBox ((w.alloc (.cells #[.bool m', .slice a' n' c'] T')).alloc (.cells #[.bool m, .slice a n c] T)) (w.heap.size + 1) z := by
  refine ⟨(hb.alloc hb.size _).alloc (by have := hb.size; simp; omega) _, ?_⟩
  have := NBox.new (T := T) (hq.alloc (.cells #[.bool m', .slice a' n' c'] T'))
  rwa [World.size_alloc] at this
theorem fin3 (hb : Below W.heap.size W w) (hk : Bq w g) (hg : W.heap.size ≤ g) (hq : Num w (.agg #[.bool m, .slice a n c]) z) : Below W.heap.size W (((w.setCell ⟨g, 0, none⟩ (.bool m)).setCell ⟨g, 1, none⟩ (.slice a n c)).alloc (.cells #[.bool m', .slice a' n' c'] T')) ∧ NBox (((w.setCell ⟨g, 0, none⟩ (.bool m)).setCell ⟨g, 1, none⟩ (.slice a n c)).alloc (.cells #[.bool m', .slice a' n' c'] T')) g z :=
  have h2 := (hb.setCell (p := ⟨g, 0, none⟩) hg (.bool m)).setCell (p := ⟨g, 1, none⟩) hg (.slice a n c)
  ⟨h2.alloc h2.size _, (NBox.self hk hq).alloc _⟩
theorem fin4 (hb : Below W.heap.size W w) (hk : Bq w g) (hg : W.heap.size ≤ g) (hq : Num w (.agg #[.bool m, .slice a n c]) z) : Below W.heap.size W (((w.setCell ⟨g, 0, none⟩ (.bool m')).setCell ⟨g, 1, none⟩ (.slice a' n' c')).alloc (.cells #[.bool m, .slice a n c] T)) ∧ NBox (((w.setCell ⟨g, 0, none⟩ (.bool m')).setCell ⟨g, 1, none⟩ (.slice a' n' c')).alloc (.cells #[.bool m, .slice a n c] T)) w.heap.size z := by
  have h2 := (hb.setCell (p := ⟨g, 0, none⟩) hg (.bool m')).setCell (p := ⟨g, 1, none⟩) hg (.slice a' n' c')
  refine ⟨h2.alloc h2.size _, ?_⟩
  have := NBox.new (T := T) (hq.setBx hk m' a' n' c')
  have e : ((w.setCell ⟨g, 0, none⟩ (.bool m')).setCell ⟨g, 1, none⟩ (.slice a' n' c')).heap.size = w.heap.size := by simp
  rwa [e] at this
theorem fin5 (hb : Below W.heap.size W w) (hk : Bq w g) (hk' : Bq w h) (hg : W.heap.size ≤ g) (hh : W.heap.size ≤ h) (hne : g ≠ h) (hq : Num w (.agg #[.bool m, .slice a n c]) z) :
    Below W.heap.size W ((((w.setCell ⟨g, 0, none⟩ (.bool m)).setCell ⟨g, 1, none⟩ (.slice a n c)).setCell ⟨h, 0, none⟩ (.bool m')).setCell ⟨h, 1, none⟩ (.slice a' n' c')) ∧ NBox ((((w.setCell ⟨g, 0, none⟩ (.bool m)).setCell ⟨g, 1, none⟩ (.slice a n c)).setCell ⟨h, 0, none⟩ (.bool m')).setCell ⟨h, 1, none⟩ (.slice a' n' c')) g z :=
  have h2 := (hb.setCell (p := ⟨g, 0, none⟩) hg (.bool m)).setCell (p := ⟨g, 1, none⟩) hg (.slice a n c)
  ⟨(h2.setCell (p := ⟨h, 0, none⟩) hh (.bool m')).setCell (p := ⟨h, 1, none⟩) hh (.slice a' n' c'), (NBox.self hk hq).other (hk'.other (Ne.symm hne) _ _) hne m' a' n' c'⟩
end
/-- What four boxes hold. -/
def H8 (g h : Nat) (v1 v2 v3 v4 v5 v6 v7 v8 : Value) (w' : World) : Prop :=
  w'.cell? ⟨g, 0, none⟩ = some v1 ∧ w'.cell? ⟨g, 1, none⟩ = some v2 ∧ w'.cell? ⟨g + 1, 0, none⟩ = some v3 ∧ w'.cell? ⟨g + 1, 1, none⟩ = some v4 ∧
    w'.cell? ⟨h, 0, none⟩ = some v5 ∧ w'.cell? ⟨h, 1, none⟩ = some v6 ∧ w'.cell? ⟨h + 1, 0, none⟩ = some v7 ∧ w'.cell? ⟨h + 1, 1, none⟩ = some v8
theorem H8.with {W w' : World} {g h : Nat} {v1 v2 v3 v4 v5 v6 v7 v8 : Value} (hs : ∀ w', Below W.heap.size W w' → H8 g h v1 v2 v3 v4 v5 v6 v7 v8 w') (hb : Below W.heap.size W w') :
    Below W.heap.size W w' ∧ w'.cell? ⟨g, 0, none⟩ = some v1 ∧ w'.cell? ⟨g, 1, none⟩ = some v2 ∧ w'.cell? ⟨g + 1, 0, none⟩ = some v3 ∧ w'.cell? ⟨g + 1, 1, none⟩ = some v4 ∧
    w'.cell? ⟨h, 0, none⟩ = some v5 ∧ w'.cell? ⟨h, 1, none⟩ = some v6 ∧ w'.cell? ⟨h + 1, 0, none⟩ = some v7 ∧ w'.cell? ⟨h + 1, 1, none⟩ = some v8 := ⟨hb, hs w' hb⟩

theorem Num.setStr {w : World} {b j : Nat} {o : List Value} {T : TypeId} {v : Value} {z : Int} (h : Num w v z) (hk : Blk w b o T) (ho : ∀ c ∈ o, ∃ t, c = .string t) (u : Value) : Num (w.setCell ⟨b, j, none⟩ u) v z := by
  obtain ⟨m1, a1, n1, c1, rfl, hm, hs⟩ := h
  refine ⟨m1, a1, n1, c1, rfl, hm, hs.set_other hk (fun c hc x => ?_) u⟩
  obtain ⟨t, rfl⟩ := ho c hc
  simp [eU]
end Go.Proofs.YtfhdmhifdaiehaaGreatDoor

namespace Go.Proofs.YtfhdmhifdaiehaaGreatDoor
open Go.RowKit
set_option maxRecDepth 100000

theorem res_good {s : ByteArray} {z : Int} (h : Good s z) : resV z = .tuple #[.string s, .int .i64 0] := by
  rw [resV_eq, resT_ok h.2, resK_ok h.2, ← h.eq]
theorem gm7 : Good ⟨#[45, 55]⟩ (-7) := good_lit (by decide) (by decide)
theorem g2 : Good ⟨#[50]⟩ 2 := good_lit (by decide) (by decide)
theorem gm4 : Good ⟨#[45, 52]⟩ (-4) := good_lit (by decide) (by decide)
theorem g7 : Good ⟨#[55]⟩ 7 := good_lit (by decide) (by decide)
theorem gm2 : Good ⟨#[45, 50]⟩ (-2) := good_lit (by decide) (by decide)
theorem gm1 : Good ⟨#[45, 49]⟩ (-1) := good_lit (by decide) (by decide)
theorem g12 : Good ⟨#[49, 50]⟩ 12 := good_lit (by decide) (by decide)
theorem g18 : Good ⟨#[49, 56]⟩ 18 := good_lit (by decide) (by decide)
theorem g6 : Good ⟨#[54]⟩ 6 := good_lit (by decide) (by decide)
theorem g4 : Good ⟨#[52]⟩ 4 := good_lit (by decide) (by decide)
theorem gm3 : Good ⟨#[45, 51]⟩ (-3) := good_lit (by decide) (by decide)
theorem gm243 : Good ⟨#[45, 50, 52, 51]⟩ (-243) := good_lit (by decide) (by decide)

theorem quo1 (w : World) (he : Env w) : Calls Tryz.prog 126 #[.string ⟨#[45, 55]⟩, .string ⟨#[50]⟩] w (Rets fun v w' => v = .tuple #[.string ⟨#[45, 52]⟩, .int .i64 0] ∧ Below w.heap.size w w') := by
  have := Quo_ok w _ _ _ _ gm7 g2 (by decide) he
  rwa [show Int.fdiv (-7) 2 = -4 by decide, res_good gm4] at this
theorem quo2 (w : World) (he : Env w) : Calls Tryz.prog 126 #[.string ⟨#[55]⟩, .string ⟨#[45, 50]⟩] w (Rets fun v w' => v = .tuple #[.string ⟨#[45, 52]⟩, .int .i64 0] ∧ Below w.heap.size w w') := by
  have := Quo_ok w _ _ _ _ g7 gm2 (by decide) he
  rwa [show Int.fdiv 7 (-2) = -4 by decide, res_good gm4] at this
theorem chk1 (w : World) : Calls Tryz.prog 56 #[.string ⟨#[48, 48, 55]⟩] w (Rets fun v w' => v = .int .i64 3 ∧ Below w.heap.size w w') := by
  have := check_any w ⟨#[48, 48, 55]⟩ (by decide)
  rwa [show chk (⟨#[48, 48, 55]⟩ : ByteArray).data.toList = 3 by decide] at this
theorem chk2 (w : World) : Calls Tryz.prog 56 #[.string ⟨#[45, 48]⟩] w (Rets fun v w' => v = .int .i64 3 ∧ Below w.heap.size w w') := by
  have := check_any w ⟨#[45, 48]⟩ (by decide)
  rwa [show chk (⟨#[45, 48]⟩ : ByteArray).data.toList = 3 by decide] at this
theorem chk3 (w : World) : Calls Tryz.prog 56 #[.string ⟨#[43, 49]⟩] w (Rets fun v w' => v = .int .i64 3 ∧ Below w.heap.size w w') := by
  have := check_any w ⟨#[43, 49]⟩ (by decide)
  rwa [show chk (⟨#[43, 49]⟩ : ByteArray).data.toList = 3 by decide] at this
end Go.Proofs.YtfhdmhifdaiehaaGreatDoor

namespace Go.Proofs.YtfhdmhifdaiehaaGreatDoor
open Go.RowKit
set_option maxRecDepth 100000

end Go.Proofs.YtfhdmhifdaiehaaGreatDoor

namespace Go.Proofs.YtfhdmhifdaiehaaGreatDoor
open Go.RowKit
set_option maxRecDepth 100000

end Go.Proofs.YtfhdmhifdaiehaaGreatDoor
