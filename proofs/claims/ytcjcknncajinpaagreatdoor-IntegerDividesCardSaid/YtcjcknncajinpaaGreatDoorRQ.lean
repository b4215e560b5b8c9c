/- The walk of the reference's division of digits: the loops. -/
import Derived.Test.YtcjcknncajinpaaGreatDoorRD
import Derived.Test.YtcjcknncajinpaaGreatDoorRS
namespace Go.Proofs.YtcjcknncajinpaaGreatDoor
open Go.RowKit
set_option maxRecDepth 100000

theorem Sl.uniqueI {w : World} {v : Value} {xs ys : List Nat} (h : Sl eI w v xs) (h' : Sl eI w v ys) : xs = ys := by
  obtain ⟨a, b, o, c, rfl, ha, -, -, -, hx⟩ := h
  obtain ⟨a', b', o', c', he, ha', -, -, -, hx'⟩ := h'
  injection he with e1 e2 e3
  refine List.ext_getElem e2 fun i h1 h2 => ?_
  have p1 := ha (by omega)
  have p2 := ha' (by omega)
  rw [← e1, p1] at p2
  injection p2 with p2
  injection p2 with q1 q2
  have c1 := hx.2 i h1
  have c2 := hx'.2 i h2
  rw [← q1, ← q2, c1] at c2
  simp [eI] at c2
  exact_mod_cast c2
open Classical in
/-- The natural number that a slice of digits reads as. -/
noncomputable def rdD (w : World) (v : Value) : Nat := if h : ∃ n, Sl eI w v (digs 10 n) then Classical.choose h else 0
theorem rdD_eq {w : World} {v : Value} {n : Nat} (h : Sl eI w v (digs 10 n)) : rdD w v = n := by
  have hex : ∃ n, Sl eI w v (digs 10 n) := ⟨n, h⟩
  unfold rdD
  rw [dif_pos hex]
  have := (Classical.choose_spec hex).uniqueI h
  have e := congrArg (val 10) this
  rwa [val_digs _ _ (by omega), val_digs _ _ (by omega)] at e
theorem own_lt {w : World} {base e g n cap : Nat} {xs : List Value} (h : w.ownsRow base e 1 (.slice (some ⟨g, 0, none⟩) n cap) n xs) : g < w.heap.size := by
  rcases h.2 with ⟨h0, _⟩ | ⟨g', cap', cur, he, _, hg, _⟩
  · cases h0
  · cases he; exact (Array.getElem?_eq_some_iff.1 hg).1
theorem trim_cons (x r : Nat) (hx : x < 10) : trim (x :: digs 10 r) = digs 10 (x + 10 * r) :=
  trim_of 10 _ _ (by omega) (by intro a ha; rcases List.mem_cons.1 ha with rfl | h; exact hx; exact digs_lt 10 r (by omega) a h) (by rw [val, val_digs _ _ (by omega)])
theorem zeros_val (n : Nat) : val 10 (List.replicate n 0) = 0 := by
  induction n with
  | zero => rfl
  | succ n ih => rw [List.replicate_succ, val, ih]

set_option maxHeartbeats 4000000 in
theorem rdivided_any (w : World) (x y : Value) (m n : Nat) (hx : Sl eI w x (digs 10 m)) (hy : Sl eI w y (digs 10 n)) (hl : (digs 10 m).length ≤ 1000000) (hl' : (digs 10 n).length ≤ 900000) (hn : 0 < n) :
    Calls Tryz.prog 64 #[x, y] w (Rets fun v w' => ∃ q a k c, v = .tuple #[q, .slice a k c] ∧ Sl eI w' q (digs 10 (m / n)) ∧ Sl eI w' (.slice a k c) (digs 10 (m % n)) ∧ Below w.heap.size w w') := by
  have ba := digs_lt 10 m (by omega)
  have va := val_digs 10 m (by omega)
  generalize digs 10 m = xs at *
  have HY := Lib.hid hy; have HN := Lib.hid hn; have HL' := Lib.hid hl'
  obtain ⟨a, b, o, c, rfl, hi, hp, -, -⟩ := hx.open elemInt
  obtain ⟨a', b', o', c', rfl, -, -, -, -⟩ := hy.open elemInt
  have BX := Lib.hid ba; have VA := Lib.hid va
  clear ba va hx hy hn hl'
  go_enter Tryz.func64, Tryz.ntmps64
  go_wp2_with (at_make; refine mkN elemInt rfl _ _ rfl xs.length rfl rfl (by omega) (by omega) (by omega) (by unfold maxLen; omega) (Below.refl _ _) (Nat.le_refl _) rfl ?_; intro w1 hown hb hb2; clear hb2)
  have hown := ownsRow_cast hown rfl (show List.replicate xs.length (Value.int .i64 0) = (List.replicate xs.length 0).map eI by simp [eI])
  go_loopw [7, 8] (fun rv i wr => ∃ (k q r : Nat) (cur : List Nat), k ≤ xs.length ∧ i = .int .i64 ((k : Int) - 1) ∧ Hid (Sl eI wr rv (digs 10 r)) ∧ Hid (From (w.heap.size + 1) rv) ∧ Hid (r < n) ∧ Hid (val 10 (xs.drop k) = q * n + r) ∧ Hid (∀ a ∈ cur, a < 10) ∧ Hid (cur.length = xs.length) ∧
      Hid (∀ j, j < k → cur.getD j 0 = 0) ∧ Hid (val 10 (cur.drop k) = q) ∧ wr.ownsRow w.heap.size 3 1 (.slice (some ⟨w.heap.size, 0, none⟩) xs.length xs.length) xs.length (cur.map eI) ∧ Below w.heap.size w wr) (fun _ i _ => (intOf i + 1).toNat)
  case atStart =>
    refine ⟨xs.length, 0, 0, _, Nat.le_refl _, rfl, Lib.hid ?_, Lib.hid From.none, HN, Lib.hid ?_, Lib.hid ?_, Lib.hid ?_, Lib.hid ?_, Lib.hid ?_, hown, hb⟩
    · rw [digs_zero]; exact Sl.nil
    · rw [List.drop_length]; simp [val]
    · intro a ha; rw [List.eq_of_mem_replicate ha]; omega
    · simp
    · intro j hj; rw [List.getD_eq_getElem?_getD, List.getElem?_replicate]; split <;> rfl
    · rw [List.drop_of_length_le (by simp)]; rfl
  case round =>
    clear hown hb
    obtain ⟨k, q, r, cur, hk, rfl, hR, hF, hrn, hV, HC, HL, HZ, HQ, hown, hb⟩ := hrel
    rcases k with _ | k
    · obtain ⟨ar, nr, cr, rfl⟩ := hR.out.shape
      have hq : m / n = q ∧ m % n = r := (Nat.div_mod_unique HN.out).2 ⟨by have := hV.out; rw [List.drop_zero, VA.out] at this; rw [this, Nat.mul_comm n q, Nat.add_comm], hrn.out⟩
      have HQ2 := Lib.hid hq
      have HQ3 : Hid (trim cur = digs 10 q) := Lib.hid (trim_of 10 cur _ (by omega) HC.out (by have := HQ.out; rwa [List.drop_zero] at this))
      clear hq
      go_wp2_with fail
      refine (cut_any _ _ cur (Sl.ofOwns hown)).mono ?_
      rintro e w2 ⟨v2, rfl, hs2, rfl⟩
      have HS2 := Lib.hid hs2; clear hs2
      go_wp2
      go_ret2
      exact ⟨_, rfl, _, _, _, _, rfl, by rw [HQ2.out.1, ← HQ3.out]; exact HS2.out, by rw [HQ2.out.2]; exact hR.out, hb⟩
    · have ek : (((k + 1 : Nat) : Int) - 1) = (k : Int) := by omega
      rw [ek]
      clear ek
      have hkl : k < xs.length := by omega
      have hc1 : wr.cell? ⟨b, o + k, none⟩ = some (.int .i64 (xs[k] : Nat)) := hp.at hb (Nat.le_refl _) k hkl
      have hbx := BX.out xs[k] (List.getElem_mem hkl)
      have hvc := val_drop_cons xs k hkl
      obtain ⟨d, hd⟩ : ∃ d, d = xs[k] := ⟨_, rfl⟩
      rw [← hd] at hc1 hbx hvc
      have HT := Lib.hid (trim_cons d r hbx)
      have HVC := Lib.hid hvc; have HBX := Lib.hid hbx
      have hrl : (digs 10 r).length ≤ 1000000 := Nat.le_trans (digs_len_mono 10 (by omega) (Nat.le_of_lt hrn.out)) (Nat.le_trans HL'.out (by omega))
      have hog := own_lt hown
      obtain ⟨ar, nr, cr, rfl⟩ := hR.out.shape
      have HOG := Lib.hid hog
      clear hd hvc hbx hog
      go_wp2_with (first
        | (at_builtin; refine appS elemInt rfl _ _ rfl rfl rfl hR.out (Below.refl _ wr) (Nat.le_refl _) (fun y => by simp [eI, Value.oneCell']) (by omega) (by unfold maxLen; omega) ?_; intro v' w2 howna hb2; have HOA := Lib.hid howna; clear howna)
        | (go_at_call 75; (with_reducible refine (cut_from _ _ (d :: digs 10 r) (Sl.ofOwns HOA.out)).mono ?_); rintro e w3 ⟨v3, rfl, hs3, hf3, rfl⟩; have HS3 := Lib.hid hs3; have HF3 := Lib.hid ((hf3 _ (From.ofOwns HOA.out)).mono HOG.out); clear hs3 hf3))
      have hown2 := own_below hown hb2 (Nat.le_refl _)
      have hb3 := hb.trans (hb2.mono hb.size)
      rw [HT.out] at HS3
      go_loopw [7] (fun rv wr => ∃ (t r' : Nat) (cur : List Nat), Hid (Sl eI wr rv (digs 10 r')) ∧ Hid (From (w.heap.size + 1) rv) ∧ Hid (t * n + r' = d + 10 * r) ∧ Hid (∀ a ∈ cur, a < 10) ∧ Hid (cur.length = xs.length) ∧
        Hid (∀ j, j < k → cur.getD j 0 = 0) ∧ Hid (cur.getD k 0 = t) ∧ Hid (val 10 (cur.drop (k + 1)) = q) ∧ wr.ownsRow w.heap.size 3 1 (.slice (some ⟨w.heap.size, 0, none⟩) xs.length xs.length) xs.length (cur.map eI) ∧ Below w.heap.size w wr) (fun rv wr => rdD wr rv)
      case atStart => exact ⟨0, d + 10 * r, cur, HS3, HF3, Lib.hid (by omega), HC, HL, Lib.hid (fun j hj => HZ.out j (by omega)), Lib.hid (HZ.out k (by omega)), HQ, hown2, hb3⟩
      case round =>
        clear hown hb hown2 hb3 HC HL HZ HQ HS3 HF3 HT HOG HOA hb2 hc1 hrl hR hF
        obtain ⟨t, r', cur, hR, hF, hE, HC, HL, HZ, HK, HQ, hown, hb⟩ := hrel
        obtain ⟨ar, nr, cr, rfl⟩ := hR.out.shape
        have hrl : (digs 10 r').length ≤ 1000000 := by
          have h1 : r' ≤ 10 * n + 9 := by have := hE.out; have := HBX.out; have := hrn.out; omega
          have h2 := digs_len_mono 10 (by omega) h1
          have h3 := digs_len_add 10 (10 * n) 9 (by omega)
          have h4 := digs_len_mul 10 10 n (by omega)
          have h5 : (digs 10 10).length ≤ 2 := (digs_len 10 10 2 (by omega)).2 (by omega)
          have h6 : (digs 10 9).length ≤ 2 := (digs_len 10 9 2 (by omega)).2 (by omega)
          have := HL'.out
          omega
        by_cases hlt : r' < n
        · have HO := Lib.hid (order_lt hlt)
          have HLT := Lib.hid hlt
          clear hlt
          go_wp2_with (go_at_call 73; (with_reducible refine (rorder_any _ _ _ r' n hR.out (HY.out.below hb (Nat.le_refl _)) (by omega)).mono ?_); rintro e w5 ⟨v, rfl, rfl, hb5⟩; rw [HO.out])
          go_roundw
          case rel =>
            refine ⟨k, 10 * q + t, r', cur, by omega, rfl, Lib.hid (hR.out.below hb5 (Nat.le_refl _)), hF, HLT, Lib.hid ?_, HC, HL, HZ, Lib.hid ?_, own_below hown hb5 (Nat.le_refl _), hb.trans (hb5.mono hb.size)⟩
            · rw [HVC.out, hV.out, Nat.add_mul, Nat.mul_assoc]; have := hE.out; omega
            · have hkc : k < cur.length := by rw [HL.out]; exact hkl
              rw [val_drop_cons cur k hkc, HQ.out]
              have := HK.out
              simp [hkc] at this
              rw [this]; omega
          case measure => simp [intOf]
        · have hge : n ≤ r' := by omega
          obtain ⟨u, hu, hu0⟩ : ∃ u, ((r' : Int) - n).sign = u ∧ 0 ≤ u := ⟨_, rfl, by
            rcases Nat.lt_or_eq_of_le hge with h | h
            · rw [order_gt h]; omega
            · rw [order_eq h.symm]; omega⟩
          have ht8 : t ≤ 8 := by
            rcases Nat.lt_or_ge t 9 with h | h
            · omega
            · have h1 := Nat.mul_le_mul_right n h; have := hE.out; have := HBX.out; have := hrn.out; omega
          have hkc : k < cur.length := by rw [HL.out]; exact hkl
          have hK : cur[k] = t := by have := HK.out; simpa [hkc] using this
          have HU := Lib.hid hu; have HGE := Lib.hid hge; have HCK := Lib.hid hK; have HOW := Lib.hid hown; have HKC := Lib.hid hkc
          have hog := own_lt hown
          have HOG := Lib.hid hog
          clear hu hge hlt hK hown hog
          go_wp2_with (first
            | (go_at_call 73; (with_reducible refine (rorder_any _ _ _ r' n hR.out (HY.out.below hb (Nat.le_refl _)) hrl).mono ?_); rintro e w5 ⟨v, rfl, rfl, hb5⟩; rw [HU.out]; have b5 := hb.trans (hb5.mono hb.size))
            | (go_at_call 74; (with_reducible refine (taken_from _ _ _ r' n (hR.out.below hb5 (Nat.le_refl _)) (HY.out.below b5 (Nat.le_refl _)) hrl HGE.out).mono ?_); rintro e w6 ⟨v6, rfl, hs6, hf6, hb6⟩; have HS6 := Lib.hid hs6; have HF6 := Lib.hid (hf6.mono (Nat.lt_of_lt_of_le HOG.out hb5.size)); have b6 := b5.trans (hb6.mono b5.size); have HOK := Lib.hid (own_below (own_below HOW.out hb5 (Nat.le_refl _)) hb6 (Nat.le_refl _)); have hcu : w6.cell? ⟨w.heap.size, k, none⟩ = some (.int .i64 (t : Nat)) := (by have h7 := (own_get HOK.out HKC.out).1; rw [HCK.out] at h7; exact h7); have hfr := (own_get HOK.out HKC.out).2; clear hs6 hf6))
          go_roundw
          case rel =>
            have R := fun (q : Value) (hq : q = eI (t + 1)) => own_put HOK.out b6 (Nat.le_refl _) k (t + 1) q hq
            refine ⟨t + 1, r' - n, cur.set k (t + 1), Lib.hid (HS6.out.setFrom HF6.out (Nat.lt_succ_self _)), HF6, Lib.hid ?_, Lib.hid ?_, Lib.hid ?_, Lib.hid ?_, Lib.hid ?_, Lib.hid ?_, (R _ ?_).1, (R _ ?_).2⟩
            · rw [Nat.add_mul]; have := hE.out; have := HGE.out; omega
            · intro a ha
              rcases List.mem_or_eq_of_mem_set ha with h | h
              · exact HC.out a h
              · omega
            · rw [List.length_set]; exact HL.out
            · intro j hj
              have := HZ.out j hj
              rw [List.getD_eq_getElem?_getD] at this ⊢
              rw [List.getElem?_set_ne (by omega)]; exact this
            · simp [HKC.out]
            · rw [List.drop_set_of_lt (by omega)]; exact HQ.out
            · exact congrArg (Value.int .i64) (by simp)
            · exact congrArg (Value.int .i64) (by simp)
          case measure => rw [rdD_eq (HS6.out.setFrom HF6.out (Nat.lt_succ_self _)), rdD_eq hR.out]; have := HGE.out; have := HN.out; omega
end Go.Proofs.YtcjcknncajinpaaGreatDoor
