/- The walks of the reference's sums and differences of digits. The walks of the reference's differences and products of digits. -/
import Derived.Test.YtcjcknncajinpaaGreatDoorR2
import Derived.Test.YtcjcknncajinpaaGreatDoorIC
import Derived.Test.YtcjcknncajinpaaGreatDoorIB
namespace Go.Proofs.YtcjcknncajinpaaGreatDoor
open Go.RowKit
set_option maxRecDepth 100000

theorem digit_q (w : World) (v : Value) (xs : List Nat) (i : Nat) (hv : Sl eI w v xs) :
    Calls Tryz.prog 88 #[v, .int .i64 i] w fun e w' => e = .returned (.int .i64 (xs.getD i 0 : Nat)) ∧ w' = w :=
  (digit_any w v xs i hv).mono fun e w' ⟨v, he, hv, hw⟩ => ⟨by rw [he, hv], hw.symm⟩
theorem val_drop_zero (a : List Nat) (i : Nat) (h : a.length ≤ i) : val 10 (a.drop i) = 0 := by rw [List.drop_of_length_le h]; rfl
set_option maxHeartbeats 1000000 in
theorem added_any (w : World) (x y : Value) (m n : Nat) (hx : Sl eI w x (digs 10 m)) (hy : Sl eI w y (digs 10 n)) (hl : (digs 10 m).length ≤ 1000000) (hl' : (digs 10 n).length ≤ 1000000) :
    Calls Tryz.prog 72 #[x, y] w (Rets fun v w' => Sl eI w' v (digs 10 (m + n)) ∧ Below w.heap.size w w') := by
  have hNl := digs_len_add 10 m n (by omega)
  have ba := digs_lt 10 m (by omega)
  have bb := digs_lt 10 n (by omega)
  have va := val_digs 10 m (by omega)
  have vb := val_digs 10 n (by omega)
  have da := val_digs_drop m
  have db := val_digs_drop n
  generalize digs 10 m = xs at *
  generalize digs 10 n = ys at *
  have HX := Lib.hid hx; have HY := Lib.hid hy
  obtain ⟨ad, bl, o, c, rfl, hi, hp, -, -⟩ := hx.open elemInt
  obtain ⟨a', b', o', c', rfl, hi', hq, -, -⟩ := hy.open elemInt
  have BX := Lib.hid ba; have BY := Lib.hid bb; have VA := Lib.hid va; have VB := Lib.hid vb; have DA := Lib.hid da; have DB := Lib.hid db; have HNL := Lib.hid hNl
  clear ba bb va vb da db hx hy hNl hp hq hi hi'
  go_enter Tryz.func72, Tryz.ntmps72
  go_wp2
  go_loopw [5, 6, 7] (fun out cy i wr => ∃ (k c : Nat) (os : List Nat), i = .int .i64 k ∧ cy = .int .i64 c ∧ c ≤ 1 ∧ Hid (os.length = k) ∧ Hid (digs 10 (m + n) = os ++ digs 10 (c + val 10 (xs.drop k) + val 10 (ys.drop k))) ∧ wr.ownsRow w.heap.size 3 1 out os.length (os.map eI) ∧ Below w.heap.size w wr) (fun _ _ i _ => 1000002 - (intOf i).toNat)
  case atStart => exact ⟨0, 0, [], rfl, rfl, by omega, Lib.hid rfl, Lib.hid (by simp [VA.out, VB.out]), World.ownsRow_nil _ _ _ _, Below.refl _ _⟩
  case round =>
    obtain ⟨k, cy, os, rfl, rfl, hcy, hol, hv, hown, hb⟩ := hrel
    have hbs := hb.size
    have hkl : k ≤ 1000001 := by
      have h1 := congrArg List.length hv.out
      rw [List.length_append, hol.out] at h1
      have := HNL.out; omega
    by_cases hR : 0 < cy + val 10 (xs.drop k) + val 10 (ys.drop k)
    · have hk2 : k ≤ 1000000 := by
        have h1 := congrArg List.length hv.out
        rw [List.length_append, hol.out] at h1
        have h2 : 0 < (digs 10 (cy + val 10 (xs.drop k) + val 10 (ys.drop k))).length := by rw [List.length_pos_iff, Ne, digs_nil (by omega)]; omega
        have := HNL.out; omega
      have hcase : k < xs.length ∨ (¬ k < xs.length ∧ k < ys.length) ∨ (¬ k < xs.length ∧ ¬ k < ys.length ∧ 0 < cy) := by
        by_cases h1 : k < xs.length
        · exact .inl h1
        · by_cases h2 : k < ys.length
          · exact .inr (.inl ⟨h1, h2⟩)
          · rw [val_drop_zero _ _ (by omega), val_drop_zero _ _ (by omega)] at hR
            exact .inr (.inr ⟨h1, h2, by omega⟩)
      have HS := Lib.hid (added_step xs ys k cy os (m + n) hv.out hR)
      obtain ⟨d, hd⟩ : ∃ d, xs.getD k 0 = d := ⟨_, rfl⟩
      obtain ⟨d', hd'⟩ : ∃ d, ys.getD k 0 = d := ⟨_, rfl⟩
      have hdl : d < 10 := by rw [← hd]; exact getD_lt BX.out (by omega)
      have hdl' : d' < 10 := by rw [← hd']; exact getD_lt BY.out (by omega)
      have HD := Lib.hid hd; have HD' := Lib.hid hd'
      have hol2 : os.length ≤ 1000000 := by rw [hol.out]; exact hk2
      clear hR hd hd'
      rcases hcase with h1 | ⟨h1, h2⟩ | ⟨h1, h2, h3⟩
      all_goals
        go_wp2_with (first
          | (go_at_call_of 88 (Value.slice ad xs.length c); (with_reducible refine (digit_any _ _ xs k (HX.out.below hb (Nat.le_refl _))).mono ?_); rintro e w2 ⟨v, rfl, rfl, rfl⟩; rw [HD.out])
          | (go_at_call_of 88 (Value.slice a' ys.length c'); (with_reducible refine (digit_any _ _ ys k (HY.out.below hb (Nat.le_refl _))).mono ?_); rintro e w2 ⟨v, rfl, rfl, rfl⟩; rw [HD'.out])
          | (at_builtin; refine app1 elemInt rfl _ _ rfl rfl rfl hown hb (Nat.le_refl _) hbs rfl (by simp [Value.oneCell']) (by omega) (by unfold maxLen; omega) ?_; intro v' w2 hown' hb'))
        have ev : ((cy : Int) + ((d : Int) + (d' : Int))) % 10 = (((cy + (d + d')) % 10 : Nat) : Int) := by omega
        rw [ev] at hown'
        go_roundw
        case rel => exact ⟨k + 1, (cy + (d + d')) / 10, os ++ [(cy + (d + d')) % 10], by go_num, congrArg (Value.int .i64) (by omega), by omega, Lib.hid (by simp [hol.out]), Lib.hid (by have := HS.out; rw [HD.out, HD'.out] at this; exact this), by simpa [eI] using hown', hb'⟩
        case measure => simp [intOf]; omega
    · have hc0 : cy = 0 := by omega
      have h1 : ¬ k < xs.length := fun h => by have := (DA.out k).2 h; omega
      have h2 : ¬ k < ys.length := fun h => by have := (DB.out k).2 h; omega
      have hfin : digs 10 (m + n) = os := by
        have := hv.out
        rw [show cy + val 10 (xs.drop k) + val 10 (ys.drop k) = 0 by omega, digs_zero, List.append_nil] at this
        exact this
      have HF := Lib.hid hfin
      subst hc0
      clear hR hfin
      go_wp2
      go_ret
      exact ⟨_, rfl, by rw [HF.out]; exact Sl.ofOwns hown, hb⟩
end Go.Proofs.YtcjcknncajinpaaGreatDoor
namespace Go.Proofs.YtcjcknncajinpaaGreatDoor
open Go.RowKit
set_option maxRecDepth 100000

theorem digit_d (xs : List Nat) (i d : Nat) (h : xs.getD i 0 = d) (w : World) (v : Value) (hv : Sl eI w v xs) :
    Calls Tryz.prog 88 #[v, .int .i64 i] w fun e w' => e = .returned (.int .i64 (d : Nat)) ∧ w' = w := by
  have := digit_q w v xs i hv; rwa [h] at this
set_option maxHeartbeats 1000000 in
theorem taken_any (w : World) (x y : Value) (m n : Nat) (hx : Sl eI w x (digs 10 m)) (hy : Sl eI w y (digs 10 n)) (hl : (digs 10 m).length ≤ 1000000) (hmn : n ≤ m) :
    Calls Tryz.prog 74 #[x, y] w (Rets fun v w' => Sl eI w' v (digs 10 (m - n)) ∧ Below w.heap.size w w') := by
  have hle := digs_len_mono 10 (by omega) hmn
  have ba := digs_lt 10 m (by omega)
  have bb := digs_lt 10 n (by omega)
  have va := val_digs 10 m (by omega)
  have vb := val_digs 10 n (by omega)
  generalize digs 10 m = xs at *
  generalize digs 10 n = ys at *
  have HX := Lib.hid hx; have HY := Lib.hid hy
  obtain ⟨ad, bl, o, c, rfl, hi, hp, -, -⟩ := hx.open elemInt
  obtain ⟨a', b', o', c', rfl, hi', hq, -, -⟩ := hy.open elemInt
  have BX := Lib.hid ba; have BY := Lib.hid bb; have VA := Lib.hid va; have VB := Lib.hid vb; have HLE := Lib.hid hle; have HMN := Lib.hid hmn
  clear ba bb va vb hx hy hle hq hi' hmn
  go_enter Tryz.func74, Tryz.ntmps74
  go_wp2
  go_loopw [5, 6, 7] (fun out bw i wr => ∃ (k c : Nat) (os : List Nat), k ≤ xs.length ∧ i = .int .i64 k ∧ bw = .int .i64 c ∧ c ≤ 1 ∧ Hid (os.length = k) ∧ Hid (∀ a ∈ os, a < 10) ∧
      Hid (val 10 (xs.take k) + 10 ^ k * c = val 10 os + val 10 (ys.take k)) ∧ wr.ownsRow w.heap.size 3 1 out os.length (os.map eI) ∧ Below w.heap.size w wr) (fun _ _ i _ => xs.length - (intOf i).toNat)
  case atStart => exact ⟨0, 0, [], by omega, rfl, rfl, by omega, Lib.hid rfl, Lib.hid (by simp), Lib.hid (by simp [val]), World.ownsRow_nil _ _ _ _, Below.refl _ _⟩
  case round =>
    obtain ⟨k, cy, os, hk, rfl, rfl, hcy, hol, hos, hv, hown, hb⟩ := hrel
    have hbs := hb.size
    by_cases hlt : k < xs.length
    · have hbp := BX.out xs[k] (List.getElem_mem hlt)
      have h1 : wr.cell? ⟨bl, o + k, none⟩ = some (.int .i64 (xs[k] : Nat)) := hp.at hb (Nat.le_refl _) k hlt
      have hgx : xs.getD k 0 = xs[k] := by simp [hlt]
      obtain ⟨d, hd⟩ : ∃ d, d = xs[k] := ⟨_, rfl⟩
      obtain ⟨d', hd'⟩ : ∃ d, ys.getD k 0 = d := ⟨_, rfl⟩
      have hdl' : d' < 10 := by rw [← hd']; exact getD_lt BY.out (by omega)
      rw [← hd] at h1 hbp hgx
      have HGX := Lib.hid hgx
      have HD' := Lib.hid hd'
      have HDG := Lib.hid (digit_d ys k d' hd')
      have hol2 : os.length ≤ 1000000 := by rw [hol.out]; omega
      clear hd hd' hgx
      have hbk := hb
      by_cases hneg : d < cy + d'
      · have HR := Lib.hid (less_step 10 xs ys os k cy (d + 10 - cy - d') 1 hol.out hos.out hv.out (by omega) (by rw [HGX.out, HD'.out]; omega))
        go_wp2
        go_quiet ((go_at_call 88; exact Calls.quiet_of_same (HDG.out _ _ (HY.out.below (below_drewN hb _) (Nat.le_refl _)))))
        have hbk := below_drewN hb nq
        have hok := own_drewN hown nq
        have hbs2 : w.heap.size ≤ (wr.drewN nq).heap.size := hbk.size
        clear hown hb hbs
        go_wp2_with (at_builtin; refine app1 elemInt rfl _ _ rfl rfl rfl hok hbk (Nat.le_refl _) hbs2 rfl (by simp [Value.oneCell']) (by omega) (by unfold maxLen; omega) ?_; intro v' w2 hown' hb')
        have ev : (d : Int) - d' - cy + 10 = ((d + 10 - cy - d' : Nat) : Int) := by omega
        rw [ev] at hown'
        go_roundw
        case rel => exact ⟨k + 1, 1, os ++ [d + 10 - cy - d'], by omega, by go_num, rfl, by omega, Lib.hid (by simp [hol.out]), Lib.hid HR.out.2.1, Lib.hid HR.out.2.2, by simpa [eI] using hown', hb'⟩
        case measure => simp [intOf]; omega
      · have HR := Lib.hid (less_step 10 xs ys os k cy (d - cy - d') 0 hol.out hos.out hv.out (by omega) (by rw [HGX.out, HD'.out]; omega))
        go_wp2
        go_quiet ((go_at_call 88; exact Calls.quiet_of_same (HDG.out _ _ (HY.out.below (below_drewN hb _) (Nat.le_refl _)))))
        have hbk := below_drewN hb nq
        have hok := own_drewN hown nq
        have hbs2 : w.heap.size ≤ (wr.drewN nq).heap.size := hbk.size
        clear hown hb hbs
        go_wp2_with (at_builtin; refine app1 elemInt rfl _ _ rfl rfl rfl hok hbk (Nat.le_refl _) hbs2 rfl (by simp [Value.oneCell']) (by omega) (by unfold maxLen; omega) ?_; intro v' w2 hown' hb')
        have ev : (d : Int) - d' - cy = ((d - cy - d' : Nat) : Int) := by omega
        rw [ev] at hown'
        go_roundw
        case rel => exact ⟨k + 1, 0, os ++ [d - cy - d'], by omega, by go_num, rfl, by omega, Lib.hid (by simp [hol.out]), Lib.hid HR.out.2.1, Lib.hid HR.out.2.2, by simpa [eI] using hown', hb'⟩
        case measure => simp [intOf]; omega
    · obtain rfl : k = xs.length := by omega
      have hfin : val 10 os = m - n := by
        have h1 := hv.out
        rw [List.take_of_length_le (Nat.le_refl _), List.take_of_length_le HLE.out, VA.out, VB.out] at h1
        have h2 := val_lt 10 os hos.out
        rw [hol.out] at h2
        have h3 := HMN.out
        rcases (show cy = 0 ∨ cy = 1 by omega) with rfl | rfl <;> omega
      have HF := Lib.hid hfin; clear hfin
      go_wp2_with fail
      refine (cut_any _ _ os (Sl.ofOwns hown)).mono ?_
      rintro e w2 ⟨v2, rfl, hs2, rfl⟩
      have HS2 := Lib.hid hs2; clear hs2
      go_wp2
      go_ret
      exact ⟨_, rfl, by rw [← trim_of 10 os _ (by omega) hos.out HF.out]; exact HS2.out, hb⟩
end Go.Proofs.YtcjcknncajinpaaGreatDoor
