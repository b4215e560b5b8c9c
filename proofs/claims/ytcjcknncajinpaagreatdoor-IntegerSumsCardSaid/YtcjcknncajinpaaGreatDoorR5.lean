/- The walk of the reference's product of digits. -/
import Derived.Test.YtcjcknncajinpaaGreatDoorR4
namespace Go.Proofs.YtcjcknncajinpaaGreatDoor
open Go.RowKit
set_option maxRecDepth 100000

theorem dig_bound {a b c d : Nat} (ha : a < 10) (hb : b < 10) (hc : c < 10) (hd : d < 10) : c + (d + a * b) < 100 ∧ a * b ≤ 81 := by
  have := Nat.mul_le_mul (show a ≤ 9 by omega) (show b ≤ 9 by omega)
  omega
set_option maxHeartbeats 2000000 in
theorem multiplied_any (w : World) (x y : Value) (m n : Nat) (hx : Sl eI w x (digs 10 m)) (hy : Sl eI w y (digs 10 n)) (hl : (digs 10 m).length ≤ 1000000) (hl' : (digs 10 n).length ≤ 1000000) :
    Calls Tryz.prog 71 #[x, y] w (Rets fun v w' => Sl eI w' v (digs 10 (m * n)) ∧ Below w.heap.size w w') := by
  have ba := digs_lt 10 m (by omega)
  have bb := digs_lt 10 n (by omega)
  have va := val_digs 10 m (by omega)
  have vb := val_digs 10 n (by omega)
  generalize digs 10 m = xs at *
  generalize digs 10 n = ys at *
  have HY := Lib.hid hy
  obtain ⟨a, b, o, c, rfl, hi, hp, -, -⟩ := hx.open elemInt
  obtain ⟨a', b', o', c', rfl, hi', hq, -, -⟩ := hy.open elemInt
  have BX := Lib.hid ba; have BY := Lib.hid bb; have VA := Lib.hid va; have VB := Lib.hid vb
  clear ba bb va vb hx hy hq hi'
  go_enter Tryz.func71, Tryz.ntmps71
  go_wp2_with (at_make; refine mkN elemInt rfl _ _ rfl (xs.length + ys.length) rfl rfl (by omega) (by omega) (by omega) (by unfold maxLen; omega) (Below.refl _ _) (Nat.le_refl _) rfl ?_; intro w1 hown hb hb2; clear hb2)
  have hown := ownsRow_cast hown rfl (show List.replicate (xs.length + ys.length) (Value.int .i64 0) = (List.replicate (xs.length + ys.length) 0).map eI by simp [eI])
  go_loopw [6] (fun i wr => ∃ (i' : Nat) (cur : List Nat), i' ≤ xs.length ∧ i = .int .i64 i' ∧ Hid (∀ a ∈ cur, a < 10) ∧ Hid (cur.length = xs.length + ys.length) ∧ Hid (∀ j, i' + ys.length ≤ j → cur.getD j 0 = 0) ∧
      Hid (val 10 cur = val 10 (xs.take i') * val 10 ys) ∧ wr.ownsRow w.heap.size 3 1 (.slice (some ⟨w.heap.size, 0, none⟩) (xs.length + ys.length) (xs.length + ys.length)) (xs.length + ys.length) (cur.map eI) ∧ Below w.heap.size w wr) (fun i _ => xs.length - (intOf i).toNat)
  case atStart =>
    refine ⟨0, _, by omega, rfl, Lib.hid ?_, Lib.hid ?_, Lib.hid ?_, Lib.hid ?_, hown, hb⟩
    · intro a ha; rw [List.eq_of_mem_replicate ha]; omega
    · simp
    · intro j hj; rw [List.getD_eq_getElem?_getD, List.getElem?_replicate]; split <;> rfl
    · have : ∀ n, val 10 (List.replicate n 0) = 0 := fun n => by induction n with
        | zero => rfl
        | succ n ih => rw [List.replicate_succ, val, ih]
      rw [this]; simp [val]
  case round =>
    clear hown hb
    obtain ⟨i', cur, hi0, rfl, HC, HL, HZ, HV, hown, hb⟩ := hrel
    by_cases hlt : i' < xs.length
    · have hbp := BX.out xs[i'] (List.getElem_mem hlt)
      have hgx : Hid (xs.getD i' 0 = xs[i']) := Lib.hid (by simp [hlt])
      go_wp2
      go_loopw [7, 8] (fun cy k wr => ∃ (k' c : Nat) (cur : List Nat), k' ≤ ys.length + 1 ∧ k = .int .i64 k' ∧ cy = .int .i64 c ∧ c < 10 ∧ Hid (k' = ys.length + 1 → c = 0) ∧ Hid (∀ a ∈ cur, a < 10) ∧ Hid (cur.length = xs.length + ys.length) ∧ Hid (∀ j, i' + max k' ys.length ≤ j → cur.getD j 0 = 0) ∧
        Hid (val 10 cur + 10 ^ (i' + k') * c = val 10 (xs.take i') * val 10 ys + 10 ^ i' * (xs.getD i' 0 * val 10 (ys.take k'))) ∧
        wr.ownsRow w.heap.size 3 1 (.slice (some ⟨w.heap.size, 0, none⟩) (xs.length + ys.length) (xs.length + ys.length)) (xs.length + ys.length) (cur.map eI) ∧ Below w.heap.size w wr) (fun _ k _ => ys.length + 2 - (intOf k).toNat)
      case atStart => exact ⟨0, 0, cur, by omega, rfl, rfl, by omega, Lib.hid (fun _ => rfl), HC, HL, Lib.hid (by simpa using HZ.out), Lib.hid (by rw [HV.out]; simp [val]), hown, hb⟩
      case round =>
        clear hown hb HC HL HZ HV
        obtain ⟨k', cy, cur, hk0, rfl, rfl, hcy, hend, HC, HL, HZ, HV, hown, hb⟩ := hrel
        by_cases hgo : k' < ys.length ∨ 0 < cy
        · have hk1 : k' ≤ ys.length := by
            rcases hgo with h | h
            · omega
            · rcases Nat.lt_or_ge ys.length k' with h2 | h2
              · have := hend.out (by omega); omega
              · exact h2
          have hik : i' + k' < cur.length := by rw [HL.out]; omega
          have hcu : wr.cell? ⟨w.heap.size, i' + k', none⟩ = some (.int .i64 (cur[i' + k'] : Nat)) := (own_get hown hik).1
          have hc1 : wr.cell? ⟨b, o + i', none⟩ = some (.int .i64 (xs[i'] : Nat)) := hp.at hb (Nat.le_refl _) i' hlt
          have hbc := HC.out cur[i' + k'] (List.getElem_mem hik)
          have hgc : cur.getD (i' + k') 0 = cur[i' + k'] := by simp [hik]
          obtain ⟨d, hd⟩ : ∃ d, ys.getD k' 0 = d := ⟨_, rfl⟩
          have hbq : d < 10 := by rw [← hd]; exact getD_lt BY.out (by omega)
          have HDG := Lib.hid (digit_d ys k' d hd)
          obtain ⟨xa, hxa⟩ : ∃ d, d = xs[i'] := ⟨_, rfl⟩
          obtain ⟨u, hu⟩ : ∃ d, d = cur[i' + k'] := ⟨_, rfl⟩
          rw [← hu] at hcu hbc hgc
          have hxb : xa < 10 := by rw [hxa]; exact hbp
          rw [← hxa] at hc1
          have hbd := dig_bound hxb hbq hcy hbc
          have hm1 : (xa : Int) * (d : Int) ≤ 81 := by have := hbd.2; rw [← Int.natCast_mul]; omega
          have hm0 : 0 ≤ (xa : Int) * (d : Int) := by rw [← Int.natCast_mul]; omega
          have hs99 := hbd.1
          have HS : Hid ((∀ a ∈ cur.set (i' + k') ((cy + (u + xa * d)) % 10), a < 10) ∧ (cur.set (i' + k') ((cy + (u + xa * d)) % 10)).length = xs.length + ys.length ∧ (∀ j, i' + max (k' + 1) ys.length ≤ j → (cur.set (i' + k') ((cy + (u + xa * d)) % 10)).getD j 0 = 0) ∧
              val 10 (cur.set (i' + k') ((cy + (u + xa * d)) % 10)) + 10 ^ (i' + (k' + 1)) * ((cy + (u + xa * d)) / 10) = val 10 (xs.take i') * val 10 ys + 10 ^ i' * (xs.getD i' 0 * val 10 (ys.take (k' + 1))) ∧ (k' + 1 = ys.length + 1 → (cy + (u + xa * d)) / 10 = 0)) := Lib.hid (by
            have hgx' := hgx.out
            rw [← hxa] at hgx'
            rcases Nat.lt_or_ge k' ys.length with h | h
            · have hz : ∀ j, i' + ys.length ≤ j → cur.getD j 0 = 0 := fun j hj => HZ.out j (by omega)
              have := times_step 10 xs ys cur i' k' cy (cy + (u + xa * d)) HC.out HL.out hlt h hz (by omega) HV.out (by rw [hgc, hgx', hd]; omega)
              exact ⟨this.1, this.2.1, fun j hj => this.2.2.1 j (by omega), this.2.2.2, fun h2 => by omega⟩
            · obtain rfl : k' = ys.length := by omega
              have hz : ∀ j, i' + ys.length ≤ j → cur.getD j 0 = 0 := fun j hj => HZ.out j (by omega)
              have hd0 : d = 0 := by rw [← hd, List.getD_eq_getElem?_getD, List.getElem?_eq_none (Nat.le_refl _)]; rfl
              have hu0 : u = 0 := by rw [← hgc]; exact hz _ (Nat.le_refl _)
              have hs : cy + (u + xa * d) = cy := by rw [hd0, hu0]; omega
              have hv2 := HV.out
              rw [List.take_of_length_le (Nat.le_refl _)] at hv2
              have := times_row 10 xs ys cur i' cy HC.out HL.out hlt hcy hz hv2
              rw [hs, Nat.mod_eq_of_lt hcy, Nat.div_eq_of_lt hcy]
              refine ⟨this.1, this.2.1, fun j hj => this.2.2.1 j (by omega), ?_, fun _ => rfl⟩
              rw [this.2.2.2, List.take_of_length_le (l := ys) (by omega), Nat.mul_zero, Nat.add_zero, val_take_succ, Nat.add_mul, Nat.mul_assoc])
          have hcu1 : ∀ n, ((wr.drewN n).cell? ⟨w.heap.size, i' + k', none⟩ = some (.int .i64 (u : Nat))) := fun n => hcu
          clear hd hgc hu hxa hbd hbp hbc
          rcases (show k' < ys.length ∨ (¬ k' < ys.length ∧ 0 < cy) by omega) with h1 | ⟨h1, h2⟩
          all_goals
            clear hgo
            go_wp2
            go_quiet ((go_at_call 88; exact Calls.quiet_of_same (HDG.out _ _ (HY.out.below (below_drewN hb _) (Nat.le_refl _)))))
            have hbk := below_drewN hb nq
            have hok := own_drewN hown nq
            have hfr : (wr.drewN nq).frozen? ⟨w.heap.size, i' + k', none⟩ = false := (own_get hok hik).2
            have hcq := hcu1 nq
            have HOK := Lib.hid hok; have HBK := Lib.hid hbk
            clear hown hb hcu1 hok hbk
            go_wp2
            go_roundw
            case rel =>
              have R := fun (q : Value) (hq : q = eI _) => own_put HOK.out HBK.out (Nat.le_refl _) (i' + k') ((cy + (u + xa * d)) % 10) q hq
              exact ⟨k' + 1, (cy + (u + xa * d)) / 10, _, by omega, by go_num, congrArg (Value.int .i64) (by rw [Int.natCast_ediv]; simp), by omega, Lib.hid HS.out.2.2.2.2, Lib.hid HS.out.1, Lib.hid HS.out.2.1, Lib.hid HS.out.2.2.1, Lib.hid HS.out.2.2.2.1, (R _ (congrArg (Value.int .i64) (by rw [Int.natCast_emod]; simp))).1, (R _ (congrArg (Value.int .i64) (by rw [Int.natCast_emod]; simp))).2⟩
            case measure => simp [intOf]; omega
        · have hc0 : cy = 0 := by omega
          subst hc0
          have h1 : ¬ k' < ys.length := by omega
          have hv2 : val 10 cur = val 10 (xs.take (i' + 1)) * val 10 ys := by
            have := HV.out
            rw [List.take_of_length_le (l := ys) (by omega), Nat.mul_zero, Nat.add_zero] at this
            rw [this, val_take_succ, Nat.add_mul, Nat.mul_assoc]
          have HV2 := Lib.hid hv2
          clear hv2 hgo
          go_wp2
          go_roundw
          case rel => exact ⟨i' + 1, cur, by omega, by go_num, HC, HL, Lib.hid (fun j hj => HZ.out j (by omega)), HV2, hown, hb⟩
          case measure => simp [intOf]; omega
    · obtain rfl : i' = xs.length := by omega
      go_wp2_with fail
      refine (cut_any _ _ cur (Sl.ofOwns hown)).mono ?_
      rintro e w2 ⟨v2, rfl, hs2, rfl⟩
      have HS2 := Lib.hid hs2; clear hs2
      go_wp2
      go_ret
      refine ⟨_, rfl, ?_, hb⟩
      rw [← trim_of 10 cur _ (by omega) HC.out (by rw [HV.out, List.take_of_length_le (Nat.le_refl _), VA.out, VB.out])]
      exact HS2.out
end Go.Proofs.YtcjcknncajinpaaGreatDoor
