/- The walks of integer's natural numbers. -/
import Derived.Test.YtcjcknncajinpaaGreatDoorKit
namespace Go.Proofs.YtcjcknncajinpaaGreatDoor
open Go.RowKit
set_option maxRecDepth 100000

theorem take_snoc {α : Type} (l : List α) (k : Nat) (h : k < l.length) : l.take (k + 1) = l.take k ++ [l[k]] := by
  rw [List.take_succ_eq_append_getElem h]

set_option maxHeartbeats 400000 in
theorem trimmed_any (w : World) (v : Value) (xs : List Nat) (hv : Sl eU w v xs) :
    Calls Tryz.prog 58 #[v] w (Rets fun v' w' => Sl eU w v' (trim xs) ∧ w = w') := by
  have HV := Lib.hid hv
  obtain ⟨a, b, o, c, rfl, hi, hx, hc, hm⟩ := hv.open elemNat
  clear hv
  unfold maxLen at hm
  go_enter Tryz.func58, Tryz.ntmps58
  go_wp2
  go_loop [0] (fun v => ∃ k : Nat, k ≤ xs.length ∧ v = .slice a k c ∧ trim (xs.take k) = trim xs) (fun v => match v with | .slice _ n _ => n | _ => 0)
  case atStart => exact ⟨xs.length, Nat.le_refl _, rfl, by simp⟩
  case round =>
    obtain ⟨k, hk, rfl, ht⟩ := hrel
    have HT := Lib.hid ht; clear ht
    rcases k with _ | k
    · go_wp2
      go_ret
      exact ⟨_, rfl, by rw [← HT.out]; exact HV.out.take 0 (Nat.zero_le _), rfl⟩
    · have hp : (0 : Int) < ((k + 1 : Nat) : Int) := by omega
      have h1 : w.cell? ⟨b, o + k, none⟩ = some (.int .u32 (xs[k] : Nat)) := hx.2 k (by omega)
      go_wp2
      · go_round
        case rel => 
          have h0 : ((xs[k] : Nat) == (0 : Int)) = true := by assumption
          have h0 : xs[k] = 0 := by simpa using h0
          exact ⟨k, by omega, rfl, by rw [← HT.out, take_snoc xs k (by omega), h0, trim_snoc_zero]⟩
        case measure => simp
      · go_ret
        have h0 : ((xs[k] : Nat) == (0 : Int)) = false := by assumption
        have h0 : xs[k] ≠ 0 := by simpa using h0
        exact ⟨_, rfl, by rw [← HT.out, take_snoc xs k (by omega), trim_snoc _ _ h0, ← take_snoc xs k (by omega)]; exact HV.out.take (k + 1) hk, rfl⟩

theorem val_take_succ (B : Nat) (l : List Nat) (k : Nat) : val B (l.take (k + 1)) = val B (l.take k) + B ^ k * l.getD k 0 := by
  by_cases h : k < l.length
  · rw [take_snoc l k h, val_snoc, List.length_take_of_le (by omega)]; simp [h]
  · rw [List.take_of_length_le (by omega), List.take_of_length_le (by omega)]; simp [h]

theorem mem_take {l : List Nat} {B k : Nat} (h : ∀ a ∈ l, a < B) : ∀ a ∈ l.take k, a < B := fun a ha => h a (List.mem_of_mem_take ha)
theorem getD_lt {l : List Nat} {B k : Nat} (h : ∀ a ∈ l, a < B) (hB : 0 < B) : l.getD k 0 < B := by
  by_cases hk : k < l.length
  · simp only [List.getD_eq_getElem?_getD, List.getElem?_eq_getElem hk, Option.getD_some]; exact h _ (List.getElem_mem hk)
  · simp [List.getElem?_eq_none (Nat.le_of_not_lt hk), hB]

/-- One round of the sum: the digit s goes out, the rest is carried. -/
theorem plus_step (B : Nat) (ps qs os : List Nat) (k c s : Nat) (hB : 0 < B) (ho : os.length = k) (hos : ∀ a ∈ os, a < B) (hv : val B os + B ^ k * c = val B (ps.take k) + val B (qs.take k)) (hs : s = ps.getD k 0 + c + qs.getD k 0) :
    (os ++ [s % B]).length = k + 1 ∧ (∀ a ∈ os ++ [s % B], a < B) ∧ val B (os ++ [s % B]) + B ^ (k + 1) * (s / B) = val B (ps.take (k + 1)) + val B (qs.take (k + 1)) := by
  refine ⟨by simp [ho], ?_, ?_⟩
  · intro a ha
    rcases List.mem_append.1 ha with h | h
    · exact hos a h
    · simp at h; subst h; exact Nat.mod_lt _ hB
  · rw [val_take_succ, val_take_succ, val_snoc, ho, Nat.pow_succ, Nat.mul_assoc]
    have h1 : B ^ k * s = B ^ k * (s % B) + B ^ k * (B * (s / B)) := by rw [← Nat.mul_add, Nat.mod_add_div]
    have h2 : B ^ k * s = B ^ k * ps.getD k 0 + B ^ k * c + B ^ k * qs.getD k 0 := by rw [hs, Nat.mul_add, Nat.mul_add]
    omega

set_option maxHeartbeats 1000000 in
theorem plus_any (w : World) (x y : Value) (xs ys : List Nat) (hx : Sl eU w x xs) (hy : Sl eU w y ys) (bx : ∀ a ∈ xs, a < 1000000000) (by' : ∀ a ∈ ys, a < 1000000000)
    (hl : xs.length ≤ 1099511627776) (hl' : ys.length ≤ 1099511627776) :
    Calls Tryz.prog 60 #[x, y] w (Rets fun v w' => Sl eU w' v (digs 1000000000 (val 1000000000 xs + val 1000000000 ys)) ∧ Below w.heap.size w w') := by
  have HX := Lib.hid hx
  have HY := Lib.hid hy
  obtain ⟨a, b, o, c, rfl, -, -, -, -⟩ := hx.open elemNat
  obtain ⟨a', b', o', c', rfl, -, -, -, -⟩ := hy.open elemNat
  have BX := Lib.hid bx; clear bx hx
  have BY := Lib.hid by'; clear by' hy
  go_enter Tryz.func60, Tryz.ntmps60
  go_upto_if 13 with fail
  go_cut [0, 1] (fun x y wx => ∃ ps qs : List Nat, Sl eU w x ps ∧ Sl eU w y qs ∧ (∀ a ∈ ps, a < 1000000000) ∧ (∀ a ∈ qs, a < 1000000000) ∧ qs.length ≤ ps.length ∧ ps.length ≤ 1099511627776 ∧
    val 1000000000 ps + val 1000000000 qs = val 1000000000 xs + val 1000000000 ys ∧ wx = w)
  case first =>
    go_wp2
    · go_meet
      have h : xs.length < ys.length := by assumption
      exact ⟨ys, xs, HY.out, HX.out, BY.out, BX.out, by omega, hl', by omega, rfl⟩
    · go_meet
      have h : ¬ xs.length < ys.length := by assumption
      exact ⟨xs, ys, HX.out, HY.out, BX.out, BY.out, by omega, hl, rfl, rfl⟩
  case rest =>
    obtain ⟨ps, qs, hp, hq, bp, bq, hlq, hlp, hv, rfl⟩ := hcut
    clear HX HY BX BY hl hl'
    obtain ⟨a, b, o, c, rfl, hi, hp, -, -⟩ := hp.open elemNat
    obtain ⟨a', b', o', c', rfl, hi', hq, -, -⟩ := hq.open elemNat
    have HV := Lib.hid hv; clear hv
    have BP := Lib.hid bp; clear bp
    have BQ := Lib.hid bq; clear bq
    go_wp2_with (at_make; refine mk0 elemNat rfl _ _ rfl (ps.length + 1) rfl rfl (by omega) (by omega) (by unfold maxLen; omega) (Below.refl _ _) (Nat.le_refl _) ?_; intro w1 hown hb hb2; clear hb2)
    go_loopw [5, 6, 22] (fun out cy i wr => ∃ (k c : Nat) (os : List Nat), k ≤ ps.length ∧ i = .int .i64 k ∧ cy = .int .u32 c ∧ c ≤ 1 ∧ os.length = k ∧ (∀ a ∈ os, a < 1000000000) ∧
        val 1000000000 os + 1000000000 ^ k * c = val 1000000000 (ps.take k) + val 1000000000 (qs.take k) ∧ wr.ownsRow wc.heap.size 75 1 out k (os.map eU) ∧ Below wc.heap.size wc wr) (fun _ _ i _ => ps.length - (intOf i).toNat)
    case atStart => exact ⟨0, 0, [], by omega, rfl, rfl, by omega, rfl, by simp, by simp [val], hown, hb⟩
    case round =>
      clear hown hb
      obtain ⟨k, cy, os, hk, rfl, rfl, hcy, hol, hos, hv, hown, hb⟩ := hrel
      have HOL := Lib.hid hol; clear hol
      have HOS := Lib.hid hos; clear hos
      have HV' := Lib.hid hv; clear hv
      have hbs := hb.size
      by_cases hlt : k < ps.length
      · have hbp := BP.out ps[k] (List.getElem_mem hlt)
        have hc1 : wr.cell? ⟨b, o + k, none⟩ = some (.int .u32 (ps[k] : Nat)) := hp.at hb (Nat.le_refl _) k hlt
        have hgp : ps.getD k 0 = ps[k] := by simp [hlt]
        by_cases hlt' : k < qs.length
        · have hbq := BQ.out qs[k] (List.getElem_mem hlt')
          have hc2 : wr.cell? ⟨b', o' + k, none⟩ = some (.int .u32 (qs[k] : Nat)) := hq.at hb (Nat.le_refl _) k hlt'
          have HR := Lib.hid (plus_step 1000000000 ps qs os k cy (ps[k] + cy + qs[k]) (by omega) HOL.out HOS.out HV'.out (by simp [hlt, hlt']))
          clear hgp
          go_wp2_with (at_builtin; refine app1 elemNat rfl _ _ rfl rfl rfl hown hb (Nat.le_refl _) hbs rfl (by simp [Value.oneCell']) (by omega) (by unfold maxLen; omega) ?_; intro v' w2 hown' hb')
          go_roundw
          case rel => exact ⟨k + 1, (ps[k] + cy + qs[k]) / 1000000000, os ++ [(ps[k] + cy + qs[k]) % 1000000000], by omega, by go_num, by go_num, by omega, HR.out.1, HR.out.2.1, HR.out.2.2, by simpa [eU] using hown', hb'⟩
          case measure => simp [intOf]; omega
        · have HR := Lib.hid (plus_step 1000000000 ps qs os k cy (ps[k] + cy) (by omega) HOL.out HOS.out HV'.out (by simp [hlt, List.getElem?_eq_none (Nat.le_of_not_lt hlt')]))
          clear hgp
          go_wp2_with (at_builtin; refine app1 elemNat rfl _ _ rfl rfl rfl hown hb (Nat.le_refl _) hbs rfl (by simp [Value.oneCell']) (by omega) (by unfold maxLen; omega) ?_; intro v' w2 hown' hb')
          go_roundw
          case rel => exact ⟨k + 1, (ps[k] + cy) / 1000000000, os ++ [(ps[k] + cy) % 1000000000], by omega, by go_num, by go_num, by omega, HR.out.1, HR.out.2.1, HR.out.2.2, by simpa [eU] using hown', hb'⟩
          case measure => simp [intOf]; omega
      · obtain rfl : k = ps.length := by omega
        have hsum : val 1000000000 (os ++ [cy]) = val 1000000000 xs + val 1000000000 ys := by
          rw [val_snoc, HOL.out, HV'.out, ← HV.out, List.take_of_length_le (Nat.le_refl _), List.take_of_length_le hlq]
        have HSum := Lib.hid hsum; clear hsum
        go_wp2_with (at_builtin; refine app1 elemNat rfl _ _ rfl rfl rfl hown hb (Nat.le_refl _) hbs rfl (by simp [Value.oneCell']) (by omega) (by unfold maxLen; omega) ?_; intro v' w2 hown' hb')
        have hsl : Sl eU w2 v' (os ++ [cy]) := Sl.ofOwns (by simpa [eU] using hown')
        refine (trimmed_any _ _ _ hsl).mono ?_
        rintro e w' ⟨v3, rfl, hs3, rfl⟩
        go_wp2
        go_ret
        refine ⟨_, rfl, ?_, hb'⟩
        rw [← trim_of 1000000000 (os ++ [cy]) _ (by omega) (fun a ha => ?_) HSum.out]
        · exact hs3
        · rcases List.mem_append.1 ha with h | h
          · exact HOS.out a h
          · simp at h; omega
end Go.Proofs.YtcjcknncajinpaaGreatDoor
