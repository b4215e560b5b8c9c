/- The walks of integer's natural numbers. Plain laws for the product. The walk of integer's product of natural numbers. The walk of integer's comparison of natural numbers, and of the quotient by one word. -/
import Derived.Test.YtlnhocgjgmhfgaaGreatDoorPk1
namespace Go.Proofs.YtlnhocgjgmhfgaaGreatDoor
open Go.RowKit
set_option maxRecDepth 100000

theorem take_snoc {α : Type} (l : List α) (k : Nat) (h : k < l.length) : l.take (k + 1) = l.take k ++ [l[k]] := by
  rw [List.take_succ_eq_append_getElem h]

set_option maxHeartbeats 400000 in
theorem trimmed_any (w : World) (v : Value) (xs : List Nat) (hv : Sl eU w v xs) :
    Calls Tryz.prog 122 #[v] w (Rets fun v' w' => Sl eU w v' (trim xs) ∧ w = w') := by
  have HV := Lib.hid hv
  obtain ⟨a, b, o, c, rfl, hi, hx, hc, hm⟩ := hv.open elemNat
  clear hv
  unfold maxLen at hm
  go_enter Tryz.func122, Tryz.ntmps122
  go_wp2
  go_loop [0] (fun v => ∃ k : Nat, k ≤ xs.length ∧ v = .slice a k c ∧ trim (xs.take k) = trim xs) (fun v => match v with | .slice _ n _ => n | _ => 0)
  case atStart => exact ⟨xs.length, Nat.le_refl _, rfl, by simp⟩
  case round =>
    obtain ⟨k, hk, rfl, ht⟩ := hrel
    have HT := Lib.hid ht; clear ht
    rcases k with _ | k
    · go_wp2
      go_ret
      exact ⟨_, rfl, by rw [← HT.out]; exact HV.out.take 0 (Nat.zero_le _), rfl⟩
    · have hp : (0 : Int) < ((k + 1 : Nat) : Int) := by omega
      have h1 : w.cell? ⟨b, o + k, none⟩ = some (.int .u32 (xs[k] : Nat)) := hx.2 k (by omega)
      go_wp2
      · go_round
        case rel => 
          have h0 : ((xs[k] : Nat) == (0 : Int)) = true := by assumption
          have h0 : xs[k] = 0 := by simpa using h0
          exact ⟨k, by omega, rfl, by rw [← HT.out, take_snoc xs k (by omega), h0, trim_snoc_zero]⟩
        case measure => simp
      · go_ret
        have h0 : ((xs[k] : Nat) == (0 : Int)) = false := by assumption
        have h0 : xs[k] ≠ 0 := by simpa using h0
        exact ⟨_, rfl, by rw [← HT.out, take_snoc xs k (by omega), trim_snoc _ _ h0, ← take_snoc xs k (by omega)]; exact HV.out.take (k + 1) hk, rfl⟩

theorem val_take_succ (B : Nat) (l : List Nat) (k : Nat) : val B (l.take (k + 1)) = val B (l.take k) + B ^ k * l.getD k 0 := by
  by_cases h : k < l.length
  · rw [take_snoc l k h, val_snoc, List.length_take_of_le (by omega)]; simp [h]
  · rw [List.take_of_length_le (by omega), List.take_of_length_le (by omega)]; simp [h]

theorem mem_take {l : List Nat} {B k : Nat} (h : ∀ a ∈ l, a < B) : ∀ a ∈ l.take k, a < B := fun a ha => h a (List.mem_of_mem_take ha)
theorem getD_lt {l : List Nat} {B k : Nat} (h : ∀ a ∈ l, a < B) (hB : 0 < B) : l.getD k 0 < B := by
  by_cases hk : k < l.length
  · simp only [List.getD_eq_getElem?_getD, List.getElem?_eq_getElem hk, Option.getD_some]; exact h _ (List.getElem_mem hk)
  · simp [List.getElem?_eq_none (Nat.le_of_not_lt hk), hB]

/-- One round of the sum: the digit s goes out, the rest is carried. -/
theorem plus_step (B : Nat) (ps qs os : List Nat) (k c s : Nat) (hB : 0 < B) (ho : os.length = k) (hos : ∀ a ∈ os, a < B) (hv : val B os + B ^ k * c = val B (ps.take k) + val B (qs.take k)) (hs : s = ps.getD k 0 + c + qs.getD k 0) :
    (os ++ [s % B]).length = k + 1 ∧ (∀ a ∈ os ++ [s % B], a < B) ∧ val B (os ++ [s % B]) + B ^ (k + 1) * (s / B) = val B (ps.take (k + 1)) + val B (qs.take (k + 1)) := by
  refine ⟨by simp [ho], ?_, ?_⟩
  · intro a ha
    rcases List.mem_append.1 ha with h | h
    · exact hos a h
    · simp at h; subst h; exact Nat.mod_lt _ hB
  · rw [val_take_succ, val_take_succ, val_snoc, ho, Nat.pow_succ, Nat.mul_assoc]
    have h1 : B ^ k * s = B ^ k * (s % B) + B ^ k * (B * (s / B)) := by rw [← Nat.mul_add, Nat.mod_add_div]
    have h2 : B ^ k * s = B ^ k * ps.getD k 0 + B ^ k * c + B ^ k * qs.getD k 0 := by rw [hs, Nat.mul_add, Nat.mul_add]
    omega

set_option maxHeartbeats 1000000 in
theorem plus_any (w : World) (x y : Value) (xs ys : List Nat) (hx : Sl eU w x xs) (hy : Sl eU w y ys) (bx : ∀ a ∈ xs, a < 1000000000) (by' : ∀ a ∈ ys, a < 1000000000)
    (hl : xs.length ≤ 1099511627776) (hl' : ys.length ≤ 1099511627776) :
    Calls Tryz.prog 167 #[x, y] w (Rets fun v w' => Sl eU w' v (digs 1000000000 (val 1000000000 xs + val 1000000000 ys)) ∧ Below w.heap.size w w') := by
  have HX := Lib.hid hx
  have HY := Lib.hid hy
  obtain ⟨a, b, o, c, rfl, -, -, -, -⟩ := hx.open elemNat
  obtain ⟨a', b', o', c', rfl, -, -, -, -⟩ := hy.open elemNat
  have BX := Lib.hid bx; clear bx hx
  have BY := Lib.hid by'; clear by' hy
  go_enter Tryz.func167, Tryz.ntmps167
  go_upto_if 13 with fail
  go_cut [0, 1] (fun x y wx => ∃ ps qs : List Nat, Sl eU w x ps ∧ Sl eU w y qs ∧ (∀ a ∈ ps, a < 1000000000) ∧ (∀ a ∈ qs, a < 1000000000) ∧ qs.length ≤ ps.length ∧ ps.length ≤ 1099511627776 ∧
    val 1000000000 ps + val 1000000000 qs = val 1000000000 xs + val 1000000000 ys ∧ wx = w)
  case first =>
    go_wp2
    · go_meet
      have h : xs.length < ys.length := by assumption
      exact ⟨ys, xs, HY.out, HX.out, BY.out, BX.out, by omega, hl', by omega, rfl⟩
    · go_meet
      have h : ¬ xs.length < ys.length := by assumption
      exact ⟨xs, ys, HX.out, HY.out, BX.out, BY.out, by omega, hl, rfl, rfl⟩
  case rest =>
    obtain ⟨ps, qs, hp, hq, bp, bq, hlq, hlp, hv, rfl⟩ := hcut
    clear HX HY BX BY hl hl'
    obtain ⟨a, b, o, c, rfl, hi, hp, -, -⟩ := hp.open elemNat
    obtain ⟨a', b', o', c', rfl, hi', hq, -, -⟩ := hq.open elemNat
    have HV := Lib.hid hv; clear hv
    have BP := Lib.hid bp; clear bp
    have BQ := Lib.hid bq; clear bq
    go_wp2_with (at_make; refine mk0 elemNat rfl _ _ rfl (ps.length + 1) rfl rfl (by omega) (by omega) (by unfold maxLen; omega) (Below.refl _ _) (Nat.le_refl _) ?_; intro w1 hown hb hb2; clear hb2)
    go_loopw [5, 6, 22] (fun out cy i wr => ∃ (k c : Nat) (os : List Nat), k ≤ ps.length ∧ i = .int .i64 k ∧ cy = .int .u32 c ∧ c ≤ 1 ∧ os.length = k ∧ (∀ a ∈ os, a < 1000000000) ∧
        val 1000000000 os + 1000000000 ^ k * c = val 1000000000 (ps.take k) + val 1000000000 (qs.take k) ∧ wr.ownsRow wc.heap.size 150 1 out k (os.map eU) ∧ Below wc.heap.size wc wr) (fun _ _ i _ => ps.length - (intOf i).toNat)
    case atStart => exact ⟨0, 0, [], by omega, rfl, rfl, by omega, rfl, by simp, by simp [val], hown, hb⟩
    case round =>
      clear hown hb
      obtain ⟨k, cy, os, hk, rfl, rfl, hcy, hol, hos, hv, hown, hb⟩ := hrel
      have HOL := Lib.hid hol; clear hol
      have HOS := Lib.hid hos; clear hos
      have HV' := Lib.hid hv; clear hv
      have hbs := hb.size
      by_cases hlt : k < ps.length
      · have hbp := BP.out ps[k] (List.getElem_mem hlt)
        have hc1 : wr.cell? ⟨b, o + k, none⟩ = some (.int .u32 (ps[k] : Nat)) := hp.at hb (Nat.le_refl _) k hlt
        have hgp : ps.getD k 0 = ps[k] := by simp [hlt]
        by_cases hlt' : k < qs.length
        · have hbq := BQ.out qs[k] (List.getElem_mem hlt')
          have hc2 : wr.cell? ⟨b', o' + k, none⟩ = some (.int .u32 (qs[k] : Nat)) := hq.at hb (Nat.le_refl _) k hlt'
          have HR := Lib.hid (plus_step 1000000000 ps qs os k cy (ps[k] + cy + qs[k]) (by omega) HOL.out HOS.out HV'.out (by simp [hlt, hlt']))
          clear hgp
          go_wp2_with (at_builtin; refine app1 elemNat rfl _ _ rfl rfl rfl hown hb (Nat.le_refl _) hbs rfl (by simp [Value.oneCell']) (by omega) (by unfold maxLen; omega) ?_; intro v' w2 hown' hb')
          go_roundw
          case rel => exact ⟨k + 1, (ps[k] + cy + qs[k]) / 1000000000, os ++ [(ps[k] + cy + qs[k]) % 1000000000], by omega, by go_num, by go_num, by omega, HR.out.1, HR.out.2.1, HR.out.2.2, by simpa [eU] using hown', hb'⟩
          case measure => simp [intOf]; omega
        · have HR := Lib.hid (plus_step 1000000000 ps qs os k cy (ps[k] + cy) (by omega) HOL.out HOS.out HV'.out (by simp [hlt, List.getElem?_eq_none (Nat.le_of_not_lt hlt')]))
          clear hgp
          go_wp2_with (at_builtin; refine app1 elemNat rfl _ _ rfl rfl rfl hown hb (Nat.le_refl _) hbs rfl (by simp [Value.oneCell']) (by omega) (by unfold maxLen; omega) ?_; intro v' w2 hown' hb')
          go_roundw
          case rel => exact ⟨k + 1, (ps[k] + cy) / 1000000000, os ++ [(ps[k] + cy) % 1000000000], by omega, by go_num, by go_num, by omega, HR.out.1, HR.out.2.1, HR.out.2.2, by simpa [eU] using hown', hb'⟩
          case measure => simp [intOf]; omega
      · obtain rfl : k = ps.length := by omega
        have hsum : val 1000000000 (os ++ [cy]) = val 1000000000 xs + val 1000000000 ys := by
          rw [val_snoc, HOL.out, HV'.out, ← HV.out, List.take_of_length_le (Nat.le_refl _), List.take_of_length_le hlq]
        have HSum := Lib.hid hsum; clear hsum
        go_wp2_with (at_builtin; refine app1 elemNat rfl _ _ rfl rfl rfl hown hb (Nat.le_refl _) hbs rfl (by simp [Value.oneCell']) (by omega) (by unfold maxLen; omega) ?_; intro v' w2 hown' hb')
        have hsl : Sl eU w2 v' (os ++ [cy]) := Sl.ofOwns (by simpa [eU] using hown')
        refine (trimmed_any _ _ _ hsl).mono ?_
        rintro e w' ⟨v3, rfl, hs3, rfl⟩
        go_wp2
        go_ret
        refine ⟨_, rfl, ?_, hb'⟩
        rw [← trim_of 1000000000 (os ++ [cy]) _ (by omega) (fun a ha => ?_) HSum.out]
        · exact hs3
        · rcases List.mem_append.1 ha with h | h
          · exact HOS.out a h
          · simp at h; omega
end Go.Proofs.YtlnhocgjgmhfgaaGreatDoor

namespace Go.Proofs.YtlnhocgjgmhfgaaGreatDoor

theorem val_set (B : Nat) (l : List Nat) (j v : Nat) (h : j < l.length) : val B (l.set j v) + B ^ j * l.getD j 0 = val B l + B ^ j * v := by
  induction l generalizing j with
  | nil => simp at h
  | cons a l ih =>
    cases j with
    | zero => simp only [List.set_cons_zero, val, Nat.pow_zero, Nat.one_mul, List.getD_cons_zero]; omega
    | succ j =>
      have := ih j (by simpa using h)
      simp only [List.set_cons_succ, val, List.getD_cons_succ, Nat.pow_succ]
      have e1 : B ^ j * B * l.getD j 0 = B * (B ^ j * l.getD j 0) := by rw [Nat.mul_comm (B ^ j) B, Nat.mul_assoc]
      have e2 : B ^ j * B * v = B * (B ^ j * v) := by rw [Nat.mul_comm (B ^ j) B, Nat.mul_assoc]
      have e3 : B * (val B (l.set j v) + B ^ j * l.getD j 0) = B * (val B l + B ^ j * v) := by rw [this]
      rw [Nat.mul_add, Nat.mul_add] at e3
      omega
theorem getD_set (l : List Nat) (j i v : Nat) (h : j < l.length) : (l.set j v).getD i 0 = if i = j then v else l.getD i 0 := by
  simp only [List.getD_eq_getElem?_getD, List.getElem?_set]
  by_cases e : i = j
  · subst e; simp [h]
  · simp [e, Ne.symm e]
theorem mem_set_lt {l : List Nat} {B j v : Nat} (h : ∀ a ∈ l, a < B) (hv : v < B) : ∀ a ∈ l.set j v, a < B := by
  intro a ha
  rcases List.mem_or_eq_of_mem_set ha with h1 | h1
  · exact h a h1
  · omega

/-- One step of a row of the product. -/
theorem times_step (B : Nat) (xs ys cur : List Nat) (i k c s : Nat) (hcur : ∀ a ∈ cur, a < B) (hlen : cur.length = xs.length + ys.length) (hi : i < xs.length) (hk : k < ys.length)
    (hz : ∀ j, i + ys.length ≤ j → cur.getD j 0 = 0) (hB : 0 < B)
    (hv : val B cur + B ^ (i + k) * c = val B (xs.take i) * val B ys + B ^ i * (xs.getD i 0 * val B (ys.take k))) (hs : s = cur.getD (i + k) 0 + xs.getD i 0 * ys.getD k 0 + c) :
    (∀ a ∈ cur.set (i + k) (s % B), a < B) ∧ (cur.set (i + k) (s % B)).length = xs.length + ys.length ∧ (∀ j, i + ys.length ≤ j → (cur.set (i + k) (s % B)).getD j 0 = 0) ∧
    val B (cur.set (i + k) (s % B)) + B ^ (i + (k + 1)) * (s / B) = val B (xs.take i) * val B ys + B ^ i * (xs.getD i 0 * val B (ys.take (k + 1))) := by
  refine ⟨mem_set_lt hcur (Nat.mod_lt _ hB), by simp [hlen], fun j hj => ?_, ?_⟩
  · rw [getD_set _ _ _ _ (by omega), if_neg (by omega)]; exact hz j hj
  · have h1 := val_set B cur (i + k) (s % B) (by omega)
    have h2 : B ^ (i + k) * s = B ^ (i + k) * (s % B) + B ^ (i + (k + 1)) * (s / B) := by
      rw [← Nat.add_assoc, Nat.pow_succ, Nat.mul_assoc, ← Nat.mul_add, Nat.mod_add_div]
    have h3 : B ^ (i + k) * s = B ^ (i + k) * cur.getD (i + k) 0 + B ^ (i + k) * (xs.getD i 0 * ys.getD k 0) + B ^ (i + k) * c := by rw [hs, Nat.mul_add, Nat.mul_add]
    have h4 : B ^ i * (xs.getD i 0 * val B (ys.take (k + 1))) = B ^ i * (xs.getD i 0 * val B (ys.take k)) + B ^ (i + k) * (xs.getD i 0 * ys.getD k 0) := by
      rw [val_take_succ, Nat.mul_add, Nat.mul_add, Nat.pow_add]
      congr 1
      rw [Nat.mul_assoc]; congr 1
      rw [← Nat.mul_assoc, ← Nat.mul_assoc, Nat.mul_comm (xs.getD i 0)]
    omega
/-- The end of a row. -/
theorem times_row (B : Nat) (xs ys cur : List Nat) (i c : Nat) (hcur : ∀ a ∈ cur, a < B) (hlen : cur.length = xs.length + ys.length) (hi : i < xs.length) (hc : c < B)
    (hz : ∀ j, i + ys.length ≤ j → cur.getD j 0 = 0)
    (hv : val B cur + B ^ (i + ys.length) * c = val B (xs.take i) * val B ys + B ^ i * (xs.getD i 0 * val B ys)) :
    (∀ a ∈ cur.set (i + ys.length) c, a < B) ∧ (cur.set (i + ys.length) c).length = xs.length + ys.length ∧ (∀ j, i + 1 + ys.length ≤ j → (cur.set (i + ys.length) c).getD j 0 = 0) ∧
    val B (cur.set (i + ys.length) c) = val B (xs.take (i + 1)) * val B ys := by
  refine ⟨mem_set_lt hcur hc, by simp [hlen], fun j hj => ?_, ?_⟩
  · rw [getD_set _ _ _ _ (by omega), if_neg (by omega)]; exact hz j (by omega)
  · have h1 := val_set B cur (i + ys.length) c (by omega)
    rw [hz _ (Nat.le_refl _)] at h1
    rw [val_take_succ, Nat.add_mul, Nat.mul_assoc]
    omega
theorem times_bound {a b c d : Nat} (ha : a < 1000000000) (hb : b < 1000000000) (hc : c < 1000000000) (hd : d < 1000000000) : d + a * b + c < 1000000000000000000 ∧ a * b < 1000000000000000000 := by
  have := Nat.mul_le_mul (show a ≤ 999999999 by omega) (show b ≤ 999999999 by omega)
  omega
end Go.Proofs.YtlnhocgjgmhfgaaGreatDoor
namespace Go.Proofs.YtlnhocgjgmhfgaaGreatDoor
open Go.RowKit
set_option maxRecDepth 100000

set_option maxHeartbeats 1000000 in
theorem times_any (w : World) (x y : Value) (xs ys : List Nat) (hx : Sl eU w x xs) (hy : Sl eU w y ys) (bx : ∀ a ∈ xs, a < 1000000000) (by' : ∀ a ∈ ys, a < 1000000000)
    (hl : xs.length + ys.length ≤ 1099511627776) :
    Calls Tryz.prog 105 #[x, y] w (Rets fun v w' => Sl eU w' v (digs 1000000000 (val 1000000000 xs * val 1000000000 ys)) ∧ Below w.heap.size w w') := by
  obtain ⟨a, b, o, c, rfl, hi, hp, -, -⟩ := hx.open elemNat
  obtain ⟨a', b', o', c', rfl, hi', hq, -, -⟩ := hy.open elemNat
  have BX := Lib.hid bx; clear bx hx
  have BY := Lib.hid by'; clear by' hy
  go_enter Tryz.func105, Tryz.ntmps105
  go_wp2_with (at_make; refine mkN elemNat rfl _ _ rfl (xs.length + ys.length) rfl rfl (by omega) (by omega) (by omega) (by unfold maxLen; omega) (Below.refl _ _) (Nat.le_refl _) rfl ?_; intro w1 hown hb hb2; clear hb2)
  have hown := ownsRow_cast hown rfl (show List.replicate (xs.length + ys.length) (Value.int .u32 0) = (List.replicate (xs.length + ys.length) 0).map eU by simp [eU])
  go_loopw [20] (fun i wr => ∃ (i' : Nat) (cur : List Nat), i' ≤ xs.length ∧ i = .int .i64 i' ∧ (∀ a ∈ cur, a < 1000000000) ∧ cur.length = xs.length + ys.length ∧ (∀ j, i' + ys.length ≤ j → cur.getD j 0 = 0) ∧
      val 1000000000 cur = val 1000000000 (xs.take i') * val 1000000000 ys ∧ wr.ownsRow w.heap.size 150 1 (.slice (some ⟨w.heap.size, 0, none⟩) (xs.length + ys.length) (xs.length + ys.length)) (xs.length + ys.length) (cur.map eU) ∧ Below w.heap.size w wr) (fun i _ => xs.length - (intOf i).toNat)
  case atStart => 
    refine ⟨0, _, by omega, rfl, ?_, ?_, ?_, ?_, hown, hb⟩
    · intro a ha; rw [List.eq_of_mem_replicate ha]; omega
    · simp
    · intro j hj; rw [List.getD_eq_getElem?_getD, List.getElem?_replicate]; split <;> rfl
    · have : ∀ n, val 1000000000 (List.replicate n 0) = 0 := fun n => by induction n with
        | zero => rfl
        | succ n ih => rw [List.replicate_succ, val, ih]
      rw [this]; simp [val]
  case round =>
    clear hown hb
    obtain ⟨i', cur, hi0, rfl, hcur, hlen, hz, hv, hown, hb⟩ := hrel
    have HC := Lib.hid hcur; clear hcur
    have HL := Lib.hid hlen; clear hlen
    have HZ := Lib.hid hz; clear hz
    have HV := Lib.hid hv; clear hv
    by_cases hlt : i' < xs.length
    · have hbp := BX.out xs[i'] (List.getElem_mem hlt)
      have hc1 : wr.cell? ⟨b, o + i', none⟩ = some (.int .u32 (xs[i'] : Nat)) := hp.at hb (Nat.le_refl _) i' hlt
      have hgx : Hid (xs.getD i' 0 = xs[i']) := by simp [Hid, hlt]
      go_wp2
      go_loopw [8, 27] (fun cy k wr => ∃ (k' c : Nat) (cur : List Nat), k' ≤ ys.length ∧ k = .int .i64 k' ∧ cy = .int .u64 c ∧ c < 1000000000 ∧ (∀ a ∈ cur, a < 1000000000) ∧ cur.length = xs.length + ys.length ∧ (∀ j, i' + ys.length ≤ j → cur.getD j 0 = 0) ∧
        val 1000000000 cur + 1000000000 ^ (i' + k') * c = val 1000000000 (xs.take i') * val 1000000000 ys + 1000000000 ^ i' * (xs.getD i' 0 * val 1000000000 (ys.take k')) ∧
        wr.ownsRow w.heap.size 150 1 (.slice (some ⟨w.heap.size, 0, none⟩) (xs.length + ys.length) (xs.length + ys.length)) (xs.length + ys.length) (cur.map eU) ∧ Below w.heap.size w wr) (fun _ k _ => ys.length - (intOf k).toNat)
      case atStart => exact ⟨0, 0, cur, by omega, rfl, rfl, by omega, HC.out, HL.out, HZ.out, by rw [HV.out]; simp [val], hown, hb⟩
      case round =>
        clear hown hb HC HL HZ HV hc1
        obtain ⟨k', cy, cur, hk0, rfl, rfl, hcy, hcur, hlen, hz, hv, hown, hb⟩ := hrel
        have HC := Lib.hid hcur; clear hcur
        have HL := Lib.hid hlen; clear hlen
        have HZ := Lib.hid hz; clear hz
        have HV := Lib.hid hv; clear hv
        by_cases hlt' : k' < ys.length
        · have hbq := BY.out ys[k'] (List.getElem_mem hlt')
          have hc2 : wr.cell? ⟨b', o' + k', none⟩ = some (.int .u32 (ys[k'] : Nat)) := hq.at hb (Nat.le_refl _) k' hlt'
          have hik : i' + k' < cur.length := by rw [HL.out]; omega
          have hcu : wr.cell? ⟨w.heap.size, i' + k', none⟩ = some (.int .u32 (cur[i' + k'] : Nat)) := (own_get hown hik).1
          have hfu := (own_get hown hik).2
          have hbc := HC.out cur[i' + k'] (List.getElem_mem hik)
          have hbd := times_bound hbp hbq hcy hbc
          have hm1 : (xs[i'] : Int) * (ys[k'] : Int) < 1000000000000000000 := by have := hbd.2; rw [← Int.natCast_mul]; omega
          have hm0 : 0 ≤ (xs[i'] : Int) * (ys[k'] : Int) := by rw [← Int.natCast_mul]; omega
          have HB := Lib.hid hbd; clear hbd
          have HR := Lib.hid (times_step 1000000000 xs ys cur i' k' cy (cur[i' + k'] + xs[i'] * ys[k'] + cy) HC.out HL.out hlt hlt' HZ.out (by omega) HV.out (by simp [hlt, hlt', hik]))
          go_wp2
          go_roundw
          case rel =>
            have R := fun (u : Value) (hu : u = eU _) => own_put hown hb (Nat.le_refl _) (i' + k') ((cur[i' + k'] + xs[i'] * ys[k'] + cy) % 1000000000) u hu
            have e1 : (((cur[i' + k'] + xs[i'] * ys[k'] + cy : Nat) : Int)) = (cur[i' + k'] : Int) + xs[i'] * ys[k'] + cy := by simp
            exact ⟨k' + 1, (cur[i' + k'] + xs[i'] * ys[k'] + cy) / 1000000000, _, by omega, by go_num, congrArg (Value.int .u64) (by omega), by have := HB.out; omega, HR.out.1, HR.out.2.1, HR.out.2.2.1, HR.out.2.2.2, (R _ (congrArg (Value.int .u32) (by omega))).1, (R _ (congrArg (Value.int .u32) (by omega))).2⟩
          case measure => simp [intOf]; omega
        · obtain rfl : k' = ys.length := by omega
          have hil : i' + ys.length < cur.length := by rw [HL.out]; omega
          obtain ⟨hcu, hfu⟩ := own_get hown hil
          have HR := Lib.hid (times_row 1000000000 xs ys cur i' cy HC.out HL.out hlt hcy HZ.out (by rw [HV.out, List.take_of_length_le (Nat.le_refl _)]))
          go_wp2
          go_roundw
          case rel =>
            have R := fun (u : Value) (hu : u = eU _) => own_put hown hb (Nat.le_refl _) (i' + ys.length) cy u hu
            exact ⟨i' + 1, _, by omega, by go_num, HR.out.1, HR.out.2.1, HR.out.2.2.1, HR.out.2.2.2, (R _ (congrArg (Value.int .u32) (by omega))).1, (R _ (congrArg (Value.int .u32) (by omega))).2⟩
          case measure => simp [intOf]; omega
    · obtain rfl : i' = xs.length := by omega
      have hsl : Sl eU wr _ cur := Sl.ofOwns hown
      go_wp2_with fail
      refine (trimmed_any _ _ _ hsl).mono ?_
      rintro e w' ⟨v3, rfl, hs3, rfl⟩
      go_wp2
      go_ret
      refine ⟨_, rfl, ?_, hb⟩
      rw [← trim_of 1000000000 cur _ (by omega) HC.out (by rw [HV.out, List.take_of_length_le (Nat.le_refl _)])]
      exact hs3
end Go.Proofs.YtlnhocgjgmhfgaaGreatDoor

namespace Go.Proofs.YtlnhocgjgmhfgaaGreatDoor
open Go.RowKit
set_option maxRecDepth 100000

theorem val_split (B : Nat) (l : List Nat) (i : Nat) (h : i < l.length) : val B l = val B (l.take i) + B ^ i * l[i] + B ^ (i + 1) * val B (l.drop (i + 1)) := by
  conv => lhs; rw [← List.take_append_drop (i + 1) l]
  rw [val_append, take_snoc l i h, val_snoc]
  simp only [List.length_append, List.length_take, List.length_cons, List.length_nil, Nat.zero_add, Nat.min_eq_left (Nat.le_of_lt h)]
theorem lt_of_digit (B : Nat) (xs ys : List Nat) (i : Nat) (h : i < xs.length) (h' : i < ys.length) (bx : ∀ a ∈ xs, a < B) (hd : xs.drop (i + 1) = ys.drop (i + 1)) (hlt : xs[i] < ys[i]) : val B xs < val B ys := by
  rw [val_split B xs i h, val_split B ys i h', hd]
  have h1 := val_lt B (xs.take i) (mem_take bx)
  rw [List.length_take_of_le (by omega)] at h1
  have h2 := Nat.mul_le_mul_left (B ^ i) (show xs[i] + 1 ≤ ys[i] from hlt)
  rw [Nat.mul_add, Nat.mul_one] at h2
  omega
theorem lt_of_len (B a b : Nat) (hB : 2 ≤ B) (h : (digs B a).length < (digs B b).length) : a < b := by
  rcases Nat.lt_or_ge a b with h1 | h1
  · exact h1
  · have := digs_len_mono B hB h1; omega
theorem drop_eq {α : Type} (l : List α) (i : Nat) (h : i < l.length) : l.drop i = l[i] :: l.drop (i + 1) := List.drop_eq_getElem_cons h

set_option maxHeartbeats 1000000 in
theorem compare_any (w : World) (x y : Value) (a b : Nat) (hx : Sl eU w x (digs 1000000000 a)) (hy : Sl eU w y (digs 1000000000 b)) 
    (hl : (digs 1000000000 a).length ≤ 1099511627776) (hl' : (digs 1000000000 b).length ≤ 1099511627776) :
    Calls Tryz.prog 168 #[x, y] w (Rets fun v w' => (∃ r : Int, v = .int .i64 r ∧ (r < 0 ↔ a < b) ∧ (r = 0 ↔ a = b)) ∧ Below w.heap.size w w') := by
  have hla : ∀ m, (digs 1000000000 m).length < (digs 1000000000 a).length → m < a := fun m h => lt_of_len _ _ _ (by omega) h
  have hlb : (digs 1000000000 a).length < (digs 1000000000 b).length → a < b := fun h => lt_of_len _ _ _ (by omega) h
  have ba := digs_lt 1000000000 a (by omega)
  have bb := digs_lt 1000000000 b (by omega)
  have va := val_digs 1000000000 a (by omega)
  have vb := val_digs 1000000000 b (by omega)
  generalize digs 1000000000 a = xs at *
  replace hla := hla b
  generalize digs 1000000000 b = ys at *
  obtain ⟨ad, bl, o, c, rfl, hi, hp, -, -⟩ := hx.open elemNat
  obtain ⟨a', b', o', c', rfl, hi', hq, -, -⟩ := hy.open elemNat
  have HLA := Lib.hid hla; clear hla
  have HLB := Lib.hid hlb; clear hlb
  have BX := Lib.hid ba; clear ba hx
  have BY := Lib.hid bb; clear bb hy
  have VA := Lib.hid va; clear va
  have VB := Lib.hid vb; clear vb
  by_cases hlen : xs.length = ys.length
  · have hne : ((xs.length : Int) != (ys.length : Int)) = false := by simp [hlen]
    have HLen := Lib.hid hlen; clear hlen
    go_enter Tryz.func168, Tryz.ntmps168
    go_wp2
    go_loopw [5] (fun i wr => ∃ k : Nat, k ≤ xs.length ∧ i = .int .i64 ((k : Int) - 1) ∧ xs.drop k = ys.drop k ∧ Below w.heap.size w wr) (fun i _ => (intOf i + 1).toNat)
    case atStart => exact ⟨xs.length, Nat.le_refl _, rfl, by rw [List.drop_of_length_le (Nat.le_refl _), HLen.out, List.drop_of_length_le (Nat.le_refl _)], Below.refl _ _⟩
    case round =>
      obtain ⟨k, hk, rfl, hd, hb⟩ := hrel
      have HD := Lib.hid hd; clear hd
      rcases k with _ | k
      · have heq : a = b := by
          have := HD.out
          simp only [List.drop_zero] at this
          rw [← VA.out, ← VB.out, this]
        have HE := Lib.hid heq; clear heq
        go_wp2
        go_ret
        exact ⟨_, rfl, ⟨_, rfl, by have := HE.out; omega, by have := HE.out; omega⟩, hb⟩
      · have hk2 : k < ys.length := by rw [← HLen.out]; omega
        have h1 : wr.cell? ⟨bl, o + k, none⟩ = some (.int .u32 (xs[k] : Nat)) := hp.at hb (Nat.le_refl _) k (by omega)
        have h2 : wr.cell? ⟨b', o' + k, none⟩ = some (.int .u32 (ys[k] : Nat)) := hq.at hb (Nat.le_refl _) k hk2
        have hbx := BX.out xs[k] (List.getElem_mem (by omega))
        have hby := BY.out ys[k] (List.getElem_mem hk2)
        have ek : (((k + 1 : Nat) : Int) - 1) = (k : Int) := by omega
        by_cases he : xs[k] = ys[k]
        · have hb1 : ((xs[k] : Int) != (ys[k] : Int)) = false := by simp [he]
          have HEK := Lib.hid he; clear he
          rw [ek]
          clear ek
          go_wp2
          go_quiet (fail)
          go_wp2
          go_roundw
          case rel => exact ⟨k, by omega, rfl, by rw [drop_eq xs k (by omega), drop_eq ys k hk2, HD.out, HEK.out], below_drewN hb _⟩
          case measure => simp [intOf]
        · have hb1 : ((xs[k] : Int) != (ys[k] : Int)) = true := by simp; omega
          have hfin : (xs[k] < ys[k] → a < b) ∧ (ys[k] < xs[k] → b < a) := by
            rw [← VA.out, ← VB.out]
            exact ⟨fun h => lt_of_digit _ xs ys k (by omega) hk2 BX.out HD.out h, fun h => lt_of_digit _ ys xs k hk2 (by omega) BY.out HD.out.symm h⟩
          have HF := Lib.hid hfin; clear hfin
          rw [ek]
          clear ek
          go_wp2
          go_quiet (fail)
          go_wp2
          go_quiet (fail)
          go_wp2
          go_ret
          exact ⟨_, rfl, ⟨_, rfl, by have := HF.out; omega, by have := HF.out; omega⟩, below_drewN (below_drewN hb _) _⟩
  · have hne : ((xs.length : Int) != (ys.length : Int)) = true := by simp; omega
    go_enter Tryz.func168, Tryz.ntmps168
    go_wp2
    go_ret
    refine ⟨_, rfl, ⟨_, rfl, ?_, ?_⟩, Below.refl _ _⟩
    · have := HLA.out; have := HLB.out; omega
    · have := HLA.out; have := HLB.out; omega

/-- One step of the quotient by a word. -/
theorem short_step (B : Nat) (xs os : List Nat) (k d r : Nat) (hk : k < xs.length) (ho : val B (xs.drop (k + 1)) = d * val B os + r) :
    val B (xs.drop k) = d * val B ((r * B + xs[k]) / d :: os) + (r * B + xs[k]) % d := by
  rw [drop_eq xs k hk, val, val, ho]
  have h1 := Nat.div_add_mod (r * B + xs[k]) d
  have h2 : d * ((r * B + xs[k]) / d + B * val B os) = d * ((r * B + xs[k]) / d) + B * (d * val B os) := by
    rw [Nat.mul_add]; congr 1; rw [← Nat.mul_assoc, ← Nat.mul_assoc, Nat.mul_comm d B]
  rw [h2, Nat.mul_add, Nat.mul_comm B r]
  omega
theorem short_lt (B d r x : Nat) (hr : r < d) (hx : x < B) : (r * B + x) / d < B := by
  rw [Nat.div_lt_iff_lt_mul (by omega)]
  have := Nat.mul_le_mul_right B (show r + 1 ≤ d from hr)
  rw [Nat.add_mul] at this
  rw [Nat.mul_comm B d]
  omega
theorem fill_down {α : Type} (os : List α) (k : Nat) (z d : α) : (List.replicate (k + 1) z ++ os).set k d = List.replicate k z ++ (d :: os) := by
  rw [List.replicate_succ', List.append_assoc, List.set_append_right _ _ (by simp)]
  simp

set_option maxHeartbeats 1000000 in
theorem short_any (w : World) (x : Value) (xs : List Nat) (d : Nat) (hx : Sl eU w x xs) (bx : ∀ a ∈ xs, a < 1000000000) (hd : 0 < d) (hd' : d < 1000000000)
    (hl : xs.length ≤ 1099511627776) :
    Calls Tryz.prog 177 #[x, .int .u32 d] w (Rets fun v w' => (∃ q r, v = .tuple #[q, r] ∧ Sl eU w' q (digs 1000000000 (val 1000000000 xs / d)) ∧ Sl eU w' r (digs 1000000000 (val 1000000000 xs % d))) ∧ Below w.heap.size w w') := by
  obtain ⟨ad, bl, o, c, rfl, hi, hp, -, -⟩ := hx.open elemNat
  have BX := Lib.hid bx; clear bx hx
  go_enter Tryz.func177, Tryz.ntmps177
  go_wp2_with (at_make; refine mkN elemNat rfl _ _ rfl xs.length rfl rfl rfl rfl (by omega) (by unfold maxLen; omega) (Below.refl _ _) (Nat.le_refl _) rfl ?_; intro w1 hown hb hb2; clear hb2)
  have hown := ownsRow_cast hown rfl (show List.replicate xs.length (Value.int .u32 0) = (List.replicate xs.length 0 ++ ([] : List Nat)).map eU by simp [eU])
  go_loopw [7, 8] (fun rest i wr => ∃ (k r : Nat) (os : List Nat), k ≤ xs.length ∧ i = .int .i64 ((k : Int) - 1) ∧ rest = .int .u64 r ∧ r < d ∧ os.length = xs.length - k ∧ (∀ a ∈ os, a < 1000000000) ∧ val 1000000000 (xs.drop k) = d * val 1000000000 os + r ∧
      wr.ownsRow w.heap.size 150 1 (.slice (some ⟨w.heap.size, 0, none⟩) xs.length xs.length) xs.length ((List.replicate k 0 ++ os).map eU) ∧ Below w.heap.size w wr) (fun _ i _ => (intOf i + 1).toNat)
  case atStart => exact ⟨xs.length, 0, [], Nat.le_refl _, rfl, rfl, hd, by simp, by simp, by simp [val], hown, hb⟩
  case round =>
    clear hown hb
    obtain ⟨k, r, os, hk, rfl, rfl, hr, hol, hos, hv, hown, hb⟩ := hrel
    have HOL := Lib.hid hol; clear hol
    have HOS := Lib.hid hos; clear hos
    have HV := Lib.hid hv; clear hv
    rcases k with _ | k
    · have hsl : Sl eU wr (.slice (some ⟨w.heap.size, 0, none⟩) xs.length xs.length) os := Sl.ofOwns (n := xs.length) (by simpa using hown)
      have hv := HV.out
      simp only [List.drop_zero] at hv
      have hq : val 1000000000 os = val 1000000000 xs / d := by rw [hv, Nat.mul_add_div hd, Nat.div_eq_of_lt hr, Nat.add_zero]
      have hr' : r = val 1000000000 xs % d := by rw [hv, Nat.mul_add_mod, Nat.mod_eq_of_lt hr]
      have HQ := Lib.hid hq; clear hq hv
      have HR := Lib.hid hr'; clear hr'
      go_wp2_with fail
      refine (trimmed_any _ _ _ hsl).mono ?_
      rintro e w' ⟨v3, rfl, hs3, rfl⟩
      go_wp2_with fail
      have hsl2 : Sl eU (wr.alloc (.cells #[.int .u32 (r : Int)] 150)) (.slice (some ⟨wr.heap.size, 0, none⟩) 1 1) [r] := Sl.ofOwns (n := 1) (base := 0) (e := 150) ⟨rfl, .inr ⟨wr.heap.size, 1, #[.int .u32 r], rfl, by omega, heap_alloc_new wr _, by omega, by simp [maxLen], rfl, rfl⟩⟩
      refine (trimmed_any _ _ _ hsl2).mono ?_
      rintro e w' ⟨v4, rfl, hs4, rfl⟩
      go_wp2
      go_ret2
      refine ⟨_, rfl, ⟨_, _, rfl, ?_, ?_⟩, hb.alloc hb.size _⟩
      · rw [← trim_of 1000000000 os _ (by omega) HOS.out HQ.out]
        exact hs3.below ((Below.refl _ wr).alloc (Nat.le_refl _) _) (Nat.le_refl _)
      · rw [← trim_of 1000000000 [r] _ (by omega) (fun a ha => by rw [List.mem_singleton.1 ha]; omega) (by have := HR.out; show r + 1000000000 * 0 = _; omega)]
        exact hs4
    · have hlt : k < xs.length := by omega
      have hbx := BX.out xs[k] (List.getElem_mem hlt)
      have h1 : wr.cell? ⟨bl, o + k, none⟩ = some (.int .u32 (xs[k] : Nat)) := hp.at hb (Nat.le_refl _) k hlt
      have hik : k < (List.replicate (k + 1) 0 ++ os).length := by simp; omega
      have hcu : wr.cell? ⟨w.heap.size, k, none⟩ = some (.int .u32 ((List.replicate (k + 1) 0 ++ os)[k] : Nat)) := (own_get hown hik).1
      have hfu := (own_get hown hik).2
      have ek : (((k + 1 : Nat) : Int) - 1) = (k : Int) := by omega
      have hstep := short_step 1000000000 xs os k d r hlt HV.out
      have HS := Lib.hid hstep; clear hstep
      have hqn := short_lt 1000000000 d r xs[k] hr hbx
      have hrn := Nat.mod_lt (r * 1000000000 + xs[k]) hd
      have hq1 : ((r : Int) * 1000000000 + (xs[k] : Int)) / (d : Int) < 1000000000 := Int.ofNat_lt.2 hqn
      have hq0 : 0 ≤ ((r : Int) * 1000000000 + (xs[k] : Int)) / (d : Int) := Int.ediv_nonneg (by omega) (by omega)
      rw [ek]
      clear ek
      go_wp2
      go_roundw
      case rel =>
        have R := fun (u : Value) (hu : u = eU _) => own_put hown hb (Nat.le_refl _) k ((r * 1000000000 + xs[k]) / d) u hu
        rw [fill_down] at R
        exact ⟨k, (r * 1000000000 + xs[k]) % d, ((r * 1000000000 + xs[k]) / d) :: os, by omega, rfl, congrArg (Value.int .u64) (by simp), hrn, by have := HOL.out; simp; omega,
          fun a ha => by rcases List.mem_cons.1 ha with h | h; exact h ▸ hqn; exact HOS.out a h, HS.out, (R _ (congrArg (Value.int .u32) (by simp))).1, (R _ (congrArg (Value.int .u32) (by simp))).2⟩
      case measure => simp [intOf]
end Go.Proofs.YtlnhocgjgmhfgaaGreatDoor
