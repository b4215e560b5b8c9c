/- The walks of integer's natural numbers. Plain laws for the product. The walk of integer's product of natural numbers. The walk of integer's comparison of natural numbers, and of the quotient by one word. Plain laws for the long division. The walk of integer's step of the long division. Plain laws for the long division: the scale, and the steps put together. The walk of integer's division of natural numbers. The contracts of the library that the program calls, at this translation: laid by the guide's own tools (lay-shelf, lay-plain), the wanted ones alone. What is asked of the package-level variables, and that it stays; the builder's contracts in the program's own numbers. Plain laws on decimal texts of numbers in words. The walk of integer's text of a natural number. The walks of integer's natural numbers: the difference. -/
import Derived.Test.YtlnhocgjgmhfgaaGreatDoorPk1
import Derived.Shelf.Strings.Builder1
import Derived.Shelf.Strings.Builder2
import Derived.Shelf.Small.Bits
import Derived.Shelf.Small.Wraps
import Derived.Shelf.Strings.BuilderF
import Derived.Shelf.Strings.BuilderK
import Derived.Shelf.Strings.Builder2Cap
import Derived.Shelf.Strconv.Itoa0
import Derived.Shelf.Strconv.Itoa1
import Derived.Shelf.LaysM
import Derived.Shelf.Strconv.Itoa2
import Derived.Shelf.Strconv.Itoa3
import Derived.Shelf.Strconv.Clone
import Derived.Shelf.Strconv.SyntaxError
import Derived.Shelf.LaysC
import Derived.Shelf.Strconv.ToError
import Derived.Shelf.Strconv.Lower
import Derived.Shelf.Strconv.ParseUint10
import Derived.Shelf.Strconv.ParseUint10Empty
import Derived.Shelf.Strconv.ParseUint10Any
import Derived.Shelf.Strconv.RangeError
import Derived.Shelf.Strconv.ToErrorRange
import Derived.Shelf.Strconv.ParseUintEmpty
import Derived.Shelf.Strconv.ParseUint10b64
import Derived.Shelf.Strconv.ParseUint10b32
import Derived.Shelf.Strconv.ParseUint10b16
import Derived.Shelf.Strconv.ParseUint10b8
import Derived.Shelf.Strconv.ParseUint10At
import Derived.Ground.MpProg
import Derived.Shelf.Pu.ParseUintPublic10
import Derived.Shelf.Pu.ErrVarParseUint
import Derived.Shelf.Strings.Prefix
import Derived.Shelf.Bits.Mul64
import Derived.Shelf.Strings.Repeat
import Derived.Shelf.Strings.BuilderCap
import Derived.Shelf.Slices.Equal
import Derived.Ground.Names2Prog
import Derived.Shelf.Slices.Clone
import Derived.Shelf.Slices.SearchI
import Derived.Shelf.Slices.Empties2
import Derived.Ground.SlgnProg
import Derived.Shelf.SlicesE.Clone
import Derived.Test.YtlnhocgjgmhfgaaGreatDoorProg
import Derived.Lib.AppendIntMem
import Derived.Lib.SmallJoins
import Derived.Lib.ItoaNum
import Derived.Lib.Repeat
namespace Go.Proofs.YtlnhocgjgmhfgaaGreatDoor
open Go.RowKit
set_option maxRecDepth 100000

theorem take_snoc {α : Type} (l : List α) (k : Nat) (h : k < l.length) : l.take (k + 1) = l.take k ++ [l[k]] := by
  rw [List.take_succ_eq_append_getElem h]

set_option maxHeartbeats 400000 in
theorem trimmed_any (w : World) (v : Value) (xs : List Nat) (hv : Sl eU w v xs) :
    Calls Tryz.prog 122 #[v] w (Rets fun v' w' => Sl eU w v' (trim xs) ∧ w = w') := by
  have HV := Lib.hid hv
  obtain ⟨a, b, o, c, rfl, hi, hx, hc, hm⟩ := hv.open elemNat
  clear hv
  unfold maxLen at hm
  go_enter Tryz.func122, Tryz.ntmps122
  go_wp2
  go_loop [0] (fun v => ∃ k : Nat, k ≤ xs.length ∧ v = .slice a k c ∧ trim (xs.take k) = trim xs) (fun v => match v with | .slice _ n _ => n | _ => 0)
  case atStart => exact ⟨xs.length, Nat.le_refl _, rfl, by simp⟩
  case round =>
    obtain ⟨k, hk, rfl, ht⟩ := hrel
    have HT := Lib.hid ht; clear ht
    rcases k with _ | k
    · go_wp2
      go_ret
      exact ⟨_, rfl, by rw [← HT.out]; exact HV.out.take 0 (Nat.zero_le _), rfl⟩
    · have hp : (0 : Int) < ((k + 1 : Nat) : Int) := by omega
      have h1 : w.cell? ⟨b, o + k, none⟩ = some (.int .u32 (xs[k] : Nat)) := hx.2 k (by omega)
      go_wp2
      · go_round
        case rel => 
          have h0 : ((xs[k] : Nat) == (0 : Int)) = true := by assumption
          have h0 : xs[k] = 0 := by simpa using h0
          exact ⟨k, by omega, rfl, by rw [← HT.out, take_snoc xs k (by omega), h0, trim_snoc_zero]⟩
        case measure => simp
      · go_ret
        have h0 : ((xs[k] : Nat) == (0 : Int)) = false := by assumption
        have h0 : xs[k] ≠ 0 := by simpa using h0
        exact ⟨_, rfl, by rw [← HT.out, take_snoc xs k (by omega), trim_snoc _ _ h0, ← take_snoc xs k (by omega)]; exact HV.out.take (k + 1) hk, rfl⟩

theorem val_take_succ (B : Nat) (l : List Nat) (k : Nat) : val B (l.take (k + 1)) = val B (l.take k) + B ^ k * l.getD k 0 := by
  by_cases h : k < l.length
  · rw [take_snoc l k h, val_snoc, List.length_take_of_le (by omega)]; simp [h]
  · rw [List.take_of_length_le (by omega), List.take_of_length_le (by omega)]; simp [h]

theorem mem_take {l : List Nat} {B k : Nat} (h : ∀ a ∈ l, a < B) : ∀ a ∈ l.take k, a < B := fun a ha => h a (List.mem_of_mem_take ha)
theorem getD_lt {l : List Nat} {B k : Nat} (h : ∀ a ∈ l, a < B) (hB : 0 < B) : l.getD k 0 < B := by
  by_cases hk : k < l.length
  · simp only [List.getD_eq_getElem?_getD, List.getElem?_eq_getElem hk, Option.getD_some]; exact h _ (List.getElem_mem hk)
  · simp [List.getElem?_eq_none (Nat.le_of_not_lt hk), hB]

/-- One round of the sum: the digit s goes out, the rest is carried. -/
theorem plus_step (B : Nat) (ps qs os : List Nat) (k c s : Nat) (hB : 0 < B) (ho : os.length = k) (hos : ∀ a ∈ os, a < B) (hv : val B os + B ^ k * c = val B (ps.take k) + val B (qs.take k)) (hs : s = ps.getD k 0 + c + qs.getD k 0) :
    (os ++ [s % B]).length = k + 1 ∧ (∀ a ∈ os ++ [s % B], a < B) ∧ val B (os ++ [s % B]) + B ^ (k + 1) * (s / B) = val B (ps.take (k + 1)) + val B (qs.take (k + 1)) := by
  refine ⟨by simp [ho], ?_, ?_⟩
  · intro a ha
    rcases List.mem_append.1 ha with h | h
    · exact hos a h
    · simp at h; subst h; exact Nat.mod_lt _ hB
  · rw [val_take_succ, val_take_succ, val_snoc, ho, Nat.pow_succ, Nat.mul_assoc]
    have h1 : B ^ k * s = B ^ k * (s % B) + B ^ k * (B * (s / B)) := by rw [← Nat.mul_add, Nat.mod_add_div]
    have h2 : B ^ k * s = B ^ k * ps.getD k 0 + B ^ k * c + B ^ k * qs.getD k 0 := by rw [hs, Nat.mul_add, Nat.mul_add]
    omega

set_option maxHeartbeats 1000000 in
theorem plus_any (w : World) (x y : Value) (xs ys : List Nat) (hx : Sl eU w x xs) (hy : Sl eU w y ys) (bx : ∀ a ∈ xs, a < 1000000000) (by' : ∀ a ∈ ys, a < 1000000000)
    (hl : xs.length ≤ 1099511627776) (hl' : ys.length ≤ 1099511627776) :
    Calls Tryz.prog 167 #[x, y] w (Rets fun v w' => Sl eU w' v (digs 1000000000 (val 1000000000 xs + val 1000000000 ys)) ∧ Below w.heap.size w w') := by
  have HX := Lib.hid hx
  have HY := Lib.hid hy
  obtain ⟨a, b, o, c, rfl, -, -, -, -⟩ := hx.open elemNat
  obtain ⟨a', b', o', c', rfl, -, -, -, -⟩ := hy.open elemNat
  have BX := Lib.hid bx; clear bx hx
  have BY := Lib.hid by'; clear by' hy
  go_enter Tryz.func167, Tryz.ntmps167
  go_upto_if 13 with fail
  go_cut [0, 1] (fun x y wx => ∃ ps qs : List Nat, Sl eU w x ps ∧ Sl eU w y qs ∧ (∀ a ∈ ps, a < 1000000000) ∧ (∀ a ∈ qs, a < 1000000000) ∧ qs.length ≤ ps.length ∧ ps.length ≤ 1099511627776 ∧
    val 1000000000 ps + val 1000000000 qs = val 1000000000 xs + val 1000000000 ys ∧ wx = w)
  case first =>
    go_wp2
    · go_meet
      have h : xs.length < ys.length := by assumption
      exact ⟨ys, xs, HY.out, HX.out, BY.out, BX.out, by omega, hl', by omega, rfl⟩
    · go_meet
      have h : ¬ xs.length < ys.length := by assumption
      exact ⟨xs, ys, HX.out, HY.out, BX.out, BY.out, by omega, hl, rfl, rfl⟩
  case rest =>
    obtain ⟨ps, qs, hp, hq, bp, bq, hlq, hlp, hv, rfl⟩ := hcut
    clear HX HY BX BY hl hl'
    obtain ⟨a, b, o, c, rfl, hi, hp, -, -⟩ := hp.open elemNat
    obtain ⟨a', b', o', c', rfl, hi', hq, -, -⟩ := hq.open elemNat
    have HV := Lib.hid hv; clear hv
    have BP := Lib.hid bp; clear bp
    have BQ := Lib.hid bq; clear bq
    go_wp2_with (at_make; refine mk0 elemNat rfl _ _ rfl (ps.length + 1) rfl rfl (by omega) (by omega) (by unfold maxLen; omega) (Below.refl _ _) (Nat.le_refl _) ?_; intro w1 hown hb hb2; clear hb2)
    go_loopw [5, 6, 22] (fun out cy i wr => ∃ (k c : Nat) (os : List Nat), k ≤ ps.length ∧ i = .int .i64 k ∧ cy = .int .u32 c ∧ c ≤ 1 ∧ os.length = k ∧ (∀ a ∈ os, a < 1000000000) ∧
        val 1000000000 os + 1000000000 ^ k * c = val 1000000000 (ps.take k) + val 1000000000 (qs.take k) ∧ wr.ownsRow wc.heap.size 150 1 out k (os.map eU) ∧ Below wc.heap.size wc wr) (fun _ _ i _ => ps.length - (intOf i).toNat)
    case atStart => exact ⟨0, 0, [], by omega, rfl, rfl, by omega, rfl, by simp, by simp [val], hown, hb⟩
    case round =>
      clear hown hb
      obtain ⟨k, cy, os, hk, rfl, rfl, hcy, hol, hos, hv, hown, hb⟩ := hrel
      have HOL := Lib.hid hol; clear hol
      have HOS := Lib.hid hos; clear hos
      have HV' := Lib.hid hv; clear hv
      have hbs := hb.size
      by_cases hlt : k < ps.length
      · have hbp := BP.out ps[k] (List.getElem_mem hlt)
        have hc1 : wr.cell? ⟨b, o + k, none⟩ = some (.int .u32 (ps[k] : Nat)) := hp.at hb (Nat.le_refl _) k hlt
        have hgp : ps.getD k 0 = ps[k] := by simp [hlt]
        by_cases hlt' : k < qs.length
        · have hbq := BQ.out qs[k] (List.getElem_mem hlt')
          have hc2 : wr.cell? ⟨b', o' + k, none⟩ = some (.int .u32 (qs[k] : Nat)) := hq.at hb (Nat.le_refl _) k hlt'
          have HR := Lib.hid (plus_step 1000000000 ps qs os k cy (ps[k] + cy + qs[k]) (by omega) HOL.out HOS.out HV'.out (by simp [hlt, hlt']))
          clear hgp
          go_wp2_with (at_builtin; refine app1 elemNat rfl _ _ rfl rfl rfl hown hb (Nat.le_refl _) hbs rfl (by simp [Value.oneCell']) (by omega) (by unfold maxLen; omega) ?_; intro v' w2 hown' hb')
          go_roundw
          case rel => exact ⟨k + 1, (ps[k] + cy + qs[k]) / 1000000000, os ++ [(ps[k] + cy + qs[k]) % 1000000000], by omega, by go_num, by go_num, by omega, HR.out.1, HR.out.2.1, HR.out.2.2, by simpa [eU] using hown', hb'⟩
          case measure => simp [intOf]; omega
        · have HR := Lib.hid (plus_step 1000000000 ps qs os k cy (ps[k] + cy) (by omega) HOL.out HOS.out HV'.out (by simp [hlt, List.getElem?_eq_none (Nat.le_of_not_lt hlt')]))
          clear hgp
          go_wp2_with (at_builtin; refine app1 elemNat rfl _ _ rfl rfl rfl hown hb (Nat.le_refl _) hbs rfl (by simp [Value.oneCell']) (by omega) (by unfold maxLen; omega) ?_; intro v' w2 hown' hb')
          go_roundw
          case rel => exact ⟨k + 1, (ps[k] + cy) / 1000000000, os ++ [(ps[k] + cy) % 1000000000], by omega, by go_num, by go_num, by omega, HR.out.1, HR.out.2.1, HR.out.2.2, by simpa [eU] using hown', hb'⟩
          case measure => simp [intOf]; omega
      · obtain rfl : k = ps.length := by omega
        have hsum : val 1000000000 (os ++ [cy]) = val 1000000000 xs + val 1000000000 ys := by
          rw [val_snoc, HOL.out, HV'.out, ← HV.out, List.take_of_length_le (Nat.le_refl _), List.take_of_length_le hlq]
        have HSum := Lib.hid hsum; clear hsum
        go_wp2_with (at_builtin; refine app1 elemNat rfl _ _ rfl rfl rfl hown hb (Nat.le_refl _) hbs rfl (by simp [Value.oneCell']) (by omega) (by unfold maxLen; omega) ?_; intro v' w2 hown' hb')
        have hsl : Sl eU w2 v' (os ++ [cy]) := Sl.ofOwns (by simpa [eU] using hown')
        refine (trimmed_any _ _ _ hsl).mono ?_
        rintro e w' ⟨v3, rfl, hs3, rfl⟩
        go_wp2
        go_ret
        refine ⟨_, rfl, ?_, hb'⟩
        rw [← trim_of 1000000000 (os ++ [cy]) _ (by omega) (fun a ha => ?_) HSum.out]
        · exact hs3
        · rcases List.mem_append.1 ha with h | h
          · exact HOS.out a h
          · simp at h; omega
end Go.Proofs.YtlnhocgjgmhfgaaGreatDoor

namespace Go.Proofs.YtlnhocgjgmhfgaaGreatDoor

theorem val_set (B : Nat) (l : List Nat) (j v : Nat) (h : j < l.length) : val B (l.set j v) + B ^ j * l.getD j 0 = val B l + B ^ j * v := by
  induction l generalizing j with
  | nil => simp at h
  | cons a l ih =>
    cases j with
    | zero => simp only [List.set_cons_zero, val, Nat.pow_zero, Nat.one_mul, List.getD_cons_zero]; omega
    | succ j =>
      have := ih j (by simpa using h)
      simp only [List.set_cons_succ, val, List.getD_cons_succ, Nat.pow_succ]
      have e1 : B ^ j * B * l.getD j 0 = B * (B ^ j * l.getD j 0) := by rw [Nat.mul_comm (B ^ j) B, Nat.mul_assoc]
      have e2 : B ^ j * B * v = B * (B ^ j * v) := by rw [Nat.mul_comm (B ^ j) B, Nat.mul_assoc]
      have e3 : B * (val B (l.set j v) + B ^ j * l.getD j 0) = B * (val B l + B ^ j * v) := by rw [this]
      rw [Nat.mul_add, Nat.mul_add] at e3
      omega
theorem getD_set (l : List Nat) (j i v : Nat) (h : j < l.length) : (l.set j v).getD i 0 = if i = j then v else l.getD i 0 := by
  simp only [List.getD_eq_getElem?_getD, List.getElem?_set]
  by_cases e : i = j
  · subst e; simp [h]
  · simp [e, Ne.symm e]
theorem mem_set_lt {l : List Nat} {B j v : Nat} (h : ∀ a ∈ l, a < B) (hv : v < B) : ∀ a ∈ l.set j v, a < B := by
  intro a ha
  rcases List.mem_or_eq_of_mem_set ha with h1 | h1
  · exact h a h1
  · omega

/-- One step of a row of the product. -/
theorem times_step (B : Nat) (xs ys cur : List Nat) (i k c s : Nat) (hcur : ∀ a ∈ cur, a < B) (hlen : cur.length = xs.length + ys.length) (hi : i < xs.length) (hk : k < ys.length)
    (hz : ∀ j, i + ys.length ≤ j → cur.getD j 0 = 0) (hB : 0 < B)
    (hv : val B cur + B ^ (i + k) * c = val B (xs.take i) * val B ys + B ^ i * (xs.getD i 0 * val B (ys.take k))) (hs : s = cur.getD (i + k) 0 + xs.getD i 0 * ys.getD k 0 + c) :
    (∀ a ∈ cur.set (i + k) (s % B), a < B) ∧ (cur.set (i + k) (s % B)).length = xs.length + ys.length ∧ (∀ j, i + ys.length ≤ j → (cur.set (i + k) (s % B)).getD j 0 = 0) ∧
    val B (cur.set (i + k) (s % B)) + B ^ (i + (k + 1)) * (s / B) = val B (xs.take i) * val B ys + B ^ i * (xs.getD i 0 * val B (ys.take (k + 1))) := by
  refine ⟨mem_set_lt hcur (Nat.mod_lt _ hB), by simp [hlen], fun j hj => ?_, ?_⟩
  · rw [getD_set _ _ _ _ (by omega), if_neg (by omega)]; exact hz j hj
  · have h1 := val_set B cur (i + k) (s % B) (by omega)
    have h2 : B ^ (i + k) * s = B ^ (i + k) * (s % B) + B ^ (i + (k + 1)) * (s / B) := by
      rw [← Nat.add_assoc, Nat.pow_succ, Nat.mul_assoc, ← Nat.mul_add, Nat.mod_add_div]
    have h3 : B ^ (i + k) * s = B ^ (i + k) * cur.getD (i + k) 0 + B ^ (i + k) * (xs.getD i 0 * ys.getD k 0) + B ^ (i + k) * c := by rw [hs, Nat.mul_add, Nat.mul_add]
    have h4 : B ^ i * (xs.getD i 0 * val B (ys.take (k + 1))) = B ^ i * (xs.getD i 0 * val B (ys.take k)) + B ^ (i + k) * (xs.getD i 0 * ys.getD k 0) := by
      rw [val_take_succ, Nat.mul_add, Nat.mul_add, Nat.pow_add]
      congr 1
      rw [Nat.mul_assoc]; congr 1
      rw [← Nat.mul_assoc, ← Nat.mul_assoc, Nat.mul_comm (xs.getD i 0)]
    omega
/-- The end of a row. -/
theorem times_row (B : Nat) (xs ys cur : List Nat) (i c : Nat) (hcur : ∀ a ∈ cur, a < B) (hlen : cur.length = xs.length + ys.length) (hi : i < xs.length) (hc : c < B)
    (hz : ∀ j, i + ys.length ≤ j → cur.getD j 0 = 0)
    (hv : val B cur + B ^ (i + ys.length) * c = val B (xs.take i) * val B ys + B ^ i * (xs.getD i 0 * val B ys)) :
    (∀ a ∈ cur.set (i + ys.length) c, a < B) ∧ (cur.set (i + ys.length) c).length = xs.length + ys.length ∧ (∀ j, i + 1 + ys.length ≤ j → (cur.set (i + ys.length) c).getD j 0 = 0) ∧
    val B (cur.set (i + ys.length) c) = val B (xs.take (i + 1)) * val B ys := by
  refine ⟨mem_set_lt hcur hc, by simp [hlen], fun j hj => ?_, ?_⟩
  · rw [getD_set _ _ _ _ (by omega), if_neg (by omega)]; exact hz j (by omega)
  · have h1 := val_set B cur (i + ys.length) c (by omega)
    rw [hz _ (Nat.le_refl _)] at h1
    rw [val_take_succ, Nat.add_mul, Nat.mul_assoc]
    omega
theorem times_bound {a b c d : Nat} (ha : a < 1000000000) (hb : b < 1000000000) (hc : c < 1000000000) (hd : d < 1000000000) : d + a * b + c < 1000000000000000000 ∧ a * b < 1000000000000000000 := by
  have := Nat.mul_le_mul (show a ≤ 999999999 by omega) (show b ≤ 999999999 by omega)
  omega
end Go.Proofs.YtlnhocgjgmhfgaaGreatDoor
namespace Go.Proofs.YtlnhocgjgmhfgaaGreatDoor
open Go.RowKit
set_option maxRecDepth 100000

set_option maxHeartbeats 1000000 in
theorem times_any (w : World) (x y : Value) (xs ys : List Nat) (hx : Sl eU w x xs) (hy : Sl eU w y ys) (bx : ∀ a ∈ xs, a < 1000000000) (by' : ∀ a ∈ ys, a < 1000000000)
    (hl : xs.length + ys.length ≤ 1099511627776) :
    Calls Tryz.prog 105 #[x, y] w (Rets fun v w' => Sl eU w' v (digs 1000000000 (val 1000000000 xs * val 1000000000 ys)) ∧ Below w.heap.size w w') := by
  obtain ⟨a, b, o, c, rfl, hi, hp, -, -⟩ := hx.open elemNat
  obtain ⟨a', b', o', c', rfl, hi', hq, -, -⟩ := hy.open elemNat
  have BX := Lib.hid bx; clear bx hx
  have BY := Lib.hid by'; clear by' hy
  go_enter Tryz.func105, Tryz.ntmps105
  go_wp2_with (at_make; refine mkN elemNat rfl _ _ rfl (xs.length + ys.length) rfl rfl (by omega) (by omega) (by omega) (by unfold maxLen; omega) (Below.refl _ _) (Nat.le_refl _) rfl ?_; intro w1 hown hb hb2; clear hb2)
  have hown := ownsRow_cast hown rfl (show List.replicate (xs.length + ys.length) (Value.int .u32 0) = (List.replicate (xs.length + ys.length) 0).map eU by simp [eU])
  go_loopw [20] (fun i wr => ∃ (i' : Nat) (cur : List Nat), i' ≤ xs.length ∧ i = .int .i64 i' ∧ (∀ a ∈ cur, a < 1000000000) ∧ cur.length = xs.length + ys.length ∧ (∀ j, i' + ys.length ≤ j → cur.getD j 0 = 0) ∧
      val 1000000000 cur = val 1000000000 (xs.take i') * val 1000000000 ys ∧ wr.ownsRow w.heap.size 150 1 (.slice (some ⟨w.heap.size, 0, none⟩) (xs.length + ys.length) (xs.length + ys.length)) (xs.length + ys.length) (cur.map eU) ∧ Below w.heap.size w wr) (fun i _ => xs.length - (intOf i).toNat)
  case atStart => 
    refine ⟨0, _, by omega, rfl, ?_, ?_, ?_, ?_, hown, hb⟩
    · intro a ha; rw [List.eq_of_mem_replicate ha]; omega
    · simp
    · intro j hj; rw [List.getD_eq_getElem?_getD, List.getElem?_replicate]; split <;> rfl
    · have : ∀ n, val 1000000000 (List.replicate n 0) = 0 := fun n => by induction n with
        | zero => rfl
        | succ n ih => rw [List.replicate_succ, val, ih]
      rw [this]; simp [val]
  case round =>
    clear hown hb
    obtain ⟨i', cur, hi0, rfl, hcur, hlen, hz, hv, hown, hb⟩ := hrel
    have HC := Lib.hid hcur; clear hcur
    have HL := Lib.hid hlen; clear hlen
    have HZ := Lib.hid hz; clear hz
    have HV := Lib.hid hv; clear hv
    by_cases hlt : i' < xs.length
    · have hbp := BX.out xs[i'] (List.getElem_mem hlt)
      have hc1 : wr.cell? ⟨b, o + i', none⟩ = some (.int .u32 (xs[i'] : Nat)) := hp.at hb (Nat.le_refl _) i' hlt
      have hgx : Hid (xs.getD i' 0 = xs[i']) := by simp [Hid, hlt]
      go_wp2
      go_loopw [8, 27] (fun cy k wr => ∃ (k' c : Nat) (cur : List Nat), k' ≤ ys.length ∧ k = .int .i64 k' ∧ cy = .int .u64 c ∧ c < 1000000000 ∧ (∀ a ∈ cur, a < 1000000000) ∧ cur.length = xs.length + ys.length ∧ (∀ j, i' + ys.length ≤ j → cur.getD j 0 = 0) ∧
        val 1000000000 cur + 1000000000 ^ (i' + k') * c = val 1000000000 (xs.take i') * val 1000000000 ys + 1000000000 ^ i' * (xs.getD i' 0 * val 1000000000 (ys.take k')) ∧
        wr.ownsRow w.heap.size 150 1 (.slice (some ⟨w.heap.size, 0, none⟩) (xs.length + ys.length) (xs.length + ys.length)) (xs.length + ys.length) (cur.map eU) ∧ Below w.heap.size w wr) (fun _ k _ => ys.length - (intOf k).toNat)
      case atStart => exact ⟨0, 0, cur, by omega, rfl, rfl, by omega, HC.out, HL.out, HZ.out, by rw [HV.out]; simp [val], hown, hb⟩
      case round =>
        clear hown hb HC HL HZ HV hc1
        obtain ⟨k', cy, cur, hk0, rfl, rfl, hcy, hcur, hlen, hz, hv, hown, hb⟩ := hrel
        have HC := Lib.hid hcur; clear hcur
        have HL := Lib.hid hlen; clear hlen
        have HZ := Lib.hid hz; clear hz
        have HV := Lib.hid hv; clear hv
        by_cases hlt' : k' < ys.length
        · have hbq := BY.out ys[k'] (List.getElem_mem hlt')
          have hc2 : wr.cell? ⟨b', o' + k', none⟩ = some (.int .u32 (ys[k'] : Nat)) := hq.at hb (Nat.le_refl _) k' hlt'
          have hik : i' + k' < cur.length := by rw [HL.out]; omega
          have hcu : wr.cell? ⟨w.heap.size, i' + k', none⟩ = some (.int .u32 (cur[i' + k'] : Nat)) := (own_get hown hik).1
          have hfu := (own_get hown hik).2
          have hbc := HC.out cur[i' + k'] (List.getElem_mem hik)
          have hbd := times_bound hbp hbq hcy hbc
          have hm1 : (xs[i'] : Int) * (ys[k'] : Int) < 1000000000000000000 := by have := hbd.2; rw [← Int.natCast_mul]; omega
          have hm0 : 0 ≤ (xs[i'] : Int) * (ys[k'] : Int) := by rw [← Int.natCast_mul]; omega
          have HB := Lib.hid hbd; clear hbd
          have HR := Lib.hid (times_step 1000000000 xs ys cur i' k' cy (cur[i' + k'] + xs[i'] * ys[k'] + cy) HC.out HL.out hlt hlt' HZ.out (by omega) HV.out (by simp [hlt, hlt', hik]))
          go_wp2
          go_roundw
          case rel =>
            have R := fun (u : Value) (hu : u = eU _) => own_put hown hb (Nat.le_refl _) (i' + k') ((cur[i' + k'] + xs[i'] * ys[k'] + cy) % 1000000000) u hu
            have e1 : (((cur[i' + k'] + xs[i'] * ys[k'] + cy : Nat) : Int)) = (cur[i' + k'] : Int) + xs[i'] * ys[k'] + cy := by simp
            exact ⟨k' + 1, (cur[i' + k'] + xs[i'] * ys[k'] + cy) / 1000000000, _, by omega, by go_num, congrArg (Value.int .u64) (by omega), by have := HB.out; omega, HR.out.1, HR.out.2.1, HR.out.2.2.1, HR.out.2.2.2, (R _ (congrArg (Value.int .u32) (by omega))).1, (R _ (congrArg (Value.int .u32) (by omega))).2⟩
          case measure => simp [intOf]; omega
        · obtain rfl : k' = ys.length := by omega
          have hil : i' + ys.length < cur.length := by rw [HL.out]; omega
          obtain ⟨hcu, hfu⟩ := own_get hown hil
          have HR := Lib.hid (times_row 1000000000 xs ys cur i' cy HC.out HL.out hlt hcy HZ.out (by rw [HV.out, List.take_of_length_le (Nat.le_refl _)]))
          go_wp2
          go_roundw
          case rel =>
            have R := fun (u : Value) (hu : u = eU _) => own_put hown hb (Nat.le_refl _) (i' + ys.length) cy u hu
            exact ⟨i' + 1, _, by omega, by go_num, HR.out.1, HR.out.2.1, HR.out.2.2.1, HR.out.2.2.2, (R _ (congrArg (Value.int .u32) (by omega))).1, (R _ (congrArg (Value.int .u32) (by omega))).2⟩
          case measure => simp [intOf]; omega
    · obtain rfl : i' = xs.length := by omega
      have hsl : Sl eU wr _ cur := Sl.ofOwns hown
      go_wp2_with fail
      refine (trimmed_any _ _ _ hsl).mono ?_
      rintro e w' ⟨v3, rfl, hs3, rfl⟩
      go_wp2
      go_ret
      refine ⟨_, rfl, ?_, hb⟩
      rw [← trim_of 1000000000 cur _ (by omega) HC.out (by rw [HV.out, List.take_of_length_le (Nat.le_refl _)])]
      exact hs3
end Go.Proofs.YtlnhocgjgmhfgaaGreatDoor

namespace Go.Proofs.YtlnhocgjgmhfgaaGreatDoor
open Go.RowKit
set_option maxRecDepth 100000

theorem val_split (B : Nat) (l : List Nat) (i : Nat) (h : i < l.length) : val B l = val B (l.take i) + B ^ i * l[i] + B ^ (i + 1) * val B (l.drop (i + 1)) := by
  conv => lhs; rw [← List.take_append_drop (i + 1) l]
  rw [val_append, take_snoc l i h, val_snoc]
  simp only [List.length_append, List.length_take, List.length_cons, List.length_nil, Nat.zero_add, Nat.min_eq_left (Nat.le_of_lt h)]
theorem lt_of_digit (B : Nat) (xs ys : List Nat) (i : Nat) (h : i < xs.length) (h' : i < ys.length) (bx : ∀ a ∈ xs, a < B) (hd : xs.drop (i + 1) = ys.drop (i + 1)) (hlt : xs[i] < ys[i]) : val B xs < val B ys := by
  rw [val_split B xs i h, val_split B ys i h', hd]
  have h1 := val_lt B (xs.take i) (mem_take bx)
  rw [List.length_take_of_le (by omega)] at h1
  have h2 := Nat.mul_le_mul_left (B ^ i) (show xs[i] + 1 ≤ ys[i] from hlt)
  rw [Nat.mul_add, Nat.mul_one] at h2
  omega
theorem lt_of_len (B a b : Nat) (hB : 2 ≤ B) (h : (digs B a).length < (digs B b).length) : a < b := by
  rcases Nat.lt_or_ge a b with h1 | h1
  · exact h1
  · have := digs_len_mono B hB h1; omega
theorem drop_eq {α : Type} (l : List α) (i : Nat) (h : i < l.length) : l.drop i = l[i] :: l.drop (i + 1) := List.drop_eq_getElem_cons h

set_option maxHeartbeats 1000000 in
theorem compare_any (w : World) (x y : Value) (a b : Nat) (hx : Sl eU w x (digs 1000000000 a)) (hy : Sl eU w y (digs 1000000000 b)) 
    (hl : (digs 1000000000 a).length ≤ 1099511627776) (hl' : (digs 1000000000 b).length ≤ 1099511627776) :
    Calls Tryz.prog 168 #[x, y] w (Rets fun v w' => (∃ r : Int, v = .int .i64 r ∧ (r < 0 ↔ a < b) ∧ (r = 0 ↔ a = b)) ∧ Below w.heap.size w w') := by
  have hla : ∀ m, (digs 1000000000 m).length < (digs 1000000000 a).length → m < a := fun m h => lt_of_len _ _ _ (by omega) h
  have hlb : (digs 1000000000 a).length < (digs 1000000000 b).length → a < b := fun h => lt_of_len _ _ _ (by omega) h
  have ba := digs_lt 1000000000 a (by omega)
  have bb := digs_lt 1000000000 b (by omega)
  have va := val_digs 1000000000 a (by omega)
  have vb := val_digs 1000000000 b (by omega)
  generalize digs 1000000000 a = xs at *
  replace hla := hla b
  generalize digs 1000000000 b = ys at *
  obtain ⟨ad, bl, o, c, rfl, hi, hp, -, -⟩ := hx.open elemNat
  obtain ⟨a', b', o', c', rfl, hi', hq, -, -⟩ := hy.open elemNat
  have HLA := Lib.hid hla; clear hla
  have HLB := Lib.hid hlb; clear hlb
  have BX := Lib.hid ba; clear ba hx
  have BY := Lib.hid bb; clear bb hy
  have VA := Lib.hid va; clear va
  have VB := Lib.hid vb; clear vb
  by_cases hlen : xs.length = ys.length
  · have hne : ((xs.length : Int) != (ys.length : Int)) = false := by simp [hlen]
    have HLen := Lib.hid hlen; clear hlen
    go_enter Tryz.func168, Tryz.ntmps168
    go_wp2
    go_loopw [5] (fun i wr => ∃ k : Nat, k ≤ xs.length ∧ i = .int .i64 ((k : Int) - 1) ∧ xs.drop k = ys.drop k ∧ Below w.heap.size w wr) (fun i _ => (intOf i + 1).toNat)
    case atStart => exact ⟨xs.length, Nat.le_refl _, rfl, by rw [List.drop_of_length_le (Nat.le_refl _), HLen.out, List.drop_of_length_le (Nat.le_refl _)], Below.refl _ _⟩
    case round =>
      obtain ⟨k, hk, rfl, hd, hb⟩ := hrel
      have HD := Lib.hid hd; clear hd
      rcases k with _ | k
      · have heq : a = b := by
          have := HD.out
          simp only [List.drop_zero] at this
          rw [← VA.out, ← VB.out, this]
        have HE := Lib.hid heq; clear heq
        go_wp2
        go_ret
        exact ⟨_, rfl, ⟨_, rfl, by have := HE.out; omega, by have := HE.out; omega⟩, hb⟩
      · have hk2 : k < ys.length := by rw [← HLen.out]; omega
        have h1 : wr.cell? ⟨bl, o + k, none⟩ = some (.int .u32 (xs[k] : Nat)) := hp.at hb (Nat.le_refl _) k (by omega)
        have h2 : wr.cell? ⟨b', o' + k, none⟩ = some (.int .u32 (ys[k] : Nat)) := hq.at hb (Nat.le_refl _) k hk2
        have hbx := BX.out xs[k] (List.getElem_mem (by omega))
        have hby := BY.out ys[k] (List.getElem_mem hk2)
        have ek : (((k + 1 : Nat) : Int) - 1) = (k : Int) := by omega
        by_cases he : xs[k] = ys[k]
        · have hb1 : ((xs[k] : Int) != (ys[k] : Int)) = false := by simp [he]
          have HEK := Lib.hid he; clear he
          rw [ek]
          clear ek
          go_wp2
          go_quiet (fail)
          go_wp2
          go_roundw
          case rel => exact ⟨k, by omega, rfl, by rw [drop_eq xs k (by omega), drop_eq ys k hk2, HD.out, HEK.out], below_drewN hb _⟩
          case measure => simp [intOf]
        · have hb1 : ((xs[k] : Int) != (ys[k] : Int)) = true := by simp; omega
          have hfin : (xs[k] < ys[k] → a < b) ∧ (ys[k] < xs[k] → b < a) := by
            rw [← VA.out, ← VB.out]
            exact ⟨fun h => lt_of_digit _ xs ys k (by omega) hk2 BX.out HD.out h, fun h => lt_of_digit _ ys xs k hk2 (by omega) BY.out HD.out.symm h⟩
          have HF := Lib.hid hfin; clear hfin
          rw [ek]
          clear ek
          go_wp2
          go_quiet (fail)
          go_wp2
          go_quiet (fail)
          go_wp2
          go_ret
          exact ⟨_, rfl, ⟨_, rfl, by have := HF.out; omega, by have := HF.out; omega⟩, below_drewN (below_drewN hb _) _⟩
  · have hne : ((xs.length : Int) != (ys.length : Int)) = true := by simp; omega
    go_enter Tryz.func168, Tryz.ntmps168
    go_wp2
    go_ret
    refine ⟨_, rfl, ⟨_, rfl, ?_, ?_⟩, Below.refl _ _⟩
    · have := HLA.out; have := HLB.out; omega
    · have := HLA.out; have := HLB.out; omega

/-- One step of the quotient by a word. -/
theorem short_step (B : Nat) (xs os : List Nat) (k d r : Nat) (hk : k < xs.length) (ho : val B (xs.drop (k + 1)) = d * val B os + r) :
    val B (xs.drop k) = d * val B ((r * B + xs[k]) / d :: os) + (r * B + xs[k]) % d := by
  rw [drop_eq xs k hk, val, val, ho]
  have h1 := Nat.div_add_mod (r * B + xs[k]) d
  have h2 : d * ((r * B + xs[k]) / d + B * val B os) = d * ((r * B + xs[k]) / d) + B * (d * val B os) := by
    rw [Nat.mul_add]; congr 1; rw [← Nat.mul_assoc, ← Nat.mul_assoc, Nat.mul_comm d B]
  rw [h2, Nat.mul_add, Nat.mul_comm B r]
  omega
theorem short_lt (B d r x : Nat) (hr : r < d) (hx : x < B) : (r * B + x) / d < B := by
  rw [Nat.div_lt_iff_lt_mul (by omega)]
  have := Nat.mul_le_mul_right B (show r + 1 ≤ d from hr)
  rw [Nat.add_mul] at this
  rw [Nat.mul_comm B d]
  omega
theorem fill_down {α : Type} (os : List α) (k : Nat) (z d : α) : (List.replicate (k + 1) z ++ os).set k d = List.replicate k z ++ (d :: os) := by
  rw [List.replicate_succ', List.append_assoc, List.set_append_right _ _ (by simp)]
  simp

set_option maxHeartbeats 1000000 in
theorem short_any (w : World) (x : Value) (xs : List Nat) (d : Nat) (hx : Sl eU w x xs) (bx : ∀ a ∈ xs, a < 1000000000) (hd : 0 < d) (hd' : d < 1000000000)
    (hl : xs.length ≤ 1099511627776) :
    Calls Tryz.prog 177 #[x, .int .u32 d] w (Rets fun v w' => (∃ q r, v = .tuple #[q, r] ∧ Sl eU w' q (digs 1000000000 (val 1000000000 xs / d)) ∧ Sl eU w' r (digs 1000000000 (val 1000000000 xs % d))) ∧ Below w.heap.size w w') := by
  obtain ⟨ad, bl, o, c, rfl, hi, hp, -, -⟩ := hx.open elemNat
  have BX := Lib.hid bx; clear bx hx
  go_enter Tryz.func177, Tryz.ntmps177
  go_wp2_with (at_make; refine mkN elemNat rfl _ _ rfl xs.length rfl rfl rfl rfl (by omega) (by unfold maxLen; omega) (Below.refl _ _) (Nat.le_refl _) rfl ?_; intro w1 hown hb hb2; clear hb2)
  have hown := ownsRow_cast hown rfl (show List.replicate xs.length (Value.int .u32 0) = (List.replicate xs.length 0 ++ ([] : List Nat)).map eU by simp [eU])
  go_loopw [7, 8] (fun rest i wr => ∃ (k r : Nat) (os : List Nat), k ≤ xs.length ∧ i = .int .i64 ((k : Int) - 1) ∧ rest = .int .u64 r ∧ r < d ∧ os.length = xs.length - k ∧ (∀ a ∈ os, a < 1000000000) ∧ val 1000000000 (xs.drop k) = d * val 1000000000 os + r ∧
      wr.ownsRow w.heap.size 150 1 (.slice (some ⟨w.heap.size, 0, none⟩) xs.length xs.length) xs.length ((List.replicate k 0 ++ os).map eU) ∧ Below w.heap.size w wr) (fun _ i _ => (intOf i + 1).toNat)
  case atStart => exact ⟨xs.length, 0, [], Nat.le_refl _, rfl, rfl, hd, by simp, by simp, by simp [val], hown, hb⟩
  case round =>
    clear hown hb
    obtain ⟨k, r, os, hk, rfl, rfl, hr, hol, hos, hv, hown, hb⟩ := hrel
    have HOL := Lib.hid hol; clear hol
    have HOS := Lib.hid hos; clear hos
    have HV := Lib.hid hv; clear hv
    rcases k with _ | k
    · have hsl : Sl eU wr (.slice (some ⟨w.heap.size, 0, none⟩) xs.length xs.length) os := Sl.ofOwns (n := xs.length) (by simpa using hown)
      have hv := HV.out
      simp only [List.drop_zero] at hv
      have hq : val 1000000000 os = val 1000000000 xs / d := by rw [hv, Nat.mul_add_div hd, Nat.div_eq_of_lt hr, Nat.add_zero]
      have hr' : r = val 1000000000 xs % d := by rw [hv, Nat.mul_add_mod, Nat.mod_eq_of_lt hr]
      have HQ := Lib.hid hq; clear hq hv
      have HR := Lib.hid hr'; clear hr'
      go_wp2_with fail
      refine (trimmed_any _ _ _ hsl).mono ?_
      rintro e w' ⟨v3, rfl, hs3, rfl⟩
      go_wp2_with fail
      have hsl2 : Sl eU (wr.alloc (.cells #[.int .u32 (r : Int)] 150)) (.slice (some ⟨wr.heap.size, 0, none⟩) 1 1) [r] := Sl.ofOwns (n := 1) (base := 0) (e := 150) ⟨rfl, .inr ⟨wr.heap.size, 1, #[.int .u32 r], rfl, by omega, heap_alloc_new wr _, by omega, by simp [maxLen], rfl, rfl⟩⟩
      refine (trimmed_any _ _ _ hsl2).mono ?_
      rintro e w' ⟨v4, rfl, hs4, rfl⟩
      go_wp2
      go_ret2
      refine ⟨_, rfl, ⟨_, _, rfl, ?_, ?_⟩, hb.alloc hb.size _⟩
      · rw [← trim_of 1000000000 os _ (by omega) HOS.out HQ.out]
        exact hs3.below ((Below.refl _ wr).alloc (Nat.le_refl _) _) (Nat.le_refl _)
      · rw [← trim_of 1000000000 [r] _ (by omega) (fun a ha => by rw [List.mem_singleton.1 ha]; omega) (by have := HR.out; show r + 1000000000 * 0 = _; omega)]
        exact hs4
    · have hlt : k < xs.length := by omega
      have hbx := BX.out xs[k] (List.getElem_mem hlt)
      have h1 : wr.cell? ⟨bl, o + k, none⟩ = some (.int .u32 (xs[k] : Nat)) := hp.at hb (Nat.le_refl _) k hlt
      have hik : k < (List.replicate (k + 1) 0 ++ os).length := by simp; omega
      have hcu : wr.cell? ⟨w.heap.size, k, none⟩ = some (.int .u32 ((List.replicate (k + 1) 0 ++ os)[k] : Nat)) := (own_get hown hik).1
      have hfu := (own_get hown hik).2
      have ek : (((k + 1 : Nat) : Int) - 1) = (k : Int) := by omega
      have hstep := short_step 1000000000 xs os k d r hlt HV.out
      have HS := Lib.hid hstep; clear hstep
      have hqn := short_lt 1000000000 d r xs[k] hr hbx
      have hrn := Nat.mod_lt (r * 1000000000 + xs[k]) hd
      have hq1 : ((r : Int) * 1000000000 + (xs[k] : Int)) / (d : Int) < 1000000000 := Int.ofNat_lt.2 hqn
      have hq0 : 0 ≤ ((r : Int) * 1000000000 + (xs[k] : Int)) / (d : Int) := Int.ediv_nonneg (by omega) (by omega)
      rw [ek]
      clear ek
      go_wp2
      go_roundw
      case rel =>
        have R := fun (u : Value) (hu : u = eU _) => own_put hown hb (Nat.le_refl _) k ((r * 1000000000 + xs[k]) / d) u hu
        rw [fill_down] at R
        exact ⟨k, (r * 1000000000 + xs[k]) % d, ((r * 1000000000 + xs[k]) / d) :: os, by omega, rfl, congrArg (Value.int .u64) (by simp), hrn, by have := HOL.out; simp; omega,
          fun a ha => by rcases List.mem_cons.1 ha with h | h; exact h ▸ hqn; exact HOS.out a h, HS.out, (R _ (congrArg (Value.int .u32) (by simp))).1, (R _ (congrArg (Value.int .u32) (by simp))).2⟩
      case measure => simp [intOf]
end Go.Proofs.YtlnhocgjgmhfgaaGreatDoor

namespace Go.Proofs.YtlnhocgjgmhfgaaGreatDoor

theorem knuth1 (q vt v2 vl top u2 ul B P U V : Nat) (hV : V = (vt*B+v2)*P+vl) (hU : U = (top*B+u2)*P+ul) (h2 : u2 < B) (hul : ul < P) (hq : q * V ≤ U) : q*vt*(B*P) < (top+1)*(B*P) := by
  subst hV hU
  have h1 : (u2+1)*P ≤ B*P := Nat.mul_le_mul_right _ h2
  grind
theorem knuth2 (g r vt v2 vl top u2 ul B P U V : Nat) (hV : V = (vt*B+v2)*P+vl) (hU : U = (top*B+u2)*P+ul) (hul : ul < P) (hgr : g * vt + r = top) (h : r * B + u2 < g * v2) : U < g * V := by
  subst hV hU hgr
  have h1 : (r * B + u2 + 1)*P ≤ g * v2 *P := Nat.mul_le_mul_right _ h
  grind
theorem knuth3 (g r vt v2 vl top u2 ul B P U V : Nat) (hV : V = (vt*B+v2)*P+vl) (hU : U = (top*B+u2)*P+ul) (hvl : vl < P) (hvt : 0 < vt) (hgr : g * vt + r = top) (hg : g < B) (h : g * v2 ≤ r * B + u2) : g * V < U + V := by
  subst hV hU hgr
  have h1 : g * v2 *P ≤ (r * B + u2)*P := Nat.mul_le_mul_right _ h
  have h2 : g * vl ≤ g * P := Nat.mul_le_mul_left _ (by omega)
  have h3 : (g+1) * P ≤ B * P := Nat.mul_le_mul_right _ hg
  have h4 : 1 * (B * P) ≤ vt * (B*P) := Nat.mul_le_mul_right _ hvt
  grind
theorem knuth4 (g r vt v2 vl top u2 ul B P U V : Nat) (hV : V = (vt*B+v2)*P+vl) (hU : U = (top*B+u2)*P+ul) (hvl : vl < P) (hv2 : v2 < B) (hgr : g * vt + r = top) (hg : g < B) (h : B ≤ r) : g * V ≤ U := by
  subst hV hU hgr
  have h1 : g * vl ≤ g * P := Nat.mul_le_mul_left _ (by omega)
  have h2 : g * ((v2 + 1) * P) ≤ g * (B * P) := Nat.mul_le_mul_left _ (Nat.mul_le_mul_right _ hv2)
  have h3 : g * (B * P) ≤ r * (B * P) := Nat.mul_le_mul_right _ (by omega)
  grind
theorem knuth5 (g r vt v2 vl un un1 u2 ul B P U V : Nat) (hV : V = (vt*B+v2)*P+vl) (hU : U = ((un * B + un1)*B+u2)*P+ul) (hvl : vl < P) (hv2 : v2 < B) (hun1 : un1 < B) (hgr : g * vt + r = un * B + un1) (hUV : U < B * V) (hg : B ≤ g) : r < B ∧ un ≤ vt := by
  have hun : un ≤ vt := by
    rcases Nat.lt_or_ge vt un with h | h
    · exfalso
      subst hV hU
      have h1 : (vt + 1) * (B * B * P) ≤ un * (B * B * P) := Nat.mul_le_mul_right _ h
      have h2 : B * ((v2 + 1) * P) ≤ B * (B * P) := Nat.mul_le_mul_left _ (Nat.mul_le_mul_right _ hv2)
      have h3 : B * (vl + 1) ≤ B * P := Nat.mul_le_mul_left _ hvl
      grind
    · exact h
  refine ⟨?_, hun⟩
  have h4 : B * vt ≤ g * vt := Nat.mul_le_mul_right _ hg
  have h5 : un * B ≤ vt * B := Nat.mul_le_mul_right _ hun
  grind

/-- One round of taking away: the digit d goes out, c' is borrowed. -/
theorem msub_step (B g : Nat) (us vs os : List Nat) (k c d c' : Nat) (ho : os.length = k) (hos : ∀ a ∈ os, a < B) (hv : val B os + g * val B (vs.take k) = val B (us.take k) + B ^ k * c)
    (hd : d < B) (hs : d + c + g * vs.getD k 0 = us.getD k 0 + B * c') :
    (os ++ [d]).length = k + 1 ∧ (∀ a ∈ os ++ [d], a < B) ∧ val B (os ++ [d]) + g * val B (vs.take (k + 1)) = val B (us.take (k + 1)) + B ^ (k + 1) * c' := by
  refine ⟨by simp [ho], ?_, ?_⟩
  · intro a ha
    rcases List.mem_append.1 ha with h | h
    · exact hos a h
    · simp at h; omega
  · rw [val_take_succ, val_take_succ, val_snoc, ho, Nat.pow_succ]
    have h1 : B ^ k * (d + c + g * vs.getD k 0) = B ^ k * (us.getD k 0 + B * c') := by rw [hs]
    grind

theorem set_mid {α : Type} (A os rs C : List α) (r d : α) : (A ++ ((os ++ (r :: rs)) ++ C)).set (A.length + os.length) d = A ++ (((os ++ [d]) ++ rs) ++ C) := by
  rw [List.set_append_right _ _ (by omega), show A.length + os.length - A.length = os.length by omega, List.append_assoc, List.set_append_right _ _ (by omega)]
  simp
theorem get_mid {α : Type} (A os rs C : List α) (r : α) : (A ++ ((os ++ (r :: rs)) ++ C))[A.length + os.length]? = some r := by
  rw [List.getElem?_append_right (by omega), show A.length + os.length - A.length = os.length by omega, List.append_assoc, List.getElem?_append_right (by omega)]
  simp

/-- What is left when a number is taken away q or q + 1 times. -/
theorem sub_end (P U V q g bw o : Nat) (hP : o < P) (hV : V ≤ P) (hq : q = U / V) (hV0 : 0 < V) (h1 : q ≤ g) (h2 : g ≤ q + 1) (h : o + g * V = U + P * bw) :
    (bw = 0 → g = q ∧ o = U % V) ∧ (bw ≠ 0 → g = q + 1 ∧ (o + V) % P = U % V) := by
  have hm := Nat.div_add_mod U V
  have hl := Nat.mod_lt U hV0
  rw [← hq] at hm
  rcases (show g = q ∨ g = q + 1 by omega) with rfl | rfl
  · have hb : bw = 0 := by
      rcases Nat.eq_zero_or_pos bw with h0 | h0
      · exact h0
      · exfalso
        have := Nat.mul_le_mul_left P h0
        rw [Nat.mul_comm g V] at h
        omega
    subst hb
    exact ⟨fun _ => ⟨rfl, by rw [Nat.mul_comm g V] at h; omega⟩, fun h => absurd rfl h⟩
  · have e : o + V = U % V + P * bw := by
      rw [Nat.add_mul, Nat.one_mul, Nat.mul_comm q V] at h; omega
    have hb : bw = 1 := by
      rcases Nat.eq_zero_or_pos bw with h0 | h0
      · subst h0; omega
      · rcases Nat.lt_or_ge 1 bw with h3 | h3
        · have := Nat.mul_le_mul_left P h3; omega
        · omega
    subst hb
    refine ⟨fun h => absurd h (by decide), fun _ => ⟨rfl, ?_⟩⟩
    rw [e, Nat.mul_one, Nat.add_mod_right, Nat.mod_eq_of_lt (by omega)]

theorem split2 (B : Nat) (l : List Nat) (m : Nat) (h : m + 2 = l.length) : val B l = (l.getD (m + 1) 0 * B + l.getD m 0) * B ^ m + val B (l.take m) := by
  have h1 := val_take_succ B l (m + 1)
  have h2 := val_take_succ B l m
  rw [show m + 1 + 1 = l.length by omega, List.take_of_length_le (Nat.le_refl _)] at h1
  rw [h1, h2, Nat.pow_succ]; grind
theorem split3 (B : Nat) (l : List Nat) (m : Nat) (h : m + 3 = l.length) : val B l = ((l.getD (m + 2) 0 * B + l.getD (m + 1) 0) * B + l.getD m 0) * B ^ m + val B (l.take m) := by
  have h1 := val_take_succ B l (m + 2)
  have h2 := val_take_succ B l (m + 1)
  have h3 := val_take_succ B l m
  rw [show m + 2 + 1 = l.length by omega, List.take_of_length_le (Nat.le_refl _)] at h1
  rw [h1, h2, h3, Nat.pow_succ, Nat.pow_succ]; grind
/-- All that the long division wants of its guess. -/
structure Guess (us vs : List Nat) (q vt v2 un u1 u2 : Nat) : Prop where
  first : q ≤ (un * 1000000000 + u1) / vt
  small : q < 1000000000
  high : ∀ g r, g * vt + r = un * 1000000000 + u1 → r * 1000000000 + u2 < g * v2 → q < g
  near : ∀ g r, g * vt + r = un * 1000000000 + u1 → g < 1000000000 → g * v2 ≤ r * 1000000000 + u2 → g ≤ q + 1
  far : ∀ g r, g * vt + r = un * 1000000000 + u1 → g < 1000000000 → 1000000000 ≤ r → g ≤ q + 1
  over : ∀ g r, g * vt + r = un * 1000000000 + u1 → 1000000000 ≤ g → r < 1000000000
theorem guess_of (us vs : List Nat) (m vt v2 un u1 u2 : Nat) (bu : ∀ a ∈ us, a < 1000000000) (bv : ∀ a ∈ vs, a < 1000000000) (hvl : m + 2 = vs.length) (hul : m + 3 = us.length)
    (hvt : vt = vs.getD (m + 1) 0) (hv2 : v2 = vs.getD m 0) (hun : un = us.getD (m + 2) 0) (hu1 : u1 = us.getD (m + 1) 0) (hu2 : u2 = us.getD m 0) (h0 : 0 < vt)
    (hlt : val 1000000000 us < 1000000000 * val 1000000000 vs) : Guess us vs (val 1000000000 us / val 1000000000 vs) vt v2 un u1 u2 := by
  have hV := split2 1000000000 vs m hvl
  have hU := split3 1000000000 us m hul
  have hvlt := val_lt 1000000000 (vs.take m) (mem_take bv)
  have hult := val_lt 1000000000 (us.take m) (mem_take bu)
  rw [List.length_take_of_le (by omega)] at hvlt hult
  have l2 : v2 < 1000000000 := by rw [hv2]; exact getD_lt bv (by omega)
  have l1 : u1 < 1000000000 := by rw [hu1]; exact getD_lt bu (by omega)
  have l0 : u2 < 1000000000 := by rw [hu2]; exact getD_lt bu (by omega)
  rw [← hvt, ← hv2] at hV
  rw [← hun, ← hu1, ← hu2] at hU
  generalize val 1000000000 (vs.take m) = vl at *
  generalize val 1000000000 (us.take m) = ul at *
  generalize (1000000000 : Nat) ^ m = P at *
  generalize val 1000000000 vs = V at *
  generalize val 1000000000 us = U at *
  have hP : 0 < P := by omega
  have hVp : 0 < V := by
    rw [hV]
    have h1 : 1 * 1000000000 ≤ vt * 1000000000 := Nat.mul_le_mul_right _ h0
    have := Nat.mul_pos (show 0 < vt * 1000000000 + v2 by omega) hP
    omega
  have hq : U / V * V ≤ U := Nat.div_mul_le_self U V
  have key : ∀ g, U < g * V → U / V < g := fun g h => (Nat.div_lt_iff_lt_mul hVp).2 h
  have key2 : ∀ g, g * V < U + V → g ≤ U / V + 1 := by
    intro g h
    rcases Nat.eq_zero_or_pos g with h0 | h0
    · rw [h0]; exact Nat.zero_le _
    · obtain ⟨k, rfl⟩ : ∃ k, g = k + 1 := ⟨g - 1, by omega⟩
      rw [Nat.add_mul, Nat.one_mul] at h
      have := (Nat.le_div_iff_mul_le hVp).2 (show k * V ≤ U by omega)
      exact Nat.succ_le_succ this
  refine ⟨?_, ?_, ?_, ?_, ?_, ?_⟩
  · have h1 := knuth1 (U / V) vt v2 vl (un * 1000000000 + u1) u2 ul 1000000000 P U V hV hU l0 hult hq
    have h2 := Nat.lt_of_mul_lt_mul_right h1
    exact (Nat.le_div_iff_mul_le h0).2 (Nat.le_of_lt_succ h2)
  · exact (Nat.div_lt_iff_lt_mul hVp).2 hlt
  · intro g r h1 h2
    exact key g (knuth2 g r vt v2 vl _ u2 ul 1000000000 P U V hV hU hult h1 h2)
  · intro g r h1 h2 h3
    exact key2 g (knuth3 g r vt v2 vl _ u2 ul 1000000000 P U V hV hU hvlt h0 h1 h2 h3)
  · intro g r h1 h2 h3
    exact key2 g (Nat.lt_of_le_of_lt (knuth4 g r vt v2 vl _ u2 ul 1000000000 P U V hV hU hvlt l2 h1 h2 h3) (Nat.lt_add_of_pos_right hVp))
  · intro g r h1 h2
    exact (knuth5 g r vt v2 vl un u1 u2 ul 1000000000 P U V hV hU hvlt l2 l1 h1 hlt h2).1
end Go.Proofs.YtlnhocgjgmhfgaaGreatDoor
namespace Go.Proofs.YtlnhocgjgmhfgaaGreatDoor
open Go.RowKit
set_option maxRecDepth 100000

/-- What step leaves. -/
def Stepped (W w : World) (base N cap g : Nat) (A C : List Nat) (U V n : Nat) (v : Value) (w' : World) : Prop :=
  ∃ us' : List Nat, v = .int .u32 ((U / V : Nat) : Int) ∧ val 1000000000 us' = U % V ∧ (∀ a ∈ us', a < 1000000000) ∧ us'.length = n ∧
    w'.ownsRow base 150 1 (.slice (some ⟨g, 0, none⟩) N cap) N ((A ++ (us' ++ C)).map eU) ∧ Kg W w g w'

theorem seg_cell {w : World} {base N cap g i : Nat} {A us C : List Nat} (hown : w.ownsRow base 150 1 (.slice (some ⟨g, 0, none⟩) N cap) N ((A ++ (us ++ C)).map eU)) (h : i < us.length) :
    w.cell? ⟨g, A.length + i, none⟩ = some (.int .u32 (us.getD i 0 : Nat)) ∧ w.frozen? ⟨g, A.length + i, none⟩ = false := by
  have h1 : A.length + i < (A ++ (us ++ C)).length := by simp; omega
  refine ⟨?_, (own_get hown h1).2⟩
  rw [(own_get hown h1).1, List.getElem_append_right (by omega), List.getElem_append_left (by omega)]
  simp [eU, show i < us.length by omega]
theorem getD_out (l : List Nat) (k : Nat) (h : l.length ≤ k) : l.getD k 0 = 0 := by simp [h]
theorem own_drewN {w : World} {base e sz n : Nat} {v : Value} {xs : List Value} (h : w.ownsRow base e sz v n xs) (k : Nat) : (w.drewN k).ownsRow base e sz v n xs := h

set_option maxHeartbeats 4000000 in
theorem step_any (W w : World) (v : Value) (base N cap g cu m : Nat) (A us C vs : List Nat) (hv : Sl eU W v vs) (hb : Below W.heap.size W w) (hg : W.heap.size ≤ g)
    (hown : w.ownsRow base 150 1 (.slice (some ⟨g, 0, none⟩) N cap) N ((A ++ (us ++ C)).map eU)) (bu : ∀ a ∈ us, a < 1000000000) (bv : ∀ a ∈ vs, a < 1000000000)
    (hvl : m + 2 = vs.length) (hul : m + 3 = us.length) (hcu : us.length ≤ cu) (hcm : A.length + cu ≤ maxLen) (hm : m ≤ 1099511627776)
    (htop : 500000000 ≤ vs.getD (m + 1) 0) (hlt : val 1000000000 us < 1000000000 * val 1000000000 vs) :
    Calls Tryz.prog 178 #[.slice (some ⟨g, A.length, none⟩) (m + 3) cu, v] w (Rets (Stepped W w base N cap g A C (val 1000000000 us) (val 1000000000 vs) (m + 3))) := by
  obtain ⟨av, bl, o, c, rfl, hi, hp, hc, hcm'⟩ := hv.open elemNat
  have hkg : Kg W w g w := ⟨hb, World.grownBy.refl _ _⟩
  rw [← hvl] at hi hc ⊢
  rw [← hul] at hcu
  obtain ⟨vt, hvt⟩ : ∃ x, x = vs.getD (m + 1) 0 := ⟨_, rfl⟩
  obtain ⟨v2, hv2⟩ : ∃ x, x = vs.getD m 0 := ⟨_, rfl⟩
  obtain ⟨un, hun⟩ : ∃ x, x = us.getD (m + 2) 0 := ⟨_, rfl⟩
  obtain ⟨u1, hu1⟩ : ∃ x, x = us.getD (m + 1) 0 := ⟨_, rfl⟩
  obtain ⟨u2, hu2⟩ : ∃ x, x = us.getD m 0 := ⟨_, rfl⟩
  have cell_v : ∀ i (w : World), Below W.heap.size W w → i < m + 2 → w.cell? ⟨bl, o + i, none⟩ = some (.int .u32 (vs.getD i 0 : Nat)) := by
    intro i w hb h
    rw [hp.at hb (Nat.le_refl _) i (by omega)]
    simp [eU, show i < vs.length by omega]
  have cn := (seg_cell (i := m + 2) hown (by omega)).1
  have c1 := (seg_cell (i := m + 1) hown (by omega)).1
  have ct := cell_v (m + 1) w hb (by omega)
  rw [← hun] at cn; rw [← hu1] at c1; rw [← hvt] at ct htop
  have bt : vt < 1000000000 := by rw [hvt]; exact getD_lt bv (by omega)
  have b2 : v2 < 1000000000 := by rw [hv2]; exact getD_lt bv (by omega)
  have bn : un < 1000000000 := by rw [hun]; exact getD_lt bu (by omega)
  have b1 : u1 < 1000000000 := by rw [hu1]; exact getD_lt bu (by omega)
  have b0 : u2 < 1000000000 := by rw [hu2]; exact getD_lt bu (by omega)
  have bu' := bu
  have bv' := bv
  have BU := Lib.hid bu; clear bu
  have BV := Lib.hid bv; clear bv hv
  have HG := guess_of us vs m vt v2 un u1 u2 bu' bv' hvl hul hvt hv2 hun hu1 hu2 (by omega) hlt
  have HLT := Lib.hid hlt; clear hlt bu' bv'
  have HVT := Lib.hid hvt; have HV2 := Lib.hid hv2; have HUN := Lib.hid hun; have HU1 := Lib.hid hu1; have HU2 := Lib.hid hu2
  clear hvt hv2 hun hu1 hu2
  have CV := Lib.hid cell_v; clear cell_v
  have HVL := Lib.hid hvl; clear hvl
  have HUL := Lib.hid hul; clear hul
  unfold maxLen at hcm'
  unfold maxLen at hcm
  go_enter Tryz.func178, Tryz.ntmps178
  go_wp2
  go_quiet (fail)
  go_wp2
  go_quiet (fail)
  go_upto_block 0 with fail
  clear cn c1 ct
  have htq : (un * 1000000000 + u1) / vt ≤ 2000000000 := by
    have h1 : (un * 1000000000 + u1) / vt ≤ (un * 1000000000 + u1) / 500000000 := Nat.div_le_div_left htop (by omega)
    omega
  have hrr := Nat.mod_lt (un * 1000000000 + u1) (show 0 < vt by omega)
  have hdm := Nat.div_add_mod (un * 1000000000 + u1) vt
  have HQ : Hid ((un * 1000000000 + u1) / vt ≤ 2000000000 ∧ (un * 1000000000 + u1) % vt < vt ∧ vt * ((un * 1000000000 + u1) / vt) + (un * 1000000000 + u1) % vt = un * 1000000000 + u1) := ⟨htq, hrr, hdm⟩
  clear htq hrr hdm
  obtain ⟨q, hq⟩ : ∃ q, q = val 1000000000 us / val 1000000000 vs := ⟨_, rfl⟩
  rw [← hq] at HG
  have HQQ := Lib.hid hq; clear hq
  go_cut [7] (fun gv wr => ∃ gs : Nat, gv = .int .u64 gs ∧ q ≤ gs ∧ gs ≤ q + 1 ∧ gs < 1000000000 ∧
      wr.ownsRow base 150 1 (.slice (some ⟨g, 0, none⟩) N cap) N ((A ++ (us ++ C)).map eU) ∧ Kg W w g wr)
  case first =>
    go_wp2_with fail
    go_loopw [7, 8] (fun gv rv wr => ∃ gs r : Nat, gv = .int .u64 gs ∧ rv = .int .u64 r ∧ gs * vt + r = un * 1000000000 + u1 ∧ q ≤ gs ∧ gs ≤ 2000000000 ∧ r < 2000000000 ∧
      wr.ownsRow base 150 1 (.slice (some ⟨g, 0, none⟩) N cap) N ((A ++ (us ++ C)).map eU) ∧ Kg W w g wr) (fun gv _ _ => (intOf gv).toNat)
    case atStart =>
      exact ⟨(un * 1000000000 + u1) / vt, (un * 1000000000 + u1) % vt, congrArg (Value.int .u64) (by simp), congrArg (Value.int .u64) (by simp), by rw [Nat.mul_comm]; exact HQ.out.2.2, HG.first, HQ.out.1,
        by have := HQ.out.2.1; omega, hown, (hkg.drewN _).drewN _⟩
    case round =>
      clear hown hkg hb
      obtain ⟨gs, r, rfl, rfl, hgr, hqg, hg2, hr2, hown, hkg⟩ := hrel
      have hb := hkg.1
      have HGR := Lib.hid hgr; clear hgr
      have cv := CV.out m wr hb (by omega)
      have ct := CV.out (m + 1) wr hb (by omega)
      have c2 := (seg_cell (i := m) hown (by have := HUL.out; omega)).1
      rw [← HV2.out] at cv
      rw [← HVT.out] at ct
      rw [← HU2.out] at c2
      have hmul : gs * v2 ≤ 2000000000 * 1000000000 := Nat.mul_le_mul hg2 (by omega)
      have hm1 : (gs : Int) * (v2 : Int) ≤ 2000000000000000000 := by rw [← Int.natCast_mul]; omega
      have hm0 : 0 ≤ (gs : Int) * (v2 : Int) := by rw [← Int.natCast_mul]; omega
      clear hmul
      by_cases hr : r < 1000000000
      · have d1 : decide ((r : Int) < 1000000000) = true := by simp; omega
        by_cases hgB : gs < 1000000000
        · have d2 : decide ((1000000000 : Int) ≤ gs) = false := by simp; omega
          by_cases hgv : r * 1000000000 + u2 < gs * v2
          · have d3 : decide ((r : Int) * 1000000000 + (u2 : Int) < (gs : Int) * (v2 : Int)) = true := by rw [← Int.natCast_mul gs v2]; simp; omega
            have hlow := HG.high gs r HGR.out hgv
            go_wp2
            go_quiet (fail)
            clear d1 d2 d3 hm1 hm0 hgv
            go_wp2
            go_roundw
            case rel => exact ⟨gs - 1, r + vt, congrArg (Value.int .u64) (by omega), congrArg (Value.int .u64) (by omega), by have := HGR.out; obtain ⟨k, rfl⟩ : ∃ k, gs = k + 1 := ⟨gs - 1, by omega⟩; rw [Nat.add_mul, Nat.one_mul] at this; simp; omega, by omega, by omega, by omega, hown, hkg.drewN _⟩
            case measure => simp [intOf]; omega
          · have d3 : decide ((r : Int) * 1000000000 + (u2 : Int) < (gs : Int) * (v2 : Int)) = false := by rw [← Int.natCast_mul gs v2]; simp; omega
            have hnear := HG.near gs r HGR.out hgB (by omega)
            go_wp2
            go_quiet (fail)
            clear d1 d2 d3 hm1 hm0 hgv
            go_wp2
            go_meet
            exact ⟨gs, rfl, hqg, hnear, hgB, hown, hkg.drewN _⟩
        · have d2 : decide ((1000000000 : Int) ≤ gs) = true := by simp; omega
          have hsm := HG.small
          go_wp2
          go_quiet (fail)
          clear d1 d2 hm1 hm0
          go_wp2
          go_roundw
          case rel => exact ⟨gs - 1, r + vt, congrArg (Value.int .u64) (by omega), congrArg (Value.int .u64) (by omega), by have := HGR.out; obtain ⟨k, rfl⟩ : ∃ k, gs = k + 1 := ⟨gs - 1, by omega⟩; rw [Nat.add_mul, Nat.one_mul] at this; simp; omega, by omega, by omega, by omega, hown, hkg.drewN _⟩
          case measure => simp [intOf]; omega
      · have d1 : decide ((r : Int) < 1000000000) = false := by simp; omega
        have hgB : gs < 1000000000 := by
          rcases Nat.lt_or_ge gs 1000000000 with h | h
          · exact h
          · have := HG.over gs r HGR.out h; omega
        have hfar := HG.far gs r HGR.out hgB (by omega)
        go_wp2
        go_quiet (fail)
        clear d1 hm1 hm0
        go_wp2
        go_meet
        exact ⟨gs, rfl, hqg, hfar, hgB, hown, hkg.drewN _⟩
  case rest =>
    clear hown hkg hb
    obtain ⟨gs, rfl, hqg, hgq, hgB, hown, hkg⟩ := hcut
    have hb := hkg.1
    go_wp2_with fail
    go_loopw [9, 85] (fun bv iv wr => ∃ (k bw : Nat) (os : List Nat), k ≤ m + 3 ∧ iv = .int .i64 k ∧ bv = .int .i64 bw ∧ bw ≤ 1000000000 ∧ os.length = k ∧ (∀ a ∈ os, a < 1000000000) ∧
        val 1000000000 os + gs * val 1000000000 (vs.take k) = val 1000000000 (us.take k) + 1000000000 ^ k * bw ∧
        wr.ownsRow base 150 1 (.slice (some ⟨g, 0, none⟩) N cap) N ((A ++ ((os ++ us.drop k) ++ C)).map eU) ∧ Kg W w g wr) (fun _ iv _ => m + 3 - (intOf iv).toNat)
    case atStart => exact ⟨0, 0, [], by omega, rfl, rfl, by omega, rfl, by simp, by simp [val], hown, hkg⟩
    case round =>
      clear hown hkg hb
      obtain ⟨k, bw, os, hk, rfl, rfl, hbw, hol, hos, hv, hown, hkg⟩ := hrel
      have hb := hkg.1
      have HOL := Lib.hid hol; clear hol
      have HOS := Lib.hid hos; clear hos
      have HV := Lib.hid hv; clear hv
      by_cases hlt : k < m + 3
      · obtain ⟨uk, huk⟩ : ∃ x, x = us.getD k 0 := ⟨_, rfl⟩
        have buk : uk < 1000000000 := by rw [huk]; exact getD_lt BU.out (by omega)
        have hdr : us.drop k = us.getD k 0 :: us.drop (k + 1) := by rw [drop_eq us k (by have := HUL.out; omega)]; simp [show k < us.length by have := HUL.out; omega]
        have hkl : A.length + k < (A ++ ((os ++ us.drop k) ++ C)).length := by have := HUL.out; have := HOL.out; simp; omega
        have hgm := get_mid A os (us.drop (k + 1)) C (us.getD k 0)
        rw [HOL.out, ← hdr] at hgm
        have cu' : wr.cell? ⟨g, A.length + k, none⟩ = some (.int .u32 (uk : Nat)) := by
          rw [(own_get hown hkl).1]
          rw [List.getElem?_eq_getElem hkl] at hgm
          rw [Option.some.inj hgm, ← huk]; rfl
        have cf := (own_get hown hkl).2
        have HUK := Lib.hid huk
        have HDR := Lib.hid hdr
        clear huk hdr hgm hkl
        by_cases hlt' : k < m + 2
        · obtain ⟨vk, hvk⟩ : ∃ x, x = vs.getD k 0 := ⟨_, rfl⟩
          have bvk : vk < 1000000000 := by rw [hvk]; exact getD_lt BV.out (by omega)
          have cvk := CV.out k wr hb (by omega)
          rw [← hvk] at cvk
          have HVK := Lib.hid hvk; clear hvk
          have hmul : gs * vk ≤ 999999999 * 999999999 := Nat.mul_le_mul (by omega) (by omega)
          have hm1 : (gs : Int) * (vk : Int) ≤ 999999998000000001 := by rw [← Int.natCast_mul]; omega
          have hm0 : 0 ≤ (gs : Int) * (vk : Int) := by rw [← Int.natCast_mul]; omega
          clear hmul
          go_wp2
          go_loop [9, 11] (fun bv dv => ∃ d b : Int, bv = .int .i64 b ∧ dv = .int .i64 d ∧ d < 1000000000 ∧ -2000000000 ≤ d ∧ 0 ≤ b ∧ b ≤ 1000000002 ∧ d + bw + (gs : Int) * vk = uk + 1000000000 * b) (fun _ d => (- intOf d).toNat)
          case atStart => exact ⟨_, _, rfl, rfl, by omega, by omega, by omega, by omega, by omega⟩
          case round =>
            obtain ⟨d, b', rfl, rfl, hd1, hd2, hb1, hb2, hinv⟩ := hrel
            have HI := Lib.hid hinv; clear hinv
            by_cases hneg : d < 0
            · go_wp2
              go_round
              case rel => exact ⟨d + 1000000000, b' + 1, rfl, rfl, by omega, by omega, by omega, by have := HI.out; omega, by have := HI.out; omega⟩
              case measure => simp [intOf]; omega
            · obtain ⟨dn, rfl⟩ : ∃ n : Nat, d = n := ⟨d.toNat, by omega⟩
              obtain ⟨bn', rfl⟩ : ∃ n : Nat, b' = n := ⟨b'.toNat, by omega⟩
              have HS := Lib.hid (msub_step 1000000000 gs us vs os k bw dn bn' HOL.out HOS.out HV.out (by omega) (by rw [← HUK.out, ← HVK.out]; have := HI.out; rw [← Int.natCast_mul] at this; omega))
              have HM := Lib.hid hm1; clear hm1 hm0
              go_wp2
              go_roundw
              case rel =>
                have R := fun (u : Value) (hu : u = eU dn) => own_putK hown hkg hg (A.length + k) dn u hu
                rw [HDR.out] at R
                have e1 := set_mid A os (us.drop (k + 1)) C (us.getD k 0) dn
                rw [HOL.out] at e1
                rw [e1] at R
                exact ⟨k + 1, bn', os ++ [dn], by omega, by go_num, rfl, by have := HI.out; have := HM.out; omega, HS.out.1, HS.out.2.1, HS.out.2.2, (R _ rfl).1, (R _ rfl).2⟩
              case measure => simp [intOf]; omega
        · obtain rfl : k = m + 2 := by omega
          go_wp2
          go_loop [9, 11] (fun bv dv => ∃ d b : Int, bv = .int .i64 b ∧ dv = .int .i64 d ∧ d < 1000000000 ∧ -2000000000 ≤ d ∧ 0 ≤ b ∧ b ≤ 1000000002 ∧ d + bw = uk + 1000000000 * b) (fun _ d => (- intOf d).toNat)
          case atStart => exact ⟨_, _, rfl, rfl, by omega, by omega, by omega, by omega, by omega⟩
          case round =>
            obtain ⟨d, b', rfl, rfl, hd1, hd2, hb1, hb2, hinv⟩ := hrel
            have HI := Lib.hid hinv; clear hinv
            by_cases hneg : d < 0
            · go_wp2
              go_round
              case rel => exact ⟨d + 1000000000, b' + 1, rfl, rfl, by omega, by omega, by omega, by have := HI.out; omega, by have := HI.out; omega⟩
              case measure => simp [intOf]; omega
            · obtain ⟨dn, rfl⟩ : ∃ n : Nat, d = n := ⟨d.toNat, by omega⟩
              obtain ⟨bn', rfl⟩ : ∃ n : Nat, b' = n := ⟨b'.toNat, by omega⟩
              have HS := Lib.hid (msub_step 1000000000 gs us vs os (m + 2) bw dn bn' HOL.out HOS.out HV.out (by omega) (by rw [← HUK.out, getD_out vs (m + 2) (by have := HVL.out; omega)]; have := HI.out; omega))
              go_wp2
              go_roundw
              case rel =>
                have R := fun (u : Value) (hu : u = eU dn) => own_putK hown hkg hg (A.length + (m + 2)) dn u hu
                rw [HDR.out] at R
                have e1 := set_mid A os (us.drop (m + 3)) C (us.getD (m + 2) 0) dn
                rw [HOL.out] at e1
                rw [e1] at R
                exact ⟨m + 3, bn', os ++ [dn], by omega, by go_num, rfl, by have := HI.out; omega, HS.out.1, HS.out.2.1, HS.out.2.2, (R _ rfl).1, (R _ rfl).2⟩
              case measure => simp [intOf]; omega
      · obtain rfl : k = m + 3 := by omega
        have hVP : val 1000000000 vs ≤ 1000000000 ^ (m + 3) := by
          have h1 := val_lt 1000000000 vs BV.out
          rw [← HVL.out] at h1
          exact Nat.le_trans (Nat.le_of_lt h1) (Nat.pow_le_pow_right (by omega) (by omega))
        have hV0 : 0 < val 1000000000 vs := by
          rcases Nat.eq_zero_or_pos (val 1000000000 vs) with h | h
          · have := HLT.out; omega
          · exact h
        have hoP := val_lt 1000000000 os HOS.out
        rw [HOL.out] at hoP
        have hvv := HV.out
        rw [List.take_of_length_le (by have := HVL.out; omega), List.take_of_length_le (by have := HUL.out; omega)] at hvv
        have hend := sub_end (1000000000 ^ (m + 3)) (val 1000000000 us) (val 1000000000 vs) q gs bw (val 1000000000 os) hoP hVP HQQ.out hV0 hqg hgq hvv
        have HEND := Lib.hid hend
        have HOP := Lib.hid hoP
        clear hend hoP hvv hVP hV0
        by_cases hz : bw = 0
        · have hb0 : ((bw : Int) == 0) = true := by simp [hz]
          have HZ := Lib.hid hz; clear hz
          go_wp2
          go_ret
          refine ⟨_, rfl, os, congrArg (Value.int .u32) ?_, (HEND.out.1 HZ.out).2, HOS.out, HOL.out, ?_, hkg⟩
          · have := (HEND.out.1 HZ.out).1
            have h2 := HQQ.out
            rw [this, h2]
          · have h := hown
            rw [List.drop_of_length_le (by have := HUL.out; omega), List.append_nil] at h
            exact h
        · have hb0 : ((bw : Int) == 0) = false := by simp [hz]
          have HZ := Lib.hid hz; clear hz
          have hown2 := hown
          rw [List.drop_of_length_le (by have := HUL.out; omega), List.append_nil] at hown2
          have HB := Lib.hid hkg
          clear hown hkg hb
          go_wp2_with fail
          go_loopw [13, 131] (fun cv iv wr => ∃ (k c : Nat) (o2 : List Nat), k ≤ m + 3 ∧ iv = .int .i64 k ∧ cv = .int .u32 c ∧ c ≤ 1 ∧ o2.length = k ∧ (∀ a ∈ o2, a < 1000000000) ∧
              val 1000000000 o2 + 1000000000 ^ k * c = val 1000000000 (os.take k) + val 1000000000 (vs.take k) ∧
              wr.ownsRow base 150 1 (.slice (some ⟨g, 0, none⟩) N cap) N ((A ++ ((o2 ++ os.drop k) ++ C)).map eU) ∧ Kg W w g wr) (fun _ iv _ => m + 3 - (intOf iv).toNat)
          case atStart => exact ⟨0, 0, [], by omega, rfl, rfl, by omega, rfl, by simp, by simp [val], hown2, HB.out⟩
          case round =>
            clear hown2 HB
            obtain ⟨k, cy, o2, hk, rfl, rfl, hcy, ho2, hb2, hv2', hown, hkg⟩ := hrel
            have hb := hkg.1
            have HO2 := Lib.hid ho2; clear ho2
            have HB2 := Lib.hid hb2; clear hb2
            have HV2' := Lib.hid hv2'; clear hv2'
            by_cases hlt : k < m + 3
            · obtain ⟨ok, hok⟩ : ∃ x, x = os.getD k 0 := ⟨_, rfl⟩
              have bok : ok < 1000000000 := by rw [hok]; exact getD_lt HOS.out (by omega)
              have hdr : os.drop k = os.getD k 0 :: os.drop (k + 1) := by rw [drop_eq os k (by rw [HOL.out]; omega)]; simp [show k < os.length by rw [HOL.out]; omega]
              have hkl : A.length + k < (A ++ ((o2 ++ os.drop k) ++ C)).length := by have := HOL.out; have := HO2.out; simp; omega
              have hgm := get_mid A o2 (os.drop (k + 1)) C (os.getD k 0)
              rw [HO2.out, ← hdr] at hgm
              have cu' : wr.cell? ⟨g, A.length + k, none⟩ = some (.int .u32 (ok : Nat)) := by
                rw [(own_get hown hkl).1]
                rw [List.getElem?_eq_getElem hkl] at hgm
                rw [Option.some.inj hgm, ← hok]; rfl
              have cf := (own_get hown hkl).2
              have HOK := Lib.hid hok
              have HDR := Lib.hid hdr
              clear hok hdr hgm hkl
              by_cases hlt' : k < m + 2
              · obtain ⟨vk, hvk⟩ : ∃ x, x = vs.getD k 0 := ⟨_, rfl⟩
                have bvk : vk < 1000000000 := by rw [hvk]; exact getD_lt BV.out (by omega)
                have cvk := CV.out k wr hb (by omega)
                rw [← hvk] at cvk
                have HVK := Lib.hid hvk; clear hvk
                have HS := Lib.hid (plus_step 1000000000 os vs o2 k cy (ok + cy + vk) (by omega) HO2.out HB2.out HV2'.out (by rw [← HOK.out, ← HVK.out]))
                go_wp2
                go_roundw
                case rel =>
                  have R := fun (u : Value) (hu : u = eU ((ok + cy + vk) % 1000000000)) => own_putK hown hkg hg (A.length + k) ((ok + cy + vk) % 1000000000) u hu
                  rw [HDR.out] at R
                  have e1 := set_mid A o2 (os.drop (k + 1)) C (os.getD k 0) ((ok + cy + vk) % 1000000000)
                  rw [HO2.out] at e1
                  rw [e1] at R
                  exact ⟨k + 1, (ok + cy + vk) / 1000000000, _, by omega, by go_num, congrArg (Value.int .u32) (by omega), by omega, HS.out.1, HS.out.2.1, HS.out.2.2, (R _ (congrArg (Value.int .u32) (by omega))).1, (R _ (congrArg (Value.int .u32) (by omega))).2⟩
                case measure => simp [intOf]; omega
              · skip
                have HS := Lib.hid (plus_step 1000000000 os vs o2 k cy (ok + cy) (by omega) HO2.out HB2.out HV2'.out (by rw [← HOK.out, getD_out vs k (by have := HVL.out; omega)]; rfl))
                go_wp2
                go_roundw
                case rel =>
                  have R := fun (u : Value) (hu : u = eU ((ok + cy) % 1000000000)) => own_putK hown hkg hg (A.length + k) ((ok + cy) % 1000000000) u hu
                  rw [HDR.out] at R
                  have e1 := set_mid A o2 (os.drop (k + 1)) C (os.getD k 0) ((ok + cy) % 1000000000)
                  rw [HO2.out] at e1
                  rw [e1] at R
                  exact ⟨k + 1, (ok + cy) / 1000000000, _, by omega, by go_num, congrArg (Value.int .u32) (by omega), by omega, HS.out.1, HS.out.2.1, HS.out.2.2, (R _ (congrArg (Value.int .u32) (by omega))).1, (R _ (congrArg (Value.int .u32) (by omega))).2⟩
                case measure => simp [intOf]; omega
            · obtain rfl : k = m + 3 := by omega
              have hg1 := (HEND.out.2 HZ.out).1
              have hgp : 1 ≤ gs := by omega
              have HG1 := Lib.hid hg1; clear hg1
              go_wp2
              go_ret
              refine ⟨_, rfl, o2, congrArg (Value.int .u32) ?_, ?_, HB2.out, HO2.out, ?_, hkg⟩
              · have h1 := HG1.out
                have h2 := HQQ.out
                rw [← h2]; omega
              · have h1 := HV2'.out
                have h2 := val_lt 1000000000 o2 HB2.out
                rw [HO2.out] at h2
                rw [List.take_of_length_le (by rw [HOL.out]; omega), List.take_of_length_le (by have := HVL.out; omega)] at h1
                rw [← (HEND.out.2 HZ.out).2, ← h1, Nat.add_mul_mod_self_left, Nat.mod_eq_of_lt h2]
              · have h := hown
                rw [List.drop_of_length_le (by rw [HOL.out]; omega), List.append_nil] at h
                exact h
end Go.Proofs.YtlnhocgjgmhfgaaGreatDoor

namespace Go.Proofs.YtlnhocgjgmhfgaaGreatDoor

theorem scale_ok (y s : Nat) (h1 : 1 ≤ y) (h2 : y < 1000000000) (hs : s = 1000000000 / (y + 1)) : 1 ≤ s ∧ s * (y + 1) ≤ 1000000000 ∧ 1000000000 ≤ 2 * (y * s) ∧ s ≤ 500000000 := by
  have hm := Nat.div_add_mod 1000000000 (y + 1)
  have hr := Nat.mod_lt 1000000000 (show 0 < y + 1 by omega)
  rw [← hs] at hm
  generalize 1000000000 % (y + 1) = r at *
  have hc : (y + 1) * s = y * s + s := by rw [Nat.add_mul, Nat.one_mul]
  have h5 : s ≤ 500000000 := by
    have := Nat.div_le_div_left (a := 1000000000) (show 2 ≤ y + 1 by omega) (by omega)
    omega
  have hs1 : 1 ≤ s := by
    rcases Nat.eq_zero_or_pos s with h | h
    · subst h; simp at hm; omega
    · exact h
  have hle : s * (y + 1) ≤ 1000000000 := by rw [Nat.mul_comm]; omega
  refine ⟨hs1, hle, ?_, h5⟩
  rcases Nat.lt_or_ge s 2 with h | h
  · obtain rfl : s = 1 := by omega
    omega
  · rcases Nat.lt_or_ge y 2 with h3 | h3
    · obtain rfl : y = 1 := by omega
      omega
    · -- r ≤ y, s ≥ 2, y ≥ 2: y + 2 s ≤ s (y + 1)
      obtain ⟨s', rfl⟩ : ∃ s', s = s' + 2 := ⟨s - 2, by omega⟩
      obtain ⟨y', rfl⟩ : ∃ y', y = y' + 2 := ⟨y - 2, by omega⟩
      have e1 : (y' + 2) * (s' + 2) = y' * s' + 2 * y' + 2 * s' + 4 := by grind
      rw [e1] at hc ⊢
      omega

theorem split1 (B : Nat) (l : List Nat) (m : Nat) (h : m + 1 = l.length) : val B l = l.getD m 0 * B ^ m + val B (l.take m) := by
  have h1 := val_take_succ B l m
  rw [h, List.take_of_length_le (Nat.le_refl _)] at h1
  rw [h1, Nat.mul_comm]; omega
/-- The divisor, scaled: as many words, the first of which is not less than half the base. -/
theorem norm_ok (b m s y : Nat) (hb : m + 1 = (digs 1000000000 b).length) (hy : y = (digs 1000000000 b).getD m 0) (hs : s = 1000000000 / (y + 1)) :
    1 ≤ y ∧ y < 1000000000 ∧ 1 ≤ s ∧ s ≤ 500000000 ∧ (digs 1000000000 (b * s)).length = m + 1 ∧ 500000000 ≤ (digs 1000000000 (b * s)).getD m 0 ∧ 1000000000 ^ m ≤ b := by
  have hlt := digs_lt 1000000000 b (by omega)
  have hy2 : y < 1000000000 := by rw [hy]; exact getD_lt hlt (by omega)
  have hlast := digs_last 1000000000 b (by omega)
  have hy1 : 1 ≤ y := by
    rw [List.getLast?_eq_getElem?, ← hb] at hlast
    rcases Nat.eq_zero_or_pos y with h | h
    · exfalso; apply hlast
      rw [h] at hy
      rw [show m + 1 - 1 = m by omega, List.getElem?_eq_getElem (by omega)]
      rw [List.getD_eq_getElem?_getD, List.getElem?_eq_getElem (by omega)] at hy
      simpa using hy.symm
    · exact h
  obtain ⟨hs1, hle, h2, h5⟩ := scale_ok y s hy1 hy2 hs
  have hv := split1 1000000000 _ m hb
  rw [val_digs 1000000000 b (by omega), ← hy] at hv
  have hvl := val_lt 1000000000 ((digs 1000000000 b).take m) (mem_take hlt)
  rw [List.length_take_of_le (by omega)] at hvl
  generalize val 1000000000 ((digs 1000000000 b).take m) = vl at *
  have hbs : b * s < 1000000000 ^ (m + 1) := by
    have e1 : b < (y + 1) * 1000000000 ^ m := by rw [Nat.add_mul, Nat.one_mul]; omega
    have e2 : b * s < (y + 1) * 1000000000 ^ m * s := Nat.mul_lt_mul_of_pos_right e1 hs1
    have e3 : s * (y + 1) * 1000000000 ^ m ≤ 1000000000 * 1000000000 ^ m := Nat.mul_le_mul_right _ hle
    have e4 : (y + 1) * 1000000000 ^ m * s = s * (y + 1) * 1000000000 ^ m := by grind
    rw [Nat.pow_succ, Nat.mul_comm (1000000000 ^ m)]
    omega
  have hbm : 1000000000 ^ m ≤ b := by
    have : 1 * 1000000000 ^ m ≤ y * 1000000000 ^ m := Nat.mul_le_mul_right _ hy1
    omega
  have hl : (digs 1000000000 (b * s)).length = m + 1 := by
    have h1 := (digs_len 1000000000 (b * s) (m + 1) (by omega)).2 hbs
    have h3 := digs_len_mono 1000000000 (by omega) (show b ≤ b * s from Nat.le_mul_of_pos_right b hs1)
    omega
  refine ⟨hy1, hy2, hs1, h5, hl, ?_, hbm⟩
  have hw := split1 1000000000 _ m hl.symm
  rw [val_digs 1000000000 (b * s) (by omega)] at hw
  have hwl := val_lt 1000000000 ((digs 1000000000 (b * s)).take m) (mem_take (digs_lt 1000000000 (b * s) (by omega)))
  rw [List.length_take_of_le (by omega)] at hwl
  generalize val 1000000000 ((digs 1000000000 (b * s)).take m) = wl at *
  generalize (digs 1000000000 (b * s)).getD m 0 = t at *
  have h3 : y * s * 1000000000 ^ m ≤ b * s := by
    rw [hv]; have : (y * 1000000000 ^ m) * s ≤ (y * 1000000000 ^ m + vl) * s := Nat.mul_le_mul_right _ (by omega)
    have e : y * s * 1000000000 ^ m = y * 1000000000 ^ m * s := by grind
    omega
  rcases Nat.lt_or_ge t 500000000 with h | h
  · exfalso
    have h4 : (t + 1) * 1000000000 ^ m ≤ y * s * 1000000000 ^ m := Nat.mul_le_mul_right _ (by omega)
    rw [Nat.add_mul, Nat.one_mul] at h4
    omega
  · exact h

/-- One step of the division, on the numbers. A: the words that are still to come, x the last of them; R: the rest; qs: the quotient's words. -/
theorem div_step (B V N a x R U q r Q k : Nat) (hN : a + B ^ k * x + B ^ (k + 1) * (R + V * Q) = N) (hU : U = x + B * R) (hq : U = q * V + r) : a + B ^ k * (r + V * (q + B * Q)) = N := by
  rw [← hN, Nat.pow_succ]
  have : x + B * R = q * V + r := by rw [← hU, hq]
  have e : B ^ k * (x + B * R) = B ^ k * (q * V + r) := by rw [this]
  grind
theorem div_end (a b s R Q : Nat) (hs : 1 ≤ s) (h : R + b * s * Q = a * s) (hR : R < b * s) : Q = a / b ∧ R / s = a % b := by
  have hb : 0 < b := by
    rcases Nat.eq_zero_or_pos b with h | h
    · subst h; simp at hR
    · exact h
  have hd : a * s / (b * s) = Q := by
    rw [← h, Nat.add_mul_div_left _ _ (by omega), Nat.div_eq_of_lt hR, Nat.zero_add]
  rw [Nat.mul_div_mul_right _ _ hs] at hd
  refine ⟨hd.symm, ?_⟩
  have hm : a * s % (b * s) = R := by rw [← h, Nat.add_mul_mod_self_left, Nat.mod_eq_of_lt hR]
  rw [Nat.mul_mod_mul_right] at hm
  rw [← hm, Nat.mul_div_cancel _ hs]
theorem div_start (B a b s L m : Nat) (us : List Nat) (ha : a < B ^ L) (hb : B ^ (m + 1) ≤ b) (hs : 0 < s) (hl : us.length = L + 1) (hm : m + 2 ≤ L) (hv : val B us = a * s) :
    val B (us.take (L - m - 1)) + B ^ (L - m - 1) * val B (us.drop (L - m - 1)) = a * s ∧ val B (us.drop (L - m - 1)) < b * s ∧ (us.take (L - m - 1)).length = L - m - 1 ∧ (us.drop (L - m - 1)).length = m + 2 := by
  have h1 := val_append B (us.take (L - m - 1)) (us.drop (L - m - 1))
  rw [List.take_append_drop, List.length_take_of_le (by omega), hv] at h1
  refine ⟨h1.symm, ?_, by simp; omega, by simp; omega⟩
  have h2 : a * s < B ^ L * s := Nat.mul_lt_mul_of_pos_right ha hs
  have h3 : B ^ L = B ^ (L - m - 1) * B ^ (m + 1) := by rw [← Nat.pow_add]; congr 1; omega
  have h4 : B ^ (L - m - 1) * val B (us.drop (L - m - 1)) < B ^ (L - m - 1) * (B ^ (m + 1) * s) := by rw [← Nat.mul_assoc, ← h3]; omega
  have h5 := Nat.lt_of_mul_lt_mul_left h4
  have h6 : B ^ (m + 1) * s ≤ b * s := Nat.mul_le_mul_right _ hb
  omega
theorem val_zeros (B n : Nat) : val B (List.replicate n 0) = 0 := by
  induction n with
  | zero => rfl
  | succ n ih => rw [List.replicate_succ, val, ih]; rfl
theorem trim_zeros (l : List Nat) (n : Nat) : trim (l ++ List.replicate n 0) = trim l := by
  induction n with
  | zero => simp
  | succ n ih => rw [List.replicate_succ', ← List.append_assoc, trim_snoc_zero, ih]
/-- A list of n + 1 words whose number has n: the last is 0. -/
theorem last_zero (B : Nat) (l : List Nat) (n : Nat) (hl : l.length = n + 1) (hv : val B l < B ^ n) : ∃ r, l = r ++ [0] ∧ r.length = n := by
  have h := split1 B l n hl.symm
  have hz : l.getD n 0 = 0 := by
    rcases Nat.eq_zero_or_pos (l.getD n 0) with h0 | h0
    · exact h0
    · have : 1 * B ^ n ≤ l.getD n 0 * B ^ n := Nat.mul_le_mul_right _ h0
      omega
  refine ⟨l.take n, ?_, by simp; omega⟩
  have h1 := take_snoc l n (by omega)
  rw [List.take_of_length_le (by omega)] at h1
  rw [List.getD_eq_getElem?_getD, List.getElem?_eq_getElem (by omega)] at hz
  simp only [Option.getD_some] at hz
  rw [hz] at h1
  exact h1
end Go.Proofs.YtlnhocgjgmhfgaaGreatDoor
namespace Go.Proofs.YtlnhocgjgmhfgaaGreatDoor
open Go.RowKit
set_option maxRecDepth 100000

def QuoRem (a b : Nat) (v : Value) (w' : World) : Prop := ∃ q r, v = .tuple #[q, r] ∧ Sl eU w' q (digs 1000000000 (a / b)) ∧ Sl eU w' r (digs 1000000000 (a % b))

set_option maxHeartbeats 1000000 in
theorem divided_one (w : World) (x y : Value) (a b : Nat) (hx : Sl eU w x (digs 1000000000 a)) (hy : Sl eU w y (digs 1000000000 b)) (hb : 0 < b)
    (hl : (digs 1000000000 a).length ≤ 1099511627776) (h1 : b < 1000000000) :
    Calls Tryz.prog 170 #[x, y] w (Rets fun v w' => QuoRem a b v w' ∧ Below w.heap.size w w') := by
  have hd : digs 1000000000 b = [b] := by rw [digs_pos _ _ (by omega) hb, Nat.mod_eq_of_lt h1, Nat.div_eq_of_lt h1, digs_zero]
  rw [hd] at hy
  clear hd
  have HX := Lib.hid hx; clear hx
  obtain ⟨a', bl, o, c, rfl, hi, hq, -, -⟩ := hy.open elemNat
  clear hy
  have c0 : w.cell? ⟨bl, o, none⟩ = some (.int .u32 (b : Nat)) := hq.2 0 (by simp)
  go_enter Tryz.func170, Tryz.ntmps170
  go_wp2_with fail
  refine (short_any w x _ b HX.out (digs_lt _ _ (by omega)) hb h1 hl).mono ?_
  rintro e w' ⟨v, rfl, ⟨q, r, rfl, hq', hr'⟩, hb'⟩
  rw [val_digs _ _ (by omega)] at hq' hr'
  have HQ := Lib.hid hq'; clear hq'
  have HR := Lib.hid hr'; clear hr'
  go_wp2
  go_ret2
  exact ⟨_, rfl, ⟨_, _, rfl, HQ.out, HR.out⟩, hb'⟩

set_option maxHeartbeats 1000000 in
theorem divided_less (w : World) (x y : Value) (a b : Nat) (hx : Sl eU w x (digs 1000000000 a)) (hy : Sl eU w y (digs 1000000000 b))
    (hl : (digs 1000000000 a).length ≤ 1099511627776) (hl' : (digs 1000000000 b).length ≤ 1099511627776) (h1 : 1000000000 ≤ b) (hlt : a < b) :
    Calls Tryz.prog 170 #[x, y] w (Rets fun v w' => QuoRem a b v w' ∧ Below w.heap.size w w') := by
  have hne : 2 ≤ (digs 1000000000 b).length := by
    rcases Nat.lt_or_ge (digs 1000000000 b).length 2 with h | h
    · have := (digs_len 1000000000 b 1 (by omega)).1 (by omega); omega
    · exact h
  have HX := Lib.hid hx; clear hx
  have HY := Lib.hid hy
  obtain ⟨a', bl, o, c, rfl, -, -, -, -⟩ := hy.open elemNat
  clear hy
  have h2 : (((digs 1000000000 b).length : Int) == 1) = false := by simp; omega
  go_enter Tryz.func170, Tryz.ntmps170
  go_wp2_with fail
  refine (compare_any w _ _ a b HX.out HY.out hl hl').mono ?_
  rintro e w' ⟨v, rfl, ⟨r, rfl, hr, -⟩, hb'⟩
  have hr := hr.2 hlt
  go_wp2
  go_ret2
  exact ⟨_, rfl, ⟨_, _, rfl, by rw [Nat.div_eq_of_lt hlt, digs_zero]; exact Sl.nil, by rw [Nat.mod_eq_of_lt hlt]; exact HX.out.below hb' (Nat.le_refl _)⟩, hb'⟩

set_option maxHeartbeats 4000000 in
theorem divided_main (w : World) (x y : Value) (a b : Nat) (hx : Sl eU w x (digs 1000000000 a)) (hy : Sl eU w y (digs 1000000000 b))
    (hl : (digs 1000000000 a).length ≤ 1000000000000) (hl' : (digs 1000000000 b).length ≤ 1000000000000) (h1 : 1000000000 ≤ b) (hlt : b ≤ a) :
    Calls Tryz.prog 170 #[x, y] w (Rets fun v w' => QuoRem a b v w' ∧ Below w.heap.size w w') := by
  have hne : 2 ≤ (digs 1000000000 b).length := by
    rcases Nat.lt_or_ge (digs 1000000000 b).length 2 with h | h
    · have := (digs_len 1000000000 b 1 (by omega)).1 (by omega); omega
    · exact h
  obtain ⟨m, hm⟩ : ∃ m, m + 2 = (digs 1000000000 b).length := ⟨(digs 1000000000 b).length - 2, by omega⟩
  obtain ⟨L, hL⟩ : ∃ L, L = (digs 1000000000 a).length := ⟨_, rfl⟩
  have hmL : m + 2 ≤ L := by rw [hm, hL]; exact digs_len_mono _ (by omega) hlt
  obtain ⟨yt, hyt⟩ : ∃ x, x = (digs 1000000000 b).getD (m + 1) 0 := ⟨_, rfl⟩
  obtain ⟨s, hs⟩ : ∃ x, x = 1000000000 / (yt + 1) := ⟨_, rfl⟩
  have hnorm := norm_ok b (m + 1) s yt hm hyt hs
  have hy1 := hnorm.1
  have hy2 := hnorm.2.1
  have hs1 := hnorm.2.2.1
  have hs2 := hnorm.2.2.2.1
  have HN := Lib.hid hnorm; clear hnorm
  have HX := Lib.hid hx
  have HY := Lib.hid hy
  have bx := digs_lt 1000000000 a (by omega)
  have by' := digs_lt 1000000000 b (by omega)
  obtain ⟨a', bl, o, c, rfl, hi, hq, -, -⟩ := hy.open elemNat
  obtain ⟨a2, bl2, o2, c2, rfl, -, -, -, -⟩ := hx.open elemNat
  rw [← hm] at hi hl' ⊢
  rw [← hL] at hl ⊢
  clear hy hx hne
  have ct : w.cell? ⟨bl, o + (m + 1), none⟩ = some (.int .u32 (yt : Nat)) := by
    rw [hq.2 (m + 1) (by omega), hyt]
    simp [eU, show m + 1 < (digs 1000000000 b).length by omega]
  have HM := Lib.hid hm; clear hm
  have HL := Lib.hid hL; clear hL
  have HYT := Lib.hid hyt; clear hyt
  have HS := Lib.hid hs
  have hsI : (1000000000 : Int) / ((yt : Int) + 1) = (s : Int) := by rw [hs]; simp
  clear hs
  have BX := Lib.hid bx; clear bx
  have BY := Lib.hid by'; clear by'
  have h2 : (((m : Int) + 2) == 1) = false := by simp; omega
  go_enter Tryz.func170, Tryz.ntmps170
  go_wp2_with fail
  refine (compare_any w _ _ a b (by rw [HL.out]; exact HX.out) (by rw [HM.out]; exact HY.out) (by rw [← HL.out]; omega) (by rw [← HM.out]; omega)).mono ?_
  rintro e w1 ⟨v, rfl, ⟨r, rfl, hr, -⟩, hb1⟩
  have hr : 0 ≤ r := by have := hr.1; omega
  have ct1 := (hb1.cell (p := ⟨bl, o + (m + 1), none⟩) (hq.1 (by rw [← HM.out]; omega))).trans ct
  clear ct
  go_wp2_with fail
  refine (times_any _ _ _ (digs 1000000000 b) [s] (by rw [HM.out]; exact HY.out.below (hb1.alloc hb1.size _) (Nat.le_refl _)) (Sl.single w1 s _ rfl _) BY.out (by intro x hx; rw [List.mem_singleton.1 hx]; omega) (by rw [← HM.out]; simp; omega)).mono ?_
  rintro e w2 ⟨v2, rfl, hv, hb2⟩
  have hbs : val 1000000000 (digs 1000000000 b) * val 1000000000 [s] = b * s := by rw [val_digs _ _ (by omega)]; simp [val]
  rw [hbs] at hv
  have hb02 : Below w.heap.size w w2 := (hb1.alloc hb1.size _).trans (hb2.mono (by have := hb1.size; simp; omega))
  have HB02 := Lib.hid hb02
  clear hbs hb2 hb1 ct1 hi hq hb02 hsI
  have HV := Lib.hid hv
  obtain ⟨a3, bl3, o3, c3, rfl, -, -, -, -⟩ := hv.open elemNat
  have hlv := HN.out.2.2.2.2.1
  rw [show m + 1 + 1 = m + 2 by omega] at hlv
  have HLV := Lib.hid hlv
  rw [hlv]
  clear hv hlv
  go_wp2_with (at_make; refine mkN elemNat rfl _ _ rfl (L + 1) rfl rfl (by omega) (by omega) (by omega) (by unfold maxLen; omega) (Below.refl _ _) (Nat.le_refl _) rfl ?_; intro w3 hown hb3 hb3'; clear hb3')
  have hbW3 : Below w.heap.size w w3 := HB02.out.trans (hb3.mono HB02.out.size)
  refine (times_any _ _ _ (digs 1000000000 a) [s] (by rw [HL.out]; exact HX.out.below (hbW3.alloc hbW3.size _) (Nat.le_refl _)) (Sl.single w3 s _ rfl _) BX.out (by intro x hx; rw [List.mem_singleton.1 hx]; omega) (by rw [← HL.out]; simp; omega)).mono ?_
  rintro e w4 ⟨v4, rfl, hv4, hb4⟩
  have has : val 1000000000 (digs 1000000000 a) * val 1000000000 [s] = a * s := by rw [val_digs _ _ (by omega)]; simp [val]
  rw [has] at hv4
  have hlz : (digs 1000000000 (a * s)).length ≤ L + 1 := by
    have h1 := digs_len_mul 1000000000 a s (by omega)
    have h2 := (digs_len 1000000000 s 1 (by omega)).2 (by omega)
    rw [← HL.out] at h1; omega
  have hown4 := own_below (own_below hown ((Below.refl w3.heap.size w3).alloc (Nat.le_refl _) (.cells #[.int .u32 (s : Int)] 150)) (Nat.le_refl _)) hb4 (Nat.le_refl _)
  have hown4 := ownsRow_cast hown4 rfl (show List.replicate (L + 1) (Value.int .u32 0) = (List.replicate (L + 1) 0).map eU by simp [eU])
  have hb24 : Below w2.heap.size w2 w4 := (hb3.alloc hb3.size _).trans (hb4.mono (by have := hb3.size; simp; omega))
  clear hown hb3 hb4 hbW3 has
  have HV4 := Lib.hid hv4; clear hv4
  have HLZ := Lib.hid hlz; clear hlz
  have h24 := hb24.size
  go_wp2_with (first
    | ((with_reducible show wpList _ _ _ _ _ _); refine copy1 (sv := v4) elemNat rfl _ _ rfl rfl rfl hown4 HV4.out HLZ.out (fun _ => rfl) hb24 (Nat.le_refl _) ?_; intro w5 hown5 hb5)
    | (at_make; refine mkN elemNat rfl _ _ rfl (L - m - 1) rfl rfl (by omega) (by omega) (by omega) (by unfold maxLen; omega) hb5 hb5.size rfl ?_; intro w6 hownq hb6 hb56))
  -- the words of the scaled dividend
  obtain ⟨us, hus⟩ : ∃ us, us = digs 1000000000 (a * s) ++ List.drop (digs 1000000000 (a * s)).length (List.replicate (L + 1) 0) := ⟨_, rfl⟩
  rw [← hus] at hown5
  have husl : us.length = L + 1 := by rw [hus]; simp; have := HLZ.out; omega
  have husb : ∀ x ∈ us, x < 1000000000 := by
    intro x hx
    rw [hus] at hx
    rcases List.mem_append.1 hx with h | h
    · exact digs_lt _ _ (by omega) x h
    · rw [List.eq_of_mem_replicate (List.mem_of_mem_drop h)]; omega
  have husv : val 1000000000 us = a * s := by rw [hus, List.drop_replicate, val_append, val_zeros, val_digs _ _ (by omega)]; simp
  have hst := div_start 1000000000 a b s L m us (by rw [HL.out]; exact lt_pow_len _ _ (by omega)) HN.out.2.2.2.2.2.2 hs1 husl hmL husv
  have hownu := own_below hown5 hb56 (Nat.le_refl _)
  have hqg : w2.heap.size < w5.heap.size := by
    have := (hown5.lt w2.heap.size rfl).2
    exact this
  have HST := Lib.hid hst; have HUSB := Lib.hid husb; have HUSL := Lib.hid husl
  clear hst husb husl husv hus hown5 hown4 hb24 hb5 hb56 h24 HV4
  obtain ⟨K, hK⟩ : ∃ K, K = L - m - 1 := ⟨_, rfl⟩
  rw [← hK] at hownq HST ⊢
  obtain ⟨gq, hgq⟩ : ∃ gq, gq = w5.heap.size := ⟨_, rfl⟩
  rw [← hgq] at hownq hqg ⊢
  have HK := Lib.hid hK
  clear hgq
  have hownq := ownsRow_cast hownq rfl (show List.replicate K (Value.int .u32 0) = (List.replicate K 0 ++ ([] : List Nat)).map eU by simp [eU])
  have hKL : K + (m + 2) = L + 1 := by omega
  clear hK
  have hK1 : 1 ≤ K := by omega
  go_loopw [11] (fun jv wr => ∃ (k : Nat) (A R qs : List Nat), k ≤ K ∧ jv = .int .i64 ((k : Int) - 1) ∧ A.length = k ∧ R.length = m + 2 ∧ (∀ x ∈ A, x < 1000000000) ∧ (∀ x ∈ R, x < 1000000000) ∧ (∀ x ∈ qs, x < 1000000000) ∧
      qs.length = K - k ∧ val 1000000000 R < b * s ∧ val 1000000000 A + 1000000000 ^ k * (val 1000000000 R + b * s * val 1000000000 qs) = a * s ∧
      wr.ownsRow w2.heap.size 150 1 (.slice (some ⟨w2.heap.size, 0, none⟩) (L + 1) (L + 1)) (L + 1) ((A ++ (R ++ List.replicate (K - k) 0)).map eU) ∧
      wr.ownsRow gq 150 1 (.slice (some ⟨gq, 0, none⟩) K K) K ((List.replicate k 0 ++ qs).map eU) ∧ Below w2.heap.size w2 wr) (fun jv _ => (intOf jv + 1).toNat)
  case atStart =>
    refine ⟨K, us.take K, us.drop K, [], Nat.le_refl _, rfl, HST.out.2.2.1, HST.out.2.2.2, mem_take HUSB.out, fun x hx => HUSB.out x (List.mem_of_mem_drop hx), by simp, by simp, HST.out.2.1, by simpa [val] using HST.out.1, ?_, ?_, hb6⟩
    · simpa using hownu
    · simpa using hownq
  case round =>
    clear hownu hownq hb6
    obtain ⟨k, A, R, qs, hk, rfl, hA, hR, bA, bR, bQ, hql, hRV, hsum, hownu, hownq, hb⟩ := hrel
    have HA := Lib.hid hA; have HR := Lib.hid hR; have BA := Lib.hid bA; have BR := Lib.hid bR; have BQ := Lib.hid bQ; have HQL := Lib.hid hql; have HRV := Lib.hid hRV; have HSUM := Lib.hid hsum
    clear hA hR bA bR bQ hql hRV hsum
    rcases k with _ | k
    · obtain rfl : A = [] := List.length_eq_zero_iff.1 HA.out
      have hde := div_end a b s (val 1000000000 R) (val 1000000000 qs) hs1 (by have := HSUM.out; simpa [val] using this) HRV.out
      have HDE := Lib.hid hde; clear hde
      have hsl : Sl eU wr (.slice (some ⟨w2.heap.size, 0, none⟩) (L + 1) (L + 1)) (R ++ List.replicate K 0) := Sl.ofOwns (n := L + 1) (by simpa using hownu)
      have hslq : Sl eU wr (.slice (some ⟨gq, 0, none⟩) K K) qs := Sl.ofOwns (n := K) (by simpa using hownq)
      have HSLQ := Lib.hid hslq; clear hslq
      clear hownu hownq
      go_wp2_with fail
      refine (trimmed_any _ _ _ hsl).mono ?_
      rintro e w8 ⟨v8, rfl, hs8, rfl⟩
      rw [trim_zeros] at hs8
      have HS8 := Lib.hid hs8; clear hs8 hsl
      go_wp2_with fail
      refine (short_any wr v8 _ s HS8.out (fun y hy => BR.out y (mem_trim hy)) hs1 (by omega) (by have := trim_le R; have := HR.out; omega)).mono ?_
      rintro e w9 ⟨v9, rfl, ⟨q9, r9, rfl, hq9, -⟩, hb9⟩
      rw [val_trim, HDE.out.2] at hq9
      have HQ9 := Lib.hid hq9; clear hq9
      have HSLQ9 := Lib.hid (HSLQ.out.below hb9 (Nat.le_refl _))
      go_wp2_with fail
      refine (trimmed_any _ _ _ HSLQ9.out).mono ?_
      rintro e w10 ⟨v10, rfl, hs10, rfl⟩
      rw [trim_of 1000000000 qs (a / b) (by omega) BQ.out HDE.out.1] at hs10
      have HS10 := Lib.hid hs10; clear hs10
      go_wp2
      go_ret2
      exact ⟨_, rfl, ⟨_, _, rfl, HS10.out, HQ9.out⟩, HB02.out.trans ((hb.trans (hb9.mono hb.size)).mono HB02.out.size)⟩
    · rcases list_snoc A with hA0 | ⟨A', x, hA1⟩
      · have := HA.out; rw [hA0] at this; simp at this
      · subst hA1
        have hA' : A'.length = k := by have := HA.out; simpa using this
        have hbx : x < 1000000000 := BA.out x (by simp)
        have hsz := hb.size
        have hown2 : wr.ownsRow w2.heap.size 150 1 (.slice (some ⟨w2.heap.size, 0, none⟩) (L + 1) (L + 1)) (L + 1) ((A' ++ ((x :: R) ++ List.replicate (K - (k + 1)) 0)).map eU) := by simpa using hownu
        have hUV : val 1000000000 (x :: R) < 1000000000 * val 1000000000 (digs 1000000000 (b * s)) := by
          rw [val_digs _ _ (by omega), val]
          have := HRV.out
          have h3 : 1000000000 * (val 1000000000 R + 1) ≤ 1000000000 * (b * s) := Nat.mul_le_mul_left _ this
          omega
        have hstep := fun cu h1 h2 => step_any w2 wr _ w2.heap.size (L + 1) (L + 1) w2.heap.size cu m A' (x :: R) (List.replicate (K - (k + 1)) 0) (digs 1000000000 (b * s)) HV.out hb (Nat.le_refl _) hown2
          (by intro y hy; rcases List.mem_cons.1 hy with h | h; exact h ▸ hbx; exact BR.out y h) (digs_lt _ _ (by omega)) HLV.out.symm (by have := HR.out; simp; omega) h1 h2 (by omega) HN.out.2.2.2.2.2.1 hUV
        rw [hA', HLV.out] at hstep
        have HSTEP := Lib.hid hstep
        have HA' := Lib.hid hA'
        clear hstep hown2 hUV hA'
        have ek : (((k + 1 : Nat) : Int) - 1) = (k : Int) := by omega
        rw [ek]
        clear ek
        go_wp2_with fail
        rw [show k + (m + 2) + 1 - k = m + 3 by omega]
        refine (HSTEP.out (L + 1 - k) (by have := HR.out; simp; omega) (by unfold maxLen; omega)).mono ?_
        rintro e w7 ⟨v7, rfl, us', rfl, hv7, hb7, hl7, hown7, hkg⟩
        rw [val_digs _ _ (by omega)] at hv7
        have hlt7 : val 1000000000 us' < b * s := by rw [hv7]; exact Nat.mod_lt _ (by have := HRV.out; omega)
        have hBs : b * s < 1000000000 ^ (m + 2) := by have := lt_pow_len 1000000000 (b * s) (by omega); rw [HLV.out] at this; exact this
        obtain ⟨R', hus', hR'⟩ := last_zero 1000000000 us' (m + 2) hl7 (by omega)
        have hownq7 := own_kept hownq hkg.2 (by omega)
        have hkq : k < (List.replicate (k + 1) 0 ++ qs).length := by simp; omega
        have hcu := (own_get hownq7 hkq).1
        have hfu := (own_get hownq7 hkq).2
        have hb7' := hkg.1
        have hsU : val 1000000000 (x :: R) = x + 1000000000 * val 1000000000 R := rfl
        have hdm := Nat.div_add_mod (val 1000000000 (x :: R)) (b * s)
        have hqB : val 1000000000 (x :: R) / (b * s) < 1000000000 := by
          rw [Nat.div_lt_iff_lt_mul (by have := HRV.out; omega), hsU]
          have h3 : 1000000000 * (val 1000000000 R + 1) ≤ 1000000000 * (b * s) := Nat.mul_le_mul_left _ HRV.out
          omega
        have hnew := div_step 1000000000 (b * s) (a * s) (val 1000000000 A') x (val 1000000000 R) (val 1000000000 (x :: R)) (val 1000000000 (x :: R) / (b * s)) (val 1000000000 us') (val 1000000000 qs) k
          (by have := HSUM.out; rw [val_snoc, HA'.out] at this; exact this) hsU (by rw [hv7, Nat.mul_comm]; exact hdm.symm)
        rw [hus', val_snoc, Nat.mul_zero, Nat.add_zero] at hnew hlt7
        have hownu7 : w7.ownsRow w2.heap.size 150 1 (.slice (some ⟨w2.heap.size, 0, none⟩) (L + 1) (L + 1)) (L + 1) ((A' ++ (R' ++ List.replicate (K - k) 0)).map eU) := by
          have e : K - k = (K - (k + 1)) + 1 := by omega
          rw [e, List.replicate_succ]
          rw [hus'] at hown7
          simpa using hown7
        have hbR' : ∀ y ∈ R', y < 1000000000 := fun y hy => hb7 y (by rw [hus']; simp [hy])
        have hqI : ((val 1000000000 (x :: R) / val 1000000000 (digs 1000000000 (b * s)) : Nat) : Int) = ((val 1000000000 (x :: R) / (b * s) : Nat) : Int) := by rw [val_digs _ _ (by omega)]
        rw [hqI]
        obtain ⟨qd, hqd⟩ : ∃ qd, qd = val 1000000000 (x :: R) / (b * s) := ⟨_, rfl⟩
        rw [← hqd] at hnew hqB ⊢
        have HNEW := Lib.hid hnew; have HLT7 := Lib.hid hlt7; have HBR := Lib.hid hbR'; have HR' := Lib.hid hR'
        clear hnew hlt7 hbR' hqd hqI hdm hsU hBs hv7 hb7 hl7 hus' hR' hkg hown7 hownq hownu hb HSTEP
        go_wp2
        go_roundw
        case rel =>
          have R2 := own_put hownq7 hb7' (show w2.heap.size ≤ gq by omega) k qd _ rfl
          rw [fill_down] at R2
          have R1 := own_kept hownu7 (hownq7.stored k (.int .u32 (qd : Int))).2 (by omega)
          exact ⟨k, A', R', qd :: qs, by omega, rfl, HA'.out, HR'.out, fun y hy => BA.out y (by simp [hy]), HBR.out, fun y hy => by rcases List.mem_cons.1 hy with h | h; exact h ▸ hqB; exact BQ.out y h,
            by have := HQL.out; simp; omega, HLT7.out, HNEW.out, R1, R2.1, R2.2⟩
        case measure => simp [intOf]

/-- 'divided', for all natural numbers. -/
theorem divided_any (w : World) (x y : Value) (a b : Nat) (hx : Sl eU w x (digs 1000000000 a)) (hy : Sl eU w y (digs 1000000000 b)) (hb : 0 < b)
    (hl : (digs 1000000000 a).length ≤ 1000000000000) (hl' : (digs 1000000000 b).length ≤ 1000000000000) :
    Calls Tryz.prog 170 #[x, y] w (Rets fun v w' => QuoRem a b v w' ∧ Below w.heap.size w w') := by
  rcases Nat.lt_or_ge b 1000000000 with h1 | h1
  · exact divided_one w x y a b hx hy hb (by omega) h1
  · rcases Nat.lt_or_ge a b with h2 | h2
    · exact divided_less w x y a b hx hy (by omega) (by omega) h1 h2
    · exact divided_main w x y a b hx hy hl hl' h1 h2
end Go.Proofs.YtlnhocgjgmhfgaaGreatDoor

namespace Go.Proofs
def Tryz.lays169_ren : Go.Shelf.Ren := ⟨fun | 169 => 142 | n => n, fun | 70 => 208 | 9 => 9 | 0 => 0 | 72 => 210 | 37 => 193 | 127 => 225 | 3 => 3 | 5 => 5 | n => n, fun | n => n⟩
theorem Tryz.lays169 : Go.Proofs.Lays.n169 Tryz.prog Tryz.lays169_ren := {
  mixed := by kernel_rfl
  f169 := Tryz.func142.trans (congrArg some (by kernel_rfl))
  t0 := Tryz.underlying0
  a0 := Tryz.isAgg0
  z0 := Tryz.sizeOf0
  v0 := Tryz.zeroValue0
  t3 := Tryz.underlying3
  a3 := Tryz.isAgg3
  z3 := Tryz.sizeOf3
  v3 := Tryz.zeroValue3
  t9 := Tryz.underlying9
  a9 := Tryz.isAgg9
  z9 := Tryz.sizeOf9
  v9 := Tryz.zeroValue9
  t37 := Tryz.underlying193
  a37 := Tryz.isAgg193
  z37 := Tryz.sizeOf193
  v37 := Tryz.zeroValue193
  t70 := Tryz.underlying208
  a70 := Tryz.isAgg208
  z70 := Tryz.sizeOf208
  v70 := Tryz.zeroValue208
  t72 := Tryz.underlying210
  a72 := Tryz.isAgg210
  z72 := Tryz.sizeOf210
  v72 := Tryz.zeroValue210
  t127 := Tryz.underlying225
  a127 := Tryz.isAgg225
  z127 := Tryz.sizeOf225
  v127 := Tryz.zeroValue225 }
theorem Tryz.Builder_Extra_169 : Builder.Extra Tryz.prog Tryz.lays169_ren := {
  sizeBuilder := by kernel_rfl
  liesBuilder := by kernel_rfl
  t5 := Tryz.underlying5
  a5 := Tryz.isAgg5
  z5 := Tryz.sizeOf5
  v5 := Tryz.zeroValue5
  infoByte := by kernel_rfl
  cellsByte := by kernel_rfl
  sizeByte := by kernel_rfl
  neB5 := by decide }
def Tryz.lays103_ren : Go.Shelf.Ren := ⟨fun | 103 => 120 | 210 => 131 | 206 => 144 | n => n, fun | 9 => 9 | 4 => 4 | 24 => 184 | 3 => 3 | n => n, fun | n => n⟩
theorem Tryz.lays103 : Go.Proofs.Lays.n103 Tryz.prog Tryz.lays103_ren := {
  mixed := by kernel_rfl
  f103 := Tryz.func120.trans (congrArg some (by kernel_rfl))
  f206 := Tryz.func144.trans (congrArg some (by kernel_rfl))
  f210 := Tryz.func131.trans (congrArg some (by kernel_rfl))
  t3 := Tryz.underlying3
  a3 := Tryz.isAgg3
  z3 := Tryz.sizeOf3
  v3 := Tryz.zeroValue3
  t4 := Tryz.underlying4
  a4 := Tryz.isAgg4
  z4 := Tryz.sizeOf4
  v4 := Tryz.zeroValue4
  t9 := Tryz.underlying9
  a9 := Tryz.isAgg9
  z9 := Tryz.sizeOf9
  v9 := Tryz.zeroValue9
  t24 := Tryz.underlying184
  a24 := Tryz.isAgg184
  z24 := Tryz.sizeOf184
  v24 := Tryz.zeroValue184 }
open Go.RowKit in
theorem Tryz.strings_CutPrefix (s p : ByteArray) (w : World) :
    Calls Tryz.prog 120 #[.string s, .string p] w fun e w' => e = .returned (.tuple #[.string ⟨(Lib.trimPrefix s.data.toList p.data.toList).toArray⟩, .bool (Lib.hasPrefix s.data.toList p.data.toList)]) ∧ w' = w := Any.strings_CutPrefix Tryz.lays103 s p w
open Go.RowKit in
theorem Tryz.Builder_String_any_f (B b : Nat) (l : List UInt8) (w : World) (h : Lib.IsBuilderF 210 5 B b (Lib.byteCells l) w) (hBw : B ≤ w.heap.size) :
    Calls Tryz.prog 142 #[.pointer (some ⟨b, 0, none⟩)] w fun e w' => e = .returned (.string ⟨l.toArray⟩) ∧ (Lib.IsBuilderF 210 5 B b (Lib.byteCells l) w' ∧ Below B w w') := Any.Builder_String_any_f Tryz.lays169 Tryz.Builder_Extra_169 B b l w h hBw
def Tryz.laysM171_ren : Go.Shelf.Ren := ⟨fun | 171 => 79 | 243 => 106 | 246 => 123 | 283 => 134 | 284 => 135 | 285 => 136 | 286 => 137 | 129 => 91 | 317 => 147 | 318 => 148 | 319 => 149 | 320 => 150 | 337 => 165 | 338 => 166 | n => n, fun | 3 => 3 | 9 => 9 | 2 => 2 | 4 => 4 | 171 => 204 | 0 => 0 | 53 => 152 | 37 => 193 | 5 => 5 | 173 => 206 | 212 => 218 | 51 => 150 | 20 => 20 | 213 => 219 | 46 => 115 | 232 => 245 | 233 => 246 | n => n, fun | 17 => 0 | 18 => 3 | 19 => 4 | n => n⟩
theorem Tryz.laysM171 : Go.Proofs.LaysM.n171 Tryz.prog Tryz.laysM171_ren := {
  mixed := by kernel_rfl
  f129 := Tryz.func91.trans (congrArg some (by kernel_rfl))
  f171 := Tryz.func79.trans (congrArg some (by kernel_rfl))
  f243 := Tryz.func106.trans (congrArg some (by kernel_rfl))
  f246 := Tryz.func123.trans (congrArg some (by kernel_rfl))
  f283 := Tryz.func134.trans (congrArg some (by kernel_rfl))
  f284 := Tryz.func135.trans (congrArg some (by kernel_rfl))
  f285 := Tryz.func136.trans (congrArg some (by kernel_rfl))
  f286 := Tryz.func137.trans (congrArg some (by kernel_rfl))
  f317 := Tryz.func147.trans (congrArg some (by kernel_rfl))
  f318 := Tryz.func148.trans (congrArg some (by kernel_rfl))
  f319 := Tryz.func149.trans (congrArg some (by kernel_rfl))
  f320 := Tryz.func150.trans (congrArg some (by kernel_rfl))
  f337 := Tryz.func165.trans (congrArg some (by kernel_rfl))
  f338 := Tryz.func166.trans (congrArg some (by kernel_rfl))
  t0 := Tryz.underlying0
  a0 := Tryz.isAgg0
  z0 := Tryz.sizeOf0
  v0 := Tryz.zeroValue0
  t2 := Tryz.underlying2
  a2 := Tryz.isAgg2
  z2 := Tryz.sizeOf2
  v2 := Tryz.zeroValue2
  t3 := Tryz.underlying3
  a3 := Tryz.isAgg3
  z3 := Tryz.sizeOf3
  v3 := Tryz.zeroValue3
  t4 := Tryz.underlying4
  a4 := Tryz.isAgg4
  z4 := Tryz.sizeOf4
  v4 := Tryz.zeroValue4
  t5 := Tryz.underlying5
  a5 := Tryz.isAgg5
  z5 := Tryz.sizeOf5
  v5 := Tryz.zeroValue5
  t9 := Tryz.underlying9
  a9 := Tryz.isAgg9
  z9 := Tryz.sizeOf9
  v9 := Tryz.zeroValue9
  t20 := Tryz.underlying20
  a20 := Tryz.isAgg20
  z20 := Tryz.sizeOf20
  v20 := Tryz.zeroValue20
  t37 := Tryz.underlying193
  a37 := Tryz.isAgg193
  z37 := Tryz.sizeOf193
  v37 := Tryz.zeroValue193
  t46 := Tryz.underlying115
  a46 := Tryz.isAgg115
  z46 := Tryz.sizeOf115
  v46 := Tryz.zeroValue115
  t51 := Tryz.underlying150
  a51 := Tryz.isAgg150
  z51 := Tryz.sizeOf150
  v51 := Tryz.zeroValue150
  t53 := Tryz.underlying152
  a53 := Tryz.isAgg152
  z53 := Tryz.sizeOf152
  v53 := Tryz.zeroValue152
  t171 := Tryz.underlying204
  a171 := Tryz.isAgg204
  z171 := Tryz.sizeOf204
  v171 := Tryz.zeroValue204
  t173 := Tryz.underlying206
  a173 := Tryz.isAgg206
  z173 := Tryz.sizeOf206
  v173 := Tryz.zeroValue206
  t212 := Tryz.underlying218
  a212 := Tryz.isAgg218
  z212 := Tryz.sizeOf218
  v212 := Tryz.zeroValue218
  t213 := Tryz.underlying219
  a213 := Tryz.isAgg219
  z213 := Tryz.sizeOf219
  t232 := Tryz.underlying245
  a232 := Tryz.isAgg245
  z232 := Tryz.sizeOf245
  v232 := Tryz.zeroValue245
  t233 := Tryz.underlying246
  a233 := Tryz.isAgg246
  z233 := Tryz.sizeOf246
  v233 := Tryz.zeroValue246
  g17 := by kernel_rfl
  g18 := by kernel_rfl
  g19 := by kernel_rfl
  i0 := by kernel_rfl
  i2 := by kernel_rfl
  i3 := by kernel_rfl
  i4 := by kernel_rfl
  i5 := by kernel_rfl
  i9 := by kernel_rfl
  i20 := by kernel_rfl
  i37 := by kernel_rfl
  i46 := by kernel_rfl
  i51 := by kernel_rfl
  i53 := by kernel_rfl
  i171 := by kernel_rfl
  i173 := by kernel_rfl
  i212 := by kernel_rfl
  i232 := by kernel_rfl
  i233 := by kernel_rfl
  m17 := by kernel_rfl
  m18 := by kernel_rfl
  m19 := by kernel_rfl }
open Go.RowKit Go.Sort Go.Lib in
theorem Tryz.strconv_Itoa (n : Int) (h0 : -9223372036854775808 ≤ n) (h1 : n ≤ 9223372036854775807) (w : World) (htab : Lib.TabIs Tryz.prog w "internal/strconv.uint64pow10" .u64 Lib.pow10Tab) :
    Calls Tryz.prog 79 #[.int .i64 n] w fun e w' => e = .returned (.string ⟨(Lib.itoa n).toArray⟩) ∧ ∃ k os, w' = grow (w.drewN k) os := Any.strconv_Itoa Tryz.laysM171 n h0 h1 w htab
def Tryz.laysPu14_ren : Go.Shelf.Ren := ⟨fun | 14 => 133 | 16 => 145 | 17 => 146 | 19 => 159 | 20 => 160 | 21 => 161 | 22 => 162 | 23 => 163 | 24 => 164 | 25 => 175 | 27 => 79 | 26 => 176 | 28 => 106 | 29 => 123 | 30 => 134 | 31 => 135 | 32 => 136 | 33 => 137 | 35 => 91 | 34 => 147 | 36 => 148 | 37 => 149 | 38 => 150 | 39 => 165 | 40 => 166 | n => n, fun | 9 => 9 | 3 => 3 | 22 => 152 | 24 => 201 | 25 => 202 | 4 => 4 | 34 => 226 | 5 => 5 | 36 => 115 | 37 => 193 | 0 => 0 | 39 => 229 | 21 => 21 | 44 => 243 | 47 => 225 | 50 => 252 | 48 => 250 | 2 => 2 | 52 => 204 | 55 => 206 | 59 => 218 | 60 => 150 | 20 => 20 | 61 => 219 | 65 => 245 | 66 => 246 | 67 => 182 | n => n, fun | 0 => 1 | 1 => 2 | 2 => 0 | 3 => 3 | 4 => 4 | n => n⟩
theorem Tryz.laysPu14 : Go.Proofs.LaysPu.n14 Tryz.prog Tryz.laysPu14_ren := {
  mixed := by kernel_rfl
  f14 := Tryz.func133.trans (congrArg some (by kernel_rfl))
  f16 := Tryz.func145.trans (congrArg some (by kernel_rfl))
  f17 := Tryz.func146.trans (congrArg some (by kernel_rfl))
  f19 := Tryz.func159.trans (congrArg some (by kernel_rfl))
  f20 := Tryz.func160.trans (congrArg some (by kernel_rfl))
  f21 := Tryz.func161.trans (congrArg some (by kernel_rfl))
  f22 := Tryz.func162.trans (congrArg some (by kernel_rfl))
  f23 := Tryz.func163.trans (congrArg some (by kernel_rfl))
  f24 := Tryz.func164.trans (congrArg some (by kernel_rfl))
  f25 := Tryz.func175.trans (congrArg some (by kernel_rfl))
  f26 := Tryz.func176.trans (congrArg some (by kernel_rfl))
  f27 := Tryz.func79.trans (congrArg some (by kernel_rfl))
  f28 := Tryz.func106.trans (congrArg some (by kernel_rfl))
  f29 := Tryz.func123.trans (congrArg some (by kernel_rfl))
  f30 := Tryz.func134.trans (congrArg some (by kernel_rfl))
  f31 := Tryz.func135.trans (congrArg some (by kernel_rfl))
  f32 := Tryz.func136.trans (congrArg some (by kernel_rfl))
  f33 := Tryz.func137.trans (congrArg some (by kernel_rfl))
  f34 := Tryz.func147.trans (congrArg some (by kernel_rfl))
  f35 := Tryz.func91.trans (congrArg some (by kernel_rfl))
  f36 := Tryz.func148.trans (congrArg some (by kernel_rfl))
  f37 := Tryz.func149.trans (congrArg some (by kernel_rfl))
  f38 := Tryz.func150.trans (congrArg some (by kernel_rfl))
  f39 := Tryz.func165.trans (congrArg some (by kernel_rfl))
  f40 := Tryz.func166.trans (congrArg some (by kernel_rfl))
  t0 := Tryz.underlying0
  a0 := Tryz.isAgg0
  z0 := Tryz.sizeOf0
  v0 := Tryz.zeroValue0
  i0 := by kernel_rfl
  t2 := Tryz.underlying2
  a2 := Tryz.isAgg2
  z2 := Tryz.sizeOf2
  v2 := Tryz.zeroValue2
  i2 := by kernel_rfl
  t3 := Tryz.underlying3
  a3 := Tryz.isAgg3
  z3 := Tryz.sizeOf3
  v3 := Tryz.zeroValue3
  i3 := by kernel_rfl
  t4 := Tryz.underlying4
  a4 := Tryz.isAgg4
  z4 := Tryz.sizeOf4
  v4 := Tryz.zeroValue4
  i4 := by kernel_rfl
  t5 := Tryz.underlying5
  a5 := Tryz.isAgg5
  z5 := Tryz.sizeOf5
  v5 := Tryz.zeroValue5
  i5 := by kernel_rfl
  t9 := Tryz.underlying9
  a9 := Tryz.isAgg9
  z9 := Tryz.sizeOf9
  v9 := Tryz.zeroValue9
  i9 := by kernel_rfl
  t20 := Tryz.underlying20
  a20 := Tryz.isAgg20
  z20 := Tryz.sizeOf20
  v20 := Tryz.zeroValue20
  i20 := by kernel_rfl
  t21 := Tryz.underlying21
  a21 := Tryz.isAgg21
  z21 := Tryz.sizeOf21
  v21 := Tryz.zeroValue21
  i21 := by kernel_rfl
  t22 := Tryz.underlying152
  a22 := Tryz.isAgg152
  z22 := Tryz.sizeOf152
  v22 := Tryz.zeroValue152
  i22 := by kernel_rfl
  t24 := Tryz.underlying201
  a24 := Tryz.isAgg201
  z24 := Tryz.sizeOf201
  v24 := Tryz.zeroValue201
  i24 := by kernel_rfl
  t25 := Tryz.underlying202
  a25 := Tryz.isAgg202
  z25 := Tryz.sizeOf202
  v25 := Tryz.zeroValue202
  i25 := by kernel_rfl
  t34 := Tryz.underlying226
  a34 := Tryz.isAgg226
  z34 := Tryz.sizeOf226
  v34 := Tryz.zeroValue226
  i34 := by kernel_rfl
  c34 := by kernel_rfl
  t36 := Tryz.underlying115
  a36 := Tryz.isAgg115
  z36 := Tryz.sizeOf115
  v36 := Tryz.zeroValue115
  i36 := by kernel_rfl
  t37 := Tryz.underlying193
  a37 := Tryz.isAgg193
  z37 := Tryz.sizeOf193
  v37 := Tryz.zeroValue193
  i37 := by kernel_rfl
  t39 := Tryz.underlying229
  a39 := Tryz.isAgg229
  z39 := Tryz.sizeOf229
  v39 := Tryz.zeroValue229
  i39 := by kernel_rfl
  t44 := Tryz.underlying243
  a44 := Tryz.isAgg243
  z44 := Tryz.sizeOf243
  v44 := Tryz.zeroValue243
  i44 := by kernel_rfl
  t47 := Tryz.underlying225
  a47 := Tryz.isAgg225
  z47 := Tryz.sizeOf225
  v47 := Tryz.zeroValue225
  i47 := by kernel_rfl
  t48 := Tryz.underlying250
  a48 := Tryz.isAgg250
  z48 := Tryz.sizeOf250
  v48 := Tryz.zeroValue250
  i48 := by kernel_rfl
  t50 := Tryz.underlying252
  a50 := Tryz.isAgg252
  z50 := Tryz.sizeOf252
  v50 := Tryz.zeroValue252
  i50 := by kernel_rfl
  t52 := Tryz.underlying204
  a52 := Tryz.isAgg204
  z52 := Tryz.sizeOf204
  v52 := Tryz.zeroValue204
  i52 := by kernel_rfl
  t55 := Tryz.underlying206
  a55 := Tryz.isAgg206
  z55 := Tryz.sizeOf206
  v55 := Tryz.zeroValue206
  i55 := by kernel_rfl
  t59 := Tryz.underlying218
  a59 := Tryz.isAgg218
  z59 := Tryz.sizeOf218
  v59 := Tryz.zeroValue218
  i59 := by kernel_rfl
  t60 := Tryz.underlying150
  a60 := Tryz.isAgg150
  z60 := Tryz.sizeOf150
  v60 := Tryz.zeroValue150
  i60 := by kernel_rfl
  t61 := Tryz.underlying219
  a61 := Tryz.isAgg219
  z61 := Tryz.sizeOf219
  t65 := Tryz.underlying245
  a65 := Tryz.isAgg245
  z65 := Tryz.sizeOf245
  v65 := Tryz.zeroValue245
  i65 := by kernel_rfl
  t66 := Tryz.underlying246
  a66 := Tryz.isAgg246
  z66 := Tryz.sizeOf246
  v66 := Tryz.zeroValue246
  i66 := by kernel_rfl
  t67 := Tryz.underlying182
  a67 := Tryz.isAgg182
  z67 := Tryz.sizeOf182
  v67 := Tryz.zeroValue182
  i67 := by kernel_rfl
  g0 := by kernel_rfl
  m0 := by kernel_rfl
  g1 := by kernel_rfl
  m1 := by kernel_rfl
  g2 := by kernel_rfl
  m2 := by kernel_rfl
  g3 := by kernel_rfl
  m3 := by kernel_rfl
  g4 := by kernel_rfl
  m4 := by kernel_rfl }
open Go.RowKit in
theorem Tryz.strconv_ParseUint_10_at32_ok (s : ByteArray) (hmax : s.size ≤ 9223372036854775806) (u : Nat) (h : Lib.parseUintB 32 s.data.toList = .ok u) (w : World) :
    Calls Tryz.prog 133 #[.string s, .int .i64 10, .int .i64 32] w fun e w' => e = .returned (.tuple #[.int .u64 u, .nilIface]) ∧ (w' = w ∨ w' = Lib.bytesWorld w 5 s) := Any.strconv_ParseUint_10_at32_ok Tryz.laysPu14 s hmax u h w
def Tryz.lays101_ren : Go.Shelf.Ren := ⟨fun | 101 => 130 | 208 => 143 | 206 => 144 | n => n, fun | 9 => 9 | 4 => 4 | 3 => 3 | n => n, fun | n => n⟩
theorem Tryz.lays101 : Go.Proofs.Lays.n101 Tryz.prog Tryz.lays101_ren := {
  mixed := by kernel_rfl
  f101 := Tryz.func130.trans (congrArg some (by kernel_rfl))
  f206 := Tryz.func144.trans (congrArg some (by kernel_rfl))
  f208 := Tryz.func143.trans (congrArg some (by kernel_rfl))
  t3 := Tryz.underlying3
  a3 := Tryz.isAgg3
  z3 := Tryz.sizeOf3
  v3 := Tryz.zeroValue3
  t4 := Tryz.underlying4
  a4 := Tryz.isAgg4
  z4 := Tryz.sizeOf4
  v4 := Tryz.zeroValue4
  t9 := Tryz.underlying9
  a9 := Tryz.isAgg9
  z9 := Tryz.sizeOf9
  v9 := Tryz.zeroValue9 }
open Go.RowKit Go.Lib in
theorem Tryz.strings_TrimPrefix (s p : ByteArray) (w : World) :
    Calls Tryz.prog 130 #[.string s, .string p] w fun e w' => e = .returned (.string ⟨(Lib.trimPrefix s.data.toList p.data.toList).toArray⟩) ∧ w' = w := Any.strings_TrimPrefix Tryz.lays101 s p w
def Tryz.lays105_ren : Go.Shelf.Ren := ⟨fun | 105 => 141 | 212 => 155 | 99 => 156 | 165 => 157 | 166 => 140 | 170 => 158 | 169 => 142 | 263 => 172 | 264 => 173 | 206 => 144 | 240 => 154 | 241 => 174 | 276 => 171 | 277 => 179 | n => n, fun | 9 => 9 | 3 => 3 | 4 => 4 | 20 => 20 | 0 => 0 | 46 => 115 | 109 => 222 | 5 => 5 | 72 => 210 | 76 => 211 | 51 => 150 | 146 => 237 | 53 => 152 | 148 => 239 | 70 => 208 | 37 => 193 | 75 => 201 | 127 => 225 | 164 => 235 | 80 => 182 | n => n, fun | n => n⟩
theorem Tryz.lays105 : Go.Proofs.Lays.n105 Tryz.prog Tryz.lays105_ren := {
  mixed := by kernel_rfl
  f99 := Tryz.func156.trans (congrArg some (by kernel_rfl))
  f105 := Tryz.func141.trans (congrArg some (by kernel_rfl))
  f165 := Tryz.func157.trans (congrArg some (by kernel_rfl))
  f166 := Tryz.func140.trans (congrArg some (by kernel_rfl))
  f169 := Tryz.func142.trans (congrArg some (by kernel_rfl))
  f170 := Tryz.func158.trans (congrArg some (by kernel_rfl))
  f206 := Tryz.func144.trans (congrArg some (by kernel_rfl))
  f212 := Tryz.func155.trans (congrArg some (by kernel_rfl))
  f240 := Tryz.func154.trans (congrArg some (by kernel_rfl))
  f241 := Tryz.func174.trans (congrArg some (by kernel_rfl))
  f263 := Tryz.func172.trans (congrArg some (by kernel_rfl))
  f264 := Tryz.func173.trans (congrArg some (by kernel_rfl))
  f276 := Tryz.func171.trans (congrArg some (by kernel_rfl))
  f277 := Tryz.func179.trans (congrArg some (by kernel_rfl))
  t0 := Tryz.underlying0
  a0 := Tryz.isAgg0
  z0 := Tryz.sizeOf0
  v0 := Tryz.zeroValue0
  t3 := Tryz.underlying3
  a3 := Tryz.isAgg3
  z3 := Tryz.sizeOf3
  v3 := Tryz.zeroValue3
  t4 := Tryz.underlying4
  a4 := Tryz.isAgg4
  z4 := Tryz.sizeOf4
  v4 := Tryz.zeroValue4
  t5 := Tryz.underlying5
  a5 := Tryz.isAgg5
  z5 := Tryz.sizeOf5
  v5 := Tryz.zeroValue5
  t9 := Tryz.underlying9
  a9 := Tryz.isAgg9
  z9 := Tryz.sizeOf9
  v9 := Tryz.zeroValue9
  t20 := Tryz.underlying20
  a20 := Tryz.isAgg20
  z20 := Tryz.sizeOf20
  v20 := Tryz.zeroValue20
  t37 := Tryz.underlying193
  a37 := Tryz.isAgg193
  z37 := Tryz.sizeOf193
  v37 := Tryz.zeroValue193
  t46 := Tryz.underlying115
  a46 := Tryz.isAgg115
  z46 := Tryz.sizeOf115
  v46 := Tryz.zeroValue115
  t51 := Tryz.underlying150
  a51 := Tryz.isAgg150
  z51 := Tryz.sizeOf150
  v51 := Tryz.zeroValue150
  t53 := Tryz.underlying152
  a53 := Tryz.isAgg152
  z53 := Tryz.sizeOf152
  v53 := Tryz.zeroValue152
  t70 := Tryz.underlying208
  a70 := Tryz.isAgg208
  z70 := Tryz.sizeOf208
  v70 := Tryz.zeroValue208
  t72 := Tryz.underlying210
  a72 := Tryz.isAgg210
  z72 := Tryz.sizeOf210
  v72 := Tryz.zeroValue210
  t75 := Tryz.underlying201
  a75 := Tryz.isAgg201
  z75 := Tryz.sizeOf201
  v75 := Tryz.zeroValue201
  t76 := Tryz.underlying211
  a76 := Tryz.isAgg211
  z76 := Tryz.sizeOf211
  v76 := Tryz.zeroValue211
  t109 := Tryz.underlying222
  a109 := Tryz.isAgg222
  z109 := Tryz.sizeOf222
  v109 := Tryz.zeroValue222
  t127 := Tryz.underlying225
  a127 := Tryz.isAgg225
  z127 := Tryz.sizeOf225
  v127 := Tryz.zeroValue225
  t146 := Tryz.underlying237
  a146 := Tryz.isAgg237
  z146 := Tryz.sizeOf237
  v146 := Tryz.zeroValue237
  t148 := Tryz.underlying239
  a148 := Tryz.isAgg239
  z148 := Tryz.sizeOf239
  v148 := Tryz.zeroValue239
  t164 := Tryz.underlying235
  a164 := Tryz.isAgg235
  z164 := Tryz.sizeOf235
  v164 := Tryz.zeroValue235 }
theorem Tryz.Builder_Extra_105 : Builder.Extra Tryz.prog Tryz.lays105_ren := {
  sizeBuilder := by kernel_rfl
  liesBuilder := by kernel_rfl
  t5 := Tryz.underlying5
  a5 := Tryz.isAgg5
  z5 := Tryz.sizeOf5
  v5 := Tryz.zeroValue5
  infoByte := by kernel_rfl
  cellsByte := by kernel_rfl
  sizeByte := by kernel_rfl
  neB5 := by decide }
open Go.RowKit Go.Lib in
theorem Tryz.strings_Repeat (s : ByteArray) (c : Nat) (w : World) (hc : c ≤ 9223372036854775807) (hlen : s.size * c ≤ 140737488355328) :
    Calls Tryz.prog 141 #[.string s, .int .i64 c] w fun e w' => e = .returned (.string ⟨(Lib.repeatL s.data.toList c).toArray⟩) ∧ Below w.heap.size w w' := Any.strings_Repeat Tryz.lays105 Tryz.Builder_Extra_105 s c w hc hlen
end Go.Proofs

namespace Go.Proofs.YtlnhocgjgmhfgaaGreatDoor
open Go.RowKit

/-- The package-level variables that the library reads hold what the program lays. -/
structure Env (w : World) : Prop where
  pow : Lib.TabIs Tryz.prog w "internal/strconv.uint64pow10" .u64 Lib.pow10Tab
  syn : ∃ tp p, w.var? Tryz.prog "strconv.ErrSyntax" = some #[.iface tp p]
  rng : ∃ tp p, w.var? Tryz.prog "strconv.ErrRange" = some #[.iface tp p]

theorem var_below {P : Program} {B : Nat} {w w' : World} {n : String} {cs : Array Value} (hv : w.var? P n = some cs) (hb : Below B w w') (hB : w.heap.size ≤ B) : w'.var? P n = some cs := by
  unfold World.var? at hv ⊢
  cases hg : P.globalNamed n with
  | none => rw [hg] at hv; simp at hv
  | some g =>
    rw [hg] at hv
    simp only [Option.bind_some] at hv ⊢
    have hlt : g < w.heap.size := by
      rcases Nat.lt_or_ge g w.heap.size with h | h
      · exact h
      · rw [Array.getElem?_eq_none h] at hv; simp at hv
    rw [hb.block g (Nat.lt_of_lt_of_le hlt hB)]
    exact hv
theorem Env.below {B : Nat} {w w' : World} (h : Env w) (hb : Below B w w') (hB : w.heap.size ≤ B) : Env w' := by
  obtain ⟨h1, ⟨t2, p2, h2⟩, t3, p3, h3⟩ := h
  exact ⟨var_below h1 hb hB, ⟨t2, p2, var_below h2 hb hB⟩, t3, p3, var_below h3 hb hB⟩

/-- A builder of the call's own that holds the bytes l. -/
def Bld (B b : Nat) (l : List UInt8) (w : World) : Prop := Lib.IsBuilderF 210 5 B b (Lib.byteCells l) w ∧ B ≤ w.heap.size

theorem Bld.fresh (w : World) : Bld w.heap.size w.heap.size [] (w.alloc (.cells #[.pointer none, .slice none 0 0] 210)) :=
  ⟨Lib.IsBuilderF.of (Lib.fresh_isBuilder _ _ w), by simp⟩
theorem ownsRowF_below {w w' : World} {base e sz n B : Nat} {v : Value} {xs : List Value} (h : World.ownsRowF w base e sz v n xs) (hb : Below B w w') (hB : w.heap.size ≤ B) : World.ownsRowF w' base e sz v n xs := by
  refine ⟨h.1, ?_⟩
  rcases h.2 with hn | ⟨g, cap, cur, fz, hv, hg, hh, r⟩
  · exact .inl hn
  · exact .inr ⟨g, cap, cur, fz, hv, hg, by rw [hb.block g (Nat.lt_of_lt_of_le (Array.getElem?_eq_some_iff.1 hh).1 hB)]; exact hh, r⟩
theorem Bld.below {B b C : Nat} {l : List UInt8} {w w' : World} (h : Bld B b l w) (hb : Below C w w') (hC : w.heap.size ≤ C) : Bld B b l w' := by
  refine ⟨?_, Nat.le_trans h.2 hb.size⟩
  rcases h.1 with ⟨h1, v, h2, h3, h4⟩ | ⟨h1, v, h2, h3, h4⟩
  · exact .inl ⟨h1, v, by rw [hb.block b (Nat.lt_of_lt_of_le (Array.getElem?_eq_some_iff.1 h2).1 hC)]; exact h2, ownsRowF_below h3 hb hC, h4⟩
  · exact .inr ⟨h1, v, by rw [hb.block b (Nat.lt_of_lt_of_le (Array.getElem?_eq_some_iff.1 h2).1 hC)]; exact h2, ownsRowF_below h3 hb hC, h4⟩

theorem write_any (B b : Nat) (l : List UInt8) (s : ByteArray) (w : World) (h : Bld B b l w) (hl : l.length + s.size ≤ 140737488355328) :
    Calls Tryz.prog 140 #[.pointer (some ⟨b, 0, none⟩), .string s] w (Rets fun v w' => v = .tuple #[.int .i64 s.size, .nilIface] ∧ Bld B b (l ++ s.data.toList) w' ∧ Below B w w') := by
  have c := Any.Builder_WriteString_f { Tryz.lays105 with } Tryz.Builder_Extra_105 B b (Lib.byteCells l) s w h.1 (by simpa [Lib.byteCells] using hl) h.2
  refine Calls.mono (f := 140) c ?_
  rintro e w' ⟨rfl, hb, hbl⟩
  refine ⟨_, rfl, rfl, ⟨.inr ?_, Nat.le_trans h.2 hbl.size⟩, hbl⟩
  have e : Lib.byteCells (l ++ s.data.toList) = Lib.byteCells l ++ Lib.strCells s := by simp [Lib.byteCells, Lib.strCells]
  rw [e]; exact hb
theorem string_any (B b : Nat) (l : List UInt8) (w : World) (h : Bld B b l w) :
    Calls Tryz.prog 142 #[.pointer (some ⟨b, 0, none⟩)] w (Rets fun v w' => v = .string ⟨l.toArray⟩ ∧ Below B w w') := by
  refine (Tryz.Builder_String_any_f B b l w h.1 h.2).mono ?_
  rintro e w' ⟨rfl, _, hb⟩
  exact ⟨_, rfl, rfl, hb⟩
theorem itoa_any (n : Int) (h0 : -9223372036854775808 ≤ n) (h1 : n ≤ 9223372036854775807) (w : World) (he : Env w) :
    Calls Tryz.prog 79 #[.int .i64 n] w (Rets fun v w' => v = .string ⟨(Lib.itoa n).toArray⟩ ∧ Below w.heap.size w w') := by
  refine (Tryz.strconv_Itoa n h0 h1 w he.pow).mono ?_
  rintro e w' ⟨rfl, k, os, rfl⟩
  exact ⟨_, rfl, rfl, Lib.below_grow _ _ (Nat.le_refl _) _ _⟩
theorem repeat_any (s : ByteArray) (c : Nat) (w : World) (hc : c ≤ 9223372036854775807) (hl : s.size * c ≤ 140737488355328) :
    Calls Tryz.prog 141 #[.string s, .int .i64 c] w (Rets fun v w' => v = .string ⟨(Lib.repeatL s.data.toList c).toArray⟩ ∧ Below w.heap.size w w') := by
  refine (Tryz.strings_Repeat s c w hc hl).mono ?_
  rintro e w' ⟨rfl, hb⟩
  exact ⟨_, rfl, rfl, hb⟩
end Go.Proofs.YtlnhocgjgmhfgaaGreatDoor

namespace Go.Proofs.YtlnhocgjgmhfgaaGreatDoor

/-- The last k decimal digits. -/
def padR : Nat → Nat → List UInt8
  | 0, _ => []
  | k + 1, a => padR k (a / 10) ++ [UInt8.ofNat (48 + a % 10)]
theorem dec_pad (k : Nat) : ∀ m a : Nat, 0 < m → a < 10 ^ k → Lib.decDigits (m * 10 ^ k + a) = Lib.decDigits m ++ padR k a := by
  induction k with
  | zero => intro m a _ ha; have : a = 0 := by simpa using ha
            subst this; simp [padR]
  | succ k ih =>
    intro m a hm ha
    have hp : 1 ≤ 10 ^ k := Nat.one_le_pow _ _ (by decide)
    have h1 : 1 * 10 ^ k ≤ m * 10 ^ k := Nat.mul_le_mul_right _ hm
    rw [Lib.decDigits, dif_neg (by rw [Nat.pow_succ, ← Nat.mul_assoc]; omega)]
    have e1 : (m * 10 ^ (k + 1) + a) / 10 = m * 10 ^ k + a / 10 := by rw [Nat.pow_succ, ← Nat.mul_assoc]; omega
    have e2 : (m * 10 ^ (k + 1) + a) % 10 = a % 10 := by rw [Nat.pow_succ, ← Nat.mul_assoc]; omega
    rw [e1, e2, ih m (a / 10) hm (by rw [Nat.pow_succ] at ha; omega), padR, List.append_assoc]
theorem padR_eq (k : Nat) : ∀ a : Nat, a < 10 ^ (k + 1) → padR (k + 1) a = List.replicate (k + 1 - Lib.nDigits a) 48 ++ Lib.decDigits a := by
  induction k with
  | zero =>
    intro a ha
    have h10 : a < 10 := by simpa using ha
    rw [Lib.decDigits_one h10, Lib.nDigits_small h10]
    simp [padR, Nat.mod_eq_of_lt h10]
  | succ k ih =>
    intro a ha
    rw [padR, ih (a / 10) (by rw [Nat.pow_succ] at ha; omega)]
    by_cases h : a < 10
    · rw [Lib.decDigits_one h, Lib.nDigits_small h, Nat.div_eq_of_lt h, Lib.decDigits_one (by omega), Lib.nDigits_small (by omega), Nat.mod_eq_of_lt h]
      have : (48 : UInt8) = UInt8.ofNat (48 + 0) := rfl
      rw [show k + 1 + 1 - 1 = (k + 1 - 1) + 1 by omega, List.replicate_succ', this]
    · conv => rhs; rw [Lib.decDigits, dif_neg h]
      rw [Lib.nDigits_big h, ← List.append_assoc]
      congr 3
      omega
theorem nDigits_le {a k : Nat} (h : a < 10 ^ (k + 1)) : Lib.nDigits a ≤ k + 1 := by
  induction k generalizing a with
  | zero => rw [Lib.nDigits_small (by simpa using h)]; exact Nat.le_refl _
  | succ k ih =>
    by_cases h10 : a < 10
    · rw [Lib.nDigits_small h10]; omega
    · rw [Lib.nDigits_big h10]
      have := ih (a := a / 10) (by rw [Nat.pow_succ] at h; omega)
      omega
theorem dec_words (x m : Nat) (hx : x < 1000000000) (hm : 0 < m) :
    Lib.decDigits (x + 1000000000 * m) = Lib.decDigits m ++ (List.replicate (9 - (Lib.decDigits x).length) 48 ++ Lib.decDigits x) := by
  have h := dec_pad 9 m x hm (by simpa using hx)
  rw [padR_eq 8 x (by simpa using hx)] at h
  rw [Lib.decDigits_length, ← h]
  congr 1
  rw [Nat.add_comm, Nat.mul_comm]
theorem val_drop_pos (B : Nat) (xs : List Nat) (k : Nat) (hk : k < xs.length) (hl : xs.getLast? ≠ some 0) (hB : 0 < B) : 0 < val B (xs.drop k) := by
  have h1 := split1 B (xs.drop k) (xs.length - k - 1) (by simp; omega)
  have h2 : 0 < (xs.drop k).getD (xs.length - k - 1) 0 := by
    rcases Nat.eq_zero_or_pos ((xs.drop k).getD (xs.length - k - 1) 0) with h | h
    · exfalso; apply hl
      rw [List.getD_eq_getElem?_getD, List.getElem?_drop, show k + (xs.length - k - 1) = xs.length - 1 by omega] at h
      rw [List.getLast?_eq_getElem?, List.getElem?_eq_getElem (by omega)]
      rw [List.getElem?_eq_getElem (by omega)] at h
      simpa using h
    · exact h
  have := Nat.mul_pos h2 (Nat.pow_pos (n := xs.length - k - 1) hB)
  omega
end Go.Proofs.YtlnhocgjgmhfgaaGreatDoor

namespace Go.Proofs.YtlnhocgjgmhfgaaGreatDoor
open Go.RowKit
set_option maxRecDepth 100000

theorem str_size (l : List UInt8) : (⟨l.toArray⟩ : ByteArray).size = l.length := by simp [ByteArray.size]

set_option maxHeartbeats 1000000 in
theorem text_any (w : World) (x : Value) (n : Nat) (hx : Sl eU w x (digs 1000000000 n)) (hl : (digs 1000000000 n).length ≤ 1000000000000) (he : Env w) :
    Calls Tryz.prog 129 #[x] w (Rets fun v w' => v = .string ⟨(Lib.decDigits n).toArray⟩ ∧ Below w.heap.size w w') := by
  have bx := digs_lt 1000000000 n (by omega)
  have vx := val_digs 1000000000 n (by omega)
  have lx := digs_last 1000000000 n (by omega)
  have nx := @digs_nil 1000000000 n (by omega)
  generalize digs 1000000000 n = xs at *
  obtain ⟨a, bl, o, c, rfl, hi, hp, -, -⟩ := hx.open elemNat
  have BX := Lib.hid bx; have VX := Lib.hid vx; have LX := Lib.hid lx; have NX := Lib.hid nx
  clear bx vx lx nx hx
  by_cases h0 : xs.length = 0
  · have hb0 : ((xs.length : Int) == 0) = true := by simp [h0]
    have H0 := Lib.hid h0; clear h0
    go_enter Tryz.func129, Tryz.ntmps129
    go_wp2
    go_ret
    refine ⟨_, rfl, ?_, Below.refl _ _⟩
    obtain rfl : n = 0 := NX.out.1 (List.length_eq_zero_iff.1 H0.out)
    have e : Lib.decDigits 0 = [48] := by rw [Lib.decDigits_one (by omega)]; rfl
    rw [e]
    rfl
  · have hb0 : ((xs.length : Int) == 0) = false := by simp; intro h; exact h0 (by simp [h])
    go_enter Tryz.func129, Tryz.ntmps129
    go_wp2
    have hbl := Bld.fresh w
    go_loopw [4] (fun iv wr => ∃ (k : Nat) (l : List UInt8), k ≤ xs.length ∧ iv = .int .i64 ((k : Int) - 1) ∧ (k = xs.length → l = []) ∧ (k < xs.length → l = Lib.decDigits (val 1000000000 (xs.drop k))) ∧ l.length ≤ 9 * (xs.length - k) ∧
        Bld w.heap.size w.heap.size l wr ∧ Below w.heap.size w wr) (fun iv _ => (intOf iv + 1).toNat)
    case atStart => exact ⟨xs.length, [], Nat.le_refl _, rfl, fun _ => rfl, fun h => by omega, by simp, hbl, (Below.refl _ w).alloc (Nat.le_refl _) _⟩
    case round =>
      clear hbl
      obtain ⟨k, l, hk, rfl, hl1, hl2, hl3, hbl, hb⟩ := hrel
      have HL1 := Lib.hid hl1; have HL2 := Lib.hid hl2
      clear hl1 hl2
      rcases k with _ | k
      · have hfin : l = Lib.decDigits n := by rw [HL2.out (by omega), List.drop_zero, VX.out]
        have HF := Lib.hid hfin; clear hfin
        go_wp2_with fail
        refine (string_any _ _ l wr hbl).mono ?_
        rintro e w' ⟨v, rfl, rfl, hb'⟩
        go_wp2
        go_ret
        exact ⟨_, rfl, congrArg (fun l => Value.string ⟨List.toArray l⟩) HF.out, hb.trans hb'⟩
      · have hlt : k < xs.length := by omega
        obtain ⟨u, hu⟩ : ∃ u, u = xs[k] := ⟨_, rfl⟩
        have hbx : u < 1000000000 := by rw [hu]; exact BX.out xs[k] (List.getElem_mem hlt)
        have h1 : wr.cell? ⟨bl, o + k, none⟩ = some (.int .u32 (u : Nat)) := by rw [hu]; exact hp.at hb (Nat.le_refl _) k hlt
        have HU := Lib.hid hu; clear hu
        have ek : (((k + 1 : Nat) : Int) - 1) = (k : Int) := by omega
        rw [ek]
        clear ek
        have henv := he.below hb (Nat.le_refl _)
        go_wp2_with fail
        refine (itoa_any (u : Int) (by omega) (by omega) wr henv).mono ?_
        rintro e w1 ⟨v, rfl, rfl, hb1⟩
        obtain ⟨s, hs⟩ : ∃ s : ByteArray, s = ⟨(Lib.itoa (u : Int)).toArray⟩ := ⟨_, rfl⟩
        rw [← hs]
        have hsd : s.data.toList = Lib.decDigits u := by rw [hs]; simp [Lib.itoa_nonneg]
        have hsz : s.size = Lib.nDigits u := by rw [hs, str_size, Lib.itoa_nonneg, Lib.decDigits_length]
        have hs9 : s.size ≤ 9 := by rw [hsz]; exact nDigits_le (k := 8) (by simpa using hbx)
        have HSD := Lib.hid hsd; have HSZ := Lib.hid hsz
        clear hs hsd hsz h1 henv
        have hbl1 := hbl.below hb1 (Nat.le_refl _)
        have hbw1 := hb.trans (hb1.mono hb.size)
        clear hbl hb hb1
        by_cases hlast : k + 1 = xs.length
        · have hnl : ¬ ((k : Int) < (xs.length : Int) - 1) := by omega
          have hl0 := HL1.out hlast
          subst hl0
          have HLast := Lib.hid hlast; clear hlast
          go_wp2_with fail
          refine (write_any _ _ [] s w1 hbl1 (by simp; omega)).mono ?_
          rintro e w2 ⟨v, rfl, rfl, hbl2, hb2⟩
          have hval : val 1000000000 (xs.drop k) = u := by
            rw [drop_eq xs k hlt, show xs.drop (k + 1) = [] by rw [List.drop_of_length_le (by have := HLast.out; omega)], ← HU.out]; simp [val]
          have HVal := Lib.hid hval; clear hval
          go_wp2
          go_roundw
          case rel => exact ⟨k, [] ++ s.data.toList, by omega, rfl, fun h => by omega, fun _ => by rw [HVal.out, HSD.out]; rfl, by rw [HSD.out, List.nil_append, Lib.decDigits_length, ← HSZ.out]; omega, hbl2, hbw1.trans hb2⟩
          case measure => simp [intOf]
        · have hnl : (k : Int) < (xs.length : Int) - 1 := by omega
          have hl0 := HL2.out (by omega)
          have HL0 := Lib.hid hl0; clear hl0
          have hlk : k + 1 < xs.length := by omega
          clear hlast
          have hc9 : ((9 : Int) - (s.size : Int)) = ((9 - s.size : Nat) : Int) := by omega
          go_wp2_with fail
          refine (repeat_any ⟨#[48]⟩ (9 - s.size) w1 (by omega) (by show 1 * (9 - s.size) ≤ _; omega)).mono ?_
          rintro e w2 ⟨v, rfl, rfl, hb2⟩
          obtain ⟨z, hz⟩ : ∃ z : ByteArray, z = ⟨(Lib.repeatL (⟨#[48]⟩ : ByteArray).data.toList (9 - s.size)).toArray⟩ := ⟨_, rfl⟩
          rw [← hz]
          have hzd : z.data.toList = List.replicate (9 - s.size) 48 := by rw [hz]; have := Lib.repeatL_replicate 48 1 (9 - s.size); simpa using this
          have hzs : z.size = 9 - s.size := by rw [hz, str_size, Lib.repeatL_length]; exact Nat.mul_one _
          have hzl : z.size ≤ 9 := by omega
          have HZD := Lib.hid hzd; have HZS := Lib.hid hzs
          clear hz hzd hzs hc9
          have hbl2 := hbl1.below hb2 (Nat.le_refl _)
          have hbw2 := hbw1.trans (hb2.mono hbw1.size)
          clear hbl1 hbw1 hb2
          go_wp2_with fail
          refine (write_any _ _ l z w2 hbl2 (by omega)).mono ?_
          rintro e w3 ⟨v, rfl, rfl, hbl3, hb3⟩
          go_wp2_with fail
          refine (write_any _ _ _ s w3 hbl3 (by rw [List.length_append, Array.length_toList]; show l.length + z.size + s.size ≤ _; omega)).mono ?_
          rintro e w4 ⟨v, rfl, rfl, hbl4, hb4⟩
          have hval : (l ++ z.data.toList) ++ s.data.toList = Lib.decDigits (val 1000000000 (xs.drop k)) := by
            rw [drop_eq xs k hlt, ← HU.out, val, dec_words u _ hbx (val_drop_pos _ xs (k + 1) hlk LX.out (by omega)), HL0.out, HZD.out, HSD.out, HSZ.out, Lib.decDigits_length, List.append_assoc]
          have HVal := Lib.hid hval
          have hlen : ((l ++ z.data.toList) ++ s.data.toList).length ≤ 9 * (xs.length - k) := by
            rw [List.length_append, List.length_append, Array.length_toList, Array.length_toList]
            show l.length + z.size + s.size ≤ _
            have := HZS.out
            omega
          have HLen := Lib.hid hlen
          clear hval hlen
          go_wp2
          go_roundw
          case rel => exact ⟨k, _, by omega, rfl, fun h => by omega, fun _ => HVal.out, HLen.out, hbl4, (hbw2.trans hb3).trans hb4⟩
          case measure => simp [intOf]
end Go.Proofs.YtlnhocgjgmhfgaaGreatDoor

namespace Go.Proofs.YtlnhocgjgmhfgaaGreatDoor
open Go.RowKit
set_option maxRecDepth 100000

/-- One round of the difference. -/
theorem less_step (B : Nat) (ps qs os : List Nat) (k c d c' : Nat) (ho : os.length = k) (hos : ∀ a ∈ os, a < B) (hv : val B (ps.take k) + B ^ k * c = val B os + val B (qs.take k))
    (hd : d < B) (hs : ps.getD k 0 + B * c' = d + c + qs.getD k 0) :
    (os ++ [d]).length = k + 1 ∧ (∀ a ∈ os ++ [d], a < B) ∧ val B (ps.take (k + 1)) + B ^ (k + 1) * c' = val B (os ++ [d]) + val B (qs.take (k + 1)) := by
  refine ⟨by simp [ho], ?_, ?_⟩
  · intro a ha
    rcases List.mem_append.1 ha with h | h
    · exact hos a h
    · simp at h; omega
  · rw [val_take_succ, val_take_succ, val_snoc, ho, Nat.pow_succ, Nat.mul_assoc]
    have h1 : B ^ k * (ps.getD k 0) + B ^ k * (B * c') = B ^ k * d + B ^ k * c + B ^ k * qs.getD k 0 := by rw [← Nat.mul_add, hs, Nat.mul_add, Nat.mul_add]
    omega

set_option maxHeartbeats 1000000 in
theorem less_any (w : World) (x y : Value) (xs ys : List Nat) (hx : Sl eU w x xs) (hy : Sl eU w y ys) (bx : ∀ a ∈ xs, a < 1000000000) (by' : ∀ a ∈ ys, a < 1000000000)
    (hl : xs.length ≤ 1099511627776) (hl' : ys.length ≤ xs.length) (hle : val 1000000000 ys ≤ val 1000000000 xs) :
    Calls Tryz.prog 169 #[x, y] w (Rets fun v w' => Sl eU w' v (digs 1000000000 (val 1000000000 xs - val 1000000000 ys)) ∧ Below w.heap.size w w') := by
  obtain ⟨a, b, o, c, rfl, hi, hp, -, -⟩ := hx.open elemNat
  obtain ⟨a', b', o', c', rfl, hi', hq, -, -⟩ := hy.open elemNat
  have BX := Lib.hid bx; clear bx hx
  have BY := Lib.hid by'; clear by' hy
  have HLE := Lib.hid hle; clear hle
  go_enter Tryz.func169, Tryz.ntmps169
  go_wp2_with (at_make; refine mkN elemNat rfl _ _ rfl xs.length rfl rfl rfl rfl (by omega) (by unfold maxLen; omega) (Below.refl _ _) (Nat.le_refl _) rfl ?_; intro w1 hown hb hb2; clear hb2)
  have hown := ownsRow_cast hown rfl (show List.replicate xs.length (Value.int .u32 0) = (([] : List Nat) ++ List.replicate (xs.length - 0) 0).map eU by simp [eU])
  go_loopw [6, 14] (fun bw i wr => ∃ (k c : Nat) (os : List Nat), k ≤ xs.length ∧ i = .int .i64 k ∧ bw = .int .i64 c ∧ c ≤ 1 ∧ os.length = k ∧ (∀ a ∈ os, a < 1000000000) ∧
      val 1000000000 (xs.take k) + 1000000000 ^ k * c = val 1000000000 os + val 1000000000 (ys.take k) ∧ wr.ownsRow w.heap.size 150 1 (.slice (some ⟨w.heap.size, 0, none⟩) xs.length xs.length) xs.length ((os ++ List.replicate (xs.length - k) 0).map eU) ∧ Below w.heap.size w wr) (fun _ i _ => xs.length - (intOf i).toNat)
  case atStart => exact ⟨0, 0, [], by omega, rfl, rfl, by omega, rfl, by simp, by simp [val], hown, hb⟩
  case round =>
    clear hown hb
    obtain ⟨k, cy, os, hk, rfl, rfl, hcy, hol, hos, hv, hown, hb⟩ := hrel
    have HOL := Lib.hid hol; clear hol
    have HOS := Lib.hid hos; clear hos
    have HV := Lib.hid hv; clear hv
    have hbs := hb.size
    by_cases hlt : k < xs.length
    · have hbp := BX.out xs[k] (List.getElem_mem hlt)
      have hc1 : wr.cell? ⟨b, o + k, none⟩ = some (.int .u32 (xs[k] : Nat)) := hp.at hb (Nat.le_refl _) k hlt
      obtain ⟨u, -, hcu, hfu⟩ := own_at hown hlt
      by_cases hlt' : k < ys.length
      · have hbq := BY.out ys[k] (List.getElem_mem hlt')
        have hc2 : wr.cell? ⟨b', o' + k, none⟩ = some (.int .u32 (ys[k] : Nat)) := hq.at hb (Nat.le_refl _) k hlt'
        by_cases hneg : xs[k] < cy + ys[k]
        · skip
          have HR := Lib.hid (less_step 1000000000 xs ys os k cy (xs[k] + 1000000000 - cy - ys[k]) 1 HOL.out HOS.out HV.out (by omega) (by simp [hlt, hlt']; omega))
          go_wp2
          go_roundw
          case rel =>
            have R := fun (u : Value) (hu : u = eU (xs[k] + 1000000000 - cy - ys[k])) => fill_own hown hb (Nat.le_refl _) HOL.out hlt (xs[k] + 1000000000 - cy - ys[k]) u hu
            exact ⟨k + 1, 1, _, by omega, by go_num, rfl, by omega, HR.out.1, HR.out.2.1, HR.out.2.2, (R _ (congrArg (Value.int .u32) (by omega))).1, (R _ (congrArg (Value.int .u32) (by omega))).2⟩
          case measure => simp [intOf]; omega
        · skip
          have HR := Lib.hid (less_step 1000000000 xs ys os k cy (xs[k] - cy - ys[k]) 0 HOL.out HOS.out HV.out (by omega) (by simp [hlt, hlt']; omega))
          go_wp2
          go_roundw
          case rel =>
            have R := fun (u : Value) (hu : u = eU (xs[k] - cy - ys[k])) => fill_own hown hb (Nat.le_refl _) HOL.out hlt (xs[k] - cy - ys[k]) u hu
            exact ⟨k + 1, 0, _, by omega, by go_num, rfl, by omega, HR.out.1, HR.out.2.1, HR.out.2.2, (R _ (congrArg (Value.int .u32) (by omega))).1, (R _ (congrArg (Value.int .u32) (by omega))).2⟩
          case measure => simp [intOf]; omega
      · by_cases hneg : xs[k] < cy
        · skip
          have HR := Lib.hid (less_step 1000000000 xs ys os k cy (xs[k] + 1000000000 - cy) 1 HOL.out HOS.out HV.out (by omega) (by simp [hlt, List.getElem?_eq_none (Nat.le_of_not_lt hlt')]; omega))
          go_wp2
          go_roundw
          case rel =>
            have R := fun (u : Value) (hu : u = eU (xs[k] + 1000000000 - cy)) => fill_own hown hb (Nat.le_refl _) HOL.out hlt (xs[k] + 1000000000 - cy) u hu
            exact ⟨k + 1, 1, _, by omega, by go_num, rfl, by omega, HR.out.1, HR.out.2.1, HR.out.2.2, (R _ (congrArg (Value.int .u32) (by omega))).1, (R _ (congrArg (Value.int .u32) (by omega))).2⟩
          case measure => simp [intOf]; omega
        · skip
          have HR := Lib.hid (less_step 1000000000 xs ys os k cy (xs[k] - cy) 0 HOL.out HOS.out HV.out (by omega) (by simp [hlt, List.getElem?_eq_none (Nat.le_of_not_lt hlt')]; omega))
          go_wp2
          go_roundw
          case rel =>
            have R := fun (u : Value) (hu : u = eU (xs[k] - cy)) => fill_own hown hb (Nat.le_refl _) HOL.out hlt (xs[k] - cy) u hu
            exact ⟨k + 1, 0, _, by omega, by go_num, rfl, by omega, HR.out.1, HR.out.2.1, HR.out.2.2, (R _ (congrArg (Value.int .u32) (by omega))).1, (R _ (congrArg (Value.int .u32) (by omega))).2⟩
          case measure => simp [intOf]; omega
    · obtain rfl : k = xs.length := by omega
      have hsl : Sl eU wr (.slice (some ⟨w.heap.size, 0, none⟩) xs.length xs.length) os := Sl.ofOwns (n := xs.length) (by simpa using hown)
      have hfin : val 1000000000 os = val 1000000000 xs - val 1000000000 ys := by
        have h1 := HV.out
        rw [List.take_of_length_le (Nat.le_refl _), List.take_of_length_le hl'] at h1
        have h2 := val_lt 1000000000 os HOS.out
        rw [HOL.out] at h2
        have h3 := HLE.out
        rcases (show cy = 0 ∨ cy = 1 by omega) with rfl | rfl <;> omega
      have HF := Lib.hid hfin; clear hfin
      go_wp2_with fail
      refine (trimmed_any _ _ _ hsl).mono ?_
      rintro e w' ⟨v3, rfl, hs3, rfl⟩
      go_wp2
      go_ret
      refine ⟨_, rfl, ?_, hb⟩
      rw [← trim_of 1000000000 os _ (by omega) HOS.out HF.out]
      exact hs3
end Go.Proofs.YtlnhocgjgmhfgaaGreatDoor
