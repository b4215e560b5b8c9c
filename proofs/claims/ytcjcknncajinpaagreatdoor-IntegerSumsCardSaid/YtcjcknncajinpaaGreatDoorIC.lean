/- Plain laws for the product. The walk of integer's product of natural numbers. -/
import Derived.Test.YtcjcknncajinpaaGreatDoorIA
namespace Go.Proofs.YtcjcknncajinpaaGreatDoor

theorem val_set (B : Nat) (l : List Nat) (j v : Nat) (h : j < l.length) : val B (l.set j v) + B ^ j * l.getD j 0 = val B l + B ^ j * v := by
  induction l generalizing j with
  | nil => simp at h
  | cons a l ih =>
    cases j with
    | zero => simp only [List.set_cons_zero, val, Nat.pow_zero, Nat.one_mul, List.getD_cons_zero]; omega
    | succ j =>
      have := ih j (by simpa using h)
      simp only [List.set_cons_succ, val, List.getD_cons_succ, Nat.pow_succ]
      have e1 : B ^ j * B * l.getD j 0 = B * (B ^ j * l.getD j 0) := by rw [Nat.mul_comm (B ^ j) B, Nat.mul_assoc]
      have e2 : B ^ j * B * v = B * (B ^ j * v) := by rw [Nat.mul_comm (B ^ j) B, Nat.mul_assoc]
      have e3 : B * (val B (l.set j v) + B ^ j * l.getD j 0) = B * (val B l + B ^ j * v) := by rw [this]
      rw [Nat.mul_add, Nat.mul_add] at e3
      omega
theorem getD_set (l : List Nat) (j i v : Nat) (h : j < l.length) : (l.set j v).getD i 0 = if i = j then v else l.getD i 0 := by
  simp only [List.getD_eq_getElem?_getD, List.getElem?_set]
  by_cases e : i = j
  · subst e; simp [h]
  · simp [e, Ne.symm e]
theorem mem_set_lt {l : List Nat} {B j v : Nat} (h : ∀ a ∈ l, a < B) (hv : v < B) : ∀ a ∈ l.set j v, a < B := by
  intro a ha
  rcases List.mem_or_eq_of_mem_set ha with h1 | h1
  · exact h a h1
  · omega

/-- One step of a row of the product. -/
theorem times_step (B : Nat) (xs ys cur : List Nat) (i k c s : Nat) (hcur : ∀ a ∈ cur, a < B) (hlen : cur.length = xs.length + ys.length) (hi : i < xs.length) (hk : k < ys.length)
    (hz : ∀ j, i + ys.length ≤ j → cur.getD j 0 = 0) (hB : 0 < B)
    (hv : val B cur + B ^ (i + k) * c = val B (xs.take i) * val B ys + B ^ i * (xs.getD i 0 * val B (ys.take k))) (hs : s = cur.getD (i + k) 0 + xs.getD i 0 * ys.getD k 0 + c) :
    (∀ a ∈ cur.set (i + k) (s % B), a < B) ∧ (cur.set (i + k) (s % B)).length = xs.length + ys.length ∧ (∀ j, i + ys.length ≤ j → (cur.set (i + k) (s % B)).getD j 0 = 0) ∧
    val B (cur.set (i + k) (s % B)) + B ^ (i + (k + 1)) * (s / B) = val B (xs.take i) * val B ys + B ^ i * (xs.getD i 0 * val B (ys.take (k + 1))) := by
  refine ⟨mem_set_lt hcur (Nat.mod_lt _ hB), by simp [hlen], fun j hj => ?_, ?_⟩
  · rw [getD_set _ _ _ _ (by omega), if_neg (by omega)]; exact hz j hj
  · have h1 := val_set B cur (i + k) (s % B) (by omega)
    have h2 : B ^ (i + k) * s = B ^ (i + k) * (s % B) + B ^ (i + (k + 1)) * (s / B) := by
      rw [← Nat.add_assoc, Nat.pow_succ, Nat.mul_assoc, ← Nat.mul_add, Nat.mod_add_div]
    have h3 : B ^ (i + k) * s = B ^ (i + k) * cur.getD (i + k) 0 + B ^ (i + k) * (xs.getD i 0 * ys.getD k 0) + B ^ (i + k) * c := by rw [hs, Nat.mul_add, Nat.mul_add]
    have h4 : B ^ i * (xs.getD i 0 * val B (ys.take (k + 1))) = B ^ i * (xs.getD i 0 * val B (ys.take k)) + B ^ (i + k) * (xs.getD i 0 * ys.getD k 0) := by
      rw [val_take_succ, Nat.mul_add, Nat.mul_add, Nat.pow_add]
      congr 1
      rw [Nat.mul_assoc]; congr 1
      rw [← Nat.mul_assoc, ← Nat.mul_assoc, Nat.mul_comm (xs.getD i 0)]
    omega
/-- The end of a row. -/
theorem times_row (B : Nat) (xs ys cur : List Nat) (i c : Nat) (hcur : ∀ a ∈ cur, a < B) (hlen : cur.length = xs.length + ys.length) (hi : i < xs.length) (hc : c < B)
    (hz : ∀ j, i + ys.length ≤ j → cur.getD j 0 = 0)
    (hv : val B cur + B ^ (i + ys.length) * c = val B (xs.take i) * val B ys + B ^ i * (xs.getD i 0 * val B ys)) :
    (∀ a ∈ cur.set (i + ys.length) c, a < B) ∧ (cur.set (i + ys.length) c).length = xs.length + ys.length ∧ (∀ j, i + 1 + ys.length ≤ j → (cur.set (i + ys.length) c).getD j 0 = 0) ∧
    val B (cur.set (i + ys.length) c) = val B (xs.take (i + 1)) * val B ys := by
  refine ⟨mem_set_lt hcur hc, by simp [hlen], fun j hj => ?_, ?_⟩
  · rw [getD_set _ _ _ _ (by omega), if_neg (by omega)]; exact hz j (by omega)
  · have h1 := val_set B cur (i + ys.length) c (by omega)
    rw [hz _ (Nat.le_refl _)] at h1
    rw [val_take_succ, Nat.add_mul, Nat.mul_assoc]
    omega
theorem times_bound {a b c d : Nat} (ha : a < 1000000000) (hb : b < 1000000000) (hc : c < 1000000000) (hd : d < 1000000000) : d + a * b + c < 1000000000000000000 ∧ a * b < 1000000000000000000 := by
  have := Nat.mul_le_mul (show a ≤ 999999999 by omega) (show b ≤ 999999999 by omega)
  omega
end Go.Proofs.YtcjcknncajinpaaGreatDoor
namespace Go.Proofs.YtcjcknncajinpaaGreatDoor
open Go.RowKit
set_option maxRecDepth 100000

set_option maxHeartbeats 1000000 in
theorem times_any (w : World) (x y : Value) (xs ys : List Nat) (hx : Sl eU w x xs) (hy : Sl eU w y ys) (bx : ∀ a ∈ xs, a < 1000000000) (by' : ∀ a ∈ ys, a < 1000000000)
    (hl : xs.length + ys.length ≤ 1099511627776) :
    Calls Tryz.prog 70 #[x, y] w (Rets fun v w' => Sl eU w' v (digs 1000000000 (val 1000000000 xs * val 1000000000 ys)) ∧ Below w.heap.size w w') := by
  obtain ⟨a, b, o, c, rfl, hi, hp, -, -⟩ := hx.open elemNat
  obtain ⟨a', b', o', c', rfl, hi', hq, -, -⟩ := hy.open elemNat
  have BX := Lib.hid bx; clear bx hx
  have BY := Lib.hid by'; clear by' hy
  go_enter Tryz.func70, Tryz.ntmps70
  go_wp2_with (at_make; refine mkN elemNat rfl _ _ rfl (xs.length + ys.length) rfl rfl (by omega) (by omega) (by omega) (by unfold maxLen; omega) (Below.refl _ _) (Nat.le_refl _) rfl ?_; intro w1 hown hb hb2; clear hb2)
  have hown := ownsRow_cast hown rfl (show List.replicate (xs.length + ys.length) (Value.int .u32 0) = (List.replicate (xs.length + ys.length) 0).map eU by simp [eU])
  go_loopw [20] (fun i wr => ∃ (i' : Nat) (cur : List Nat), i' ≤ xs.length ∧ i = .int .i64 i' ∧ (∀ a ∈ cur, a < 1000000000) ∧ cur.length = xs.length + ys.length ∧ (∀ j, i' + ys.length ≤ j → cur.getD j 0 = 0) ∧
      val 1000000000 cur = val 1000000000 (xs.take i') * val 1000000000 ys ∧ wr.ownsRow w.heap.size 75 1 (.slice (some ⟨w.heap.size, 0, none⟩) (xs.length + ys.length) (xs.length + ys.length)) (xs.length + ys.length) (cur.map eU) ∧ Below w.heap.size w wr) (fun i _ => xs.length - (intOf i).toNat)
  case atStart => 
    refine ⟨0, _, by omega, rfl, ?_, ?_, ?_, ?_, hown, hb⟩
    · intro a ha; rw [List.eq_of_mem_replicate ha]; omega
    · simp
    · intro j hj; rw [List.getD_eq_getElem?_getD, List.getElem?_replicate]; split <;> rfl
    · have : ∀ n, val 1000000000 (List.replicate n 0) = 0 := fun n => by induction n with
        | zero => rfl
        | succ n ih => rw [List.replicate_succ, val, ih]
      rw [this]; simp [val]
  case round =>
    clear hown hb
    obtain ⟨i', cur, hi0, rfl, hcur, hlen, hz, hv, hown, hb⟩ := hrel
    have HC := Lib.hid hcur; clear hcur
    have HL := Lib.hid hlen; clear hlen
    have HZ := Lib.hid hz; clear hz
    have HV := Lib.hid hv; clear hv
    by_cases hlt : i' < xs.length
    · have hbp := BX.out xs[i'] (List.getElem_mem hlt)
      have hc1 : wr.cell? ⟨b, o + i', none⟩ = some (.int .u32 (xs[i'] : Nat)) := hp.at hb (Nat.le_refl _) i' hlt
      have hgx : Hid (xs.getD i' 0 = xs[i']) := by simp [Hid, hlt]
      go_wp2
      go_loopw [8, 27] (fun cy k wr => ∃ (k' c : Nat) (cur : List Nat), k' ≤ ys.length ∧ k = .int .i64 k' ∧ cy = .int .u64 c ∧ c < 1000000000 ∧ (∀ a ∈ cur, a < 1000000000) ∧ cur.length = xs.length + ys.length ∧ (∀ j, i' + ys.length ≤ j → cur.getD j 0 = 0) ∧
        val 1000000000 cur + 1000000000 ^ (i' + k') * c = val 1000000000 (xs.take i') * val 1000000000 ys + 1000000000 ^ i' * (xs.getD i' 0 * val 1000000000 (ys.take k')) ∧
        wr.ownsRow w.heap.size 75 1 (.slice (some ⟨w.heap.size, 0, none⟩) (xs.length + ys.length) (xs.length + ys.length)) (xs.length + ys.length) (cur.map eU) ∧ Below w.heap.size w wr) (fun _ k _ => ys.length - (intOf k).toNat)
      case atStart => exact ⟨0, 0, cur, by omega, rfl, rfl, by omega, HC.out, HL.out, HZ.out, by rw [HV.out]; simp [val], hown, hb⟩
      case round =>
        clear hown hb HC HL HZ HV hc1
        obtain ⟨k', cy, cur, hk0, rfl, rfl, hcy, hcur, hlen, hz, hv, hown, hb⟩ := hrel
        have HC := Lib.hid hcur; clear hcur
        have HL := Lib.hid hlen; clear hlen
        have HZ := Lib.hid hz; clear hz
        have HV := Lib.hid hv; clear hv
        by_cases hlt' : k' < ys.length
        · have hbq := BY.out ys[k'] (List.getElem_mem hlt')
          have hc2 : wr.cell? ⟨b', o' + k', none⟩ = some (.int .u32 (ys[k'] : Nat)) := hq.at hb (Nat.le_refl _) k' hlt'
          have hik : i' + k' < cur.length := by rw [HL.out]; omega
          have hcu : wr.cell? ⟨w.heap.size, i' + k', none⟩ = some (.int .u32 (cur[i' + k'] : Nat)) := (own_get hown hik).1
          have hfu := (own_get hown hik).2
          have hbc := HC.out cur[i' + k'] (List.getElem_mem hik)
          have hbd := times_bound hbp hbq hcy hbc
          have hm1 : (xs[i'] : Int) * (ys[k'] : Int) < 1000000000000000000 := by have := hbd.2; rw [← Int.natCast_mul]; omega
          have hm0 : 0 ≤ (xs[i'] : Int) * (ys[k'] : Int) := by rw [← Int.natCast_mul]; omega
          have HB := Lib.hid hbd; clear hbd
          have HR := Lib.hid (times_step 1000000000 xs ys cur i' k' cy (cur[i' + k'] + xs[i'] * ys[k'] + cy) HC.out HL.out hlt hlt' HZ.out (by omega) HV.out (by simp [hlt, hlt', hik]))
          go_wp2
          go_roundw
          case rel =>
            have R := fun (u : Value) (hu : u = eU _) => own_put hown hb (Nat.le_refl _) (i' + k') ((cur[i' + k'] + xs[i'] * ys[k'] + cy) % 1000000000) u hu
            have e1 : (((cur[i' + k'] + xs[i'] * ys[k'] + cy : Nat) : Int)) = (cur[i' + k'] : Int) + xs[i'] * ys[k'] + cy := by simp
            exact ⟨k' + 1, (cur[i' + k'] + xs[i'] * ys[k'] + cy) / 1000000000, _, by omega, by go_num, congrArg (Value.int .u64) (by omega), by have := HB.out; omega, HR.out.1, HR.out.2.1, HR.out.2.2.1, HR.out.2.2.2, (R _ (congrArg (Value.int .u32) (by omega))).1, (R _ (congrArg (Value.int .u32) (by omega))).2⟩
          case measure => simp [intOf]; omega
        · obtain rfl : k' = ys.length := by omega
          have hil : i' + ys.length < cur.length := by rw [HL.out]; omega
          obtain ⟨hcu, hfu⟩ := own_get hown hil
          have HR := Lib.hid (times_row 1000000000 xs ys cur i' cy HC.out HL.out hlt hcy HZ.out (by rw [HV.out, List.take_of_length_le (Nat.le_refl _)]))
          go_wp2
          go_roundw
          case rel =>
            have R := fun (u : Value) (hu : u = eU _) => own_put hown hb (Nat.le_refl _) (i' + ys.length) cy u hu
            exact ⟨i' + 1, _, by omega, by go_num, HR.out.1, HR.out.2.1, HR.out.2.2.1, HR.out.2.2.2, (R _ (congrArg (Value.int .u32) (by omega))).1, (R _ (congrArg (Value.int .u32) (by omega))).2⟩
          case measure => simp [intOf]; omega
    · obtain rfl : i' = xs.length := by omega
      have hsl : Sl eU wr _ cur := Sl.ofOwns hown
      go_wp2_with fail
      refine (trimmed_any _ _ _ hsl).mono ?_
      rintro e w' ⟨v3, rfl, hs3, rfl⟩
      go_wp2
      go_ret
      refine ⟨_, rfl, ?_, hb⟩
      rw [← trim_of 1000000000 cur _ (by omega) HC.out (by rw [HV.out, List.take_of_length_le (Nat.le_refl _)])]
      exact hs3
end Go.Proofs.YtcjcknncajinpaaGreatDoor
