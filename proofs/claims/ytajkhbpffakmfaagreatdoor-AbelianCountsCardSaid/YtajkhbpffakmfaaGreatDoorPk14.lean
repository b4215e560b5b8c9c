/- Plain laws and the walk of CompareFunc for the law AbelianCounts. -/
import Derived.Test.YtajkhbpffakmfaaGreatDoorPk13
import Derived.Test.YtajkhbpffakmfaaGreatDoorPk12
import Derived.Test.YtajkhbpffakmfaaGreatDoorPk11
namespace Go.Proofs.YtajkhbpffakmfaaGreatDoor
open Go.RowKit
set_option maxRecDepth 100000

theorem cn_le (f : Nat → Bool) : ∀ n, cn f n ≤ n
  | 0 => Nat.le_refl _
  | n + 1 => by rw [cn]; have := cn_le f n; split <;> omega
theorem num_tx {n : Nat} (h : n ≤ 1000000) : num (tx n) = n := (good_tx n h).num
theorem mstep_zero : ∀ (ns ys : List Nat), ns.length = ys.length → (∀ n ∈ ns, n ≤ 1000000) → (∀ i (h : i < ns.length) (h' : i < ys.length), ys[i] < ns[i]) → mstep (ns.map tx) (ys.map tx) = 0
  | [], [], _, _, _ => rfl
  | n :: ns, y :: ys, hl, h6, hlt => by
    have h0 : y < n := hlt 0 (by simp) (by simp)
    have hn := h6 n (by simp)
    simp only [List.map_cons, mstep]
    rw [if_pos (good_tx y (by omega)).chk, num_tx hn, num_tx (by omega), if_neg (by omega)]
    exact mstep_zero ns ys (by simpa using hl) (fun x hx => h6 x (by simp [hx])) (fun i h h' => by have := hlt (i + 1) (by simp; omega) (by simp; omega); simpa using this)
theorem quos_dvd (ns ys : List Nat) (y : Nat) (hl : ns.length = ys.length) (hp : ∀ n ∈ ns, 0 < n) : lcms (quos ns ys) ∣ y ↔ ∀ i (h : i < ns.length) (h' : i < ys.length), ns[i] ∣ y * ys[i] := by
  rw [lcms_dvd]
  constructor
  · intro h i h1 h2
    rw [ord_dvd _ _ _ (hp _ (List.getElem_mem h1))]
    refine h _ ?_
    have h3 : i < (quos ns ys).length := by simp [quos]; omega
    have : (quos ns ys)[i] = ns[i] / Nat.gcd ns[i] ys[i] := by simp [quos]
    rw [← this]; exact List.getElem_mem h3
  · intro h q hq
    obtain ⟨i, hi, rfl⟩ := List.getElem_of_mem hq
    have h3 : i < ns.length ∧ i < ys.length := by simp [quos] at hi; omega
    have : (quos ns ys)[i] = ns[i] / Nat.gcd ns[i] ys[i] := by simp [quos]
    rw [this, ← ord_dvd _ _ _ (hp _ (List.getElem_mem h3.1))]
    exact h i h3.1 h3.2
theorem mem_dvd_pr (n : Nat) : ∀ (ss : List Nat), n ∈ ss → n ∣ pr ss
  | m :: l, h => by
    rcases List.mem_cons.1 h with rfl | h
    · exact Nat.dvd_mul_right _ _
    · exact Nat.dvd_trans (mem_dvd_pr n l h) (Nat.dvd_mul_left _ _)
theorem gcds_pr (ss : List Nat) (y : Nat) : prods (gcds (ss.map fun (n : Nat) => (n : Int)) (y : Int)) = (pr (ss.map fun n => Nat.gcd n y) : Int) := by
  rw [← prods_pr]; congr 1
  simp [gcds, Function.comp_def]

set_option maxHeartbeats 400000 in
theorem cnt1_any (w : World) (x y : Nat) (hx : x ≤ 1000000) (hy : y ≤ 1000000) :
    Calls Tryz.prog 28 #[.string (tx x), .string (tx y)] w (Rets fun r w' => r = .int .i64 ((x : Int) - (y : Int)).sign ∧ Below w.heap.size w w') := by
  have HX := Lib.hid (good_tx x hx); have HY := Lib.hid (good_tx y hy)
  go_enter Tryz.func28, Tryz.ntmps28
  go_wp2_with (go_at_call 29; (with_reducible refine (Compare_ok _ _ _ (x : Int) (y : Int) HX.out HY.out).mono ?_); rintro e w1 ⟨v, rfl, rfl, hb1⟩)
  go_ret
  exact ⟨_, rfl, rfl, hb1⟩
set_option maxHeartbeats 2000000 in
theorem CompareFunc_lt (w : World) (v u : Value) (xs ys : List Nat) (hv : Sl eS w v (xs.map tx)) (hu : Sl eS w u (ys.map tx)) (i : Nat) (hi : i < xs.length) (hl : xs.length = ys.length) (he : xs.take i = ys.take i) (hlt : xs.getD i 0 < ys.getD i 0) (h6 : ∀ x ∈ xs, x ≤ 1000000) (h7 : ∀ x ∈ ys, x ≤ 1000000) :
    Calls Tryz.prog 27 #[v, u, .func (.func 28) #[] #[]] w (Rets fun r w' => r = .int .i64 (-1) ∧ Below w.heap.size w w') := by
  obtain ⟨ad, b, o, c, rfl, hi1, hq, hcc, hm⟩ := hv.open elemStr
  obtain ⟨ad', b', o', c', rfl, hi2, hq', hcc', hm'⟩ := hu.open elemStr
  have e1 : (xs.map tx).length = xs.length := List.length_map _
  have e2 : (ys.map tx).length = xs.length := by rw [List.length_map, hl]
  rw [e1] at hi1 hcc ⊢
  rw [e2] at hi2 hcc' ⊢
  unfold maxLen at hm hm'
  have HL := Lib.hid hl; have HEQ := Lib.hid he; have HLT := Lib.hid hlt; have H6 := Lib.hid h6; have H7 := Lib.hid h7; have E1 := Lib.hid e1; have E2 := Lib.hid e2
  clear hv hu hl he hlt h6 h7 e1 e2
  go_enter Tryz.func27, Tryz.ntmps27
  go_wp2
  go_loopw [13] (fun j wr => ∃ k : Nat, k ≤ i ∧ j = .int .i64 k ∧ Below w.heap.size w wr) (fun j _ => i + 1 - (intOf j).toNat)
  case atStart => exact ⟨0, Nat.zero_le _, rfl, Below.refl _ _⟩
  case round =>
    obtain ⟨k, hk, rfl, hb⟩ := hrel
    have hkx : k < xs.length := by omega
    have hky : k < ys.length := by have := HL.out; omega
    have h1 : wr.cell? ⟨b, o + k, none⟩ = some (.string (tx xs[k])) := by
      have := hq.at hb (Nat.le_refl _) k (by rw [E1.out]; exact hkx)
      rw [List.getElem_map] at this; exact this
    have h2 : wr.cell? ⟨b', o' + k, none⟩ = some (.string (tx ys[k])) := by
      have := hq'.at hb (Nat.le_refl _) k (by rw [E2.out]; exact hkx)
      rw [List.getElem_map] at this; exact this
    have hx6 := H6.out _ (List.getElem_mem hkx)
    have hy6 := H7.out _ (List.getElem_mem hky)
    have HG1 := Lib.hid (getD_get xs k hkx); have HG2 := Lib.hid (getD_get ys k hky)
    have HT := Lib.hid (show k < i → xs[k] = ys[k] from fun h => by
      have a1 : (xs.take i)[k]'(by simp; omega) = xs[k] := List.getElem_take
      have a2 : (ys.take i)[k]'(by simp; omega) = ys[k] := List.getElem_take
      rw [← a1, ← a2]; simp only [HEQ.out])
    obtain ⟨x, hx⟩ : ∃ x, xs[k] = x := ⟨_, rfl⟩
    obtain ⟨y, hy⟩ : ∃ y, ys[k] = y := ⟨_, rfl⟩
    rw [hx] at h1 hx6 HG1 HT
    rw [hy] at h2 hy6 HG2 HT
    clear hx hy
    by_cases hki : k < i
    · obtain rfl := HT.out hki
      have HS := Lib.hid (show ((x : Int) - (x : Int)).sign = 0 by simp)
      clear HT
      go_wp2_with ((with_reducible refine (cnt1_any _ x x hx6 hx6).mono ?_); rintro e w1 ⟨v, rfl, rfl, hb1⟩; rw [HS.out])
      go_roundw
      case rel => exact ⟨k + 1, by omega, by go_num, hb.trans (hb1.mono hb.size)⟩
      case measure => simp [intOf]; omega
    · obtain rfl : k = i := by omega
      have hxy : x < y := by rw [← HG1.out, ← HG2.out]; exact HLT.out
      have HS := Lib.hid (show ((x : Int) - (y : Int)).sign = -1 from Int.sign_eq_neg_one_of_neg (by omega))
      clear HT
      go_wp2_with ((with_reducible refine (cnt1_any _ x y hx6 hy6).mono ?_); rintro e w1 ⟨v, rfl, rfl, hb1⟩; rw [HS.out])
      go_ret
      exact ⟨_, rfl, rfl, hb.trans (hb1.mono hb.size)⟩
end Go.Proofs.YtajkhbpffakmfaaGreatDoor
