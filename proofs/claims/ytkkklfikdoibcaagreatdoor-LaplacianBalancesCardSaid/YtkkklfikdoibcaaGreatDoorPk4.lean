/- The walk of integer's Compare. The walks of integer's Abs, Quo, Rem. Plain facts on decimal digits, the last one first. The walks of the reference's digits of integers. The walks of the reference's digits, text and order of integers. The walks of the reference's sums and differences of digits. The walks of the reference's differences and products of digits. The walk of the reference's product of digits. The walk of the reference's Check. The walks of the reference's sums, products and orders of integers. The walks of the reference's differences, products, orders of integers, and of its bounded answers. Texts that are numerals, as literals. The walk of integer's Pow. -/
import Derived.Test.YtkkklfikdoibcaaGreatDoorPk3
import Derived.Test.YtkkklfikdoibcaaGreatDoorPk2
namespace Go.Proofs.YtkkklfikdoibcaaGreatDoor
open Go.RowKit
set_option maxRecDepth 100000

theorem Sl.pair (w : World) (s t : ByteArray) (e : TypeId) : Sl eS (w.alloc (.cells #[.string s, .string t] e)) (.slice (some ⟨w.heap.size, 0, none⟩) 2 2) [s, t] :=
  Sl.ofOwns (n := 2) (base := 0) (e := e) ⟨rfl, .inr ⟨w.heap.size, 2, #[.string s, .string t], rfl, by omega, heap_alloc_new w _, by omega, by simp [maxLen], rfl, rfl⟩⟩
theorem chks_pair (s t : ByteArray) : chks [s, t] = if chk s.data.toList = 0 then chk t.data.toList else chk s.data.toList := by
  simp only [chks]
  by_cases h : chk t.data.toList = 0 <;> simp [h]

end Go.Proofs.YtkkklfikdoibcaaGreatDoor

namespace Go.Proofs.YtkkklfikdoibcaaGreatDoor
open Go.RowKit
set_option maxRecDepth 100000

theorem fmod_abs (x y : Int) (h : y ≠ 0) : (Int.fmod x y).natAbs < y.natAbs := by
  rcases Int.lt_or_gt_of_ne h with h0 | h0
  · have := (Int.fdiv_fmod_unique' (a := x) (b := y) (r := Int.fmod x y) (q := Int.fdiv x y) h0).1 ⟨rfl, rfl⟩
    omega
  · have := (Int.fdiv_fmod_unique (a := x) (b := y) (r := Int.fmod x y) (q := Int.fdiv x y) h0).1 ⟨rfl, rfl⟩
    omega
theorem fdiv_abs (x y : Int) (h : y ≠ 0) : (Int.fdiv x y).natAbs ≤ x.natAbs + y.natAbs := by
  have h1 := Int.fmod_add_mul_fdiv x y
  have h2 := fmod_abs x y h
  have h3 : (y * Int.fdiv x y).natAbs = y.natAbs * (Int.fdiv x y).natAbs := Int.natAbs_mul _ _
  have h4 : (Int.fdiv x y).natAbs ≤ y.natAbs * (Int.fdiv x y).natAbs := Nat.le_mul_of_pos_left _ (by omega)
  omega
theorem wl_fdiv (x y : Int) (h : y ≠ 0) : wl (Int.fdiv x y) ≤ wl x + wl y + 1 := by
  have := digs_len_add 1000000000 x.natAbs y.natAbs (by omega)
  have h2 := digs_len_mono 1000000000 (by omega) (fdiv_abs x y h)
  unfold wl; omega
theorem wl_fmod (x y : Int) (h : y ≠ 0) : wl (Int.fmod x y) ≤ wl x + wl y + 1 := by
  have h2 := digs_len_mono 1000000000 (by omega) (Nat.le_of_lt (fmod_abs x y h))
  unfold wl; omega
theorem Good.eq {s : ByteArray} {z : Int} (h : Good s z) : s = txt z := by
  have := h.1
  unfold txt
  rw [← this]
theorem Good.text {s : ByteArray} (h : Good s 0) : s = ⟨#[48]⟩ := by
  rw [h.eq]
  have e : Lib.itoa 0 = [48] := by rw [itoa_cases, if_neg (by omega), show Int.natAbs 0 = 0 from rfl, Lib.decDigits_one (by omega)]; rfl
  unfold txt; rw [e]
theorem itoa_inj {x y : Int} (h : Lib.itoa x = Lib.itoa y) : x = y := by
  have h1 := congrArg (fun l => Lib.hasPrefix l [45]) h
  have h2 := congrArg (fun l => dv 0 (Lib.trimPrefix l [45])) h
  simp only [pre_itoa, trim_itoa, dv_dec] at h1 h2
  have : (x < 0) = (y < 0) := by simpa using h1
  by_cases hx : x < 0
  · have : y < 0 := by rw [← this]; exact hx
    omega
  · have : ¬ y < 0 := by rw [← this]; exact hx
    omega
theorem Good.not_zero {s : ByteArray} {z : Int} (h : Good s z) (hz : z ≠ 0) : (s.toList == [48]) = false := by
  have e : Lib.itoa 0 = [48] := by rw [itoa_cases, if_neg (by omega), show Int.natAbs 0 = 0 from rfl, Lib.decDigits_one (by omega)]; rfl
  rw [ByteArray.toList_eq, h.1, ← e]
  simp only [beq_eq_false_iff_ne]
  exact fun h => hz (itoa_inj h)

set_option maxHeartbeats 400000 in
theorem Quo_err (w : World) (s t : ByteArray) (hs : s.size ≤ 1000000) (ht : t.size ≤ 1000000) (h : chks [s, t] ≠ 0) :
    Calls Tryz.prog 232 #[.string s, .string t] w (Rets fun v w' => v = .tuple #[.string ⟨#[]⟩, .int .i64 (chks [s, t])] ∧ Below w.heap.size w w') := by
  have hne : (chks [s, t] != 0) = true := by simp [h]
  have hb0 : Below w.heap.size w (w.alloc (.cells #[.string s, .string t] 48)) := (Below.refl _ w).alloc (Nat.le_refl _) _
  have HB0 := Lib.hid hb0
  have HSZ := Lib.hid (show ∀ x ∈ [s, t], x.size ≤ 1000000 by intro x hx; simp at hx; rcases hx with rfl | rfl; exact hs; exact ht)
  clear h hb0
  go_enter Tryz.func232, Tryz.ntmps232
  go_wp2_with (go_at_call 182; refine (checked_any _ _ _ (Sl.pair w s t _) HSZ.out (by simp)).mono ?_; rintro e w' ⟨v, rfl, rfl, hb⟩)
  go_ret2
  exact ⟨_, rfl, rfl, HB0.out.trans (hb.mono (by simp))⟩
set_option maxHeartbeats 400000 in
theorem Quo_zero (w : World) (s t : ByteArray) (x : Int) (hx : Good s x) (hy : Good t 0) :
    Calls Tryz.prog 232 #[.string s, .string t] w (Rets fun v w' => v = .tuple #[.string ⟨#[]⟩, .int .i64 10] ∧ Below w.heap.size w w') := by
  have h0 : chks [s, t] = 0 := by rw [chks_pair, hx.chk, hy.chk]; rfl
  obtain rfl : t = ⟨#[48]⟩ := hy.text
  have hb0 : Below w.heap.size w (w.alloc (.cells #[.string s, .string ⟨#[48]⟩] 48)) := (Below.refl _ w).alloc (Nat.le_refl _) _
  have HB0 := Lib.hid hb0; have H0 := Lib.hid h0
  have HSZ := Lib.hid (show ∀ x ∈ [s, ⟨#[48]⟩], x.size ≤ 1000000 by intro x h; simp at h; rcases h with rfl | rfl; (have := hx.size; omega); (decide))
  clear h0 hb0 hx hy
  go_enter Tryz.func232, Tryz.ntmps232
  go_wp2_with (go_at_call 182; refine (checked_any _ _ _ (Sl.pair w s ⟨#[48]⟩ _) HSZ.out (by simp)).mono ?_; rintro e w1 ⟨v, rfl, rfl, hb1⟩; rw [H0.out]; have b1 := HB0.out.trans (hb1.mono (by simp)))
  go_ret2
  exact ⟨_, rfl, rfl, b1⟩
set_option maxHeartbeats 400000 in
theorem Quo_ok (w : World) (s t : ByteArray) (x y : Int) (hx : Good s x) (hy : Good t y) (h0 : y ≠ 0) (he : Env w) :
    Calls Tryz.prog 232 #[.string s, .string t] w (Rets fun v w' => v = resV (Int.fdiv x y) ∧ Below w.heap.size w w') := by
  have h0' : chks [s, t] = 0 := by rw [chks_pair, hx.chk, hy.chk]; rfl
  have hb0 : Below w.heap.size w (w.alloc (.cells #[.string s, .string t] 48)) := (Below.refl _ w).alloc (Nat.le_refl _) _
  obtain ⟨tt, k, hr, -, -⟩ := resV_cases (Int.fdiv x y)
  have ht0 : (t.toList == [48]) = false := hy.not_zero h0
  have hwl : wl (Int.fdiv x y) ≤ wl x + wl y + 1 := wl_fdiv x y h0
  have HWL := Lib.hid hwl; have HY0 := Lib.hid h0
  have HB0 := Lib.hid hb0; have H0 := Lib.hid h0'; have HX := Lib.hid hx; have HY := Lib.hid hy; have HR := Lib.hid hr; have HE := Lib.hid he
  have HSZ := Lib.hid (show ∀ x ∈ [s, t], x.size ≤ 1000000 by intro x h; simp at h; rcases h with rfl | rfl; (have := hx.size; omega); (have := hy.size; omega))
  clear h0' hb0 hx hy hr he hwl h0
  go_enter Tryz.func232, Tryz.ntmps232
  go_wp2_with (first
    | (go_at_call 182; refine (checked_any _ _ _ (Sl.pair w s t _) HSZ.out (by simp)).mono ?_; rintro e w1 ⟨v, rfl, rfl, hb1⟩; rw [H0.out]; have b1 := HB0.out.trans (hb1.mono (by simp)))
    | (go_at_call_of 153 (Value.string s); refine (read_any _ _ x HX.out.1 (by have := HX.out.size; omega)).mono ?_; rintro e w2 ⟨v, rfl, hn2, hb2⟩; have HN2 := Lib.hid hn2; clear hn2; have b2 := b1.trans (hb2.mono b1.size))
    | (go_at_call_of 153 (Value.string t); refine (read_any _ _ y HY.out.1 (by have := HY.out.size; omega)).mono ?_; rintro e w3 ⟨v, rfl, hn3, hb3⟩; have HN3 := Lib.hid hn3; clear hn3; have b3 := b2.trans (hb3.mono b2.size))
    | (go_at_call 255; refine (down_any _ _ _ x y (HN2.out.below hb3 (Nat.le_refl _)) HN3.out HY0.out (by have := HX.out.wl; omega) (by have := HY.out.wl; omega)).mono ?_; rintro e w5 ⟨v, rfl, ⟨_, _, rfl, ⟨mq, aq, nq, cq, rfl, hmq, hsq⟩, ⟨mr, ar, nr, cr, rfl, hmr, hsr⟩⟩, hb5⟩; have HM5 := Lib.hid hmq; have HS5 := Lib.hid hsq; clear hmq hsq hmr hsr; have b5 := b3.trans (hb5.mono b3.size))
    | (go_at_call 152; have b6 := ((Below.refl w5.heap.size w5).alloc (Nat.le_refl _) (.cells #[.bool mq, .slice aq nq cq] 202)).alloc (by simp) (.cells #[.bool mr, .slice ar nr cr] 202); have b7 := b5.trans (b6.mono b5.size); refine (result_any _ _ _ ⟨_, _, _, _, rfl, HM5.out, HS5.out.below b6 (Nat.le_refl _)⟩ (by have := HX.out.wl; have := HY.out.wl; have := HWL.out; omega) (HE.out.below b7 (Nat.le_refl _))).mono ?_; rintro e w6 ⟨v, rfl, rfl, hb6⟩; rw [HR.out]))
  go_ret2
  exact ⟨_, rfl, by rw [HR.out]; rfl, b7.trans (hb6.mono b7.size)⟩

end Go.Proofs.YtkkklfikdoibcaaGreatDoor

namespace Go.Proofs.YtkkklfikdoibcaaGreatDoor
open Go.RowKit

/-- The digits in a text, its sign left out. -/
def dl (l : List UInt8) : List Nat := (l.filter (fun c => c != 45)).map (fun c => c.toNat - 48)
theorem dl_nil : dl [] = [] := rfl
theorem dl_minus (l : List UInt8) : dl (45 :: l) = dl l := by simp [dl]
theorem dl_dig (c : UInt8) (l : List UInt8) (h : c ≠ 45) : dl (c :: l) = (c.toNat - 48) :: dl l := by simp [dl, h]
theorem dl_all (l : List UInt8) (h : l.all isDig = true) : dl l = l.map (fun c => c.toNat - 48) := by
  induction l with
  | nil => rfl
  | cons c l ih =>
    simp only [List.all_cons, Bool.and_eq_true] at h
    have hc : c ≠ 45 := by rintro rfl; exact absurd h.1 (by decide)
    rw [dl_dig _ _ hc, ih h.2, List.map_cons]
theorem dl_itoa (z : Int) : dl (Lib.itoa z) = (Lib.decDigits z.natAbs).map (fun c => c.toNat - 48) := by
  rw [itoa_cases]
  split
  · rw [dl_minus, dl_all _ (dec_all _)]
  · rw [dl_all _ (dec_all _)]
theorem val_rev (l : List UInt8) : val 10 ((l.map (fun c => c.toNat - 48)).reverse) = dv 0 l := by
  refine snoc_ind (P := fun l => val 10 ((l.map (fun c => c.toNat - 48)).reverse) = dv 0 l) rfl (fun l c ih => ?_) l
  rw [List.map_append, List.reverse_append, dv_append, dv_cons, dv_nil, ← ih]
  simp only [List.map_cons, List.map_nil, List.reverse_cons, List.reverse_nil, List.nil_append, List.singleton_append, val]
  omega
theorem dl_lt (z : Int) : ∀ d ∈ (dl (Lib.itoa z)).reverse, d < 10 := by
  intro d hd
  rw [List.mem_reverse, dl_itoa] at hd
  obtain ⟨c, hc, rfl⟩ := List.mem_map.1 hd
  have := dec_mem _ c hc
  omega
/-- The digits of an integer's text, without zeros at the end. -/
theorem trim_dl (z : Int) : trim ((dl (Lib.itoa z)).reverse) = digs 10 z.natAbs := by
  refine trim_of 10 _ _ (by omega) (dl_lt z) ?_
  rw [dl_itoa, val_rev, dv_dec]
/-- The bytes of digits, the first one of the text first. -/
def bytesOf (l : List Nat) : List UInt8 := (l.map (fun d => UInt8.ofNat (48 + d))).reverse
theorem bytesOf_nil : bytesOf [] = [] := rfl
theorem bytesOf_snoc (l : List Nat) (d : Nat) : bytesOf (l ++ [d]) = UInt8.ofNat (48 + d) :: bytesOf l := by simp [bytesOf]
theorem bytes_digs (n : Nat) (h : 0 < n) : bytesOf (digs 10 n) = Lib.decDigits n := by
  induction n using Nat.strongRecOn with
  | _ n ih =>
    rw [digs_pos 10 n (by omega) h]
    by_cases hn : n < 10
    · rw [Lib.decDigits_one hn, show n / 10 = 0 by omega, digs_zero, show n % 10 = n by omega]; rfl
    · have e := ih (n / 10) (by omega) (by omega)
      rw [Lib.decDigits, dif_neg hn, ← e]
      simp [bytesOf]
theorem digs10_len (n : Nat) : (digs 10 n).length ≤ (Lib.decDigits n).length := by
  rw [digs_len _ _ _ (by omega)]
  have h := dv_lt _ (dec_all n)
  rwa [dv_dec] at h
theorem digs10_len_eq (n : Nat) (h : 0 < n) : (digs 10 n).length = (Lib.decDigits n).length := by
  rw [← bytes_digs n h]; simp [bytesOf]
/-- What 'result' answers, in two parts. -/
def resT (z : Int) : ByteArray := if big z then ⟨#[]⟩ else txt z
def resK (z : Int) : Int := if big z then 11 else 0
theorem resV_eq (z : Int) : resV z = .tuple #[.string (resT z), .int .i64 (resK z)] := by
  unfold resV resT resK; cases big z <;> rfl
theorem resT_ok {z : Int} (h : big z = false) : resT z = txt z := by unfold resT; rw [h]; rfl
theorem resK_ok {z : Int} (h : big z = false) : resK z = 0 := by unfold resK; rw [h]; rfl
theorem big_digs (z : Int) : big z = decide (1024 < (digs 10 z.natAbs).length) := by
  unfold big
  rcases Nat.eq_zero_or_pos z.natAbs with h | h
  · rw [h, digs_zero, Lib.decDigits_one (by omega)]; rfl
  · rw [digs10_len_eq _ h]
theorem big_iff (z : Int) : big z = false ↔ z.natAbs < 10 ^ 1024 := by
  rw [big_digs, decide_eq_false_iff_not, Nat.not_lt, digs_len _ _ _ (by omega)]
theorem Good.of {z : Int} (h : big z = false) : Good (txt z) z := ⟨rfl, h⟩

/-- One round of the sum of digits: what is left goes on as the digits of a number. -/
theorem added_step (a b : List Nat) (i c : Nat) (os : List Nat) (N : Nat)
    (h : digs 10 N = os ++ digs 10 (c + val 10 (a.drop i) + val 10 (b.drop i))) (hp : 0 < c + val 10 (a.drop i) + val 10 (b.drop i)) :
    digs 10 N = (os ++ [(c + (a.getD i 0 + b.getD i 0)) % 10]) ++ digs 10 ((c + (a.getD i 0 + b.getD i 0)) / 10 + val 10 (a.drop (i + 1)) + val 10 (b.drop (i + 1))) := by
  have key : ∀ l : List Nat, val 10 (l.drop i) = l.getD i 0 + 10 * val 10 (l.drop (i + 1)) := by
    intro l
    by_cases hi : i < l.length
    · rw [List.drop_eq_getElem_cons hi, val]; simp [hi]
    · rw [List.drop_of_length_le (by omega), List.drop_of_length_le (by omega)]; simp [val, List.getElem?_eq_none (Nat.le_of_not_lt hi)]
  rw [h, digs_pos 10 _ (by omega) hp, key a, key b, List.append_assoc]
  congr 1
  have e1 : (c + (a.getD i 0 + 10 * val 10 (a.drop (i + 1))) + (b.getD i 0 + 10 * val 10 (b.drop (i + 1)))) % 10 = (c + (a.getD i 0 + b.getD i 0)) % 10 := by omega
  have e2 : (c + (a.getD i 0 + 10 * val 10 (a.drop (i + 1))) + (b.getD i 0 + 10 * val 10 (b.drop (i + 1)))) / 10 = (c + (a.getD i 0 + b.getD i 0)) / 10 + val 10 (a.drop (i + 1)) + val 10 (b.drop (i + 1)) := by omega
  rw [e1, e2]; rfl
theorem val_digs_drop (n i : Nat) : 0 < val 10 ((digs 10 n).drop i) ↔ i < (digs 10 n).length := by
  have key : ∀ (l : List Nat), l.getLast? ≠ some 0 → l ≠ [] → 0 < val 10 l := by
    intro l
    induction l with
    | nil => intro _ h; exact absurd rfl h
    | cons a l ih =>
      intro h _
      rw [val]
      by_cases hl : l = []
      · subst hl
        have : a ≠ 0 := by simpa using h
        simp [val]; omega
      · have := ih (by rw [List.getLast?_cons] at h; cases hg : l.getLast? with
          | none => simp
          | some b => rw [hg] at h; simpa using h) hl
        omega
  constructor
  · intro h
    rcases Nat.lt_or_ge i (digs 10 n).length with hi | hi
    · exact hi
    · rw [List.drop_of_length_le hi] at h; simp [val] at h
  · intro h
    refine key _ ?_ (by simp; omega)
    have hl := digs_last 10 n (by omega)
    rw [List.getLast?_drop, if_neg (by omega)]
    exact hl
end Go.Proofs.YtkkklfikdoibcaaGreatDoor
namespace Go.Proofs.YtkkklfikdoibcaaGreatDoor
open Go.RowKit
set_option maxRecDepth 100000

theorem elemInt : ElemOk Tryz.prog 39 3 (.int .i64 0) 1 8 :=
  ⟨Tryz.underlying39, info_parts (by kernel_rfl : (Tryz.prog.info? 3).map (fun i => (i.zero, i.size, i.bytes)) = some (some (.int .i64 0), 1, 8)), rfl, by decide, by kernel_rfl, fun _ => by kernel_rfl⟩

set_option maxHeartbeats 400000 in
theorem cut_any (w : World) (v : Value) (xs : List Nat) (hv : Sl eI w v xs) :
    Calls Tryz.prog 225 #[v] w (Rets fun v' w' => Sl eI w' v' (trim xs) ∧ w = w') := by
  have HV := Lib.hid hv
  obtain ⟨a, b, o, c, rfl, hi, hx, hc, hm⟩ := hv.open elemInt
  clear hv
  unfold maxLen at hm
  go_enter Tryz.func225, Tryz.ntmps225
  go_wp2
  go_loop [3] (fun v => ∃ k : Nat, k ≤ xs.length ∧ v = .int .i64 k ∧ Hid (trim (xs.take k) = trim xs)) (fun v => (intOf v).toNat)
  case atStart => exact ⟨xs.length, Nat.le_refl _, rfl, Lib.hid (by simp)⟩
  case round =>
    obtain ⟨k, hk, rfl, HT⟩ := hrel
    rcases k with _ | k
    · go_wp2
      go_ret
      exact ⟨_, rfl, by rw [← HT.out]; exact HV.out.take 0 (Nat.zero_le _), rfl⟩
    · have hp : (0 : Int) < ((k + 1 : Nat) : Int) := by omega
      have h1 : w.cell? ⟨b, o + k, none⟩ = some (.int .i64 (xs[k] : Nat)) := hx.2 k (by omega)
      go_wp2
      · go_round
        case rel =>
          have h0 : ((xs[k] : Nat) == (0 : Int)) = true := by assumption
          have h0 : xs[k] = 0 := by simpa using h0
          exact ⟨k, by omega, by go_num, Lib.hid (by rw [← HT.out, take_snoc xs k (by omega), h0, trim_snoc_zero])⟩
        case measure => simp [intOf]
      · go_ret
        have h0 : ((xs[k] : Nat) == (0 : Int)) = false := by assumption
        have h0 : xs[k] ≠ 0 := by simpa using h0
        exact ⟨_, rfl, by rw [← HT.out, take_snoc xs k (by omega), trim_snoc _ _ h0, ← take_snoc xs k (by omega)]; exact HV.out.take (k + 1) hk, rfl⟩

set_option maxHeartbeats 400000 in
theorem digit_any (w : World) (v : Value) (xs : List Nat) (i : Nat) (hv : Sl eI w v xs) :
    Calls Tryz.prog 226 #[v, .int .i64 i] w (Rets fun v' w' => v' = .int .i64 (xs.getD i 0 : Nat) ∧ w = w') := by
  obtain ⟨a, b, o, c, rfl, hi, hx, hc, hm⟩ := hv.open elemInt
  clear hv
  unfold maxLen at hm
  by_cases h : i < xs.length
  · have h1 : w.cell? ⟨b, o + i, none⟩ = some (.int .i64 (xs[i] : Nat)) := hx.2 i h
    have hg : xs.getD i 0 = xs[i] := by simp [h]
    have HG := Lib.hid hg; clear hg
    go_enter Tryz.func226, Tryz.ntmps226
    go_wp2
    go_ret
    exact ⟨_, rfl, by rw [HG.out]; rfl, rfl⟩
  · have hg : xs.getD i 0 = 0 := by simp [List.getElem?_eq_none (Nat.le_of_not_lt h)]
    have HG := Lib.hid hg; clear hg
    go_enter Tryz.func226, Tryz.ntmps226
    go_wp2
    go_ret
    exact ⟨_, rfl, by rw [HG.out]; rfl, rfl⟩

theorem itoa_ne (z : Int) : Lib.itoa z ≠ [] := by
  rw [itoa_cases]; split
  · simp
  · exact dec_ne _
set_option maxHeartbeats 400000 in
theorem Minus_any (w : World) (z : Int) :
    Calls Tryz.prog 191 #[.string (txt z)] w (Rets fun v w' => v = .bool (decide (z < 0)) ∧ w = w') := by
  unfold txt
  have hp := pre_itoa z
  have hne := itoa_ne z
  generalize Lib.itoa z = l at *
  rcases l with _ | ⟨c, r⟩
  · exact absurd rfl hne
  · have hc : ((c.toNat : Int) == 45) = decide (z < 0) := by
      rw [← hp]
      by_cases h : c = 45
      · subst h; rfl
      · have : c.toNat ≠ 45 := fun e => h (UInt8.toNat_inj.1 e)
        simp [Lib.hasPrefix, List.isPrefixOf]
        rw [Bool.eq_iff_iff]
        simp
        constructor
        · intro e; omega
        · intro e; exact absurd e.symm h
    have HC := Lib.hid hc
    clear hp hne hc
    go_enter Tryz.func191, Tryz.ntmps191
    go_wp2
    go_ret
    exact ⟨_, rfl, by rw [← HC.out]; rfl, rfl⟩
end Go.Proofs.YtkkklfikdoibcaaGreatDoor

namespace Go.Proofs.YtkkklfikdoibcaaGreatDoor
open Go.RowKit
set_option maxRecDepth 100000

theorem itoa_mem (z : Int) : ∀ c ∈ Lib.itoa z, c = 45 ∨ (48 ≤ c.toNat ∧ c.toNat ≤ 57) := by
  intro c hc
  rw [itoa_cases] at hc
  split at hc
  · rcases List.mem_cons.1 hc with h | h
    · exact .inl h
    · exact .inr (dec_mem _ c h)
  · exact .inr (dec_mem _ c hc)

set_option maxHeartbeats 1000000 in
theorem digits_any (w : World) (z : Int) (hz : (Lib.itoa z).length ≤ 1000000) :
    Calls Tryz.prog 190 #[.string (txt z)] w (Rets fun v w' => Sl eI w' v (digs 10 z.natAbs) ∧ Below w.heap.size w w') := by
  unfold txt
  have ht := trim_dl z
  have hm := itoa_mem z
  generalize Lib.itoa z = l at *
  have HT := Lib.hid ht; have HM := Lib.hid hm
  clear ht hm
  go_enter Tryz.func190, Tryz.ntmps190
  go_wp2
  go_loopw [3, 4] (fun out i wr => ∃ (k : Nat) (os : List Nat), k ≤ l.length ∧ i = .int .i64 ((k : Int) - 1) ∧ Hid (os = (dl (l.drop k)).reverse) ∧ Hid (os.length ≤ 1000000 - k) ∧ wr.ownsRow w.heap.size 3 1 out os.length (os.map eI) ∧ Below w.heap.size w wr) (fun _ i _ => (intOf i + 1).toNat)
  case atStart => exact ⟨l.length, [], Nat.le_refl _, by simp, Lib.hid (by rw [List.drop_of_length_le (Nat.le_refl _)]; rfl), Lib.hid (by simp), World.ownsRow_nil _ _ _ _, Below.refl _ _⟩
  case round =>
    obtain ⟨k, os, hk, rfl, ho, hol, hown, hb⟩ := hrel
    have hbs := hb.size
    rcases k with _ | k
    · have hos := ho.out
      rw [List.drop_zero] at hos
      have HOS := Lib.hid hos; clear hos
      go_wp2_with fail
      refine (cut_any _ _ os (Sl.ofOwns hown)).mono ?_
      rintro e w2 ⟨v2, rfl, hs2, rfl⟩
      have HS2 := Lib.hid hs2; clear hs2
      go_wp2
      go_ret
      exact ⟨_, rfl, by rw [← HT.out, ← HOS.out]; exact HS2.out, hb⟩
    · have ek : (((k + 1 : Nat) : Int) - 1) = (k : Int) := by omega
      rw [ek]
      clear ek
      have hkl : k < l.length := by omega
      obtain ⟨x, hx⟩ : ∃ x, x = l[k] := ⟨_, rfl⟩
      have hxm := HM.out l[k] (List.getElem_mem hkl)
      rw [← hx] at hxm
      have hsx : ∀ h, (({ data := l.toArray } : ByteArray)[k]'h) = x := fun h => by rw [hx]; rfl
      have HD := Lib.hid (show l.drop k = x :: l.drop (k + 1) by rw [hx]; exact List.drop_eq_getElem_cons hkl)
      clear hx
      by_cases h45 : x = 45
      · have HX := Lib.hid h45
        have hne : ((x.toNat : Int) != 45) = false := by rw [h45]; rfl
        clear h45 hxm
        go_wp2
        go_roundw
        case rel => exact ⟨k, os, by omega, rfl, Lib.hid (by rw [HD.out, HX.out, dl_minus]; exact ho.out), Lib.hid (by have := hol.out; omega), hown, hb⟩
        case measure => simp [intOf]
      · have hxd : 48 ≤ x.toNat ∧ x.toNat ≤ 57 := by rcases hxm with h | h; exact absurd h h45; exact h
        have hx1 := hxd.1
        have hx2 := hxd.2
        have hne : ((x.toNat : Int) != 45) = true := by simp; omega
        have HX := Lib.hid h45
        clear h45 hxm hxd
        have hl2 := hol.out
        go_wp2_with (at_builtin; refine app1 elemInt rfl _ _ rfl rfl rfl hown hb (Nat.le_refl _) hbs rfl (by simp [Value.oneCell']) (by omega) (by unfold maxLen; omega) ?_; intro v' w2 hown' hb')
        have ex : (x.toNat : Int) - 48 = ((x.toNat - 48 : Nat) : Int) := by omega
        rw [ex] at hown'
        go_roundw
        case rel => exact ⟨k, os ++ [x.toNat - 48], by omega, rfl, Lib.hid (by rw [HD.out, dl_dig _ _ HX.out, List.reverse_cons, ← ho.out]), Lib.hid (by simp; omega), by simpa [eI] using hown', hb'⟩
        case measure => simp [intOf]

theorem bytesOf_length (l : List Nat) : (bytesOf l).length = l.length := by simp [bytesOf]
theorem sg_zero (m : Bool) : sg m 0 = 0 := by cases m <;> rfl
theorem txt_pos (m : Bool) (n : Nat) (h : 0 < n) : txt (sg m n) = ⟨(if m then 45 :: Lib.decDigits n else Lib.decDigits n).toArray⟩ := by
  unfold txt
  rw [itoa_cases, sg_abs]
  cases m
  · rw [if_neg (by simp [sg])]; rfl
  · rw [if_pos (by simp [sg]; omega)]; rfl
set_option maxHeartbeats 1000000 in
theorem rtext_any (w : World) (v : Value) (n : Nat) (m : Bool) (hv : Sl eI w v (digs 10 n)) (hl : (digs 10 n).length ≤ 1000000) :
    Calls Tryz.prog 187 #[v, .bool m] w (Rets fun v w' => v = .string (txt (sg m n)) ∧ Below w.heap.size w w') := by
  have hd := digs_lt 10 n (by omega)
  have hb := fun h : 0 < n => bytes_digs n h
  have hz : (digs 10 n).length = 0 ↔ n = 0 := by rw [List.length_eq_zero_iff]; exact digs_nil (by omega)
  generalize digs 10 n = xs at *
  obtain ⟨a, b, o, c, rfl, hi, hx, hc, hm⟩ := hv.open elemInt
  clear hv
  have HD := Lib.hid hd; have HB := Lib.hid hb
  clear hd hb
  by_cases h0 : n = 0
  · have hl0 : xs.length = 0 := hz.2 h0
    have hr : txt (sg m n) = ⟨#[48]⟩ := by rw [h0, sg_zero]; unfold txt; rw [itoa_cases, if_neg (by omega), show Int.natAbs 0 = 0 from rfl, Lib.decDigits_one (by omega)]; rfl
    have HR := Lib.hid hr
    have hl0' : ((xs.length : Int) == 0) = true := by simp [hl0]
    clear h0 hz hr hl0
    go_enter Tryz.func187, Tryz.ntmps187
    go_wp2
    go_ret
    exact ⟨_, rfl, by rw [HR.out]; rfl, Below.refl _ _⟩
  · have hl0 : ((xs.length : Int) == 0) = false := by simp; intro e; exact h0 (hz.1 (by rw [e]; rfl))
    have hr := txt_pos m n (by omega)
    rw [← HB.out (by omega)] at hr
    have HR := Lib.hid hr
    clear h0 hz hr HB
    go_enter Tryz.func187, Tryz.ntmps187
    go_wp2
    go_loopw [5, 6] (fun s i wr => ∃ k : Nat, k ≤ xs.length ∧ i = .int .i64 k ∧ Hid (s = .string ⟨(bytesOf (xs.take k)).toArray⟩) ∧ Below w.heap.size w wr) (fun _ i _ => xs.length - (intOf i).toNat)
    case atStart => exact ⟨0, Nat.zero_le _, rfl, Lib.hid rfl, Below.refl _ _⟩
    case round =>
      obtain ⟨k, hk, rfl, hs, hb⟩ := hrel
      obtain rfl := hs.out
      clear hs
      by_cases hkn : k < xs.length
      · have h1 : wr.cell? ⟨b, o + k, none⟩ = some (.int .i64 (xs[k] : Nat)) := hx.at hb (Nat.le_refl _) k hkn
        have hd := HD.out xs[k] (List.getElem_mem hkn)
        have hcv : (convert 221 9 (.slice (some ⟨wr.heap.size, 0, none⟩) 1 1)).run Tryz.prog (wr.alloc (.cells #[.int .u8 (48 + (xs[k] : Int))] 5)) = .ok (.string ⟨[UInt8.ofNat (48 + xs[k])].toArray⟩) (wr.alloc (.cells #[.int .u8 (48 + (xs[k] : Int))] 5)) := by
          refine run_convert_bytes_back _ 221 9 5 ⟨wr.heap.size, 0, none⟩ 1 [UInt8.ofNat (48 + xs[k])] Tryz.underlying221 Tryz.underlying5 Tryz.underlying9 ?_
          intro j hj
          obtain rfl : j = 0 := by simpa using hj
          rw [addr0, cell_of_row _ wr.heap.size 0 #[.int .u8 (48 + (xs[k] : Int))] 5 (0, 0) (heap_alloc_new wr _)]
          simp; omega
        have hcat : ¬ 9223372036854775807 < 1 + (bytesOf (xs.take k)).length := by rw [bytesOf_length, List.length_take]; omega
        go_wp2
        go_roundw
        case rel =>
          refine ⟨k + 1, by omega, by go_num, Lib.hid ?_, hb.alloc hb.size _⟩
          rw [take_snoc xs k hkn, bytesOf_snoc]
          simp [ByteArray.append, ← ByteArray.append_eq]
        case measure => simp [intOf]; omega
      · obtain rfl : k = xs.length := by omega
        rw [List.take_length]
        have hcat : ¬ 9223372036854775807 < 1 + (bytesOf xs).length := by rw [bytesOf_length]; omega
        cases m
        · go_wp2
          go_ret
          exact ⟨_, rfl, by rw [HR.out]; rfl, hb⟩
        · go_wp2
          go_ret
          exact ⟨_, rfl, by rw [HR.out]; simp [ByteArray.append, ← ByteArray.append_eq], hb⟩

theorem order_lt {m n : Nat} (h : m < n) : ((m : Int) - n).sign = -1 := Int.sign_eq_neg_one_of_neg (by omega)
theorem order_gt {m n : Nat} (h : n < m) : ((m : Int) - n).sign = 1 := Int.sign_eq_one_of_pos (by omega)
theorem order_eq {m n : Nat} (h : m = n) : ((m : Int) - n).sign = 0 := by subst h; rw [Int.sub_self]; rfl
set_option maxHeartbeats 1000000 in
theorem rorder_any (w : World) (x y : Value) (m n : Nat) (hx : Sl eI w x (digs 10 m)) (hy : Sl eI w y (digs 10 n)) (hl : (digs 10 m).length ≤ 1000000) :
    Calls Tryz.prog 193 #[x, y] w (Rets fun v w' => v = .int .i64 ((m : Int) - n).sign ∧ Below w.heap.size w w') := by
  have hla : (digs 10 n).length < (digs 10 m).length → n < m := fun h => lt_of_len _ _ _ (by omega) h
  have hlb : (digs 10 m).length < (digs 10 n).length → m < n := fun h => lt_of_len _ _ _ (by omega) h
  have ba := digs_lt 10 m (by omega)
  have bb := digs_lt 10 n (by omega)
  have va := val_digs 10 m (by omega)
  have vb := val_digs 10 n (by omega)
  generalize digs 10 m = xs at *
  generalize digs 10 n = ys at *
  obtain ⟨ad, bl, o, c, rfl, hi, hp, -, -⟩ := hx.open elemInt
  obtain ⟨a', b', o', c', rfl, hi', hq, -, -⟩ := hy.open elemInt
  have HLA := Lib.hid hla; have HLB := Lib.hid hlb
  have BX := Lib.hid ba; have BY := Lib.hid bb
  have VA := Lib.hid va; have VB := Lib.hid vb
  clear hla hlb ba bb va vb hx hy
  by_cases hlen : xs.length = ys.length
  · have hne : ((xs.length : Int) != (ys.length : Int)) = false := by simp [hlen]
    have HLen := Lib.hid hlen; clear hlen
    go_enter Tryz.func193, Tryz.ntmps193
    go_wp2
    go_loopw [5] (fun i wr => ∃ k : Nat, k ≤ xs.length ∧ i = .int .i64 ((k : Int) - 1) ∧ xs.drop k = ys.drop k ∧ Below w.heap.size w wr) (fun i _ => (intOf i + 1).toNat)
    case atStart => exact ⟨xs.length, Nat.le_refl _, rfl, by rw [List.drop_of_length_le (Nat.le_refl _), HLen.out, List.drop_of_length_le (Nat.le_refl _)], Below.refl _ _⟩
    case round =>
      obtain ⟨k, hk, rfl, hd, hb⟩ := hrel
      have HD := Lib.hid hd; clear hd
      rcases k with _ | k
      · have heq : m = n := by
          have := HD.out
          simp only [List.drop_zero] at this
          rw [← VA.out, ← VB.out, this]
        have HE := Lib.hid (order_eq heq); clear heq
        go_wp2
        go_ret
        exact ⟨_, rfl, by rw [HE.out]; rfl, hb⟩
      · have hk2 : k < ys.length := by rw [← HLen.out]; omega
        have h1 : wr.cell? ⟨bl, o + k, none⟩ = some (.int .i64 (xs[k] : Nat)) := hp.at hb (Nat.le_refl _) k (by omega)
        have h2 : wr.cell? ⟨b', o' + k, none⟩ = some (.int .i64 (ys[k] : Nat)) := hq.at hb (Nat.le_refl _) k hk2
        have hbx := BX.out xs[k] (List.getElem_mem (by omega))
        have hby := BY.out ys[k] (List.getElem_mem hk2)
        have ek : (((k + 1 : Nat) : Int) - 1) = (k : Int) := by omega
        rw [ek]
        clear ek
        by_cases he : xs[k] = ys[k]
        · have hb1 : ((xs[k] : Int) != (ys[k] : Int)) = false := by simp [he]
          have HEK := Lib.hid he; clear he
          go_wp2
          go_quiet (fail)
          go_wp2
          go_roundw
          case rel => exact ⟨k, by omega, rfl, by rw [drop_eq xs k (by omega), drop_eq ys k hk2, HD.out, HEK.out], below_drewN hb _⟩
          case measure => simp [intOf]
        · have hb1 : ((xs[k] : Int) != (ys[k] : Int)) = true := by simp; omega
          rcases Nat.lt_or_gt_of_ne he with hlt | hlt
          · have hfin : m < n := by rw [← VA.out, ← VB.out]; exact lt_of_digit _ xs ys k (by omega) hk2 BX.out HD.out hlt
            have HF := Lib.hid (order_lt hfin)
            have hdc : decide (xs[k] < ys[k]) = true := by simp [hlt]
            clear he hfin
            go_wp2
            go_quiet (fail)
            go_wp2
            go_quiet (fail)
            go_wp2
            go_ret
            exact ⟨_, rfl, by rw [HF.out]; rfl, below_drewN (below_drewN hb _) _⟩
          · have hfin : n < m := by rw [← VA.out, ← VB.out]; exact lt_of_digit _ ys xs k hk2 (by omega) BY.out HD.out.symm hlt
            have HF := Lib.hid (order_gt hfin)
            have hdc : decide (xs[k] < ys[k]) = false := by simp; omega
            clear he hfin
            go_wp2
            go_quiet (fail)
            go_wp2
            go_quiet (fail)
            go_wp2
            go_ret
            exact ⟨_, rfl, by rw [HF.out]; rfl, below_drewN (below_drewN hb _) _⟩
  · have hne : ((xs.length : Int) != (ys.length : Int)) = true := by simp; omega
    rcases Nat.lt_or_gt_of_ne hlen with h | h
    · have HF := Lib.hid (order_lt (HLB.out h))
      clear hlen
      go_enter Tryz.func193, Tryz.ntmps193
      go_wp2
      go_ret
      exact ⟨_, rfl, by rw [HF.out]; rfl, Below.refl _ _⟩
    · have HF := Lib.hid (order_gt (HLA.out h))
      clear hlen
      go_enter Tryz.func193, Tryz.ntmps193
      go_wp2
      go_ret
      exact ⟨_, rfl, by rw [HF.out]; rfl, Below.refl _ _⟩
end Go.Proofs.YtkkklfikdoibcaaGreatDoor

namespace Go.Proofs.YtkkklfikdoibcaaGreatDoor
open Go.RowKit
set_option maxRecDepth 100000

theorem digit_q (w : World) (v : Value) (xs : List Nat) (i : Nat) (hv : Sl eI w v xs) :
    Calls Tryz.prog 226 #[v, .int .i64 i] w fun e w' => e = .returned (.int .i64 (xs.getD i 0 : Nat)) ∧ w' = w :=
  (digit_any w v xs i hv).mono fun e w' ⟨v, he, hv, hw⟩ => ⟨by rw [he, hv], hw.symm⟩
theorem val_drop_zero (a : List Nat) (i : Nat) (h : a.length ≤ i) : val 10 (a.drop i) = 0 := by rw [List.drop_of_length_le h]; rfl
set_option maxHeartbeats 1000000 in
theorem added_any (w : World) (x y : Value) (m n : Nat) (hx : Sl eI w x (digs 10 m)) (hy : Sl eI w y (digs 10 n)) (hl : (digs 10 m).length ≤ 1000000) (hl' : (digs 10 n).length ≤ 1000000) :
    Calls Tryz.prog 192 #[x, y] w (Rets fun v w' => Sl eI w' v (digs 10 (m + n)) ∧ Below w.heap.size w w') := by
  have hNl := digs_len_add 10 m n (by omega)
  have ba := digs_lt 10 m (by omega)
  have bb := digs_lt 10 n (by omega)
  have va := val_digs 10 m (by omega)
  have vb := val_digs 10 n (by omega)
  have da := val_digs_drop m
  have db := val_digs_drop n
  generalize digs 10 m = xs at *
  generalize digs 10 n = ys at *
  have HX := Lib.hid hx; have HY := Lib.hid hy
  obtain ⟨ad, bl, o, c, rfl, hi, hp, -, -⟩ := hx.open elemInt
  obtain ⟨a', b', o', c', rfl, hi', hq, -, -⟩ := hy.open elemInt
  have BX := Lib.hid ba; have BY := Lib.hid bb; have VA := Lib.hid va; have VB := Lib.hid vb; have DA := Lib.hid da; have DB := Lib.hid db; have HNL := Lib.hid hNl
  clear ba bb va vb da db hx hy hNl hp hq hi hi'
  go_enter Tryz.func192, Tryz.ntmps192
  go_wp2
  go_loopw [5, 6, 7] (fun out cy i wr => ∃ (k c : Nat) (os : List Nat), i = .int .i64 k ∧ cy = .int .i64 c ∧ c ≤ 1 ∧ Hid (os.length = k) ∧ Hid (digs 10 (m + n) = os ++ digs 10 (c + val 10 (xs.drop k) + val 10 (ys.drop k))) ∧ wr.ownsRow w.heap.size 3 1 out os.length (os.map eI) ∧ Below w.heap.size w wr) (fun _ _ i _ => 1000002 - (intOf i).toNat)
  case atStart => exact ⟨0, 0, [], rfl, rfl, by omega, Lib.hid rfl, Lib.hid (by simp [VA.out, VB.out]), World.ownsRow_nil _ _ _ _, Below.refl _ _⟩
  case round =>
    obtain ⟨k, cy, os, rfl, rfl, hcy, hol, hv, hown, hb⟩ := hrel
    have hbs := hb.size
    have hkl : k ≤ 1000001 := by
      have h1 := congrArg List.length hv.out
      rw [List.length_append, hol.out] at h1
      have := HNL.out; omega
    by_cases hR : 0 < cy + val 10 (xs.drop k) + val 10 (ys.drop k)
    · have hk2 : k ≤ 1000000 := by
        have h1 := congrArg List.length hv.out
        rw [List.length_append, hol.out] at h1
        have h2 : 0 < (digs 10 (cy + val 10 (xs.drop k) + val 10 (ys.drop k))).length := by rw [List.length_pos_iff, Ne, digs_nil (by omega)]; omega
        have := HNL.out; omega
      have hcase : k < xs.length ∨ (¬ k < xs.length ∧ k < ys.length) ∨ (¬ k < xs.length ∧ ¬ k < ys.length ∧ 0 < cy) := by
        by_cases h1 : k < xs.length
        · exact .inl h1
        · by_cases h2 : k < ys.length
          · exact .inr (.inl ⟨h1, h2⟩)
          · rw [val_drop_zero _ _ (by omega), val_drop_zero _ _ (by omega)] at hR
            exact .inr (.inr ⟨h1, h2, by omega⟩)
      have HS := Lib.hid (added_step xs ys k cy os (m + n) hv.out hR)
      obtain ⟨d, hd⟩ : ∃ d, xs.getD k 0 = d := ⟨_, rfl⟩
      obtain ⟨d', hd'⟩ : ∃ d, ys.getD k 0 = d := ⟨_, rfl⟩
      have hdl : d < 10 := by rw [← hd]; exact getD_lt BX.out (by omega)
      have hdl' : d' < 10 := by rw [← hd']; exact getD_lt BY.out (by omega)
      have HD := Lib.hid hd; have HD' := Lib.hid hd'
      have hol2 : os.length ≤ 1000000 := by rw [hol.out]; exact hk2
      clear hR hd hd'
      rcases hcase with h1 | ⟨h1, h2⟩ | ⟨h1, h2, h3⟩
      all_goals
        go_wp2_with (first
          | (go_at_call_of 226 (Value.slice ad xs.length c); (with_reducible refine (digit_any _ _ xs k (HX.out.below hb (Nat.le_refl _))).mono ?_); rintro e w2 ⟨v, rfl, rfl, rfl⟩; rw [HD.out])
          | (go_at_call_of 226 (Value.slice a' ys.length c'); (with_reducible refine (digit_any _ _ ys k (HY.out.below hb (Nat.le_refl _))).mono ?_); rintro e w2 ⟨v, rfl, rfl, rfl⟩; rw [HD'.out])
          | (at_builtin; refine app1 elemInt rfl _ _ rfl rfl rfl hown hb (Nat.le_refl _) hbs rfl (by simp [Value.oneCell']) (by omega) (by unfold maxLen; omega) ?_; intro v' w2 hown' hb'))
        have ev : ((cy : Int) + ((d : Int) + (d' : Int))) % 10 = (((cy + (d + d')) % 10 : Nat) : Int) := by omega
        rw [ev] at hown'
        go_roundw
        case rel => exact ⟨k + 1, (cy + (d + d')) / 10, os ++ [(cy + (d + d')) % 10], by go_num, congrArg (Value.int .i64) (by omega), by omega, Lib.hid (by simp [hol.out]), Lib.hid (by have := HS.out; rw [HD.out, HD'.out] at this; exact this), by simpa [eI] using hown', hb'⟩
        case measure => simp [intOf]; omega
    · have hc0 : cy = 0 := by omega
      have h1 : ¬ k < xs.length := fun h => by have := (DA.out k).2 h; omega
      have h2 : ¬ k < ys.length := fun h => by have := (DB.out k).2 h; omega
      have hfin : digs 10 (m + n) = os := by
        have := hv.out
        rw [show cy + val 10 (xs.drop k) + val 10 (ys.drop k) = 0 by omega, digs_zero, List.append_nil] at this
        exact this
      have HF := Lib.hid hfin
      subst hc0
      clear hR hfin
      go_wp2
      go_ret
      exact ⟨_, rfl, by rw [HF.out]; exact Sl.ofOwns hown, hb⟩
end Go.Proofs.YtkkklfikdoibcaaGreatDoor
namespace Go.Proofs.YtkkklfikdoibcaaGreatDoor
open Go.RowKit
set_option maxRecDepth 100000

theorem digit_d (xs : List Nat) (i d : Nat) (h : xs.getD i 0 = d) (w : World) (v : Value) (hv : Sl eI w v xs) :
    Calls Tryz.prog 226 #[v, .int .i64 i] w fun e w' => e = .returned (.int .i64 (d : Nat)) ∧ w' = w := by
  have := digit_q w v xs i hv; rwa [h] at this
set_option maxHeartbeats 1000000 in
theorem taken_any (w : World) (x y : Value) (m n : Nat) (hx : Sl eI w x (digs 10 m)) (hy : Sl eI w y (digs 10 n)) (hl : (digs 10 m).length ≤ 1000000) (hmn : n ≤ m) :
    Calls Tryz.prog 194 #[x, y] w (Rets fun v w' => Sl eI w' v (digs 10 (m - n)) ∧ Below w.heap.size w w') := by
  have hle := digs_len_mono 10 (by omega) hmn
  have ba := digs_lt 10 m (by omega)
  have bb := digs_lt 10 n (by omega)
  have va := val_digs 10 m (by omega)
  have vb := val_digs 10 n (by omega)
  generalize digs 10 m = xs at *
  generalize digs 10 n = ys at *
  have HX := Lib.hid hx; have HY := Lib.hid hy
  obtain ⟨ad, bl, o, c, rfl, hi, hp, -, -⟩ := hx.open elemInt
  obtain ⟨a', b', o', c', rfl, hi', hq, -, -⟩ := hy.open elemInt
  have BX := Lib.hid ba; have BY := Lib.hid bb; have VA := Lib.hid va; have VB := Lib.hid vb; have HLE := Lib.hid hle; have HMN := Lib.hid hmn
  clear ba bb va vb hx hy hle hq hi' hmn
  go_enter Tryz.func194, Tryz.ntmps194
  go_wp2
  go_loopw [5, 6, 7] (fun out bw i wr => ∃ (k c : Nat) (os : List Nat), k ≤ xs.length ∧ i = .int .i64 k ∧ bw = .int .i64 c ∧ c ≤ 1 ∧ Hid (os.length = k) ∧ Hid (∀ a ∈ os, a < 10) ∧
      Hid (val 10 (xs.take k) + 10 ^ k * c = val 10 os + val 10 (ys.take k)) ∧ wr.ownsRow w.heap.size 3 1 out os.length (os.map eI) ∧ Below w.heap.size w wr) (fun _ _ i _ => xs.length - (intOf i).toNat)
  case atStart => exact ⟨0, 0, [], by omega, rfl, rfl, by omega, Lib.hid rfl, Lib.hid (by simp), Lib.hid (by simp [val]), World.ownsRow_nil _ _ _ _, Below.refl _ _⟩
  case round =>
    obtain ⟨k, cy, os, hk, rfl, rfl, hcy, hol, hos, hv, hown, hb⟩ := hrel
    have hbs := hb.size
    by_cases hlt : k < xs.length
    · have hbp := BX.out xs[k] (List.getElem_mem hlt)
      have h1 : wr.cell? ⟨bl, o + k, none⟩ = some (.int .i64 (xs[k] : Nat)) := hp.at hb (Nat.le_refl _) k hlt
      have hgx : xs.getD k 0 = xs[k] := by simp [hlt]
      obtain ⟨d, hd⟩ : ∃ d, d = xs[k] := ⟨_, rfl⟩
      obtain ⟨d', hd'⟩ : ∃ d, ys.getD k 0 = d := ⟨_, rfl⟩
      have hdl' : d' < 10 := by rw [← hd']; exact getD_lt BY.out (by omega)
      rw [← hd] at h1 hbp hgx
      have HGX := Lib.hid hgx
      have HD' := Lib.hid hd'
      have HDG := Lib.hid (digit_d ys k d' hd')
      have hol2 : os.length ≤ 1000000 := by rw [hol.out]; omega
      clear hd hd' hgx
      have hbk := hb
      by_cases hneg : d < cy + d'
      · have HR := Lib.hid (less_step 10 xs ys os k cy (d + 10 - cy - d') 1 hol.out hos.out hv.out (by omega) (by rw [HGX.out, HD'.out]; omega))
        go_wp2
        go_quiet ((go_at_call 226; exact Calls.quiet_of_same (HDG.out _ _ (HY.out.below (below_drewN hb _) (Nat.le_refl _)))))
        have hbk := below_drewN hb nq
        have hok := own_drewN hown nq
        have hbs2 : w.heap.size ≤ (wr.drewN nq).heap.size := hbk.size
        clear hown hb hbs
        go_wp2_with (at_builtin; refine app1 elemInt rfl _ _ rfl rfl rfl hok hbk (Nat.le_refl _) hbs2 rfl (by simp [Value.oneCell']) (by omega) (by unfold maxLen; omega) ?_; intro v' w2 hown' hb')
        have ev : (d : Int) - d' - cy + 10 = ((d + 10 - cy - d' : Nat) : Int) := by omega
        rw [ev] at hown'
        go_roundw
        case rel => exact ⟨k + 1, 1, os ++ [d + 10 - cy - d'], by omega, by go_num, rfl, by omega, Lib.hid (by simp [hol.out]), Lib.hid HR.out.2.1, Lib.hid HR.out.2.2, by simpa [eI] using hown', hb'⟩
        case measure => simp [intOf]; omega
      · have HR := Lib.hid (less_step 10 xs ys os k cy (d - cy - d') 0 hol.out hos.out hv.out (by omega) (by rw [HGX.out, HD'.out]; omega))
        go_wp2
        go_quiet ((go_at_call 226; exact Calls.quiet_of_same (HDG.out _ _ (HY.out.below (below_drewN hb _) (Nat.le_refl _)))))
        have hbk := below_drewN hb nq
        have hok := own_drewN hown nq
        have hbs2 : w.heap.size ≤ (wr.drewN nq).heap.size := hbk.size
        clear hown hb hbs
        go_wp2_with (at_builtin; refine app1 elemInt rfl _ _ rfl rfl rfl hok hbk (Nat.le_refl _) hbs2 rfl (by simp [Value.oneCell']) (by omega) (by unfold maxLen; omega) ?_; intro v' w2 hown' hb')
        have ev : (d : Int) - d' - cy = ((d - cy - d' : Nat) : Int) := by omega
        rw [ev] at hown'
        go_roundw
        case rel => exact ⟨k + 1, 0, os ++ [d - cy - d'], by omega, by go_num, rfl, by omega, Lib.hid (by simp [hol.out]), Lib.hid HR.out.2.1, Lib.hid HR.out.2.2, by simpa [eI] using hown', hb'⟩
        case measure => simp [intOf]; omega
    · obtain rfl : k = xs.length := by omega
      have hfin : val 10 os = m - n := by
        have h1 := hv.out
        rw [List.take_of_length_le (Nat.le_refl _), List.take_of_length_le HLE.out, VA.out, VB.out] at h1
        have h2 := val_lt 10 os hos.out
        rw [hol.out] at h2
        have h3 := HMN.out
        rcases (show cy = 0 ∨ cy = 1 by omega) with rfl | rfl <;> omega
      have HF := Lib.hid hfin; clear hfin
      go_wp2_with fail
      refine (cut_any _ _ os (Sl.ofOwns hown)).mono ?_
      rintro e w2 ⟨v2, rfl, hs2, rfl⟩
      have HS2 := Lib.hid hs2; clear hs2
      go_wp2
      go_ret
      exact ⟨_, rfl, by rw [← trim_of 10 os _ (by omega) hos.out HF.out]; exact HS2.out, hb⟩
end Go.Proofs.YtkkklfikdoibcaaGreatDoor

namespace Go.Proofs.YtkkklfikdoibcaaGreatDoor
open Go.RowKit
set_option maxRecDepth 100000

theorem dig_bound {a b c d : Nat} (ha : a < 10) (hb : b < 10) (hc : c < 10) (hd : d < 10) : c + (d + a * b) < 100 ∧ a * b ≤ 81 := by
  have := Nat.mul_le_mul (show a ≤ 9 by omega) (show b ≤ 9 by omega)
  omega
set_option maxHeartbeats 2000000 in
theorem multiplied_any (w : World) (x y : Value) (m n : Nat) (hx : Sl eI w x (digs 10 m)) (hy : Sl eI w y (digs 10 n)) (hl : (digs 10 m).length ≤ 1000000) (hl' : (digs 10 n).length ≤ 1000000) :
    Calls Tryz.prog 195 #[x, y] w (Rets fun v w' => Sl eI w' v (digs 10 (m * n)) ∧ Below w.heap.size w w') := by
  have ba := digs_lt 10 m (by omega)
  have bb := digs_lt 10 n (by omega)
  have va := val_digs 10 m (by omega)
  have vb := val_digs 10 n (by omega)
  generalize digs 10 m = xs at *
  generalize digs 10 n = ys at *
  have HY := Lib.hid hy
  obtain ⟨a, b, o, c, rfl, hi, hp, -, -⟩ := hx.open elemInt
  obtain ⟨a', b', o', c', rfl, hi', hq, -, -⟩ := hy.open elemInt
  have BX := Lib.hid ba; have BY := Lib.hid bb; have VA := Lib.hid va; have VB := Lib.hid vb
  clear ba bb va vb hx hy hq hi'
  go_enter Tryz.func195, Tryz.ntmps195
  go_wp2_with (at_make; refine mkN elemInt rfl _ _ rfl (xs.length + ys.length) rfl rfl (by omega) (by omega) (by omega) (by unfold maxLen; omega) (Below.refl _ _) (Nat.le_refl _) rfl ?_; intro w1 hown hb hb2; clear hb2)
  have hown := ownsRow_cast hown rfl (show List.replicate (xs.length + ys.length) (Value.int .i64 0) = (List.replicate (xs.length + ys.length) 0).map eI by simp [eI])
  go_loopw [6] (fun i wr => ∃ (i' : Nat) (cur : List Nat), i' ≤ xs.length ∧ i = .int .i64 i' ∧ Hid (∀ a ∈ cur, a < 10) ∧ Hid (cur.length = xs.length + ys.length) ∧ Hid (∀ j, i' + ys.length ≤ j → cur.getD j 0 = 0) ∧
      Hid (val 10 cur = val 10 (xs.take i') * val 10 ys) ∧ wr.ownsRow w.heap.size 3 1 (.slice (some ⟨w.heap.size, 0, none⟩) (xs.length + ys.length) (xs.length + ys.length)) (xs.length + ys.length) (cur.map eI) ∧ Below w.heap.size w wr) (fun i _ => xs.length - (intOf i).toNat)
  case atStart =>
    refine ⟨0, _, by omega, rfl, Lib.hid ?_, Lib.hid ?_, Lib.hid ?_, Lib.hid ?_, hown, hb⟩
    · intro a ha; rw [List.eq_of_mem_replicate ha]; omega
    · simp
    · intro j hj; rw [List.getD_eq_getElem?_getD, List.getElem?_replicate]; split <;> rfl
    · have : ∀ n, val 10 (List.replicate n 0) = 0 := fun n => by induction n with
        | zero => rfl
        | succ n ih => rw [List.replicate_succ, val, ih]
      rw [this]; simp [val]
  case round =>
    clear hown hb
    obtain ⟨i', cur, hi0, rfl, HC, HL, HZ, HV, hown, hb⟩ := hrel
    by_cases hlt : i' < xs.length
    · have hbp := BX.out xs[i'] (List.getElem_mem hlt)
      have hgx : Hid (xs.getD i' 0 = xs[i']) := Lib.hid (by simp [hlt])
      go_wp2
      go_loopw [7, 8] (fun cy k wr => ∃ (k' c : Nat) (cur : List Nat), k' ≤ ys.length + 1 ∧ k = .int .i64 k' ∧ cy = .int .i64 c ∧ c < 10 ∧ Hid (k' = ys.length + 1 → c = 0) ∧ Hid (∀ a ∈ cur, a < 10) ∧ Hid (cur.length = xs.length + ys.length) ∧ Hid (∀ j, i' + max k' ys.length ≤ j → cur.getD j 0 = 0) ∧
        Hid (val 10 cur + 10 ^ (i' + k') * c = val 10 (xs.take i') * val 10 ys + 10 ^ i' * (xs.getD i' 0 * val 10 (ys.take k'))) ∧
        wr.ownsRow w.heap.size 3 1 (.slice (some ⟨w.heap.size, 0, none⟩) (xs.length + ys.length) (xs.length + ys.length)) (xs.length + ys.length) (cur.map eI) ∧ Below w.heap.size w wr) (fun _ k _ => ys.length + 2 - (intOf k).toNat)
      case atStart => exact ⟨0, 0, cur, by omega, rfl, rfl, by omega, Lib.hid (fun _ => rfl), HC, HL, Lib.hid (by simpa using HZ.out), Lib.hid (by rw [HV.out]; simp [val]), hown, hb⟩
      case round =>
        clear hown hb HC HL HZ HV
        obtain ⟨k', cy, cur, hk0, rfl, rfl, hcy, hend, HC, HL, HZ, HV, hown, hb⟩ := hrel
        by_cases hgo : k' < ys.length ∨ 0 < cy
        · have hk1 : k' ≤ ys.length := by
            rcases hgo with h | h
            · omega
            · rcases Nat.lt_or_ge ys.length k' with h2 | h2
              · have := hend.out (by omega); omega
              · exact h2
          have hik : i' + k' < cur.length := by rw [HL.out]; omega
          have hcu : wr.cell? ⟨w.heap.size, i' + k', none⟩ = some (.int .i64 (cur[i' + k'] : Nat)) := (own_get hown hik).1
          have hc1 : wr.cell? ⟨b, o + i', none⟩ = some (.int .i64 (xs[i'] : Nat)) := hp.at hb (Nat.le_refl _) i' hlt
          have hbc := HC.out cur[i' + k'] (List.getElem_mem hik)
          have hgc : cur.getD (i' + k') 0 = cur[i' + k'] := by simp [hik]
          obtain ⟨d, hd⟩ : ∃ d, ys.getD k' 0 = d := ⟨_, rfl⟩
          have hbq : d < 10 := by rw [← hd]; exact getD_lt BY.out (by omega)
          have HDG := Lib.hid (digit_d ys k' d hd)
          obtain ⟨xa, hxa⟩ : ∃ d, d = xs[i'] := ⟨_, rfl⟩
          obtain ⟨u, hu⟩ : ∃ d, d = cur[i' + k'] := ⟨_, rfl⟩
          rw [← hu] at hcu hbc hgc
          have hxb : xa < 10 := by rw [hxa]; exact hbp
          rw [← hxa] at hc1
          have hbd := dig_bound hxb hbq hcy hbc
          have hm1 : (xa : Int) * (d : Int) ≤ 81 := by have := hbd.2; rw [← Int.natCast_mul]; omega
          have hm0 : 0 ≤ (xa : Int) * (d : Int) := by rw [← Int.natCast_mul]; omega
          have hs99 := hbd.1
          have HS : Hid ((∀ a ∈ cur.set (i' + k') ((cy + (u + xa * d)) % 10), a < 10) ∧ (cur.set (i' + k') ((cy + (u + xa * d)) % 10)).length = xs.length + ys.length ∧ (∀ j, i' + max (k' + 1) ys.length ≤ j → (cur.set (i' + k') ((cy + (u + xa * d)) % 10)).getD j 0 = 0) ∧
              val 10 (cur.set (i' + k') ((cy + (u + xa * d)) % 10)) + 10 ^ (i' + (k' + 1)) * ((cy + (u + xa * d)) / 10) = val 10 (xs.take i') * val 10 ys + 10 ^ i' * (xs.getD i' 0 * val 10 (ys.take (k' + 1))) ∧ (k' + 1 = ys.length + 1 → (cy + (u + xa * d)) / 10 = 0)) := Lib.hid (by
            have hgx' := hgx.out
            rw [← hxa] at hgx'
            rcases Nat.lt_or_ge k' ys.length with h | h
            · have hz : ∀ j, i' + ys.length ≤ j → cur.getD j 0 = 0 := fun j hj => HZ.out j (by omega)
              have := times_step 10 xs ys cur i' k' cy (cy + (u + xa * d)) HC.out HL.out hlt h hz (by omega) HV.out (by rw [hgc, hgx', hd]; omega)
              exact ⟨this.1, this.2.1, fun j hj => this.2.2.1 j (by omega), this.2.2.2, fun h2 => by omega⟩
            · obtain rfl : k' = ys.length := by omega
              have hz : ∀ j, i' + ys.length ≤ j → cur.getD j 0 = 0 := fun j hj => HZ.out j (by omega)
              have hd0 : d = 0 := by rw [← hd, List.getD_eq_getElem?_getD, List.getElem?_eq_none (Nat.le_refl _)]; rfl
              have hu0 : u = 0 := by rw [← hgc]; exact hz _ (Nat.le_refl _)
              have hs : cy + (u + xa * d) = cy := by rw [hd0, hu0]; omega
              have hv2 := HV.out
              rw [List.take_of_length_le (Nat.le_refl _)] at hv2
              have := times_row 10 xs ys cur i' cy HC.out HL.out hlt hcy hz hv2
              rw [hs, Nat.mod_eq_of_lt hcy, Nat.div_eq_of_lt hcy]
              refine ⟨this.1, this.2.1, fun j hj => this.2.2.1 j (by omega), ?_, fun _ => rfl⟩
              rw [this.2.2.2, List.take_of_length_le (l := ys) (by omega), Nat.mul_zero, Nat.add_zero, val_take_succ, Nat.add_mul, Nat.mul_assoc])
          have hcu1 : ∀ n, ((wr.drewN n).cell? ⟨w.heap.size, i' + k', none⟩ = some (.int .i64 (u : Nat))) := fun n => hcu
          clear hd hgc hu hxa hbd hbp hbc
          rcases (show k' < ys.length ∨ (¬ k' < ys.length ∧ 0 < cy) by omega) with h1 | ⟨h1, h2⟩
          all_goals
            clear hgo
            go_wp2
            go_quiet ((go_at_call 226; exact Calls.quiet_of_same (HDG.out _ _ (HY.out.below (below_drewN hb _) (Nat.le_refl _)))))
            have hbk := below_drewN hb nq
            have hok := own_drewN hown nq
            have hfr : (wr.drewN nq).frozen? ⟨w.heap.size, i' + k', none⟩ = false := (own_get hok hik).2
            have hcq := hcu1 nq
            have HOK := Lib.hid hok; have HBK := Lib.hid hbk
            clear hown hb hcu1 hok hbk
            go_wp2
            go_roundw
            case rel =>
              have R := fun (q : Value) (hq : q = eI _) => own_put HOK.out HBK.out (Nat.le_refl _) (i' + k') ((cy + (u + xa * d)) % 10) q hq
              exact ⟨k' + 1, (cy + (u + xa * d)) / 10, _, by omega, by go_num, congrArg (Value.int .i64) (by rw [Int.natCast_ediv]; simp), by omega, Lib.hid HS.out.2.2.2.2, Lib.hid HS.out.1, Lib.hid HS.out.2.1, Lib.hid HS.out.2.2.1, Lib.hid HS.out.2.2.2.1, (R _ (congrArg (Value.int .i64) (by rw [Int.natCast_emod]; simp))).1, (R _ (congrArg (Value.int .i64) (by rw [Int.natCast_emod]; simp))).2⟩
            case measure => simp [intOf]; omega
        · have hc0 : cy = 0 := by omega
          subst hc0
          have h1 : ¬ k' < ys.length := by omega
          have hv2 : val 10 cur = val 10 (xs.take (i' + 1)) * val 10 ys := by
            have := HV.out
            rw [List.take_of_length_le (l := ys) (by omega), Nat.mul_zero, Nat.add_zero] at this
            rw [this, val_take_succ, Nat.add_mul, Nat.mul_assoc]
          have HV2 := Lib.hid hv2
          clear hv2 hgo
          go_wp2
          go_roundw
          case rel => exact ⟨i' + 1, cur, by omega, by go_num, HC, HL, Lib.hid (fun j hj => HZ.out j (by omega)), HV2, hown, hb⟩
          case measure => simp [intOf]; omega
    · obtain rfl : i' = xs.length := by omega
      go_wp2_with fail
      refine (cut_any _ _ cur (Sl.ofOwns hown)).mono ?_
      rintro e w2 ⟨v2, rfl, hs2, rfl⟩
      have HS2 := Lib.hid hs2; clear hs2
      go_wp2
      go_ret
      refine ⟨_, rfl, ?_, hb⟩
      rw [← trim_of 10 cur _ (by omega) HC.out (by rw [HV.out, List.take_of_length_le (Nat.le_refl _), VA.out, VB.out])]
      exact HS2.out
end Go.Proofs.YtkkklfikdoibcaaGreatDoor

namespace Go.Proofs.YtkkklfikdoibcaaGreatDoor
open Go.RowKit
set_option maxRecDepth 100000

theorem chkD_bad (d : List UInt8) (m : Bool) (x : UInt8) (hx : x ∈ d) (h : isDig x = false) : chkD d m = 3 := by
  unfold chkD; rw [if_pos]
  rw [List.all_eq_false]; exact ⟨x, hx, by simp [h]⟩
theorem chkD_lead (t : List UInt8) (m : Bool) (ht : 0 < t.length) : chkD (48 :: t) m = 3 := by
  cases h : (48 :: t : List UInt8).all isDig
  · unfold chkD; rw [if_pos h]
  · rw [chkD_cons _ _ _ h, if_pos ⟨rfl, .inl ht⟩]
theorem chkD_good (x : UInt8) (t : List UInt8) (m : Bool) (h : (x :: t).all isDig = true) (h1 : ¬ (x = 48 ∧ 0 < t.length)) (h2 : m = true → x :: t ≠ [48]) : chkD (x :: t) m = if 1023 < t.length then 11 else 0 := by
  rw [chkD_cons _ _ _ h, if_neg]
  rintro ⟨e, h3⟩
  have e2 : x = 48 := UInt8.toNat_inj.1 e
  rcases h3 with h3 | h3
  · exact h1 ⟨e2, h3⟩
  · refine h2 h3 ?_
    subst e2
    cases t with
    | nil => rfl
    | cons c t => exact absurd ⟨rfl, by simp⟩ h1

end Go.Proofs.YtkkklfikdoibcaaGreatDoor

namespace Go.Proofs.YtkkklfikdoibcaaGreatDoor
open Go.RowKit
set_option maxRecDepth 100000

/-- How many digits an integer has, none for 0. -/
def dn (z : Int) : Nat := (digs 10 z.natAbs).length
theorem itoa_len (z : Int) : (Lib.itoa z).length ≤ dn z + 2 := by
  have h : (Lib.decDigits z.natAbs).length ≤ dn z + 1 := by
    unfold dn
    rcases Nat.eq_zero_or_pos z.natAbs with h | h
    · rw [h, digs_zero, Lib.decDigits_one (by omega)]; simp
    · rw [digs10_len_eq _ h]; omega
  rw [itoa_cases]; split
  · rw [List.length_cons]; omega
  · omega
theorem dn_neg (z : Int) : dn (-z) = dn z := by unfold dn; rw [Int.natAbs_neg]
theorem dn_add (x y : Int) : dn (x + y) ≤ max (dn x) (dn y) + 1 := by
  unfold dn
  exact Nat.le_trans (digs_len_mono _ (by omega) (Int.natAbs_add_le x y)) (digs_len_add _ _ _ (by omega))
theorem dn_sub (x y : Int) : dn (x - y) ≤ max (dn x) (dn y) + 1 := by rw [Int.sub_eq_add_neg]; have := dn_add x (-y); rwa [dn_neg] at this
theorem dn_mul (x y : Int) : dn (x * y) ≤ dn x + dn y := by unfold dn; rw [Int.natAbs_mul]; exact digs_len_mul _ _ _ (by omega)
theorem Good.dn {s : ByteArray} {z : Int} (h : Good s z) : dn z ≤ 1024 := Nat.le_trans (digs10_len _) h.dec

theorem sg_self (z : Int) : sg (decide (z < 0)) z.natAbs = z := by by_cases h : z < 0 <;> simp [sg, h] <;> omega
theorem sg_not (z : Int) : sg (!decide (z < 0)) z.natAbs = -z := by by_cases h : z < 0 <;> simp [sg, h] <;> omega
set_option maxHeartbeats 400000 in
theorem Turned_any (w : World) (z : Int) (hz : dn z ≤ 100000) :
    Calls Tryz.prog 154 #[.string (txt z)] w (Rets fun v w' => v = .string (txt (-z)) ∧ Below w.heap.size w w') := by
  have hl := itoa_len z
  have HL := Lib.hid hl; have HZ := Lib.hid hz
  have HS := Lib.hid (sg_not z)
  clear hl hz
  go_enter Tryz.func154, Tryz.ntmps154
  go_wp2_with (first
    | (go_at_call 190; (with_reducible refine (digits_any _ z (by have := HL.out; have := HZ.out; omega)).mono ?_); rintro e w1 ⟨v, rfl, hs1, hb1⟩; have HS1 := Lib.hid hs1; clear hs1)
    | (go_at_call 191; (with_reducible refine (Minus_any _ z).mono ?_); rintro e w2 ⟨v, rfl, rfl, rfl⟩)
    | (go_at_call 187; (with_reducible refine (rtext_any _ _ z.natAbs (!decide (z < 0)) HS1.out (by have := HZ.out; unfold dn at this; omega)).mono ?_); rintro e w3 ⟨v, rfl, rfl, hb3⟩; rw [HS.out]))
  go_ret
  exact ⟨_, rfl, rfl, hb1.trans (hb3.mono hb1.size)⟩

theorem below4 {w w1 w2 w3 w4 w5 : World} (h1 : Below w.heap.size w w1) (h2 : Below w1.heap.size w1 w2) (h3 : Below w2.heap.size w2 w3) (h4 : Below w3.heap.size w3 w4) (h5 : Below w4.heap.size w4 w5) : Below w.heap.size w w5 :=
  have s1 := h1.size
  have s2 := Nat.le_trans s1 h2.size
  have s3 := Nat.le_trans s2 h3.size
  have s4 := Nat.le_trans s3 h4.size
  (((h1.trans (h2.mono s1)).trans (h3.mono s2)).trans (h4.mono s3)).trans (h5.mono s4)
set_option maxHeartbeats 1000000 in
theorem Plus_any (w : World) (x y : Int) (hx : dn x ≤ 100000) (hy : dn y ≤ 100000) :
    Calls Tryz.prog 148 #[.string (txt x), .string (txt y)] w (Rets fun v w' => v = .string (txt (x + y)) ∧ Below w.heap.size w w') := by
  have hl := itoa_len x
  have hl' := itoa_len y
  have HL := Lib.hid hl; have HL' := Lib.hid hl'; have HX := Lib.hid hx; have HY := Lib.hid hy
  clear hl hl' hx hy
  by_cases hs : decide (x < 0) = decide (y < 0)
  · have HS := Lib.hid (natCmp x y hs)
    obtain ⟨m, hm⟩ : ∃ m, decide (x < 0) = m := ⟨_, rfl⟩
    have hm' : decide (y < 0) = m := by rw [← hs, hm]
    have HM := Lib.hid hm; have HM' := Lib.hid hm'
    have HS2 : Hid (sg m (x.natAbs + y.natAbs) = x + y) := Lib.hid (by rw [← hm]; exact HS.out)
    have hmm : (m == m) = true := by simp
    clear hs hm hm'
    go_enter Tryz.func148, Tryz.ntmps148
    go_wp2_with (first
      | (go_at_call_of 190 (Value.string (txt x)); (with_reducible refine (digits_any _ x (by have := HL.out; have := HX.out; omega)).mono ?_); rintro e w1 ⟨v1, rfl, hs1, hb1⟩; have HS1 := Lib.hid hs1; clear hs1)
      | (go_at_call_of 190 (Value.string (txt y)); (with_reducible refine (digits_any _ y (by have := HL'.out; have := HY.out; omega)).mono ?_); rintro e w2 ⟨v2, rfl, hs2, hb2⟩; have HS2' := Lib.hid hs2; clear hs2)
      | (go_at_call_of 191 (Value.string (txt x)); (with_reducible refine (Minus_any _ x).mono ?_); rintro e w3 ⟨v, rfl, rfl, rfl⟩; rw [HM.out])
      | (go_at_call_of 191 (Value.string (txt y)); (with_reducible refine (Minus_any _ y).mono ?_); rintro e w3 ⟨v, rfl, rfl, rfl⟩; rw [HM'.out])
      | (go_at_call 192; (with_reducible refine (added_any _ _ _ x.natAbs y.natAbs (HS1.out.below hb2 (Nat.le_refl _)) HS2'.out (by have := HX.out; unfold dn at this; omega) (by have := HY.out; unfold dn at this; omega)).mono ?_); rintro e w4 ⟨v4, rfl, hs4, hb4⟩; have HS4 := Lib.hid hs4; clear hs4)
      | (go_at_call 187; (with_reducible refine (rtext_any _ _ (x.natAbs + y.natAbs) m HS4.out (by have h1 := HX.out; have h2 := HY.out; have := digs_len_add 10 x.natAbs y.natAbs (by omega); unfold dn at h1 h2; omega)).mono ?_); rintro e w5 ⟨v, rfl, rfl, hb5⟩; rw [HS2.out]))
    go_ret
    exact ⟨_, rfl, rfl, ((hb1.trans (hb2.mono hb1.size)).trans (hb4.mono (Nat.le_trans hb1.size hb2.size))).trans (hb5.mono (Nat.le_trans (Nat.le_trans hb1.size hb2.size) hb4.size))⟩
  · obtain ⟨m, hm⟩ : ∃ m, decide (x < 0) = m := ⟨_, rfl⟩
    have hm' : decide (y < 0) = !m := by rw [← hm]; cases h1 : decide (x < 0) <;> cases h2 : decide (y < 0) <;> simp_all
    have HM := Lib.hid hm; have HM' := Lib.hid hm'
    have hmm : (m == !m) = false := by cases m <;> rfl
    by_cases hlt : x.natAbs < y.natAbs
    · have HS2 : Hid (sg (!m) (y.natAbs - x.natAbs) = x + y) := Lib.hid (by rw [← hm']; exact natCmp3 x y hs (by omega))
      have ho : ((x.natAbs : Int) - (y.natAbs : Int)).sign = -1 := order_lt hlt
      have HO := Lib.hid ho; have HLT := Lib.hid hlt
      clear hs hm hm' ho hlt
      go_enter Tryz.func148, Tryz.ntmps148
      go_wp2_with (first
        | (go_at_call_of 190 (Value.string (txt x)); (with_reducible refine (digits_any _ x (by have := HL.out; have := HX.out; omega)).mono ?_); rintro e w1 ⟨v1, rfl, hs1, hb1⟩; have HS1 := Lib.hid hs1; clear hs1)
        | (go_at_call_of 190 (Value.string (txt y)); (with_reducible refine (digits_any _ y (by have := HL'.out; have := HY.out; omega)).mono ?_); rintro e w2 ⟨v2, rfl, hs2, hb2⟩; have HS2' := Lib.hid hs2; clear hs2)
        | (go_at_call_of 191 (Value.string (txt x)); (with_reducible refine (Minus_any _ x).mono ?_); rintro e w3 ⟨v, rfl, rfl, rfl⟩; rw [HM.out])
        | (go_at_call_of 191 (Value.string (txt y)); (with_reducible refine (Minus_any _ y).mono ?_); rintro e w3 ⟨v, rfl, rfl, rfl⟩; rw [HM'.out])
        | (go_at_call 193; (with_reducible refine (rorder_any _ _ _ x.natAbs y.natAbs (HS1.out.below hb2 (Nat.le_refl _)) HS2'.out (by have := HX.out; unfold dn at this; omega)).mono ?_); rintro e w4 ⟨v, rfl, rfl, hb4⟩; rw [HO.out])
        | (go_at_call 194; (with_reducible refine (taken_any _ _ _ y.natAbs x.natAbs (HS2'.out.below hb4 (Nat.le_refl _)) ((HS1.out.below hb2 (Nat.le_refl _)).below hb4 (Nat.le_refl _)) (by have := HY.out; unfold dn at this; omega) (by have := HLT.out; omega)).mono ?_); rintro e w5 ⟨v5, rfl, hs5, hb5⟩; have HS5 := Lib.hid hs5; clear hs5)
        | (go_at_call 187; (with_reducible refine (rtext_any _ _ (y.natAbs - x.natAbs) (!m) HS5.out (by have h1 := HY.out; have := digs_len_mono 10 (by omega) (Nat.sub_le y.natAbs x.natAbs); unfold dn at h1; omega)).mono ?_); rintro e w6 ⟨v, rfl, rfl, hb6⟩; rw [HS2.out]))
      go_ret
      exact ⟨_, rfl, rfl, below4 hb1 hb2 hb4 hb5 hb6⟩
    · have HS2 : Hid (sg m (x.natAbs - y.natAbs) = x + y) := Lib.hid (by rw [← hm]; exact natCmp2 x y hs (by omega))
      have ho : ¬ ((x.natAbs : Int) - (y.natAbs : Int)).sign < 0 := by
        rcases Nat.lt_or_ge y.natAbs x.natAbs with h | h
        · rw [order_gt h]; omega
        · rw [order_eq (by omega)]; omega
      obtain ⟨r, hr⟩ : ∃ r, ((x.natAbs : Int) - (y.natAbs : Int)).sign = r := ⟨_, rfl⟩
      rw [hr] at ho
      have HO := Lib.hid hr; have HLT := Lib.hid hlt
      clear hs hm hm' hr hlt
      go_enter Tryz.func148, Tryz.ntmps148
      go_wp2_with (first
        | (go_at_call_of 190 (Value.string (txt x)); (with_reducible refine (digits_any _ x (by have := HL.out; have := HX.out; omega)).mono ?_); rintro e w1 ⟨v1, rfl, hs1, hb1⟩; have HS1 := Lib.hid hs1; clear hs1)
        | (go_at_call_of 190 (Value.string (txt y)); (with_reducible refine (digits_any _ y (by have := HL'.out; have := HY.out; omega)).mono ?_); rintro e w2 ⟨v2, rfl, hs2, hb2⟩; have HS2' := Lib.hid hs2; clear hs2)
        | (go_at_call_of 191 (Value.string (txt x)); (with_reducible refine (Minus_any _ x).mono ?_); rintro e w3 ⟨v, rfl, rfl, rfl⟩; rw [HM.out])
        | (go_at_call_of 191 (Value.string (txt y)); (with_reducible refine (Minus_any _ y).mono ?_); rintro e w3 ⟨v, rfl, rfl, rfl⟩; rw [HM'.out])
        | (go_at_call 193; (with_reducible refine (rorder_any _ _ _ x.natAbs y.natAbs (HS1.out.below hb2 (Nat.le_refl _)) HS2'.out (by have := HX.out; unfold dn at this; omega)).mono ?_); rintro e w4 ⟨v, rfl, rfl, hb4⟩; rw [HO.out])
        | (go_at_call 194; (with_reducible refine (taken_any _ _ _ x.natAbs y.natAbs ((HS1.out.below hb2 (Nat.le_refl _)).below hb4 (Nat.le_refl _)) (HS2'.out.below hb4 (Nat.le_refl _)) (by have := HX.out; unfold dn at this; omega) (by have := HLT.out; omega)).mono ?_); rintro e w5 ⟨v5, rfl, hs5, hb5⟩; have HS5 := Lib.hid hs5; clear hs5)
        | (go_at_call 187; (with_reducible refine (rtext_any _ _ (x.natAbs - y.natAbs) m HS5.out (by have h1 := HX.out; have := digs_len_mono 10 (by omega) (Nat.sub_le x.natAbs y.natAbs); unfold dn at h1; omega)).mono ?_); rintro e w6 ⟨v, rfl, rfl, hb6⟩; rw [HS2.out]))
      go_ret
      exact ⟨_, rfl, rfl, below4 hb1 hb2 hb4 hb5 hb6⟩
end Go.Proofs.YtkkklfikdoibcaaGreatDoor
namespace Go.Proofs.YtkkklfikdoibcaaGreatDoor
open Go.RowKit
set_option maxRecDepth 100000

set_option maxHeartbeats 1000000 in
theorem Times_any (w : World) (x y : Int) (hx : dn x ≤ 100000) (hy : dn y ≤ 100000) :
    Calls Tryz.prog 149 #[.string (txt x), .string (txt y)] w (Rets fun v w' => v = .string (txt (x * y)) ∧ Below w.heap.size w w') := by
  have hl := itoa_len x
  have hl' := itoa_len y
  have HL1 := Lib.hid hl; have HL2 := Lib.hid hl'; have HX1 := Lib.hid hx; have HX2 := Lib.hid hy
  clear hl hl' hx hy
  have hsg := sg_mul x y
  obtain ⟨m, hm⟩ : ∃ m, decide (x < 0) = m := ⟨_, rfl⟩
  obtain ⟨m', hm'⟩ : ∃ m, decide (y < 0) = m := ⟨_, rfl⟩
  rw [hm, hm'] at hsg
  have HM := Lib.hid hm; have HM' := Lib.hid hm'
  have HS : Hid (sg (!(m == m')) (x.natAbs * y.natAbs) = x * y) := Lib.hid hsg
  clear hm hm' hsg
  go_enter Tryz.func149, Tryz.ntmps149
  go_wp2_with (first
    | (go_at_call_of 190 (Value.string (txt x)); (with_reducible refine (digits_any _ x (by have := HL1.out; have := HX1.out; omega)).mono ?_); rintro e w1 ⟨v1, rfl, hs1, hb1⟩; have HS1 := Lib.hid hs1; clear hs1)
    | (go_at_call_of 190 (Value.string (txt y)); (with_reducible refine (digits_any _ y (by have := HL2.out; have := HX2.out; omega)).mono ?_); rintro e w2 ⟨v2, rfl, hs2, hb2⟩; have HS2 := Lib.hid hs2; clear hs2)
    | (go_at_call 195; (with_reducible refine (multiplied_any _ _ _ x.natAbs y.natAbs (HS1.out.below hb2 (Nat.le_refl _)) HS2.out (by have := HX1.out; unfold dn at this; omega) (by have := HX2.out; unfold dn at this; omega)).mono ?_); rintro e w4 ⟨v4, rfl, hs4, hb4⟩; have HS4 := Lib.hid hs4; clear hs4)
    | (go_at_call_of 191 (Value.string (txt x)); (with_reducible refine (Minus_any _ x).mono ?_); rintro e w3 ⟨v, rfl, rfl, rfl⟩; rw [HM.out])
    | (go_at_call_of 191 (Value.string (txt y)); (with_reducible refine (Minus_any _ y).mono ?_); rintro e w3 ⟨v, rfl, rfl, rfl⟩; rw [HM'.out])
    | (go_at_call 187; refine (rtext_any _ _ (x.natAbs * y.natAbs) (!(m == m')) HS4.out (by have h1 := HX1.out; have h2 := HX2.out; have := digs_len_mul 10 x.natAbs y.natAbs (by omega); unfold dn at h1 h2; omega)).mono ?_; rintro e w5 ⟨v, rfl, rfl, hb5⟩; rw [HS.out]))
  go_ret
  exact ⟨_, rfl, rfl, ((hb1.trans (hb2.mono hb1.size)).trans (hb4.mono (Nat.le_trans hb1.size hb2.size))).trans (hb5.mono (Nat.le_trans (Nat.le_trans hb1.size hb2.size) hb4.size))⟩

theorem itoa0 : Lib.itoa 0 = [48] := by rw [itoa_cases, if_neg (by omega), show Int.natAbs 0 = 0 from rfl, Lib.decDigits_one (by omega)]; rfl
theorem txt0 : txt 0 = ⟨#[48]⟩ := by unfold txt; rw [itoa0]
theorem txt_list (z : Int) : (txt z).toList = Lib.itoa z := by rw [ByteArray.toList_eq]; rfl
theorem txt_ne0 {z : Int} (h : z ≠ 0) : ((txt z).toList == [48]) = false := by
  rw [txt_list, ← itoa0]; simp only [beq_eq_false_iff_ne]; exact fun e => h (itoa_inj e)
end Go.Proofs.YtkkklfikdoibcaaGreatDoor

namespace Go.Proofs.YtkkklfikdoibcaaGreatDoor
set_option maxRecDepth 100000

theorem Good.val {s : ByteArray} {z : Int} (h : Good s z) : z = if Lib.hasPrefix s.data.toList [45] then -(dv 0 (Lib.trimPrefix s.data.toList [45]) : Int) else (dv 0 (Lib.trimPrefix s.data.toList [45]) : Int) := by
  rw [h.1, pre_itoa, trim_itoa, dv_dec]
  by_cases hz : z < 0
  · rw [if_pos (by simpa using hz)]; omega
  · rw [if_neg (by simpa using hz)]; omega
theorem good_lit {s : ByteArray} {z : Int} (h : chk s.data.toList = 0) (hz : z = if Lib.hasPrefix s.data.toList [45] then -(dv 0 (Lib.trimPrefix s.data.toList [45]) : Int) else (dv 0 (Lib.trimPrefix s.data.toList [45]) : Int)) : Good s z := by
  obtain ⟨y, hy⟩ := good_of h
  have := hy.val
  rw [← hz] at this
  rwa [this] at hy
theorem g0 : Good ⟨#[48]⟩ 0 := good_lit (by decide) (by decide)
theorem g1 : Good ⟨#[49]⟩ 1 := good_lit (by decide) (by decide)
end Go.Proofs.YtkkklfikdoibcaaGreatDoor

namespace Go.Proofs.YtkkklfikdoibcaaGreatDoor
open Go.RowKit
set_option maxRecDepth 100000

/-- Box g holds the integer z. -/
def NBox (w : World) (g : Nat) (z : Int) : Prop := ∃ m a n c T, Blk w g [.bool m, .slice a n c] T ∧ m = decide (z < 0) ∧ Sl eU w (.slice a n c) (digs 1000000000 z.natAbs)
/-- A box that holds a number, whichever, of whatever type. -/
def Bq (w : World) (g : Nat) : Prop := ∃ p q T, Blk w g [p, q] T ∧ (∀ n, p ≠ eU n) ∧ (∀ n, q ≠ eU n)
theorem Bq.facts {w : World} {g : Nat} (h : Bq w g) : ∃ p q, w.cell? ⟨g, 0, none⟩ = some p ∧ w.cell? ⟨g, 1, none⟩ = some q ∧ w.frozen? ⟨g, 0, none⟩ = false ∧ w.frozen? ⟨g, 1, none⟩ = false := by
  obtain ⟨p, q, T, h, hp, hq⟩ := h; exact ⟨p, q, h.cell 0 _ rfl, h.cell 1 _ rfl, h.free 0, h.free 1⟩
theorem Bq.below {w w' : World} {g B : Nat} (h : Bq w g) (hb : Below B w w') (hB : w.heap.size ≤ B) : Bq w' g := by
  obtain ⟨p, q, T, h, hp, hq⟩ := h; exact ⟨p, q, T, h.below hb hB, hp, hq⟩
theorem NBox.below {w w' : World} {g B : Nat} {z : Int} (h : NBox w g z) (hb : Below B w w') (hB : w.heap.size ≤ B) : NBox w' g z := by
  obtain ⟨m, a, n, c, T, hk, hm, hs⟩ := h
  exact ⟨m, a, n, c, T, hk.below hb hB, hm, hs.below hb hB⟩
theorem NBox.alloc {w : World} {g : Nat} {z : Int} (h : NBox w g z) (o : Obj) : NBox (w.alloc o) g z := h.below ((Below.refl _ w).alloc (Nat.le_refl _) o) (Nat.le_refl _)
theorem NBox.lt {w : World} {g : Nat} {z : Int} (h : NBox w g z) : g < w.heap.size := by obtain ⟨m, a, n, c, T, hk, hm, hs⟩ := h; exact hk.lt
theorem NBox.bx {w : World} {g : Nat} {z : Int} (h : NBox w g z) : Bq w g := by obtain ⟨m, a, n, c, T, hk, hm, hs⟩ := h; exact ⟨_, _, _, hk, by simp [eU], by simp [eU]⟩
/-- What stands in the box, for the walk. -/
theorem NBox.facts {w : World} {g : Nat} {z : Int} (h : NBox w g z) : ∃ m a n c, w.cell? ⟨g, 0, none⟩ = some (.bool m) ∧ w.cell? ⟨g, 1, none⟩ = some (.slice a n c) ∧ w.frozen? ⟨g, 0, none⟩ = false ∧ w.frozen? ⟨g, 1, none⟩ = false ∧ n = wl z ∧ Num w (.agg #[.bool m, .slice a n c]) z := by
  obtain ⟨m, a, n, c, T, hk, hm, hs⟩ := h
  exact ⟨m, a, n, c, hk.cell 0 _ rfl, hk.cell 1 _ rfl, hk.free 0, hk.free 1, hs.len.1, m, a, n, c, rfl, hm, hs⟩
theorem Sl.setBx {w : World} {g : Nat} {v : Value} {xs : List Nat} (h : Sl eU w v xs) (hk : Bq w g) (m : Bool) (a : Option Addr) (n c : Nat) : Sl eU ((w.setCell ⟨g, 0, none⟩ (.bool m)).setCell ⟨g, 1, none⟩ (.slice a n c)) v xs := by
  obtain ⟨p, q, T, hk, hp, hq⟩ := hk
  have h1 := hk.set 0 (.bool m)
  refine (h.set_other hk ?_ _).set_other h1 ?_ _
  · intro x hx; simp at hx; rcases hx with rfl | rfl; exact hp; exact hq
  · intro x hx n; simp at hx; rcases hx with rfl | rfl; simp [eU]; exact hq n
/-- A number stored into another box. -/
theorem NBox.other {w : World} {g g' : Nat} {z : Int} (h : NBox w g z) (hk : Bq w g') (hne : g ≠ g') (m : Bool) (a : Option Addr) (n c : Nat) : NBox ((w.setCell ⟨g', 0, none⟩ (.bool m)).setCell ⟨g', 1, none⟩ (.slice a n c)) g z := by
  obtain ⟨m1, a1, n1, c1, T, hk1, hm, hs⟩ := h
  exact ⟨m1, a1, n1, c1, T, (hk1.setCell hne _).setCell hne _, hm, hs.setBx hk m a n c⟩
/-- A number stored into its box. -/
theorem NBox.self {w : World} {g : Nat} {z : Int} {m : Bool} {a : Option Addr} {n c : Nat} (hk : Bq w g) (hv : Num w (.agg #[.bool m, .slice a n c]) z) : NBox ((w.setCell ⟨g, 0, none⟩ (.bool m)).setCell ⟨g, 1, none⟩ (.slice a n c)) g z := by
  obtain ⟨m1, a1, n1, c1, he, hm, hs⟩ := hv
  cases he
  have h2 := hs.setBx hk m a n c
  obtain ⟨p, q, T, hk, hp, hq⟩ := hk
  exact ⟨m, a, n, c, T, (hk.set 0 (.bool m)).set 1 (.slice a n c), hm, h2⟩
theorem NBox.new {w : World} {z : Int} {m : Bool} {a : Option Addr} {n c : Nat} {T : TypeId} (hv : Num w (.agg #[.bool m, .slice a n c]) z) : NBox (w.alloc (.cells #[.bool m, .slice a n c] T)) w.heap.size z := by
  obtain ⟨m1, a1, n1, c1, he, hm, hs⟩ := hv
  cases he
  exact ⟨m, a, n, c, _, Blk.new w [.bool m, .slice a n c] _, hm, hs.below ((Below.refl _ w).alloc (Nat.le_refl _) _) (Nat.le_refl _)⟩
theorem Num.alloc {w : World} {v : Value} {z : Int} (h : Num w v z) (o : Obj) : Num (w.alloc o) v z := h.below ((Below.refl _ w).alloc (Nat.le_refl _) o) (Nat.le_refl _)
theorem Num.zero (w : World) : Num w (.agg #[.bool false, .slice none 0 0]) 0 := ⟨_, _, _, _, rfl, rfl, by rw [show Int.natAbs 0 = 0 from rfl, digs_zero]; exact Sl.nil⟩
theorem digs_one : digs 1000000000 1 = [1] := by rw [digs_pos _ _ (by omega) (by omega), show 1 / 1000000000 = 0 by omega, digs_zero]
/-- The number 1, its one word just laid. -/
theorem Num.one (w : World) (e : TypeId) : Num (w.alloc (.cells #[.int .u32 1] e)) (.agg #[.bool false, .slice (some ⟨w.heap.size, 0, none⟩) 1 1]) 1 :=
  ⟨_, _, _, _, rfl, rfl, by rw [show Int.natAbs 1 = 1 from rfl, digs_one]; exact Sl.single (enc := eU) w 1 _ rfl _⟩

theorem big_le (a b : Nat) (h : a ≤ 9 * b) : 10 ^ a ≤ 1000000000 ^ b := by
  rw [show (1000000000 : Nat) = 10 ^ 9 from rfl, ← Nat.pow_mul]; exact Nat.pow_le_pow_right (by omega) h
theorem big_of_wl (z : Int) (h : 114 < wl z) : big z = true := by
  cases hb : big z
  · exfalso
    refine absurd h (Nat.not_lt.2 ?_)
    exact (digs_len 1000000000 z.natAbs 114 (by decide)).2 (Nat.lt_of_lt_of_le ((big_iff z).1 hb) (big_le 1024 114 (by decide)))
  · rfl
theorem big_pow (x : Int) (k n : Nat) (hkn : k ≤ n) (h : big (x ^ k) = true) : big (x ^ n) = true := by
  cases hb : big (x ^ n)
  · have h1 := (big_iff _).1 hb
    have h2 : ¬ (x ^ k).natAbs < 10 ^ 1024 := fun h3 => by rw [(big_iff _).2 h3] at h; cases h
    rw [Int.natAbs_pow] at h1 h2
    rcases Nat.eq_zero_or_pos x.natAbs with h0 | h0
    · rw [h0] at h2
      rcases Nat.eq_zero_or_pos k with hk | hk
      · subst hk; rw [Nat.pow_zero] at h2; exact absurd (Nat.one_lt_pow (by omega) (by omega)) h2
      · rw [Nat.zero_pow hk] at h2; exact absurd (Nat.pow_pos (by omega)) h2
    · exact absurd (Nat.lt_of_le_of_lt (Nat.pow_le_pow_right h0 hkn) h1) h2
  · rfl

/-- The boxes of Pow. -/
def PB (w : World) (b : Nat) (x y : Int) (wr : World) : Prop := Below w.heap.size w wr ∧ w.heap.size ≤ b ∧ NBox wr b x ∧ NBox wr (b + 1) y
theorem PB.keep {w w1 w2 : World} {b : Nat} {x y : Int} (h : PB w b x y w1) (hb : Below w1.heap.size w1 w2) : PB w b x y w2 :=
  ⟨h.1.trans (hb.mono h.1.size), h.2.1, h.2.2.1.below hb (Nat.le_refl _), h.2.2.2.below hb (Nat.le_refl _)⟩
theorem PB.store {w w1 : World} {b : Nat} {x y z : Int} {m : Bool} {a : Option Addr} {n c : Nat} (h : PB w b x y w1) (hv : Num w1 (.agg #[.bool m, .slice a n c]) z) : PB w b x z ((w1.setCell ⟨b + 1, 0, none⟩ (.bool m)).setCell ⟨b + 1, 1, none⟩ (.slice a n c)) :=
  ⟨(h.1.setCell (by have := h.2.1; simp; omega) _).setCell (by have := h.2.1; simp; omega) _, h.2.1, h.2.2.1.other h.2.2.2.bx (by omega) m a n c, NBox.self h.2.2.2.bx hv⟩

end Go.Proofs.YtkkklfikdoibcaaGreatDoor
