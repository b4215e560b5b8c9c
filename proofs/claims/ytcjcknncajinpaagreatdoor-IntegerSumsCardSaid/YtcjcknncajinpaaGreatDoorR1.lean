/- Plain facts on decimal digits, the last one first. The walks of the reference's digits of integers. -/
import Derived.Test.YtcjcknncajinpaaGreatDoorIU
namespace Go.Proofs.YtcjcknncajinpaaGreatDoor
open Go.RowKit

/-- The digits in a text, its sign left out. -/
def dl (l : List UInt8) : List Nat := (l.filter (fun c => c != 45)).map (fun c => c.toNat - 48)
theorem dl_nil : dl [] = [] := rfl
theorem dl_minus (l : List UInt8) : dl (45 :: l) = dl l := by simp [dl]
theorem dl_dig (c : UInt8) (l : List UInt8) (h : c ≠ 45) : dl (c :: l) = (c.toNat - 48) :: dl l := by simp [dl, h]
theorem dl_all (l : List UInt8) (h : l.all isDig = true) : dl l = l.map (fun c => c.toNat - 48) := by
  induction l with
  | nil => rfl
  | cons c l ih =>
    simp only [List.all_cons, Bool.and_eq_true] at h
    have hc : c ≠ 45 := by rintro rfl; exact absurd h.1 (by decide)
    rw [dl_dig _ _ hc, ih h.2, List.map_cons]
theorem dl_itoa (z : Int) : dl (Lib.itoa z) = (Lib.decDigits z.natAbs).map (fun c => c.toNat - 48) := by
  rw [itoa_cases]
  split
  · rw [dl_minus, dl_all _ (dec_all _)]
  · rw [dl_all _ (dec_all _)]
theorem val_rev (l : List UInt8) : val 10 ((l.map (fun c => c.toNat - 48)).reverse) = dv 0 l := by
  refine snoc_ind (P := fun l => val 10 ((l.map (fun c => c.toNat - 48)).reverse) = dv 0 l) rfl (fun l c ih => ?_) l
  rw [List.map_append, List.reverse_append, dv_append, dv_cons, dv_nil, ← ih]
  simp only [List.map_cons, List.map_nil, List.reverse_cons, List.reverse_nil, List.nil_append, List.singleton_append, val]
  omega
theorem dl_lt (z : Int) : ∀ d ∈ (dl (Lib.itoa z)).reverse, d < 10 := by
  intro d hd
  rw [List.mem_reverse, dl_itoa] at hd
  obtain ⟨c, hc, rfl⟩ := List.mem_map.1 hd
  have := dec_mem _ c hc
  omega
/-- The digits of an integer's text, without zeros at the end. -/
theorem trim_dl (z : Int) : trim ((dl (Lib.itoa z)).reverse) = digs 10 z.natAbs := by
  refine trim_of 10 _ _ (by omega) (dl_lt z) ?_
  rw [dl_itoa, val_rev, dv_dec]
/-- The bytes of digits, the first one of the text first. -/
def bytesOf (l : List Nat) : List UInt8 := (l.map (fun d => UInt8.ofNat (48 + d))).reverse
theorem bytesOf_nil : bytesOf [] = [] := rfl
theorem bytesOf_snoc (l : List Nat) (d : Nat) : bytesOf (l ++ [d]) = UInt8.ofNat (48 + d) :: bytesOf l := by simp [bytesOf]
theorem bytes_digs (n : Nat) (h : 0 < n) : bytesOf (digs 10 n) = Lib.decDigits n := by
  induction n using Nat.strongRecOn with
  | _ n ih =>
    rw [digs_pos 10 n (by omega) h]
    by_cases hn : n < 10
    · rw [Lib.decDigits_one hn, show n / 10 = 0 by omega, digs_zero, show n % 10 = n by omega]; rfl
    · have e := ih (n / 10) (by omega) (by omega)
      rw [Lib.decDigits, dif_neg hn, ← e]
      simp [bytesOf]
theorem digs10_len (n : Nat) : (digs 10 n).length ≤ (Lib.decDigits n).length := by
  rw [digs_len _ _ _ (by omega)]
  have h := dv_lt _ (dec_all n)
  rwa [dv_dec] at h
theorem digs10_len_eq (n : Nat) (h : 0 < n) : (digs 10 n).length = (Lib.decDigits n).length := by
  rw [← bytes_digs n h]; simp [bytesOf]
/-- What 'result' answers, in two parts. -/
def resT (z : Int) : ByteArray := if big z then ⟨#[]⟩ else txt z
def resK (z : Int) : Int := if big z then 11 else 0
theorem resV_eq (z : Int) : resV z = .tuple #[.string (resT z), .int .i64 (resK z)] := by
  unfold resV resT resK; cases big z <;> rfl
theorem resT_ok {z : Int} (h : big z = false) : resT z = txt z := by unfold resT; rw [h]; rfl
theorem resK_ok {z : Int} (h : big z = false) : resK z = 0 := by unfold resK; rw [h]; rfl
theorem big_digs (z : Int) : big z = decide (1024 < (digs 10 z.natAbs).length) := by
  unfold big
  rcases Nat.eq_zero_or_pos z.natAbs with h | h
  · rw [h, digs_zero, Lib.decDigits_one (by omega)]; rfl
  · rw [digs10_len_eq _ h]
theorem big_iff (z : Int) : big z = false ↔ z.natAbs < 10 ^ 1024 := by
  rw [big_digs, decide_eq_false_iff_not, Nat.not_lt, digs_len _ _ _ (by omega)]
theorem Good.of {z : Int} (h : big z = false) : Good (txt z) z := ⟨rfl, h⟩

/-- One round of the sum of digits: what is left goes on as the digits of a number. -/
theorem added_step (a b : List Nat) (i c : Nat) (os : List Nat) (N : Nat)
    (h : digs 10 N = os ++ digs 10 (c + val 10 (a.drop i) + val 10 (b.drop i))) (hp : 0 < c + val 10 (a.drop i) + val 10 (b.drop i)) :
    digs 10 N = (os ++ [(c + (a.getD i 0 + b.getD i 0)) % 10]) ++ digs 10 ((c + (a.getD i 0 + b.getD i 0)) / 10 + val 10 (a.drop (i + 1)) + val 10 (b.drop (i + 1))) := by
  have key : ∀ l : List Nat, val 10 (l.drop i) = l.getD i 0 + 10 * val 10 (l.drop (i + 1)) := by
    intro l
    by_cases hi : i < l.length
    · rw [List.drop_eq_getElem_cons hi, val]; simp [hi]
    · rw [List.drop_of_length_le (by omega), List.drop_of_length_le (by omega)]; simp [val, List.getElem?_eq_none (Nat.le_of_not_lt hi)]
  rw [h, digs_pos 10 _ (by omega) hp, key a, key b, List.append_assoc]
  congr 1
  have e1 : (c + (a.getD i 0 + 10 * val 10 (a.drop (i + 1))) + (b.getD i 0 + 10 * val 10 (b.drop (i + 1)))) % 10 = (c + (a.getD i 0 + b.getD i 0)) % 10 := by omega
  have e2 : (c + (a.getD i 0 + 10 * val 10 (a.drop (i + 1))) + (b.getD i 0 + 10 * val 10 (b.drop (i + 1)))) / 10 = (c + (a.getD i 0 + b.getD i 0)) / 10 + val 10 (a.drop (i + 1)) + val 10 (b.drop (i + 1)) := by omega
  rw [e1, e2]; rfl
theorem val_digs_drop (n i : Nat) : 0 < val 10 ((digs 10 n).drop i) ↔ i < (digs 10 n).length := by
  have key : ∀ (l : List Nat), l.getLast? ≠ some 0 → l ≠ [] → 0 < val 10 l := by
    intro l
    induction l with
    | nil => intro _ h; exact absurd rfl h
    | cons a l ih =>
      intro h _
      rw [val]
      by_cases hl : l = []
      · subst hl
        have : a ≠ 0 := by simpa using h
        simp [val]; omega
      · have := ih (by rw [List.getLast?_cons] at h; cases hg : l.getLast? with
          | none => simp
          | some b => rw [hg] at h; simpa using h) hl
        omega
  constructor
  · intro h
    rcases Nat.lt_or_ge i (digs 10 n).length with hi | hi
    · exact hi
    · rw [List.drop_of_length_le hi] at h; simp [val] at h
  · intro h
    refine key _ ?_ (by simp; omega)
    have hl := digs_last 10 n (by omega)
    rw [List.getLast?_drop, if_neg (by omega)]
    exact hl
end Go.Proofs.YtcjcknncajinpaaGreatDoor
namespace Go.Proofs.YtcjcknncajinpaaGreatDoor
open Go.RowKit
set_option maxRecDepth 100000

theorem elemInt : ElemOk Tryz.prog 73 3 (.int .i64 0) 1 8 :=
  ⟨Tryz.underlying73, info_parts (by kernel_rfl : (Tryz.prog.info? 3).map (fun i => (i.zero, i.size, i.bytes)) = some (some (.int .i64 0), 1, 8)), rfl, by decide, by kernel_rfl, fun _ => by kernel_rfl⟩

set_option maxHeartbeats 400000 in
theorem cut_any (w : World) (v : Value) (xs : List Nat) (hv : Sl eI w v xs) :
    Calls Tryz.prog 75 #[v] w (Rets fun v' w' => Sl eI w' v' (trim xs) ∧ w = w') := by
  have HV := Lib.hid hv
  obtain ⟨a, b, o, c, rfl, hi, hx, hc, hm⟩ := hv.open elemInt
  clear hv
  unfold maxLen at hm
  go_enter Tryz.func75, Tryz.ntmps75
  go_wp2
  go_loop [3] (fun v => ∃ k : Nat, k ≤ xs.length ∧ v = .int .i64 k ∧ Hid (trim (xs.take k) = trim xs)) (fun v => (intOf v).toNat)
  case atStart => exact ⟨xs.length, Nat.le_refl _, rfl, Lib.hid (by simp)⟩
  case round =>
    obtain ⟨k, hk, rfl, HT⟩ := hrel
    rcases k with _ | k
    · go_wp2
      go_ret
      exact ⟨_, rfl, by rw [← HT.out]; exact HV.out.take 0 (Nat.zero_le _), rfl⟩
    · have hp : (0 : Int) < ((k + 1 : Nat) : Int) := by omega
      have h1 : w.cell? ⟨b, o + k, none⟩ = some (.int .i64 (xs[k] : Nat)) := hx.2 k (by omega)
      go_wp2
      · go_round
        case rel =>
          have h0 : ((xs[k] : Nat) == (0 : Int)) = true := by assumption
          have h0 : xs[k] = 0 := by simpa using h0
          exact ⟨k, by omega, by go_num, Lib.hid (by rw [← HT.out, take_snoc xs k (by omega), h0, trim_snoc_zero])⟩
        case measure => simp [intOf]
      · go_ret
        have h0 : ((xs[k] : Nat) == (0 : Int)) = false := by assumption
        have h0 : xs[k] ≠ 0 := by simpa using h0
        exact ⟨_, rfl, by rw [← HT.out, take_snoc xs k (by omega), trim_snoc _ _ h0, ← take_snoc xs k (by omega)]; exact HV.out.take (k + 1) hk, rfl⟩

set_option maxHeartbeats 400000 in
theorem digit_any (w : World) (v : Value) (xs : List Nat) (i : Nat) (hv : Sl eI w v xs) :
    Calls Tryz.prog 88 #[v, .int .i64 i] w (Rets fun v' w' => v' = .int .i64 (xs.getD i 0 : Nat) ∧ w = w') := by
  obtain ⟨a, b, o, c, rfl, hi, hx, hc, hm⟩ := hv.open elemInt
  clear hv
  unfold maxLen at hm
  by_cases h : i < xs.length
  · have h1 : w.cell? ⟨b, o + i, none⟩ = some (.int .i64 (xs[i] : Nat)) := hx.2 i h
    have hg : xs.getD i 0 = xs[i] := by simp [h]
    have HG := Lib.hid hg; clear hg
    go_enter Tryz.func88, Tryz.ntmps88
    go_wp2
    go_ret
    exact ⟨_, rfl, by rw [HG.out]; rfl, rfl⟩
  · have hg : xs.getD i 0 = 0 := by simp [List.getElem?_eq_none (Nat.le_of_not_lt h)]
    have HG := Lib.hid hg; clear hg
    go_enter Tryz.func88, Tryz.ntmps88
    go_wp2
    go_ret
    exact ⟨_, rfl, by rw [HG.out]; rfl, rfl⟩

theorem itoa_ne (z : Int) : Lib.itoa z ≠ [] := by
  rw [itoa_cases]; split
  · simp
  · exact dec_ne _
set_option maxHeartbeats 400000 in
theorem Minus_any (w : World) (z : Int) :
    Calls Tryz.prog 55 #[.string (txt z)] w (Rets fun v w' => v = .bool (decide (z < 0)) ∧ w = w') := by
  unfold txt
  have hp := pre_itoa z
  have hne := itoa_ne z
  generalize Lib.itoa z = l at *
  rcases l with _ | ⟨c, r⟩
  · exact absurd rfl hne
  · have hc : ((c.toNat : Int) == 45) = decide (z < 0) := by
      rw [← hp]
      by_cases h : c = 45
      · subst h; rfl
      · have : c.toNat ≠ 45 := fun e => h (UInt8.toNat_inj.1 e)
        simp [Lib.hasPrefix, List.isPrefixOf]
        rw [Bool.eq_iff_iff]
        simp
        constructor
        · intro e; omega
        · intro e; exact absurd e.symm h
    have HC := Lib.hid hc
    clear hp hne hc
    go_enter Tryz.func55, Tryz.ntmps55
    go_wp2
    go_ret
    exact ⟨_, rfl, by rw [← HC.out]; rfl, rfl⟩
end Go.Proofs.YtcjcknncajinpaaGreatDoor
