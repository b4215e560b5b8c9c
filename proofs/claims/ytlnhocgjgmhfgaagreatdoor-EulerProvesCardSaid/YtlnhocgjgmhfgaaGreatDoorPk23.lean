/- The walks of integer's text of a number, and of its result. The walk of integer's Check. The walk of integer's checked. -/
import Derived.Test.YtlnhocgjgmhfgaaGreatDoorPk22
namespace Go.Proofs.YtlnhocgjgmhfgaaGreatDoor
open Go.RowKit
set_option maxRecDepth 100000

theorem dec_mem (n : Nat) : ∀ d ∈ Lib.decDigits n, 48 ≤ d.toNat ∧ d.toNat ≤ 57 := by
  induction n using Nat.strongRecOn with
  | _ n ih =>
    rw [Lib.decDigits]
    split
    · intro d hd; simp only [List.mem_singleton] at hd; subst hd
      rw [UInt8.toNat_ofNat']; omega
    · intro d hd
      rcases List.mem_append.1 hd with h | h
      · exact ih (n / 10) (by omega) d h
      · simp only [List.mem_singleton] at h; subst h
        rw [UInt8.toNat_ofNat']; omega
theorem dec_ne (n : Nat) : Lib.decDigits n ≠ [] := by rw [Lib.decDigits]; split <;> simp
theorem dec_minus (n : Nat) : Lib.hasPrefix (Lib.decDigits n) [45] = false := by
  have h := dec_mem n
  cases e : Lib.decDigits n with
  | nil => exact absurd e (dec_ne n)
  | cons d l =>
    rw [e] at h
    have := h d (by simp)
    have hd : d ≠ 45 := by rintro rfl; revert this; decide
    simp [Lib.hasPrefix, List.isPrefixOf]; exact fun h => hd h.symm
theorem itoa_cases (z : Int) : Lib.itoa z = if z < 0 then 45 :: Lib.decDigits z.natAbs else Lib.decDigits z.natAbs := by
  unfold Lib.itoa; split
  · rfl
  · rw [show z.toNat = z.natAbs by omega]
theorem pre_itoa (z : Int) : Lib.hasPrefix (Lib.itoa z) [45] = decide (z < 0) := by
  rw [itoa_cases]; split
  · next h => simp [Lib.hasPrefix, List.isPrefixOf, h]
  · next h => rw [dec_minus]; simp [h]
theorem trim_itoa (z : Int) : Lib.trimPrefix (Lib.itoa z) [45] = Lib.decDigits z.natAbs := by
  unfold Lib.trimPrefix
  rw [pre_itoa, itoa_cases]
  by_cases h : z < 0 <;> simp [h]

theorem dec_len (n : Nat) : (Lib.decDigits n).length ≤ 9 * (digs 1000000000 n).length + 1 := by
  rw [Lib.decDigits_length]
  refine nDigits_le (Nat.lt_of_lt_of_le (lt_pow_len 1000000000 n (by omega)) ?_)
  rw [show (1000000000 : Nat) = 10 ^ 9 from rfl, ← Nat.pow_mul]
  exact Nat.pow_le_pow_right (by omega) (by omega)

/-- The decimal text of an integer. -/
def txt (z : Int) : ByteArray := ⟨(Lib.itoa z).toArray⟩

set_option maxHeartbeats 400000 in
theorem ntext_any (w : World) (x : Value) (z : Int) (hx : Num w x z) (hl : wl z ≤ 1000000000000) (he : Env w) :
    Calls Tryz.prog 118 #[x] w (Rets fun v w' => v = .string (txt z) ∧ Below w.heap.size w w') := by
  obtain ⟨m, a, n, c, rfl, hm, hs⟩ := hx
  have HX := Lib.hid hs; have HE := Lib.hid he
  have e1 := itoa_cases z
  have E1 := Lib.hid e1; have HL := Lib.hid hl
  have hd : ¬ 9223372036854775807 < 1 + (Lib.decDigits z.natAbs).length := by have := dec_len z.natAbs; unfold wl at hl; omega
  clear hs e1 he hl
  have hb0 : Below w.heap.size w (w.alloc (.cells #[.bool m, .slice a n c] 138)) := (Below.refl _ w).alloc (Nat.le_refl _) _
  have HB0 := Lib.hid hb0; clear hb0
  cases m
  · have hz : ¬ z < 0 := by simpa using hm.symm
    clear hm
    go_enter Tryz.func118, Tryz.ntmps118
    go_wp2_with (go_at_call 129; refine (text_any _ _ z.natAbs (HX.out.below HB0.out (Nat.le_refl _)) HL.out (HE.out.below HB0.out (Nat.le_refl _))).mono ?_; rintro e w' ⟨v, rfl, rfl, hb⟩)
    go_ret
    refine ⟨_, rfl, ?_, HB0.out.trans (hb.mono (by simp))⟩
    rw [txt, E1.out, if_neg (by omega)]; rfl
  · have hz : z < 0 := by simpa using hm.symm
    clear hm
    go_enter Tryz.func118, Tryz.ntmps118
    go_wp2_with (go_at_call 129; refine (text_any _ _ z.natAbs (HX.out.below HB0.out (Nat.le_refl _)) HL.out (HE.out.below HB0.out (Nat.le_refl _))).mono ?_; rintro e w' ⟨v, rfl, rfl, hb⟩)
    go_ret
    refine ⟨_, rfl, ?_, HB0.out.trans (hb.mono (by simp))⟩
    rw [txt, E1.out, if_pos hz]
    simp [ByteArray.append, ← ByteArray.append_eq]
set_option maxHeartbeats 400000 in
theorem length_any (w : World) (s : ByteArray) :
    Calls Tryz.prog 119 #[.string s] w (Rets fun v w' => v = .int .i64 ((Lib.trimPrefix s.data.toList [45]).length) ∧ w' = w) := by
  go_enter Tryz.func119, Tryz.ntmps119
  go_wp2_with (go_at_call 130; refine (Tryz.strings_TrimPrefix _ _ _).mono ?_; rintro e w' ⟨rfl, rfl⟩)
  go_ret
  exact ⟨_, rfl, by simp, rfl⟩

/-- Has the integer more digits than the limit? -/
def big (z : Int) : Bool := decide (1024 < (Lib.decDigits z.natAbs).length)
/-- What 'result' answers. -/
def resV (z : Int) : Value := if big z then .tuple #[.string ⟨#[]⟩, .int .i64 11] else .tuple #[.string (txt z), .int .i64 0]

set_option maxHeartbeats 400000 in
theorem result_any (w : World) (x : Value) (z : Int) (hx : Num w x z) (hl : wl z ≤ 1000000000000) (he : Env w) :
    Calls Tryz.prog 102 #[x] w (Rets fun v w' => v = resV z ∧ Below w.heap.size w w') := by
  obtain ⟨m, a, n, c, rfl, hm, hs⟩ := hx
  have HX := Lib.hid hs; have HE := Lib.hid he; have HM := Lib.hid hm; have HL := Lib.hid hl
  have ht : Lib.trimPrefix (txt z).data.toList [45] = Lib.decDigits z.natAbs := trim_itoa z
  have HT := Lib.hid ht
  have hb0 : Below w.heap.size w (w.alloc (.cells #[.bool m, .slice a n c] 138)) := (Below.refl _ w).alloc (Nat.le_refl _) _
  have HB0 := Lib.hid hb0
  clear hs he hm hl ht hb0
  go_enter Tryz.func102, Tryz.ntmps102
  by_cases hg : 1024 < (Lib.decDigits z.natAbs).length
  · have hr : resV z = .tuple #[.string ⟨#[]⟩, .int .i64 11] := by simp [resV, big, hg]
    have HR := Lib.hid hr; clear hr
    go_wp2_with (first
      | (go_at_call 118; refine (ntext_any _ _ z ⟨_, _, _, _, rfl, HM.out, HX.out.below HB0.out (Nat.le_refl _)⟩ HL.out (HE.out.below HB0.out (Nat.le_refl _))).mono ?_; rintro e w' ⟨v, rfl, rfl, hb⟩)
      | (go_at_call 119; refine (length_any _ _).mono ?_; rintro e w' ⟨v, rfl, rfl, rfl⟩; rw [HT.out]))
    go_ret2
    exact ⟨_, rfl, by rw [HR.out]; rfl, HB0.out.trans (hb.mono (by simp))⟩
  · have hr : resV z = .tuple #[.string (txt z), .int .i64 0] := by simp [resV, big, hg]
    have HR := Lib.hid hr; clear hr
    go_wp2_with (first
      | (go_at_call 118; refine (ntext_any _ _ z ⟨_, _, _, _, rfl, HM.out, HX.out.below HB0.out (Nat.le_refl _)⟩ HL.out (HE.out.below HB0.out (Nat.le_refl _))).mono ?_; rintro e w' ⟨v, rfl, rfl, hb⟩)
      | (go_at_call 119; refine (length_any _ _).mono ?_; rintro e w' ⟨v, rfl, rfl, rfl⟩; rw [HT.out]))
    go_ret2
    exact ⟨_, rfl, by rw [HR.out]; rfl, HB0.out.trans (hb.mono (by simp))⟩
end Go.Proofs.YtlnhocgjgmhfgaaGreatDoor

namespace Go.Proofs.YtlnhocgjgmhfgaaGreatDoor
open Go.RowKit
set_option maxRecDepth 100000

/-- The number of the error of a text. -/
def isDig (c : UInt8) : Bool := decide (48 ≤ c.toNat) && decide (c.toNat ≤ 57)
def chkD (d : List UInt8) (minus : Bool) : Int :=
  if d.all isDig = false then 3
  else if d = [] ∨ (d.head? = some 48 ∧ (1 < d.length ∨ minus = true)) then 3
  else if 1024 < d.length then 11 else 0
def chk (l : List UInt8) : Int := chkD (Lib.trimPrefix l [45]) (Lib.hasPrefix l [45])

theorem chkD_cons (x : UInt8) (t : List UInt8) (m : Bool) (h : (x :: t).all isDig = true) :
    chkD (x :: t) m = if x.toNat = 48 ∧ (0 < t.length ∨ m = true) then 3 else if 1023 < t.length then 11 else 0 := by
  have e : x = 48 ↔ x.toNat = 48 := ⟨fun h => by rw [h]; rfl, fun h => UInt8.toNat_inj.1 h⟩
  have e2 : (1024 < t.length + 1) = (1023 < t.length) := propext ⟨by omega, by omega⟩
  have e3 : (1 < t.length + 1) = (0 < t.length) := propext ⟨by omega, by omega⟩
  simp only [chkD, h, List.head?_cons, Option.some.injEq, e, List.length_cons, e2, e3]
  simp

set_option maxHeartbeats 400000 in
theorem check_any (w : World) (s : ByteArray) (hsz : s.size ≤ 1000000) :
    Calls Tryz.prog 113 #[.string s] w (Rets fun v w' => v = .int .i64 (chk s.data.toList) ∧ Below w.heap.size w w') := by
  unfold chk
  generalize hd : Lib.trimPrefix s.data.toList [45] = d
  generalize hm : Lib.hasPrefix s.data.toList [45] = m
  have hdl : d.length ≤ 1000000 := by
    rw [← hd]; unfold Lib.trimPrefix
    have : s.data.toList.length ≤ 1000000 := by rw [← Lib.size_eq]; exact hsz
    split
    · rw [List.length_drop]; omega
    · exact this
  clear hsz
  have HD := Lib.hid hd; have HM := Lib.hid hm; clear hd hm
  go_enter Tryz.func113, Tryz.ntmps113
  go_wp2_with (go_at_call 120; refine (Tryz.strings_CutPrefix _ _ _).mono ?_; rintro e w' ⟨rfl, rfl⟩; rw [HD.out, HM.out])
  rw [Lib.run_convert_string_bytes _ _ _ 5 _ (u := .string) Tryz.underlying9 Tryz.underlying193 Tryz.underlying5]
  simp only [Result.andThen]
  rw [Oper.upon_value]
  have hB : ∀ t (h : t < d.length), (Lib.bytesWorld w' 5 ⟨d.toArray⟩).cell? ⟨w'.heap.size, t, none⟩ = some (.int .u8 (d[t].toNat : Nat)) := fun t h => by
    rw [Lib.bytesWorld_cell w' _ ⟨d.toArray⟩ t (by simpa [ByteArray.size] using h)]
    simp [List.getD, h]
  have hW := Lib.bytesWorld_below w' 5 ⟨d.toArray⟩
  generalize Lib.bytesWorld w' 5 ⟨d.toArray⟩ = W1 at *
  rw [show (⟨d.toArray⟩ : ByteArray).size = d.length by simp [ByteArray.size]]
  generalize grownCap w' d.length 0 5 = cp at *
  have HB := Lib.hid hB; have HW := Lib.hid hW
  clear hB hW
  go_wp2
  go_loop [15] (fun i => ∃ k : Nat, k ≤ d.length ∧ i = .int .i64 k ∧ Hid (∀ (j : Nat) (h : j < d.length), j < k → isDig d[j] = true)) (fun i => d.length - (intOf i).toNat)
  case atStart => exact ⟨0, Nat.zero_le _, rfl, Lib.hid fun j h hj => absurd hj (Nat.not_lt_zero _)⟩
  case round =>
    obtain ⟨k, hk, rfl, hall⟩ := hrel
    by_cases hkn : k < d.length
    · obtain ⟨x, hx⟩ : ∃ x, x = d[k] := ⟨_, rfl⟩
      have hc := HB.out k hkn
      rw [← hx] at hc
      have hxl := UInt8.toNat_lt x
      cases hdx : isDig x
      · have hr : chkD d m = 3 := by
          unfold chkD; rw [if_pos]
          rw [List.all_eq_false]; exact ⟨x, by rw [hx]; exact List.getElem_mem hkn, by simp [hdx]⟩
        have HR := Lib.hid hr; clear hr
        have hx2 : x.toNat < 48 ∨ (48 ≤ x.toNat ∧ 57 < x.toNat) := by simp [isDig] at hdx; omega
        clear hdx hx
        rcases hx2 with h | ⟨h, h'⟩
        · go_wp2
          go_ret
          exact ⟨_, rfl, by rw [HR.out]; rfl, HW.out⟩
        · go_wp2
          go_ret
          exact ⟨_, rfl, by rw [HR.out]; rfl, HW.out⟩
      · have h1 : 48 ≤ x.toNat := by simp [isDig] at hdx; omega
        have h2 : x.toNat ≤ 57 := by simp [isDig] at hdx; omega
        have HX := Lib.hid hx; have HDX := Lib.hid hdx
        clear hx hdx
        go_wp2
        go_round
        case rel =>
          refine ⟨k + 1, by omega, by go_num, Lib.hid fun j h hj => ?_⟩
          by_cases e : j = k
          · subst e; rw [← HX.out]; exact HDX.out
          · exact hall.out j h (by omega)
        case measure => simp [intOf]; omega
    · obtain rfl : k = d.length := by omega
      have hall' : d.all isDig = true := by
        rw [List.all_eq_true]; intro x hx
        obtain ⟨j, hj, rfl⟩ := List.getElem_of_mem hx
        exact hall.out j hj hj
      have HA := Lib.hid hall'
      clear hall hall' hkn hk
      rcases d with _ | ⟨x, t⟩
      · have hr : chkD [] m = 3 := by simp [chkD]
        have HR := Lib.hid hr; clear hr
        go_wp2
        go_ret
        exact ⟨_, rfl, by rw [HR.out]; rfl, HW.out⟩
      · have hc := fun m => chkD_cons x t m HA.out
        have HC := Lib.hid hc; clear hc HB HD HM
        cases m
        all_goals
          go_wp2
        all_goals
          have hx0 : ∀ h, (({ data := (x :: t).toArray } : ByteArray)[0]'h) = x := fun _ => rfl
          simp only [hx0] at *
          go_ret
          refine ⟨_, rfl, ?_, HW.out⟩
          rw [HC.out]
          refine congrArg (Value.int .i64) ?_
          simp only [Bool.false_eq_true, or_true, and_true, or_false]
          split <;> first | rfl | (exfalso; omega) | (split <;> first | rfl | (exfalso; omega)) | trace_state
end Go.Proofs.YtlnhocgjgmhfgaaGreatDoor
namespace Go.Proofs.YtlnhocgjgmhfgaaGreatDoor
open Go.RowKit
set_option maxRecDepth 100000

theorem elemStr : ElemOk Tryz.prog 126 74 (.string ⟨#[]⟩) 1 16 :=
  ⟨Tryz.underlying126, info_parts (by kernel_rfl : (Tryz.prog.info? 74).map (fun i => (i.zero, i.size, i.bytes)) = some (some (.string ⟨#[]⟩), 1, 16)), rfl, by decide, by kernel_rfl, fun _ => by kernel_rfl⟩

/-- The first error of some texts. -/
def chks : List ByteArray → Int
  | [] => 0
  | s :: l => if chk s.data.toList = 0 then chks l else chk s.data.toList

set_option maxHeartbeats 1000000 in
theorem checked_any (w : World) (v : Value) (xs : List ByteArray) (h : Sl eS w v xs) (hsz : ∀ s ∈ xs, s.size ≤ 1000000) (hl : xs.length ≤ 1000000) :
    Calls Tryz.prog 101 #[v] w (Rets fun v w' => v = .int .i64 (chks xs) ∧ Below w.heap.size w w') := by
  obtain ⟨a, b, o, c, rfl, hi, hp, -, -⟩ := h.open elemStr
  have HS := Lib.hid hsz; clear hsz h
  go_enter Tryz.func101, Tryz.ntmps101
  go_wp2
  go_loopw [8] (fun i wr => ∃ k : Nat, k ≤ xs.length ∧ i = .int .i64 k ∧ Hid (chks xs = chks (xs.drop k)) ∧ Below w.heap.size w wr) (fun i _ => xs.length - (intOf i).toNat)
  case atStart => exact ⟨0, Nat.zero_le _, rfl, Lib.hid rfl, Below.refl _ _⟩
  case round =>
    obtain ⟨k, hk, rfl, hc, hb⟩ := hrel
    by_cases hkn : k < xs.length
    · have h1 : wr.cell? ⟨b, o + k, none⟩ = some (.string xs[k]) := hp.at hb (Nat.le_refl _) k hkn
      have e1 : chks xs = if chk xs[k].data.toList = 0 then chks (xs.drop (k + 1)) else chk xs[k].data.toList := by
        rw [hc.out, List.drop_eq_getElem_cons hkn, chks]
      have E1 := Lib.hid e1; clear e1
      by_cases h0 : chk xs[k].data.toList = 0
      · have hne : (chk xs[k].data.toList != 0) = false := by simp [h0]
        rw [if_pos h0] at E1
        clear h0
        go_wp2_with (go_at_call 113; refine (check_any _ _ (HS.out _ (List.getElem_mem hkn))).mono ?_; rintro e w' ⟨v, rfl, rfl, hb'⟩)
        go_roundw
        case rel => exact ⟨k + 1, by omega, by go_num, E1, hb.trans (hb'.mono hb.size)⟩
        case measure => simp [intOf]; omega
      · have hne : (chk xs[k].data.toList != 0) = true := by simp [h0]
        rw [if_neg h0] at E1
        clear h0
        go_wp2_with (go_at_call 113; refine (check_any _ _ (HS.out _ (List.getElem_mem hkn))).mono ?_; rintro e w' ⟨v, rfl, rfl, hb'⟩)
        go_ret
        exact ⟨_, rfl, by rw [E1.out]; rfl, hb.trans (hb'.mono hb.size)⟩
    · obtain rfl : k = xs.length := by omega
      have e1 : chks xs = 0 := by rw [hc.out, List.drop_length]; rfl
      have E1 := Lib.hid e1; clear e1
      go_wp2
      go_ret
      exact ⟨_, rfl, by rw [E1.out]; rfl, hb⟩
end Go.Proofs.YtlnhocgjgmhfgaaGreatDoor
