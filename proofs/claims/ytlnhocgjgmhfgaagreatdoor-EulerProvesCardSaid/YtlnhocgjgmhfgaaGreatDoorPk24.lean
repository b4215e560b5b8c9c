/- Decimal numerals: their values, what a canonical text is. The words of a row of digits, from the right. The walk of integer's iterator over the groups of digits. The walk of integer's read. -/
import Derived.Test.YtlnhocgjgmhfgaaGreatDoorPk23
import Derived.RangeFuncBox
import Derived.RangeFuncNested
import Derived.RangeFuncBound
import Derived.RangeFuncCalls
import Derived.RangeFuncLeaves
import Derived.Shelf.Abstract
import Derived.Shelf.RegionOpen
import Derived.WalkKit
import Derived.OwnWalkIn
import Derived.TacticsInMore
import Derived.LoopNIn
import Derived.LoopIn
import Derived.Maps.AppendAt
namespace Go.Proofs.YtlnhocgjgmhfgaaGreatDoor
open Go.RowKit

/-- The value of a row of digits behind others. -/
def dv (acc : Nat) (l : List UInt8) : Nat := l.foldl (fun a c => a * 10 + (c.toNat - 48)) acc
theorem dv_cons (acc : Nat) (c : UInt8) (l : List UInt8) : dv acc (c :: l) = dv (acc * 10 + (c.toNat - 48)) l := by unfold dv; rw [List.foldl_cons]
theorem dv_nil (acc : Nat) : dv acc [] = acc := by unfold dv; rw [List.foldl_nil]
theorem big_eq (z : Int) (n : Nat) (h : z.natAbs = n) : (if big z then (11 : Int) else 0) = if 1024 < (Lib.decDigits n).length then 11 else 0 := by
  subst h; simp [big]
theorem dv_append (l l' : List UInt8) (acc : Nat) : dv acc (l ++ l') = dv (dv acc l) l' := by unfold dv; rw [List.foldl_append]
theorem dv_acc (l : List UInt8) : ∀ acc, dv acc l = acc * 10 ^ l.length + dv 0 l := by
  induction l with
  | nil => intro acc; rw [dv_nil, dv_nil, List.length_nil, Nat.pow_zero, Nat.mul_one, Nat.add_zero]
  | cons c l ih =>
    intro acc
    rw [dv_cons, dv_cons, ih (acc * 10 + _), ih (0 * 10 + _), List.length_cons, Nat.pow_succ, Nat.zero_mul, Nat.zero_add, Nat.add_mul, Nat.mul_assoc, Nat.mul_comm 10, Nat.add_assoc]
theorem dv_lt (l : List UInt8) (h : l.all isDig = true) : dv 0 l < 10 ^ l.length := by
  induction l with
  | nil => rw [dv_nil]; exact Nat.pow_pos (by omega)
  | cons c l ih =>
    simp only [List.all_cons, Bool.and_eq_true] at h
    have hc : c.toNat ≤ 57 := by have := h.1; simp [isDig] at this; exact this.2
    have := ih h.2
    rw [dv_cons, dv_acc, List.length_cons, Nat.pow_succ]
    have h9 : (0 * 10 + (c.toNat - 48)) * 10 ^ l.length ≤ 9 * 10 ^ l.length := Nat.mul_le_mul_right _ (by omega)
    omega
theorem dec_step (m d : Nat) (hm : 0 < m) (hd : d < 10) : Lib.decDigits (m * 10 + d) = Lib.decDigits m ++ [UInt8.ofNat (48 + d)] := by
  rw [Lib.decDigits, dif_neg (by omega), show (m * 10 + d) / 10 = m by omega, show (m * 10 + d) % 10 = d by omega]
theorem dv_dec (n : Nat) : dv 0 (Lib.decDigits n) = n := by
  induction n using Nat.strongRecOn with
  | _ n ih =>
    by_cases h : n < 10
    · rw [Lib.decDigits_one h, dv_cons, dv_nil, UInt8.toNat_ofNat']; omega
    · have e : n = n / 10 * 10 + n % 10 := by omega
      rw [e, dec_step _ _ (by omega) (by omega), dv_append, ih _ (by omega)]
      rw [dv_cons, dv_nil, UInt8.toNat_ofNat']; omega
theorem ofNat_dig (c : UInt8) (h : isDig c = true) : UInt8.ofNat (48 + (c.toNat - 48)) = c := by
  simp [isDig] at h
  apply UInt8.toNat_inj.1
  rw [UInt8.toNat_ofNat']
  have := UInt8.toNat_lt c
  have h1 : 48 ≤ c.toNat := by have := h.1; omega
  omega
/-- A row of digits that does not begin with 0 is the numeral of its value. -/
theorem dec_dv_pos (l : List UInt8) (m : Nat) (hm : 0 < m) (h : l.all isDig = true) : Lib.decDigits (dv m l) = Lib.decDigits m ++ l := by
  induction l generalizing m with
  | nil => rw [dv_nil, List.append_nil]
  | cons c l ih =>
    simp only [List.all_cons, Bool.and_eq_true] at h
    have hc : c.toNat - 48 < 10 := by have := h.1; simp [isDig] at this; have := this.2; omega
    rw [dv_cons, ih _ (by omega) h.2, dec_step _ _ hm hc, ofNat_dig _ h.1]
    simp
theorem dec_dv (x : UInt8) (t : List UInt8) (h : (x :: t).all isDig = true) (h0 : x.toNat = 48 → t = []) : Lib.decDigits (dv 0 (x :: t)) = x :: t := by
  simp only [List.all_cons, Bool.and_eq_true] at h
  have hx : 48 ≤ x.toNat ∧ x.toNat ≤ 57 := by have := h.1; simp [isDig] at this; exact ⟨this.1, this.2⟩
  rw [dv_cons]
  by_cases e : x.toNat = 48
  · rw [h0 e, dv_nil, e, Lib.decDigits_one (by omega)]
    congr 1
    exact UInt8.toNat_inj.1 (by rw [e]; rfl)
  · rw [dec_dv_pos _ _ (by omega) h.2, Lib.decDigits_one (by omega)]
    rw [show 48 + (0 * 10 + (x.toNat - 48)) = 48 + (x.toNat - 48) by omega, ofNat_dig _ h.1]; rfl
theorem dec_all (n : Nat) : (Lib.decDigits n).all isDig = true := by
  rw [List.all_eq_true]; intro d hd
  have := dec_mem n d hd
  simp only [isDig, Bool.and_eq_true, decide_eq_true_eq]; exact this
theorem dec_head0 (n : Nat) (h : n ≠ 0) : ∃ x t, Lib.decDigits n = x :: t ∧ x.toNat ≠ 48 := by
  induction n using Nat.strongRecOn with
  | _ n ih =>
    by_cases hn : n < 10
    · exact ⟨_, [], Lib.decDigits_one hn, by rw [UInt8.toNat_ofNat']; omega⟩
    · obtain ⟨x, t, e, hx⟩ := ih (n / 10) (by omega) (by omega)
      refine ⟨x, t ++ [UInt8.ofNat (48 + n % 10)], ?_, hx⟩
      rw [Lib.decDigits, dif_neg hn, e]; rfl
theorem pre_cases (l : List UInt8) : (Lib.hasPrefix l [45] = true ∧ l = 45 :: Lib.trimPrefix l [45]) ∨ (Lib.hasPrefix l [45] = false ∧ l = Lib.trimPrefix l [45]) := by
  cases l with
  | nil => right; simp [Lib.hasPrefix, Lib.trimPrefix, List.isPrefixOf]
  | cons c l =>
    by_cases hc : c = 45
    · subst hc; left; simp [Lib.hasPrefix, Lib.trimPrefix, List.isPrefixOf]
    · right
      have : Lib.hasPrefix (c :: l) [45] = false := by simp [Lib.hasPrefix, List.isPrefixOf]; exact fun h => hc h.symm
      refine ⟨this, by simp [Lib.trimPrefix, this]⟩
/-- A text without a fault is the numeral of an integer that is not too long. -/
theorem chk_form (l : List UInt8) (h : chk l ≠ 3) : ∃ z, l = Lib.itoa z ∧ chk l = if big z then 11 else 0 := by
  unfold chk at h ⊢
  have hp := pre_cases l
  generalize Lib.trimPrefix l [45] = d at *
  generalize Lib.hasPrefix l [45] = m at *
  by_cases ha : d.all isDig = true
  · cases d with
    | nil => exact absurd (by simp [chkD]) h
    | cons x t =>
      rw [chkD_cons _ _ _ ha] at h ⊢
      by_cases h3 : x.toNat = 48 ∧ (0 < t.length ∨ m = true)
      · rw [if_pos h3] at h; exact absurd rfl h
      · have hd := dec_dv x t ha (fun e => by
          rcases t with _ | ⟨c, t⟩
          · rfl
          · exact absurd ⟨e, .inl (by simp)⟩ h3)
        have hlen : (1023 < t.length) ↔ 1024 < (Lib.decDigits (dv 0 (x :: t))).length := by rw [hd, List.length_cons]; omega
        rw [if_neg h3]
        rcases hp with ⟨hm, hl⟩ | ⟨hm, hl⟩
        · have h0 : dv 0 (x :: t) ≠ 0 := by
            intro e0
            rw [e0] at hd
            rw [show Lib.decDigits 0 = [48] from by rw [Lib.decDigits_one (by omega)]; rfl] at hd
            injection hd with hx ht
            exact h3 ⟨by rw [← hx]; rfl, .inr hm⟩
          refine ⟨-(dv 0 (x :: t) : Int), ?_, ?_⟩
          · rw [itoa_cases, if_pos (by omega), show (-(dv 0 (x :: t) : Int)).natAbs = dv 0 (x :: t) by omega, hd]; exact hl
          · rw [big_eq _ (dv 0 (x :: t)) (by omega)]; simp only [← hlen]
        · refine ⟨(dv 0 (x :: t) : Int), ?_, ?_⟩
          · rw [itoa_cases, if_neg (by omega), show ((dv 0 (x :: t) : Int)).natAbs = dv 0 (x :: t) by omega, hd]; exact hl
          · rw [big_eq _ (dv 0 (x :: t)) (by omega)]; simp only [← hlen]
  · exact absurd (by simp only [chkD]; rw [if_pos (by simpa using ha)]) h
/-- The numeral of an integer has no fault but its length. -/
theorem chk_itoa (z : Int) : chk (Lib.itoa z) = if big z then 11 else 0 := by
  unfold chk
  rw [pre_itoa, trim_itoa]
  have ha := dec_all z.natAbs
  rw [big_eq z _ rfl]
  by_cases h0 : z.natAbs = 0
  · obtain rfl : z = 0 := by omega
    rw [show Int.natAbs 0 = 0 from rfl, show Lib.decDigits 0 = [48] from by rw [Lib.decDigits_one (by omega)]; rfl]
    decide
  · obtain ⟨x, t, e, hx⟩ := dec_head0 _ h0
    rw [e] at ha ⊢
    rw [chkD_cons _ _ _ ha, if_neg (fun h => hx h.1)]
    have e2 : (1024 < (x :: t).length) = (1023 < t.length) := propext ⟨by simp; omega, by simp; omega⟩
    simp only [e2]
theorem parse_ok (l : List UInt8) (hne : l ≠ []) (h : l.all isDig = true) (hl : l.length ≤ 9) : Lib.parseUintB 32 l = .ok (dv 0 l) ∧ dv 0 l < 1000000000 := by
  have key : ∀ (l : List UInt8) (acc k : Nat), l.all isDig = true → l.length ≤ k → acc * 10 ^ k + 10 ^ k ≤ 1000000000 → Lib.parseUintM (2 ^ 32 - 1) acc l = .ok (dv acc l) := by
    intro l
    induction l with
    | nil => intro acc k _ _ _; rw [dv_nil]; rfl
    | cons c l ih =>
      intro acc k h hl hb
      simp only [List.all_cons, Bool.and_eq_true] at h
      have hx : 48 ≤ c.toNat ∧ c.toNat ≤ 57 := by have := h.1; simp [isDig] at this; exact ⟨this.1, this.2⟩
      obtain ⟨k, rfl⟩ : ∃ k', k = k' + 1 := ⟨k - 1, by simp at hl; omega⟩
      have hp : 1 ≤ 10 ^ k := Nat.pow_pos (by omega)
      rw [Nat.pow_succ] at hb
      have hb2 : (acc * 10 + 10) * 10 ^ k ≤ 1000000000 := by
        have : (acc * 10 + 10) * 10 ^ k = acc * (10 ^ k * 10) + 10 ^ k * 10 := by rw [Nat.add_mul, Nat.mul_assoc, Nat.mul_comm 10]
        omega
      have hs : acc * 10 + 10 ≤ 1000000000 := Nat.le_trans (Nat.le_mul_of_pos_right _ hp) hb2
      have hn : (acc * 10 + (c.toNat - 48)) * 10 ^ k + 10 ^ k ≤ 1000000000 := by
        have e : (acc * 10 + (c.toNat - 48)) * 10 ^ k + 10 ^ k = (acc * 10 + (c.toNat - 48) + 1) * 10 ^ k := by rw [Nat.add_mul (acc * 10 + (c.toNat - 48)) 1, Nat.one_mul]
        rw [e]; exact Nat.le_trans (Nat.mul_le_mul_right _ (by omega)) hb2
      rw [Lib.parseUintM, if_pos hx, if_neg (by omega), if_neg (by omega), dv_cons]
      exact ih _ k h.2 (by simpa using hl) hn
  refine ⟨?_, Nat.lt_of_lt_of_le (dv_lt l h) (Nat.le_trans (Nat.pow_le_pow_right (by omega) hl) (by decide))⟩
  unfold Lib.parseUintB
  rw [if_neg hne]
  exact key l 0 9 h hl (by decide)
end Go.Proofs.YtlnhocgjgmhfgaaGreatDoor
namespace Go.Proofs.YtlnhocgjgmhfgaaGreatDoor
open Go.RowKit

/-- The words of the first e digits, the last one first. -/
def ws (d : List UInt8) (e : Nat) : List Nat :=
  if h : e = 0 then [] else dv 0 ((d.drop (e - 9)).take (e - (e - 9))) :: ws d (e - 9)
termination_by e
decreasing_by omega
theorem ws_zero (d : List UInt8) : ws d 0 = [] := by rw [ws]; simp
theorem ws_pos (d : List UInt8) (e : Nat) (h : 0 < e) : ws d e = dv 0 ((d.drop (e - 9)).take (e - (e - 9))) :: ws d (e - 9) := by rw [ws, dif_neg (by omega)]
theorem all_sub (d : List UInt8) (h : d.all isDig = true) (a b : Nat) : ((d.drop a).take b).all isDig = true := by
  rw [List.all_eq_true] at h ⊢
  intro x hx; exact h x (List.mem_of_mem_drop (List.mem_of_mem_take hx))
theorem ws_word (d : List UInt8) (e : Nat) (h : d.all isDig = true) (h0 : 0 < e) (he : e ≤ d.length) :
    Lib.parseUintB 32 ((d.drop (e - 9)).take (e - (e - 9))) = .ok (dv 0 ((d.drop (e - 9)).take (e - (e - 9)))) ∧ dv 0 ((d.drop (e - 9)).take (e - (e - 9))) < 1000000000 := by
  have hl : ((d.drop (e - 9)).take (e - (e - 9))).length = e - (e - 9) := by rw [List.length_take, List.length_drop]; omega
  refine parse_ok _ ?_ (all_sub d h _ _) (by rw [hl]; omega)
  intro e2; rw [e2] at hl; simp at hl; omega
theorem ws_lt (d : List UInt8) (h : d.all isDig = true) : ∀ e, e ≤ d.length → ∀ x ∈ ws d e, x < 1000000000 := by
  intro e
  induction e using Nat.strongRecOn with
  | _ e ih =>
    intro he x hx
    by_cases h0 : e = 0
    · subst h0; rw [ws_zero] at hx; cases hx
    · rw [ws_pos d e (by omega)] at hx
      rcases List.mem_cons.1 hx with rfl | hx
      · exact (ws_word d e h (by omega) he).2
      · exact ih (e - 9) (by omega) (by omega) x hx
theorem ws_len (d : List UInt8) : ∀ e, (ws d e).length ≤ e := by
  intro e
  induction e using Nat.strongRecOn with
  | _ e ih =>
    by_cases h0 : e = 0
    · subst h0; rw [ws_zero]; exact Nat.le_refl _
    · rw [ws_pos d e (by omega), List.length_cons]
      have := ih (e - 9) (by omega); omega
theorem ws_val (d : List UInt8) : ∀ e, e ≤ d.length → val 1000000000 (ws d e) = dv 0 (d.take e) := by
  intro e
  induction e using Nat.strongRecOn with
  | _ e ih =>
    intro he
    by_cases h0 : e = 0
    · subst h0; rw [ws_zero, List.take_zero, dv_nil]; rfl
    · rw [ws_pos d e (by omega), val, ih (e - 9) (by omega) (by omega)]
      have e1 : d.take e = d.take (e - 9) ++ (d.drop (e - 9)).take (e - (e - 9)) := by
        conv => lhs; rw [show e = (e - 9) + (e - (e - 9)) by omega]
        rw [List.take_add]
      have hl : ((d.drop (e - 9)).take (e - (e - 9))).length = e - (e - 9) := by rw [List.length_take, List.length_drop]; omega
      conv => rhs; rw [e1, dv_append, dv_acc, hl]
      by_cases h9 : 9 ≤ e
      · rw [show e - (e - 9) = 9 by omega, show (10 : Nat) ^ 9 = 1000000000 from rfl, Nat.add_comm, Nat.mul_comm]
      · rw [show e - 9 = 0 by omega, List.take_zero, dv_nil, Nat.zero_mul, Nat.mul_zero, Nat.add_comm]
theorem ws_dec (n : Nat) : val 1000000000 (ws (Lib.decDigits n) (Lib.decDigits n).length) = n := by
  rw [ws_val _ _ (Nat.le_refl _), List.take_length, dv_dec]
end Go.Proofs.YtlnhocgjgmhfgaaGreatDoor
namespace Go.Proofs.YtlnhocgjgmhfgaaGreatDoor
open Go.RowKit Go.Shelf
set_option maxRecDepth 100000

attribute [local go_sem] Oper.semAt_some

/-- A cell stands as it stood. -/
def KpC (B : Nat) (W W' : World) : Prop := ∀ v, W.cell? ⟨B, 0, none⟩ = some v → W'.cell? ⟨B, 0, none⟩ = some v
theorem KpC.tr {B : Nat} {X Y Z : World} (h : KpC B X Y) (h' : KpC B Y Z) : KpC B X Z := fun v hv => h' v (h v hv)
theorem KpC.put {B : Nat} (W : World) (l : Nat) (o o' : Obj) (ho : W.heap[l]? = some o) (hc : o.isCells = false) : KpC B W (W.putObj l o') := fun v hv =>
  cell_kept hv (grownBy_putObj' W l o') (fun r e => by cases e; exact ⟨_, ho, hc⟩)
theorem KpC.grown {B : Nat} {W W' : World} (hg : W.grownBy W' none) : KpC B W W' := fun v hv => cell_kept hv hg (fun r e => by cases e)

set_option maxHeartbeats 1000000 in
theorem groups1_in (d : List UInt8) (hd : d.all isDig = true) (hdl : d.length ≤ 1000000) (n : Nat) (hn : 1 ≤ n) (l Bn : Nat) (J Jx : List Nat → World → Prop) (W : World)
    (hJ : AbidesFrom W.heap.size J)
    (hY : ∀ pre x W, J pre W → pre.length < 1000000 → YieldAt Fence.wide (n - 1) Tryz.prog l #[.int .u32 (x : Nat)] W fun e W' =>
      (e = .returned (.bool true) ∧ J (pre ++ [x]) W' ∧ KpC Bn W W') ∨ (e = .returned (.bool false) ∧ Jx (pre ++ [x]) W'))
    (hBn : W.cell? ⟨Bn, 0, none⟩ = some (.string ⟨d.toArray⟩)) (h0 : J [] W) :
    CallsIn Fence.wide n Tryz.prog 132 #[.func (.yield l) #[] #[], .pointer (some ⟨Bn, 0, none⟩)] W fun e W' => (∃ v, e = .returned v) ∧
      ((∃ ys, ys = ws d d.length ∧ J ys W') ∨ (∃ pre, pre <+: ws d d.length ∧ Jx pre W')) := by
  refine callsIn_of_wp Tryz.func132 rfl trivial ?_ rfl
  simp only [Tryz.ntmps132, List.size_toArray, List.length_cons, List.length_nil, Nat.reduceAdd, Nat.reduceSub, Array.replicate_succ, Array.replicate_zero, List.push_toArray, List.append_toArray, List.nil_append, List.cons_append]
  have hwl := ws_len d d.length
  have HY := Lib.hid hY; have HJ := Lib.hid hJ; have HD := Lib.hid hd; have HWL := Lib.hid hwl
  clear hY hJ hd hwl
  gi_wp2
  gi_loopw [3] (fun i wr => ∃ (pre : List Nat) (e : Int), i = .int .i64 e ∧ -9 ≤ e ∧ e ≤ d.length ∧ Hid (pre ++ ws d e.toNat = ws d d.length) ∧ J pre wr ∧ KpC Bn W wr) (fun i _ => (intOf i).toNat)
  case atStart => exact ⟨[], d.length, rfl, by omega, by omega, Lib.hid rfl, h0, fun _ h => h⟩
  case round =>
    obtain ⟨pre, e, rfl, he0, he1, hpre, hJs, hb⟩ := hrel
    by_cases hpos : 0 < e
    · obtain ⟨k, rfl⟩ : ∃ k : Nat, e = (k : Int) := ⟨e.toNat, by omega⟩
      have hk0 : 0 < k := by omega
      have hkd : k ≤ d.length := by omega
      have hc : wr.cell? ⟨Bn, 0, none⟩ = some (.string ⟨d.toArray⟩) := hb _ hBn
      have hw := ws_word d k HD.out hk0 hkd
      have hp2 := hpre.out
      rw [Int.toNat_natCast, ws_pos d k hk0] at hp2
      generalize hx : dv 0 ((d.drop (k - 9)).take (k - (k - 9))) = x at hw hp2
      have hmx : max (0 : Int) ((k : Int) - 9) = ((k - 9 : Nat) : Int) := by omega
      have hex : ((⟨d.toArray⟩ : ByteArray).extract (k - 9) k).data.toList = (d.drop (k - 9)).take (k - (k - 9)) := by rw [Lib.extract_data]
      have hlen : pre.length < 1000000 := by
        have := congrArg List.length hp2
        have hl := HWL.out
        simp only [List.length_append, List.length_cons] at this
        omega
      have hsz : (⟨d.toArray⟩ : ByteArray).size = d.length := by simp [ByteArray.size]
      have HW := Lib.hid hw; have HP := Lib.hid hp2; have HEX := Lib.hid hex
      have hxl := hw.2
      clear hw hp2 hex hx
      gi_wp2
      refine ⟨trivial, callsIn_wide.2 ((Tryz.strconv_ParseUint_10_at32_ok _ (by rw [Lib.size_eq, HEX.out, List.length_take, List.length_drop]; omega) x (by rw [HEX.out]; exact HW.out.1) _).mono ?_)⟩
      rintro e w' ⟨rfl, hw⟩
      have hg : wr.grownBy w' none := by
        rcases hw with rfl | rfl
        · exact World.grownBy.refl _ _
        · have hb9 := Lib.bytesWorld_below wr 5 ((⟨d.toArray⟩ : ByteArray).extract (k - 9) k)
          exact ⟨hb9.os, hb9.tape, hb9.output, hb9.size, fun j hj _ => hb9.block j hj⟩
      have hb' : KpC Bn W w' := hb.tr (KpC.grown hg)
      obtain ⟨fn, tmps, assign, body, hy, hR⟩ := HY.out pre x w' (HJ.out pre wr w' none hJs hg (fun r h => by cases h)) hlen
      clear hw
      gi_wp2
      refine hR.mono ?_
      rintro e W3 (⟨rfl, hJ3, hk3⟩ | ⟨rfl, hJx3⟩)
      · gi_wp2
        go_roundw
        case rel =>
          refine ⟨pre ++ [x], (k : Int) - 9, rfl, by omega, by omega, Lib.hid ?_, hJ3, hb'.tr hk3⟩
          rw [show ((k : Int) - 9).toNat = k - 9 by omega, List.append_assoc]; exact HP.out
        case measure => simp [intOf]; omega
      · gi_wp2
        refine bodyPost_ret (results_none rfl _ _ _) rfl ?_
        exact ⟨⟨_, rfl⟩, .inr ⟨pre ++ [x], ⟨ws d (k - 9), by rw [List.append_assoc]; exact HP.out⟩, hJx3⟩⟩
    · have e0 : e.toNat = 0 := by omega
      have hp := hpre.out
      rw [e0, ws_zero, List.append_nil] at hp
      have HP := Lib.hid hp
      clear hp hpre
      gi_wp2
      go_end0
      exact ⟨⟨_, rfl⟩, .inl (HP.out ▸ hJs)⟩

theorem groups_stops (d : List UInt8) (hd : d.all isDig = true) (hdl : d.length ≤ 1000000) (n : Nat) (hn : 1 ≤ n) (Bn : Nat) (w : World) (hBn : Bn < w.heap.size) (hc : w.cell? ⟨Bn, 0, none⟩ = some (.string ⟨d.toArray⟩)) :
    SeqStopsK Fence.wide n Tryz.prog 132 #[.pointer (some ⟨Bn, 0, none⟩)] (fun x : Nat => #[Value.int .u32 (x : Nat)]) (KpC Bn) (fun ys => ys = ws d d.length) (fun pre => pre <+: ws d d.length) 1000000 w := fun l J Jx W hW hJ _ hY h0 =>
  groups1_in d hd hdl n hn l Bn J Jx W hJ hY ((hW.cell (p := ⟨Bn, 0, none⟩) hBn).trans hc) h0

set_option maxHeartbeats 400000 in
theorem groups_any (s : ByteArray) (w : World) :
    Calls Tryz.prog 121 #[.string s] w fun e w' => e = .returned (.func (.func 132) #[] #[.pointer (some ⟨w.heap.size, 0, none⟩)]) ∧ w' = w.alloc (.cells #[.string s] 9) := by
  go_enter Tryz.func121, Tryz.ntmps121
  go_wp2
  go_ret
  exact ⟨rfl, rfl⟩
end Go.Proofs.YtlnhocgjgmhfgaaGreatDoor
namespace Go.Proofs.YtlnhocgjgmhfgaaGreatDoor
open Go.RowKit Go.Shelf
set_option maxRecDepth 100000

attribute [local go_sem] Oper.semAt_some

theorem Sl.put {α : Type} {enc : α → Value} {w : World} {v : Value} {xs : List α} (h : Sl enc w v xs) {l : Nat} {ob : Obj} (ob' : Obj) (hl : w.heap[l]? = some ob) (hc : ob.isCells = false) : Sl enc (w.putObj l ob') v xs := by
  obtain ⟨a, b, o, c, rfl, ha, hcc, hm, hn, hx⟩ := h
  have hg := grownBy_putObj' w l ob'
  exact ⟨a, b, o, c, rfl, ha, hcc, hm, hn, fun h0 => Nat.lt_of_lt_of_le (hx.1 h0) hg.size, fun i hi => cell_kept (hx.2 i hi) hg (fun r e => by cases e; exact ⟨_, hl, hc⟩)⟩

set_option maxHeartbeats 2000000 in
theorem read_in (w : World) (s : ByteArray) (z : Int) (hs : s.data.toList = Lib.itoa z) (hsz : s.size ≤ 1000000) :
    CallsIn Fence.wide 4 Tryz.prog 103 #[.string s] w (Rets fun v w' => Num w' v z ∧ Below w.heap.size w w') := by
  have hd1 : Lib.trimPrefix s.data.toList [45] = Lib.decDigits z.natAbs := by rw [hs, trim_itoa]
  have hm1 : Lib.hasPrefix s.data.toList [45] = decide (z < 0) := by rw [hs, pre_itoa]
  have hall := dec_all z.natAbs
  have hval := ws_dec z.natAbs
  have hdl : (Lib.decDigits z.natAbs).length ≤ 1000000 := by
    have e := itoa_cases z
    have e2 : s.data.toList.length ≤ 1000000 := by rw [← Lib.size_eq]; exact hsz
    rw [hs, e] at e2
    split at e2
    · rw [List.length_cons] at e2; omega
    · exact e2
  generalize Lib.decDigits z.natAbs = d at *
  generalize hm : decide (z < 0) = m at *
  have HD1 := Lib.hid hd1; have HM1 := Lib.hid hm1; have HALL := Lib.hid hall; have HVAL := Lib.hid hval; have HM := Lib.hid hm
  clear hd1 hm1 hs hsz hall hval hm
  refine callsIn_of_wp_marks Tryz.func103 rfl trivial ?_ rfl
  simp only [Tryz.ntmps103, List.size_toArray, List.length_cons, List.length_nil, Nat.reduceAdd, Nat.reduceSub, Array.replicate_succ, Array.replicate_zero, List.push_toArray, List.append_toArray, List.nil_append, List.cons_append]
  gi_wp2
  refine ⟨trivial, callsIn_wide.2 ((Tryz.strings_CutPrefix _ _ _).mono ?_)⟩
  rintro e w' ⟨rfl, rfl⟩
  rw [show (⟨#[45]⟩ : ByteArray).data.toList = [45] from rfl, HD1.out, HM1.out]
  gi_wp2
  refine ⟨trivial, callsIn_wide.2 ((groups_any _ _).mono ?_)⟩
  rintro e w' ⟨rfl, rfl⟩
  gi_wp2
  obtain ⟨i0, hi, hz0, hz1, hz2⟩ := info_parts (by kernel_rfl : (Tryz.prog.info? 150).map (fun i => (i.zero, i.size, i.bytes)) = some (some (.int .u32 0), 1, 4))
  have bK := Blk.new w [.bool false, .slice none 0 0] 138
  have bL := (Boxed.new (w.alloc (.cells #[.bool false, .slice none 0 0] 138)) 136 (.slice none 0 0)).alloc (.cells #[.string ⟨d.toArray⟩] 9)
  have bS := Boxed.new ((w.alloc (.cells #[.bool false, .slice none 0 0] 138)).alloc (.cells #[.slice none 0 0] 136)) 9 (.string ⟨d.toArray⟩)
  rw [World.size_alloc] at bL
  rw [World.size_alloc, World.size_alloc] at bS
  have hB0 : Below (w.heap.size + 1) (w.alloc (.cells #[.bool false, .slice none 0 0] 138)) (((w.alloc (.cells #[.bool false, .slice none 0 0] 138)).alloc (.cells #[.slice none 0 0] 136)).alloc (.cells #[.string ⟨d.toArray⟩] 9)) := ((Below.refl _ _).alloc (by simp) _).alloc (by simp) _
  refine wpIn_rangeFunc_ownG rfl (by omega) (gf := 132) (lb := #[.pointer (some ⟨w.heap.size + 1 + 1, 0, none⟩)]) rfl trivial (enters_of Tryz.func132 (by kernel_rfl) rfl)
    (groups_stops d HALL.out hdl _ (by omega) (w.heap.size + 1 + 1) _ (by simp) bS.cell) KpC.tr (fun W l o o' _ ho hc _ => KpC.put W l o o' ho hc) (Below.refl _ _) (fun _ => rfl)
    (fun pre W => (∃ v, Boxed W (w.heap.size + 1) 136 v ∧ W.ownsRow (w.heap.size + 1) 150 1 v pre.length (pre.map eU) ∧ True) ∧ (Boxed W (w.heap.size + 1 + 1) 9 (.string ⟨d.toArray⟩) ∧ Below (w.heap.size + 1) (w.alloc (.cells #[.bool false, .slice none 0 0] 138)) W))
    (fun _ _ _ => False)
    (OwnFrom.and (Own.from (holdsRow_own (w.heap.size + 1) (w.heap.size + 1) 136 150 1 (fun pre : List Nat => pre.length) (fun pre => pre.map eU) (fun _ _ => True)) _) (OwnFrom.and (Own.from (boxed_own _ _ (fun _ => .string ⟨d.toArray⟩)) _) (ownFrom_below (by simp) (by first | (simp; done) | (simp; omega)))))
    (fun _ _ _ _ _ hs _ _ => hs)
    ⟨⟨_, bL, World.ownsRow_nil _ _ _ _, trivial⟩, bS, hB0⟩
    (fun x => { tmps := #[.string s, undef, .pointer (some ⟨w.heap.size, 0, none⟩), .string ⟨d.toArray⟩, .bool m, .pointer (some ⟨w.heap.size + 1, 0, none⟩), .int .u32 (x : Nat), .tuple #[.string ⟨d.toArray⟩, .bool m], .string s, .tuple #[.string ⟨d.toArray⟩, .bool m], .string ⟨d.toArray⟩, .bool m, .string ⟨d.toArray⟩,
      .func (.func 132) #[] #[.pointer (some ⟨w.heap.size + 1 + 1, 0, none⟩)], .int .u32 (x : Nat), undef, undef, undef, undef, undef, undef, undef, undef], defers := [] }) ?assign ?body ?done ?stop
  case assign =>
    intro l x W K hK
    gi_wp2
    exact hK
  case body =>
    rintro l pre x W ⟨⟨v, hv, hrow, -⟩, hS, hB⟩ hlt
    have hc := hv.cell
    have hBs : w.heap.size + 1 ≤ W.heap.size := by have := hB.size; simpa using this
    gi_wp2_with (gi_at_builtin; go_loud (refine wpListIn_append_own _ rfl _ _ 136 rfl (w.heap.size + 1) 150 i0 (.int .u32 0) 1 4 Tryz.underlying136 hi hz0 hz1 hz2 rfl (by decide) _ _ _ rfl (hrow.alloc _) ⟨W.heap.size, 0, none⟩ 1 1 [.int .u32 (x : Nat)] rfl rfl (cell_one_new _ _ _) (by simp [Value.oneCell']) (by unfold maxLen; omega) (by omega) (by first | (simp; done) | (simp; omega)) ?_; intro v' w1 hown' hgrow _; obtain ⟨g', cap', rfl⟩ := ownsRow_succ hown'; obtain ⟨hv1, hv2, hr2, hk2, hb2⟩ := hv.appended (by decide) hrow hBs (Nat.le_refl _) hown' hgrow; have hc1 := hv1.cell; have hf1 := hv1.frozen))
    have hS1 := (hS.alloc _).kept hgrow (hS.not_row (by decide) hrow)
    exact ⟨hk2.from _, fun u hu => by rw [hS.cell] at hu; cases hu; exact (hS1.other (by omega) _).cell, ⟨_, hv2, by simpa [eU] using hr2, trivial⟩, hS1.other (by omega) _, hB.trans hb2⟩
  case done =>
    rintro D ys W hD rfl ⟨⟨v, hv, hrow, -⟩, -, hB⟩ hK
    have hc := hv.cell
    have hsl : Sl eU W v (ws d d.length) := Sl.ofOwns hrow
    have hBk := bK.below (hB.mono (Nat.le_refl _)) (by simp)
    have hDg : w.heap.size + 1 + 1 + 1 ≤ D := by simpa using hD
    have hDW : D < W.heap.size := (Array.getElem?_eq_some_iff.1 hK).1
    gi_wp2
    refine ⟨trivial, callsIn_wide.2 ((trimmed_any _ _ _ hsl).mono ?_)⟩
    rintro e w' ⟨v3, rfl, hs3, rfl⟩
    rw [trim_of 1000000000 (ws d d.length) z.natAbs (by omega) (ws_lt d HALL.out _ (Nat.le_refl _)) HVAL.out] at hs3
    gi_wp2
    refine ⟨trivial, callsIn_wide.2 ((signed_any _ _ _ _ hs3).mono ?_)⟩
    rintro e w2 ⟨v4, rfl, ⟨mA, aA, nA, cA, rfl, hmA, hsA⟩, hbA⟩
    have hsg : sg m z.natAbs = z := by
      rw [← HM.out]; by_cases hz : z < 0 <;> simp [sg, hz] <;> omega
    rw [hsg] at hsA hmA
    have hBk2 := hBk.below hbA (Nat.le_refl _)
    have k0 := hBk2.cell 0 _ rfl
    have k1 := hBk2.cell 1 _ rfl
    have f0 := hBk2.free 0
    have f1 := hBk2.free 1
    have hK2 : w2.heap[D]? = some (.deferred (some [])) := (hbA.block D hDW).trans hK
    have hb1 : Below w.heap.size w W := ((Below.refl _ w).alloc (Nat.le_refl _) _).trans (hB.mono (by omega))
    have hb2 : Below w.heap.size w w2 := hb1.trans (hbA.mono hb1.size)
    have HSA := Lib.hid hsA; have HMA := Lib.hid hmA; have HB2 := Lib.hid hb2
    clear hsA hmA hb2 hs3 hsl
    gi_wp2
    obtain ⟨hs2, r0, r1⟩ := store2 hBk2 (by simp [eU]) (by simp [eU]) mA aA nA cA HSA.out
    have hK3 := ((KeepsOthers.setCell w2 ⟨w.heap.size, 0, none⟩ (.bool mA)).trans (KeepsOthers.setCell (w2.setCell ⟨w.heap.size, 0, none⟩ (.bool mA)) ⟨w.heap.size, 1, none⟩ (.slice aA nA cA))).same D _ hK2 rfl
    have hb3 := (HB2.out.setCell (p := ⟨w.heap.size, 0, none⟩) (Nat.le_refl _) (.bool mA)).setCell (p := ⟨w.heap.size, 1, none⟩) (Nat.le_refl _) (.slice aA nA cA)
    generalize (w2.setCell ⟨w.heap.size, 0, none⟩ (.bool mA)).setCell ⟨w.heap.size, 1, none⟩ (.slice aA nA cA) = w3 at *
    have q0 := cell_kept r0 (grownBy_putObj' w3 D (.deferred none)) (fun r e => by cases e; exact ⟨_, hK3, rfl⟩)
    have q1 := cell_kept r1 (grownBy_putObj' w3 D (.deferred none)) (fun r e => by cases e; exact ⟨_, hK3, rfl⟩)
    refine ⟨by simp, .inl ⟨_, _, rfl, run_takeDeferred hK3, ?_⟩⟩
    exact ⟨.agg #[.bool mA, .slice aA nA cA], by simp [results, Tryz.results103, go_sem, q0, q1], _, rfl, ⟨_, _, _, _, rfl, HMA.out, hs2.put _ hK3 rfl⟩,
      hb3.trans (belowK_b (w := w) (Nat.le_refl _) w3 D _ _ (by omega) hK3 rfl rfl)⟩
  case stop =>
    rintro D c pre W _ _ h _
    exact h.elim

theorem read_any (w : World) (s : ByteArray) (z : Int) (hs : s.data.toList = Lib.itoa z) (hsz : s.size ≤ 1000000) :
    Calls Tryz.prog 103 #[.string s] w (Rets fun v w' => Num w' v z ∧ Below w.heap.size w w') := callsIn_wide.1 (read_in w s z hs hsz)
end Go.Proofs.YtlnhocgjgmhfgaaGreatDoor
