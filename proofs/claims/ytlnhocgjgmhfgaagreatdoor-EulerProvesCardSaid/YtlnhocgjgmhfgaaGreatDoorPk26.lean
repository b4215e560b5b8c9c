/- The walk of the reference's Check. The walks of the reference's sums, products and orders of integers. The walks of the reference's differences, products, orders of integers, and of its bounded answers. Texts that are numerals, as literals. The walk of integer's Pow. The walks of integer's each, total.add and Sum. Plain law: what a text's number is; what a group's check answers. Matrices as the program passes them; the walks of side, Check, there and at, of the program and of the reference. -/
import Derived.Test.YtlnhocgjgmhfgaaGreatDoorPk25
namespace Go.Proofs.YtlnhocgjgmhfgaaGreatDoor
open Go.RowKit
set_option maxRecDepth 100000

theorem chkD_bad (d : List UInt8) (m : Bool) (x : UInt8) (hx : x ∈ d) (h : isDig x = false) : chkD d m = 3 := by
  unfold chkD; rw [if_pos]
  rw [List.all_eq_false]; exact ⟨x, hx, by simp [h]⟩
theorem chkD_lead (t : List UInt8) (m : Bool) (ht : 0 < t.length) : chkD (48 :: t) m = 3 := by
  cases h : (48 :: t : List UInt8).all isDig
  · unfold chkD; rw [if_pos h]
  · rw [chkD_cons _ _ _ h, if_pos ⟨rfl, .inl ht⟩]
theorem chkD_good (x : UInt8) (t : List UInt8) (m : Bool) (h : (x :: t).all isDig = true) (h1 : ¬ (x = 48 ∧ 0 < t.length)) (h2 : m = true → x :: t ≠ [48]) : chkD (x :: t) m = if 1023 < t.length then 11 else 0 := by
  rw [chkD_cons _ _ _ h, if_neg]
  rintro ⟨e, h3⟩
  have e2 : x = 48 := UInt8.toNat_inj.1 e
  rcases h3 with h3 | h3
  · exact h1 ⟨e2, h3⟩
  · refine h2 h3 ?_
    subst e2
    cases t with
    | nil => rfl
    | cons c t => exact absurd ⟨rfl, by simp⟩ h1

end Go.Proofs.YtlnhocgjgmhfgaaGreatDoor

namespace Go.Proofs.YtlnhocgjgmhfgaaGreatDoor
open Go.RowKit
set_option maxRecDepth 100000

/-- How many digits an integer has, none for 0. -/
def dn (z : Int) : Nat := (digs 10 z.natAbs).length
theorem itoa_len (z : Int) : (Lib.itoa z).length ≤ dn z + 2 := by
  have h : (Lib.decDigits z.natAbs).length ≤ dn z + 1 := by
    unfold dn
    rcases Nat.eq_zero_or_pos z.natAbs with h | h
    · rw [h, digs_zero, Lib.decDigits_one (by omega)]; simp
    · rw [digs10_len_eq _ h]; omega
  rw [itoa_cases]; split
  · rw [List.length_cons]; omega
  · omega
theorem dn_neg (z : Int) : dn (-z) = dn z := by unfold dn; rw [Int.natAbs_neg]
theorem dn_add (x y : Int) : dn (x + y) ≤ max (dn x) (dn y) + 1 := by
  unfold dn
  exact Nat.le_trans (digs_len_mono _ (by omega) (Int.natAbs_add_le x y)) (digs_len_add _ _ _ (by omega))
theorem dn_sub (x y : Int) : dn (x - y) ≤ max (dn x) (dn y) + 1 := by rw [Int.sub_eq_add_neg]; have := dn_add x (-y); rwa [dn_neg] at this
theorem dn_mul (x y : Int) : dn (x * y) ≤ dn x + dn y := by unfold dn; rw [Int.natAbs_mul]; exact digs_len_mul _ _ _ (by omega)
theorem Good.dn {s : ByteArray} {z : Int} (h : Good s z) : dn z ≤ 1024 := Nat.le_trans (digs10_len _) h.dec

theorem sg_self (z : Int) : sg (decide (z < 0)) z.natAbs = z := by by_cases h : z < 0 <;> simp [sg, h] <;> omega
theorem sg_not (z : Int) : sg (!decide (z < 0)) z.natAbs = -z := by by_cases h : z < 0 <;> simp [sg, h] <;> omega
theorem below4 {w w1 w2 w3 w4 w5 : World} (h1 : Below w.heap.size w w1) (h2 : Below w1.heap.size w1 w2) (h3 : Below w2.heap.size w2 w3) (h4 : Below w3.heap.size w3 w4) (h5 : Below w4.heap.size w4 w5) : Below w.heap.size w w5 :=
  have s1 := h1.size
  have s2 := Nat.le_trans s1 h2.size
  have s3 := Nat.le_trans s2 h3.size
  have s4 := Nat.le_trans s3 h4.size
  (((h1.trans (h2.mono s1)).trans (h3.mono s2)).trans (h4.mono s3)).trans (h5.mono s4)
end Go.Proofs.YtlnhocgjgmhfgaaGreatDoor
namespace Go.Proofs.YtlnhocgjgmhfgaaGreatDoor
open Go.RowKit
set_option maxRecDepth 100000

theorem itoa0 : Lib.itoa 0 = [48] := by rw [itoa_cases, if_neg (by omega), show Int.natAbs 0 = 0 from rfl, Lib.decDigits_one (by omega)]; rfl
theorem txt0 : txt 0 = ⟨#[48]⟩ := by unfold txt; rw [itoa0]
theorem txt_list (z : Int) : (txt z).toList = Lib.itoa z := by rw [ByteArray.toList_eq]; rfl
theorem txt_ne0 {z : Int} (h : z ≠ 0) : ((txt z).toList == [48]) = false := by
  rw [txt_list, ← itoa0]; simp only [beq_eq_false_iff_ne]; exact fun e => h (itoa_inj e)
end Go.Proofs.YtlnhocgjgmhfgaaGreatDoor

namespace Go.Proofs.YtlnhocgjgmhfgaaGreatDoor
set_option maxRecDepth 100000

theorem Good.val {s : ByteArray} {z : Int} (h : Good s z) : z = if Lib.hasPrefix s.data.toList [45] then -(dv 0 (Lib.trimPrefix s.data.toList [45]) : Int) else (dv 0 (Lib.trimPrefix s.data.toList [45]) : Int) := by
  rw [h.1, pre_itoa, trim_itoa, dv_dec]
  by_cases hz : z < 0
  · rw [if_pos (by simpa using hz)]; omega
  · rw [if_neg (by simpa using hz)]; omega
theorem good_lit {s : ByteArray} {z : Int} (h : chk s.data.toList = 0) (hz : z = if Lib.hasPrefix s.data.toList [45] then -(dv 0 (Lib.trimPrefix s.data.toList [45]) : Int) else (dv 0 (Lib.trimPrefix s.data.toList [45]) : Int)) : Good s z := by
  obtain ⟨y, hy⟩ := good_of h
  have := hy.val
  rw [← hz] at this
  rwa [this] at hy
theorem g0 : Good ⟨#[48]⟩ 0 := good_lit (by decide) (by decide)
theorem g1 : Good ⟨#[49]⟩ 1 := good_lit (by decide) (by decide)
end Go.Proofs.YtlnhocgjgmhfgaaGreatDoor

namespace Go.Proofs.YtlnhocgjgmhfgaaGreatDoor
open Go.RowKit
set_option maxRecDepth 100000

/-- Box g holds the integer z. -/
def NBox (w : World) (g : Nat) (z : Int) : Prop := ∃ m a n c T, Blk w g [.bool m, .slice a n c] T ∧ m = decide (z < 0) ∧ Sl eU w (.slice a n c) (digs 1000000000 z.natAbs)
/-- A box that holds a number, whichever, of whatever type. -/
def Bq (w : World) (g : Nat) : Prop := ∃ p q T, Blk w g [p, q] T ∧ (∀ n, p ≠ eU n) ∧ (∀ n, q ≠ eU n)
theorem Bq.facts {w : World} {g : Nat} (h : Bq w g) : ∃ p q, w.cell? ⟨g, 0, none⟩ = some p ∧ w.cell? ⟨g, 1, none⟩ = some q ∧ w.frozen? ⟨g, 0, none⟩ = false ∧ w.frozen? ⟨g, 1, none⟩ = false := by
  obtain ⟨p, q, T, h, hp, hq⟩ := h; exact ⟨p, q, h.cell 0 _ rfl, h.cell 1 _ rfl, h.free 0, h.free 1⟩
theorem Bq.below {w w' : World} {g B : Nat} (h : Bq w g) (hb : Below B w w') (hB : w.heap.size ≤ B) : Bq w' g := by
  obtain ⟨p, q, T, h, hp, hq⟩ := h; exact ⟨p, q, T, h.below hb hB, hp, hq⟩
theorem NBox.below {w w' : World} {g B : Nat} {z : Int} (h : NBox w g z) (hb : Below B w w') (hB : w.heap.size ≤ B) : NBox w' g z := by
  obtain ⟨m, a, n, c, T, hk, hm, hs⟩ := h
  exact ⟨m, a, n, c, T, hk.below hb hB, hm, hs.below hb hB⟩
theorem NBox.alloc {w : World} {g : Nat} {z : Int} (h : NBox w g z) (o : Obj) : NBox (w.alloc o) g z := h.below ((Below.refl _ w).alloc (Nat.le_refl _) o) (Nat.le_refl _)
theorem NBox.lt {w : World} {g : Nat} {z : Int} (h : NBox w g z) : g < w.heap.size := by obtain ⟨m, a, n, c, T, hk, hm, hs⟩ := h; exact hk.lt
theorem NBox.bx {w : World} {g : Nat} {z : Int} (h : NBox w g z) : Bq w g := by obtain ⟨m, a, n, c, T, hk, hm, hs⟩ := h; exact ⟨_, _, _, hk, by simp [eU], by simp [eU]⟩
/-- What stands in the box, for the walk. -/
theorem NBox.facts {w : World} {g : Nat} {z : Int} (h : NBox w g z) : ∃ m a n c, w.cell? ⟨g, 0, none⟩ = some (.bool m) ∧ w.cell? ⟨g, 1, none⟩ = some (.slice a n c) ∧ w.frozen? ⟨g, 0, none⟩ = false ∧ w.frozen? ⟨g, 1, none⟩ = false ∧ n = wl z ∧ Num w (.agg #[.bool m, .slice a n c]) z := by
  obtain ⟨m, a, n, c, T, hk, hm, hs⟩ := h
  exact ⟨m, a, n, c, hk.cell 0 _ rfl, hk.cell 1 _ rfl, hk.free 0, hk.free 1, hs.len.1, m, a, n, c, rfl, hm, hs⟩
theorem Sl.setBx {w : World} {g : Nat} {v : Value} {xs : List Nat} (h : Sl eU w v xs) (hk : Bq w g) (m : Bool) (a : Option Addr) (n c : Nat) : Sl eU ((w.setCell ⟨g, 0, none⟩ (.bool m)).setCell ⟨g, 1, none⟩ (.slice a n c)) v xs := by
  obtain ⟨p, q, T, hk, hp, hq⟩ := hk
  have h1 := hk.set 0 (.bool m)
  refine (h.set_other hk ?_ _).set_other h1 ?_ _
  · intro x hx; simp at hx; rcases hx with rfl | rfl; exact hp; exact hq
  · intro x hx n; simp at hx; rcases hx with rfl | rfl; simp [eU]; exact hq n
/-- A number stored into another box. -/
theorem NBox.other {w : World} {g g' : Nat} {z : Int} (h : NBox w g z) (hk : Bq w g') (hne : g ≠ g') (m : Bool) (a : Option Addr) (n c : Nat) : NBox ((w.setCell ⟨g', 0, none⟩ (.bool m)).setCell ⟨g', 1, none⟩ (.slice a n c)) g z := by
  obtain ⟨m1, a1, n1, c1, T, hk1, hm, hs⟩ := h
  exact ⟨m1, a1, n1, c1, T, (hk1.setCell hne _).setCell hne _, hm, hs.setBx hk m a n c⟩
/-- A number stored into its box. -/
theorem NBox.self {w : World} {g : Nat} {z : Int} {m : Bool} {a : Option Addr} {n c : Nat} (hk : Bq w g) (hv : Num w (.agg #[.bool m, .slice a n c]) z) : NBox ((w.setCell ⟨g, 0, none⟩ (.bool m)).setCell ⟨g, 1, none⟩ (.slice a n c)) g z := by
  obtain ⟨m1, a1, n1, c1, he, hm, hs⟩ := hv
  cases he
  have h2 := hs.setBx hk m a n c
  obtain ⟨p, q, T, hk, hp, hq⟩ := hk
  exact ⟨m, a, n, c, T, (hk.set 0 (.bool m)).set 1 (.slice a n c), hm, h2⟩
theorem NBox.new {w : World} {z : Int} {m : Bool} {a : Option Addr} {n c : Nat} {T : TypeId} (hv : Num w (.agg #[.bool m, .slice a n c]) z) : NBox (w.alloc (.cells #[.bool m, .slice a n c] T)) w.heap.size z := by
  obtain ⟨m1, a1, n1, c1, he, hm, hs⟩ := hv
  cases he
  exact ⟨m, a, n, c, _, Blk.new w [.bool m, .slice a n c] _, hm, hs.below ((Below.refl _ w).alloc (Nat.le_refl _) _) (Nat.le_refl _)⟩
theorem Num.alloc {w : World} {v : Value} {z : Int} (h : Num w v z) (o : Obj) : Num (w.alloc o) v z := h.below ((Below.refl _ w).alloc (Nat.le_refl _) o) (Nat.le_refl _)
theorem Num.zero (w : World) : Num w (.agg #[.bool false, .slice none 0 0]) 0 := ⟨_, _, _, _, rfl, rfl, by rw [show Int.natAbs 0 = 0 from rfl, digs_zero]; exact Sl.nil⟩
theorem digs_one : digs 1000000000 1 = [1] := by rw [digs_pos _ _ (by omega) (by omega), show 1 / 1000000000 = 0 by omega, digs_zero]
/-- The number 1, its one word just laid. -/
theorem Num.one (w : World) (e : TypeId) : Num (w.alloc (.cells #[.int .u32 1] e)) (.agg #[.bool false, .slice (some ⟨w.heap.size, 0, none⟩) 1 1]) 1 :=
  ⟨_, _, _, _, rfl, rfl, by rw [show Int.natAbs 1 = 1 from rfl, digs_one]; exact Sl.single (enc := eU) w 1 _ rfl _⟩

theorem big_le (a b : Nat) (h : a ≤ 9 * b) : 10 ^ a ≤ 1000000000 ^ b := by
  rw [show (1000000000 : Nat) = 10 ^ 9 from rfl, ← Nat.pow_mul]; exact Nat.pow_le_pow_right (by omega) h
theorem big_of_wl (z : Int) (h : 114 < wl z) : big z = true := by
  cases hb : big z
  · exfalso
    refine absurd h (Nat.not_lt.2 ?_)
    exact (digs_len 1000000000 z.natAbs 114 (by decide)).2 (Nat.lt_of_lt_of_le ((big_iff z).1 hb) (big_le 1024 114 (by decide)))
  · rfl
theorem big_pow (x : Int) (k n : Nat) (hkn : k ≤ n) (h : big (x ^ k) = true) : big (x ^ n) = true := by
  cases hb : big (x ^ n)
  · have h1 := (big_iff _).1 hb
    have h2 : ¬ (x ^ k).natAbs < 10 ^ 1024 := fun h3 => by rw [(big_iff _).2 h3] at h; cases h
    rw [Int.natAbs_pow] at h1 h2
    rcases Nat.eq_zero_or_pos x.natAbs with h0 | h0
    · rw [h0] at h2
      rcases Nat.eq_zero_or_pos k with hk | hk
      · subst hk; rw [Nat.pow_zero] at h2; exact absurd (Nat.one_lt_pow (by omega) (by omega)) h2
      · rw [Nat.zero_pow hk] at h2; exact absurd (Nat.pow_pos (by omega)) h2
    · exact absurd (Nat.lt_of_le_of_lt (Nat.pow_le_pow_right h0 hkn) h1) h2
  · rfl

/-- The boxes of Pow. -/
def PB (w : World) (b : Nat) (x y : Int) (wr : World) : Prop := Below w.heap.size w wr ∧ w.heap.size ≤ b ∧ NBox wr b x ∧ NBox wr (b + 1) y
theorem PB.keep {w w1 w2 : World} {b : Nat} {x y : Int} (h : PB w b x y w1) (hb : Below w1.heap.size w1 w2) : PB w b x y w2 :=
  ⟨h.1.trans (hb.mono h.1.size), h.2.1, h.2.2.1.below hb (Nat.le_refl _), h.2.2.2.below hb (Nat.le_refl _)⟩
theorem PB.store {w w1 : World} {b : Nat} {x y z : Int} {m : Bool} {a : Option Addr} {n c : Nat} (h : PB w b x y w1) (hv : Num w1 (.agg #[.bool m, .slice a n c]) z) : PB w b x z ((w1.setCell ⟨b + 1, 0, none⟩ (.bool m)).setCell ⟨b + 1, 1, none⟩ (.slice a n c)) :=
  ⟨(h.1.setCell (by have := h.2.1; simp; omega) _).setCell (by have := h.2.1; simp; omega) _, h.2.1, h.2.2.1.other h.2.2.2.bx (by omega) m a n c, NBox.self h.2.2.2.bx hv⟩

end Go.Proofs.YtlnhocgjgmhfgaaGreatDoor

namespace Go.Proofs.YtlnhocgjgmhfgaaGreatDoor
open Go.RowKit
set_option maxRecDepth 100000

/-- The sum's box g (two cells), the argument's box, all that lies below stays. -/
def AB (B : Nat) (w : World) (g : Nat) (s : Int) (h : Nat) (z : Int) (wr : World) : Prop := Below B w wr ∧ B ≤ g ∧ g ≠ h ∧ NBox wr g s ∧ NBox wr h z
theorem AB.keep {B : Nat} {w w1 w2 : World} {g h : Nat} {s z : Int} (H : AB B w g s h z w1) (hb : Below w1.heap.size w1 w2) (hB : B ≤ w.heap.size) : AB B w g s h z w2 :=
  ⟨H.1.trans (hb.mono (Nat.le_trans hB H.1.size)), H.2.1, H.2.2.1, H.2.2.2.1.below hb (Nat.le_refl _), H.2.2.2.2.below hb (Nat.le_refl _)⟩
theorem AB.drew {B : Nat} {w w1 : World} {g h : Nat} {s z : Int} (H : AB B w g s h z w1) : AB B w g s h z w1.drew :=
  ⟨H.1.drew, H.2.1, H.2.2.1, H.2.2.2.1.below (Below.refl _ _).drew (Nat.le_refl _), H.2.2.2.2.below (Below.refl _ _).drew (Nat.le_refl _)⟩
theorem AB.store {B : Nat} {w w1 : World} {g h : Nat} {s z t : Int} {m : Bool} {a : Option Addr} {n c : Nat} (H : AB B w g s h z w1) (hv : Num w1 (.agg #[.bool m, .slice a n c]) t) :
    NBox ((w1.setCell ⟨g, 0, none⟩ (.bool m)).setCell ⟨g, 1, none⟩ (.slice a n c)) g t ∧ Below B w ((w1.setCell ⟨g, 0, none⟩ (.bool m)).setCell ⟨g, 1, none⟩ (.slice a n c)) :=
  ⟨NBox.self H.2.2.2.1.bx hv, (H.1.setCell H.2.1 _).setCell H.2.1 _⟩
/-- The sum of the integers in some texts; each text is good. -/
def Goods : List ByteArray → List Int → Prop
  | [], [] => True
  | s :: l, z :: m => Good s z ∧ Goods l m
  | _, _ => False
theorem Goods.of : ∀ (xs : List ByteArray), chks xs = 0 → ∃ zs, Goods xs zs
  | [], _ => ⟨[], trivial⟩
  | s :: l, h => by
    rw [chks] at h
    by_cases h0 : chk s.data.toList = 0
    · rw [if_pos h0] at h
      obtain ⟨z, hz⟩ := good_of h0
      obtain ⟨m, hm⟩ := Goods.of l h
      exact ⟨z :: m, hz, hm⟩
    · rw [if_neg h0] at h; exact absurd h h0
theorem Goods.len : ∀ {xs : List ByteArray} {zs : List Int}, Goods xs zs → zs.length = xs.length
  | [], [], _ => rfl
  | _ :: _, _ :: _, h => by simp [h.2.len]
theorem Goods.get : ∀ {xs : List ByteArray} {zs : List Int}, Goods xs zs → ∀ i (h : i < xs.length) (h' : i < zs.length), Good xs[i] zs[i]
  | s :: l, z :: m, h, i, h1, h2 => by
    cases i with
    | zero => exact h.1
    | succ i => simpa using h.2.get i (by simpa using h1) (by simpa using h2)
theorem sum_take (zs : List Int) (k : Nat) (h : k < zs.length) : (zs.take (k + 1)).sum = (zs.take k).sum + zs[k] := by
  rw [List.take_succ_eq_append_getElem h, List.sum_append, List.sum_cons, List.sum_nil, Int.add_zero]
/-- What the loop of each holds. -/
def EB (w0 : World) (g : Nat) (z : Int) (k : Nat) (wr : World) : Prop := Below w0.heap.size w0 wr ∧ w0.heap.size ≤ g ∧ NBox wr g z ∧ wl z ≤ 1024 + k
end Go.Proofs.YtlnhocgjgmhfgaaGreatDoor

namespace Go.Proofs.YtlnhocgjgmhfgaaGreatDoor
set_option maxRecDepth 100000

/-- The integer that a canonical text says. -/
def num (s : ByteArray) : Int := if Lib.hasPrefix s.data.toList [45] then -(dv 0 (Lib.trimPrefix s.data.toList [45]) : Int) else (dv 0 (Lib.trimPrefix s.data.toList [45]) : Int)
theorem Good.num {s : ByteArray} {z : Int} (h : Good s z) : num s = z := h.val.symm
theorem good_num {s : ByteArray} (h : chk s.data.toList = 0) : Good s (num s) := by
  obtain ⟨z, hz⟩ := good_of h
  rw [hz.num]; exact hz
/-- Does the number before divide this one, if there is one before? -/
def fits : Option ByteArray → ByteArray → Bool
  | none, _ => true
  | some q, s => decide (Int.fmod (num s) (num q) = 0)
/-- The first error of a group's numbers. -/
def gstep : Option ByteArray → List ByteArray → Int
  | _, [] => 0
  | p, s :: l => if chk s.data.toList = 0 then (if num s < 2 then 2 else if fits p s then gstep (some s) l else 9) else chk s.data.toList
def gchk (xs : List ByteArray) : Int := if 16 < xs.length then 5 else gstep none xs
def before (xs : List ByteArray) (k : Nat) : Option ByteArray := if k = 0 then none else xs[k - 1]?
/-- The numbers of a right group. -/
structure Grp (xs : List ByteArray) (zs : List Int) : Prop where
  good : Goods xs zs
  two : ∀ z ∈ zs, 2 ≤ z
  len : xs.length ≤ 16
theorem gstep_good : ∀ (xs : List ByteArray) (p : Option ByteArray), gstep p xs = 0 → ∃ zs, Goods xs zs ∧ (∀ z ∈ zs, 2 ≤ z)
  | [], _, _ => ⟨[], trivial, by simp⟩
  | s :: l, p, h => by
    rw [gstep] at h
    by_cases h1 : chk s.data.toList = 0
    · rw [if_pos h1] at h
      by_cases h2 : num s < 2
      · rw [if_pos h2] at h; exact absurd h (by decide)
      · rw [if_neg h2] at h
        by_cases h3 : fits p s
        · rw [if_pos h3] at h
          obtain ⟨zs, hz, ht⟩ := gstep_good l (some s) h
          refine ⟨num s :: zs, ⟨good_num h1, hz⟩, fun z hm => ?_⟩
          rcases List.mem_cons.1 hm with rfl | hm
          · omega
          · exact ht z hm
        · rw [if_neg h3] at h; exact absurd h (by decide)
    · rw [if_neg h1] at h; exact absurd h h1
theorem grp_of {xs : List ByteArray} (h : gchk xs = 0) : ∃ zs, Grp xs zs := by
  unfold gchk at h
  by_cases h16 : 16 < xs.length
  · rw [if_pos h16] at h; exact absurd h (by decide)
  · rw [if_neg h16] at h
    obtain ⟨zs, h1, h2⟩ := gstep_good xs none h
    exact ⟨zs, h1, h2, by omega⟩
end Go.Proofs.YtlnhocgjgmhfgaaGreatDoor

namespace Go.Proofs.YtlnhocgjgmhfgaaGreatDoor
open Go.RowKit
set_option maxRecDepth 100000

theorem chksD (xs : List ByteArray) (k : Nat) (h : k < xs.length) : chks (xs.drop k) = if chk xs[k].data.toList = 0 then chks (xs.drop (k + 1)) else chk xs[k].data.toList := by
  rw [List.drop_eq_getElem_cons h, chks]
theorem chksA : ∀ (xs : List ByteArray), (∀ j (h : j < xs.length), chk xs[j].data.toList = 0) → chks xs = 0
  | [], _ => rfl
  | s :: l, h => by
    rw [chks, if_pos (show chk s.data.toList = 0 from h 0 (by simp))]
    exact chksA l fun j hj => h (j + 1) (by simpa using hj)
/-- Is an int a number of rows or columns? -/
def sideB (n : Int) : Bool := decide (0 ≤ n) && decide (n ≤ 16)
theorem sideB_iff (n : Int) : sideB n = true ↔ 0 ≤ n ∧ n ≤ 16 := by simp [sideB]
/-- What Check answers. -/
def mchkM (R C : Int) (xs : List ByteArray) : Int := if sideB R = true then (if sideB C = true then (if (xs.length : Int) = R * C then chks xs else 8) else 2) else 2
theorem side_mul {R C : Int} (hR : sideB R = true) (hC : sideB C = true) : 0 ≤ R * C ∧ R * C ≤ 256 := by
  obtain ⟨a, b⟩ := (sideB_iff R).1 hR
  obtain ⟨c, d⟩ := (sideB_iff C).1 hC
  refine ⟨Int.mul_nonneg a c, ?_⟩
  have := Int.mul_le_mul b d c (by omega : (0 : Int) ≤ 16)
  omega
/-- A right matrix: its sides as numbers, its cells. -/
structure RM (R C : Int) (xs : List ByteArray) (r c : Nat) : Prop where
  rows : R = (r : Int)
  cols : C = (c : Int)
  r16 : r ≤ 16
  c16 : c ≤ 16
  len : xs.length = r * c
  chk : chks xs = 0
theorem rm_of {R C : Int} {xs : List ByteArray} (h : mchkM R C xs = 0) : ∃ r c, RM R C xs r c := by
  unfold mchkM at h
  split at h
  · rename_i hR
    split at h
    · rename_i hC
      split at h
      · rename_i hl
        obtain ⟨a, b⟩ := (sideB_iff R).1 hR
        obtain ⟨c, d⟩ := (sideB_iff C).1 hC
        obtain ⟨r, rfl⟩ : ∃ r : Nat, R = (r : Int) := ⟨R.toNat, by omega⟩
        obtain ⟨k, rfl⟩ : ∃ k : Nat, C = (k : Int) := ⟨C.toNat, by omega⟩
        refine ⟨r, k, rfl, rfl, by omega, by omega, ?_, h⟩
        have : ((r * k : Nat) : Int) = (r : Int) * (k : Int) := Int.natCast_mul _ _
        omega
      · omega
    · omega
  · omega
theorem RM.mchk {R C : Int} {xs : List ByteArray} {r c : Nat} (h : RM R C xs r c) : mchkM R C xs = 0 := by
  obtain ⟨rfl, rfl, h1, h2, h3, h4⟩ := h
  unfold mchkM
  rw [if_pos ((sideB_iff _).2 ⟨by omega, by omega⟩), if_pos ((sideB_iff _).2 ⟨by omega, by omega⟩), if_pos (by rw [h3]; exact Int.natCast_mul _ _)]
  exact h4
theorem RM.l256 {R C : Int} {xs : List ByteArray} {r c : Nat} (h : RM R C xs r c) : xs.length ≤ 256 := by
  rw [h.len]; exact Nat.mul_le_mul h.r16 h.c16
theorem mchk_len {R C : Int} {xs : List ByteArray} (hR : sideB R = true) (hC : sideB C = true) (hl : (xs.length : Int) = R * C) : xs.length ≤ 256 := by
  have := side_mul hR hC; omega
theorem RM.place {R C : Int} {xs : List ByteArray} {r c : Nat} (h : RM R C xs r c) {i k : Nat} (hi : i < r) (hk : k < c) : i * c + k < xs.length := by
  rw [h.len]
  calc i * c + k < i * c + c := by omega
    _ = (i + 1) * c := by rw [Nat.add_mul, Nat.one_mul]
    _ ≤ r * c := Nat.mul_le_mul_right _ hi

theorem Mside_any (w : World) (n : Int) : Calls Tryz.prog 95 #[.int .i64 n] w (Rets fun v w' => v = .bool (sideB n) ∧ w = w') := by
  by_cases h : 0 ≤ n
  · by_cases h2 : n ≤ 16
    all_goals
      have HS := Lib.hid (show sideB n = _ by simp [sideB, h, h2]; rfl)
      go_enter Tryz.func95, Tryz.ntmps95
      go_wp2
      go_ret
      exact ⟨_, rfl, by simp [sideB, h, h2], rfl⟩
  · have h2 : n < 0 := by omega
    go_enter Tryz.func95, Tryz.ntmps95
    go_wp2
    go_ret
    exact ⟨_, rfl, by simp [sideB]; omega, rfl⟩
set_option maxHeartbeats 2000000 in
theorem MCheck_any (w : World) (R C : Int) (v : Value) (xs : List ByteArray) (hv : Sl eS w v xs) (hsz : xs.length ≤ 256 → ∀ s ∈ xs, s.size ≤ 1000000) :
    Calls Tryz.prog 98 #[.agg #[.int .i64 R, .int .i64 C, v]] w (Rets fun v w' => v = .int .i64 (mchkM R C xs) ∧ Below w.heap.size w w') := by
  obtain ⟨ad, b, o, c, rfl, hi, hp, hcc, hm⟩ := hv.open elemStr
  unfold maxLen at hm
  clear hv
  by_cases hR : sideB R = true
  · by_cases hC : sideB C = true
    · have hm2 := side_mul hR hC
      obtain ⟨p, hRC⟩ : ∃ p, R * C = p := ⟨_, rfl⟩
      rw [hRC] at hm2
      have HR := Lib.hid hR; have HC := Lib.hid hC
      by_cases hl : (xs.length : Int) = p
      · have HSZ := Lib.hid (hsz (by omega))
        have HV := Lib.hid (show mchkM R C xs = chks xs by unfold mchkM; rw [if_pos hR, if_pos hC, if_pos (by rw [hRC]; exact hl)])
        have hne : ((xs.length : Int) != p) = false := by simp [hl]
        clear hR hC hsz hl
        go_enter Tryz.func98, Tryz.ntmps98
        go_wp2_with (first
          | (go_at_call_of 95 (Value.int .i64 R); (with_reducible refine (Mside_any _ R).mono ?_); rintro e w1 ⟨v, rfl, rfl, rfl⟩; rw [HR.out])
          | (go_at_call_of 95 (Value.int .i64 C); (with_reducible refine (Mside_any _ C).mono ?_); rintro e w2 ⟨v, rfl, rfl, rfl⟩; rw [HC.out]))
        go_loopw [28] (fun i wr => ∃ k : Nat, k ≤ xs.length ∧ i = .int .i64 k ∧ Hid (chks xs = chks (xs.drop k)) ∧ Below (w.heap.size + 1) (w.alloc (.cells #[.int .i64 R, .int .i64 C, .slice ad xs.length c] 128)) wr) (fun i _ => xs.length - (intOf i).toNat)
        case atStart => exact ⟨0, Nat.zero_le _, rfl, Lib.hid rfl, Below.refl _ _⟩
        case round =>
          obtain ⟨k, hk, rfl, ho, hb⟩ := hrel
          have hbw := ((Below.refl w.heap.size w).alloc (Nat.le_refl _) (.cells #[.int .i64 R, .int .i64 C, .slice ad xs.length c] 128)).trans (hb.mono (by omega))
          have k0 : wr.cell? ⟨w.heap.size, 2, none⟩ = some (.slice ad xs.length c) := ((Blk.new w [.int .i64 R, .int .i64 C, .slice ad xs.length c] 128).below hb (by simp)).cell 2 _ rfl
          by_cases hkn : k < xs.length
          · have h1 : wr.cell? ⟨b, o + k, none⟩ = some (.string xs[k]) := hp.at hbw (Nat.le_refl _) k hkn
            have hS := HSZ.out _ (List.getElem_mem hkn)
            have hD := chksD xs k hkn
            by_cases h0 : chk xs[k].data.toList = 0
            · rw [if_pos h0] at hD
              have HD := Lib.hid hD; have HC := Lib.hid h0
              clear hD h0
              go_wp2_with (go_at_call 113; (with_reducible refine (check_any _ _ hS).mono ?_); rintro e w1 ⟨v, rfl, rfl, hb1⟩; rw [HC.out])
              go_roundw
              case rel => exact ⟨k + 1, by omega, by go_num, Lib.hid (by rw [ho.out, HD.out]), hb.trans (hb1.mono (by have := hb.size; simpa using this))⟩
              case measure => simp [intOf]; omega
            · rw [if_neg h0] at hD
              have HD := Lib.hid hD
              have hne2 : (chk xs[k].data.toList != 0) = true := by simp [h0]
              clear hD h0
              go_wp2_with (go_at_call 113; (with_reducible refine (check_any _ _ hS).mono ?_); rintro e w1 ⟨v, rfl, rfl, hb1⟩)
              go_ret
              exact ⟨_, rfl, by rw [HV.out, ho.out, HD.out]; rfl, hbw.trans (hb1.mono hbw.size)⟩
          · obtain rfl : k = xs.length := by omega
            have HD := Lib.hid (show chks xs = 0 by rw [ho.out, List.drop_length]; rfl)
            go_wp2
            go_ret
            exact ⟨_, rfl, by rw [HV.out, HD.out]; rfl, hbw⟩
      · have HV := Lib.hid (show mchkM R C xs = 8 by unfold mchkM; rw [if_pos hR, if_pos hC, if_neg (by rw [hRC]; exact hl)])
        have hne : ((xs.length : Int) != p) = true := by simp [hl]
        clear hR hC hsz hl
        go_enter Tryz.func98, Tryz.ntmps98
        go_wp2_with (first
          | (go_at_call_of 95 (Value.int .i64 R); (with_reducible refine (Mside_any _ R).mono ?_); rintro e w1 ⟨v, rfl, rfl, rfl⟩; rw [HR.out])
          | (go_at_call_of 95 (Value.int .i64 C); (with_reducible refine (Mside_any _ C).mono ?_); rintro e w2 ⟨v, rfl, rfl, rfl⟩; rw [HC.out]))
        go_ret
        exact ⟨_, rfl, by rw [HV.out]; rfl, (Below.refl _ _).alloc (Nat.le_refl _) _⟩
    · have HV := Lib.hid (show mchkM R C xs = 2 by unfold mchkM; rw [if_pos hR, if_neg hC])
      have HR := Lib.hid hR; have HC := Lib.hid (show sideB C = false by simpa using hC)
      clear hR hC hsz
      go_enter Tryz.func98, Tryz.ntmps98
      go_wp2_with (first
        | (go_at_call_of 95 (Value.int .i64 R); (with_reducible refine (Mside_any _ R).mono ?_); rintro e w1 ⟨v, rfl, rfl, rfl⟩; rw [HR.out])
        | (go_at_call_of 95 (Value.int .i64 C); (with_reducible refine (Mside_any _ C).mono ?_); rintro e w2 ⟨v, rfl, rfl, rfl⟩; rw [HC.out]))
      go_ret
      exact ⟨_, rfl, by rw [HV.out]; rfl, (Below.refl _ _).alloc (Nat.le_refl _) _⟩
  · have HV := Lib.hid (show mchkM R C xs = 2 by unfold mchkM; rw [if_neg hR])
    have HR := Lib.hid (show sideB R = false by simpa using hR)
    clear hR hsz
    go_enter Tryz.func98, Tryz.ntmps98
    go_wp2_with (go_at_call 95; (with_reducible refine (Mside_any _ R).mono ?_); rintro e w1 ⟨v, rfl, rfl, rfl⟩; rw [HR.out])
    go_ret
    exact ⟨_, rfl, by rw [HV.out]; rfl, (Below.refl _ _).alloc (Nat.le_refl _) _⟩
/-- What there answers. -/
def MthereS (R C : Int) (xs : List ByteArray) (i k : Int) : Int := if mchkM R C xs = 0 then (if i < 0 ∨ R ≤ i ∨ k < 0 ∨ C ≤ k then 6 else 0) else mchkM R C xs
end Go.Proofs.YtlnhocgjgmhfgaaGreatDoor
