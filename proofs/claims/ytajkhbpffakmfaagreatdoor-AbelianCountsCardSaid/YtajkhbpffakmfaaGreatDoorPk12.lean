/- The walk of the abelian law's awake: the chapter's examples. The walk of the law AbelianSums. The walk of the law AbelianChecks. The walk of the abelian law's right: a right group and elements of it. The walk of the law AbelianReduces. Plain law: the numbers of a clock with wheels of given sizes, the last wheel the fastest; the next one; how many of them a product of conditions lets through. Plain law: how many elements of a group a number makes vanish; the clock's numbers ascend. Rows of rows of integers, the call's own; the walks of the reference's All, Elements and SameAll of groups. The walk of abelian's iterator over the numbers of a clock, and of Elements. The walk of abelian's Elements: a range over the iterator, whose round appends an element. -/
import Derived.Test.YtajkhbpffakmfaaGreatDoorPk11
import Derived.WalkSpells
import Derived.Test.YtajkhbpffakmfaaGreatDoorPk10
import Derived.Test.YtajkhbpffakmfaaGreatDoorPk5
import Derived.Sort.QuietIn
import Derived.Sort.LoopGhostIn
import Derived.Test.YtajkhbpffakmfaaGreatDoorPk9
import Derived.Test.YtajkhbpffakmfaaGreatDoorPk8
namespace Go.Proofs.YtajkhbpffakmfaaGreatDoor
open Go.RowKit
set_option maxRecDepth 100000

abbrev sA (n : UInt8) : ByteArray := ⟨#[n]⟩
theorem lit1 : Good ⟨#[49]⟩ 1 := good_lit (by decide) (by decide)
theorem lit2 : Good ⟨#[50]⟩ 2 := good_lit (by decide) (by decide)
theorem lit3 : Good ⟨#[51]⟩ 3 := good_lit (by decide) (by decide)
theorem lit4 : Good ⟨#[52]⟩ 4 := good_lit (by decide) (by decide)
theorem lit6 : Good ⟨#[54]⟩ 6 := good_lit (by decide) (by decide)
theorem lit12 : Good ⟨#[49, 50]⟩ 12 := good_lit (by decide) (by decide)
theorem res_lit {s : ByteArray} {z : Int} (h : Good s z) : resV z = .tuple #[.string s, .int .i64 0] := by
  rw [resV_eq, resT_ok h.2, resK_ok h.2, h.eq]
theorem Sl.four (w : World) (s t u v : ByteArray) (e : TypeId) : Sl eS (w.alloc (.cells #[.string s, .string t, .string u, .string v] e)) (.slice (some ⟨w.heap.size, 0, none⟩) 4 4) [s, t, u, v] :=
  Sl.ofOwns (n := 4) (base := 0) (e := e) ⟨rfl, .inr ⟨w.heap.size, 4, _, rfl, by omega, heap_alloc_new w _, by omega, by simp [maxLen], rfl, rfl⟩⟩
theorem g26_goods : Goods [sA 50, sA 54] [2, 6] := ⟨lit2, lit6, trivial⟩
theorem g26_two : ∀ z ∈ [(2 : Int), 6], 2 ≤ z := by decide
theorem g26_chk : gchk [sA 50, sA 54] = 0 := by decide +kernel
theorem g26_sz : ∀ s ∈ [sA 50, sA 54], s.size ≤ 1000000 := by decide
theorem g26_pos : Pos [sA 50, sA 54] [2, 6] 6 3 :=
  ⟨by rw [show sA 50 = tx 2 from lit2.eq, show sA 54 = tx 6 from lit6.eq, List.map, List.map, List.map], by decide, by decide, by decide, by decide +kernel, by decide⟩

set_option maxHeartbeats 4000000 in
theorem awake05 (w : World) (he : Env w) : Calls Tryz.prog 20 #[] w (Rets fun v w' => v = .bool true ∧ Below w.heap.size w w') := by
  have HE := Lib.hid he
  clear he
  have b0 := Below.refl w.heap.size w
  have HP := Lib.hid g26_pos
  have R1 := Lib.hid (show resV (prods [2, 6]) = _ from res_lit lit12)
  have R2 := Lib.hid (show lastOf [sA 50, sA 54] = ⟨#[54]⟩ from rfl)
  have R3 := Lib.hid (show tx (lcms (quos [2, 6] [1, 2])) = ⟨#[54]⟩ by rw [show lcms (quos [2, 6] [1, 2]) = 6 by decide +kernel]; exact lit6.eq.symm)
  have R4 := Lib.hid (show tx (lcms (quos [2, 6] [1, 3])) = ⟨#[50]⟩ by rw [show lcms (quos [2, 6] [1, 3]) = 2 by decide +kernel]; exact lit2.eq.symm)
  have R5 := Lib.hid (show resV (prods (gcds [2, 6] 2)) = .tuple #[.string ⟨#[52]⟩, .int .i64 0] by rw [show prods (gcds [2, 6] 2) = 4 by decide +kernel]; exact res_lit lit4)
  have A1 := Lib.hid (show [sA 49, sA 50] = [1, 2].map tx by rw [show sA 49 = tx 1 from lit1.eq, show sA 50 = tx 2 from lit2.eq, List.map, List.map, List.map])
  have A2 := Lib.hid (show [sA 49, sA 51] = [1, 3].map tx by rw [show sA 49 = tx 1 from lit1.eq, show sA 51 = tx 3 from lit3.eq, List.map, List.map, List.map])
  have M1 := Lib.hid (show mchk [sA 50, sA 54] [sA 49, sA 50] = 0 by decide +kernel)
  have M2 := Lib.hid (show mchk [sA 50, sA 54] [sA 49, sA 51] = 0 by decide +kernel)
  have O1 := Lib.hid (show ochk [sA 49, sA 49, sA 50, sA 54] = 0 by decide +kernel)
  have K1 := Lib.hid (show okeep [sA 49, sA 49, sA 50, sA 54] = [sA 50, sA 54] by decide +kernel)
  have O2 := Lib.hid (show ochk [sA 49, sA 48] = 10 by decide +kernel)
  have L1 := Lib.hid (show ∀ i (h : i < [2, 6].length) (h' : i < [1, 2].length), [1, 2][i] < [2, 6][i] by decide)
  have L2 := Lib.hid (show ∀ i (h : i < [2, 6].length) (h' : i < [1, 3].length), [1, 3][i] < [2, 6][i] by decide)
  have S1 := Lib.hid (show ∀ s ∈ [sA 49, sA 50], s.size ≤ 1000000 by decide)
  have S2 := Lib.hid (show ∀ s ∈ [sA 49, sA 51], s.size ≤ 1000000 by decide)
  have S3 := Lib.hid (show ∀ s ∈ [sA 49, sA 49, sA 50, sA 54], s.size ≤ 1000000 by decide)
  have S4 := Lib.hid (show ∀ s ∈ [sA 49, sA 48], s.size ≤ 1000000 by decide)
  go_enter Tryz.func20, Tryz.ntmps20
  go_wp2_with (first
    | (go_at_call 25; (with_reducible refine (Order_ok _ _ [sA 50, sA 54] [2, 6] (Sl.pair w _ _ _) g26_goods g26_two g26_chk g26_sz (HE.out.below (b0.alloc (Nat.le_refl _) _) (Nat.le_refl _))).mono ?_); rintro e w2 ⟨v, rfl, rfl, hb2⟩; rw [R1.out]; have b2 := (b0.alloc (Nat.le_refl _) _).trans (hb2.mono (by simp)); have G2 := Lib.hid ((Sl.pair w (sA 50) (sA 54) _).below hb2 (Nat.le_refl _)))
    | (go_at_call 54; (with_reducible refine (Exponent_ok _ _ [sA 50, sA 54] G2.out g26_chk (by decide) g26_sz (HE.out.below b2 (Nat.le_refl _))).mono ?_); rintro e w3 ⟨v, rfl, rfl, hb3⟩; rw [R2.out]; have b3 := b2.trans (hb3.mono b2.size); have G3 := Lib.hid (G2.out.below hb3 (Nat.le_refl _)))
    | (go_at_call 30; (with_reducible refine (OrderOf_ok _ _ _ [sA 50, sA 54] [sA 49, sA 51] [2, 6] [2, 6] [1, 3] 6 3 (G4.out.below ((Below.refl w4.heap.size w4).alloc (Nat.le_refl _) _) (Nat.le_refl _)) (Sl.pair w4 _ _ _) g26_goods g26_chk M2.out HP.out A2.out L2.out (by decide) rfl g26_sz S2.out (HE.out.below (b4.alloc b4.size _) (Nat.le_refl _))).mono ?_); rintro e w5 ⟨v, rfl, rfl, hb5⟩; rw [R4.out]; have b5 := (b4.alloc b4.size _).trans (hb5.mono (by simp; have := b4.size; omega)); have G5 := Lib.hid ((G4.out.below ((Below.refl w4.heap.size w4).alloc (Nat.le_refl _) _) (Nat.le_refl _)).below hb5 (Nat.le_refl _)))
    | (go_at_call 30; go_must (with_reducible refine (OrderOf_ok _ _ _ [sA 50, sA 54] [sA 49, sA 50] [2, 6] [2, 6] [1, 2] 6 3 (G3.out.below ((Below.refl w3.heap.size w3).alloc (Nat.le_refl _) _) (Nat.le_refl _)) (Sl.pair w3 _ _ _) g26_goods g26_chk M1.out HP.out A1.out L1.out (by decide) rfl g26_sz S1.out (HE.out.below (b3.alloc b3.size _) (Nat.le_refl _))).mono ?_); rintro e w4 ⟨v, rfl, rfl, hb4⟩; rw [R3.out]; have b4 := (b3.alloc b3.size _).trans (hb4.mono (by simp; have := b3.size; omega)); have G4 := Lib.hid ((G3.out.below ((Below.refl w3.heap.size w3).alloc (Nat.le_refl _) _) (Nat.le_refl _)).below hb4 (Nat.le_refl _)))
    | (go_at_call 26; (with_reducible refine (Count_ok _ _ [sA 50, sA 54] [2, 6] _ 2 G5.out g26_goods g26_two g26_chk (by decide) lit2 (by decide) (by decide) g26_sz (HE.out.below b5 (Nat.le_refl _))).mono ?_); rintro e w6 ⟨v, rfl, rfl, hb6⟩; rw [R5.out]; have b6 := b5.trans (hb6.mono b5.size); have G6 := Lib.hid (G5.out.below hb6 (Nat.le_refl _)))
    | (go_at_call 55; (with_reducible refine (AOf_any _ _ [sA 49, sA 48] (Sl.pair w7 _ _ _) (fun _ => S4.out) (HE.out.below (b7.alloc b7.size _) (Nat.le_refl _))).mono ?_); rintro e w8 ⟨v, rfl, r8, rfl, hs8, hb8⟩; rw [O2.out]; clear hs8; have b8 := (b7.alloc b7.size _).trans (hb8.mono (by simp; have := b7.size; omega)); have G8 := Lib.hid ((G7.out.below ((Below.refl w7.heap.size w7).alloc (Nat.le_refl _) _) (Nat.le_refl _)).below hb8 (Nat.le_refl _)); have F8 := Lib.hid ((F7.out.below ((Below.refl w7.heap.size w7).alloc (Nat.le_refl _) _) (Nat.le_refl _)).below hb8 (Nat.le_refl _)))
    | (go_at_call 55; (with_reducible refine (AOf_any _ _ [sA 49, sA 49, sA 50, sA 54] (Sl.four w6 _ _ _ _ _) (fun _ => S3.out) (HE.out.below (b6.alloc b6.size _) (Nat.le_refl _))).mono ?_); rintro e w7 ⟨v, rfl, r7, rfl, hs7, hb7⟩; rw [O1.out]; rw [K1.out] at hs7; have F7 := Lib.hid hs7; clear hs7; have b7 := (b6.alloc b6.size _).trans (hb7.mono (by simp; have := b6.size; omega)); have G7 := Lib.hid ((G6.out.below ((Below.refl w6.heap.size w6).alloc (Nat.le_refl _) _) (Nat.le_refl _)).below hb7 (Nat.le_refl _)))
    | (go_at_call 38; (with_reducible refine (Equal_same _ _ _ [sA 50, sA 54] F8.out G8.out).mono ?_); rintro e w9 ⟨v, rfl, rfl, hb9⟩; have b9 := b8.trans (hb9.mono b8.size)))
  go_ret
  exact ⟨_, rfl, rfl, b9⟩
end Go.Proofs.YtajkhbpffakmfaaGreatDoor

namespace Go.Proofs.YtajkhbpffakmfaaGreatDoor
open Go.RowKit
set_option maxRecDepth 100000

theorem Lst.three (w : World) (v u t : Value) (xs ys zs : List ByteArray) (hv : Sl eS w v xs) (hu : Sl eS w u ys) (ht : Sl eS w t zs) (e : TypeId) : Lst (w.alloc (.cells #[v, u, t] e)) (.slice (some ⟨w.heap.size, 0, none⟩) 3 3) [v, u, t] [xs, ys, zs] := by
  have hb : Below w.heap.size w (w.alloc (.cells #[v, u, t] e)) := (Below.refl _ w).alloc (Nat.le_refl _) _
  refine ⟨Sl.ofOwns (n := 3) (base := 0) (e := e) ⟨rfl, .inr ⟨w.heap.size, 3, #[v, u, t], rfl, by omega, heap_alloc_new w _, by omega, by simp [maxLen], rfl, rfl⟩⟩, rfl, fun i h1 h2 => ?_⟩
  match i, h1 with
  | 0, _ => exact hv.below hb (Nat.le_refl _)
  | 1, _ => exact hu.below hb (Nat.le_refl _)
  | 2, _ => exact ht.below hb (Nat.le_refl _)
theorem rSame_self (w : World) (v u : Value) (xs : List ByteArray) (hv : Sl eS w v xs) (hu : Sl eS w u xs) :
    Calls Tryz.prog 63 #[v, u] w (Rets fun r w' => r = .bool true ∧ Below w.heap.size w w') := by
  have := rSame_any w v u xs xs hv hu
  rwa [decide_eq_true rfl] at this

end Go.Proofs.YtajkhbpffakmfaaGreatDoor

namespace Go.Proofs.YtajkhbpffakmfaaGreatDoor
open Go.RowKit
set_option maxRecDepth 100000

theorem bad_dn {a : List ByteArray} (h : bad a = false) : ∀ s ∈ a, ∀ z, Good s z → dn z ≤ 500 := by
  intro s hs z hz
  have h1 : (a.any fun s => !few s) = false := by simp only [bad, Bool.or_eq_false_iff] at h; exact h.2
  have h5 := List.any_eq_false.1 h1 s hs
  have h6 : few s = true := by simpa using h5
  have h4 : (Lib.itoa z).length = s.size := by rw [← hz.1, Lib.size_eq]
  have h2 := digs10_len z.natAbs
  have h3 : (Lib.decDigits z.natAbs).length ≤ (Lib.itoa z).length := by rw [itoa_cases]; split <;> simp
  simp only [few, hz.chk] at h6
  simp at h6
  unfold dn; omega
end Go.Proofs.YtajkhbpffakmfaaGreatDoor

namespace Go.Proofs.YtajkhbpffakmfaaGreatDoor
open Go.RowKit
set_option maxRecDepth 100000

/-- Is a list no element of a group? -/
def out5 (g a : List ByteArray) : Bool := mchk g a != 0
set_option maxHeartbeats 400000 in
theorem right1 (w : World) (u : Value) (bx c : Nat) (ad : Option Addr) (g a : List ByteArray) (zs : List Int) (hk : Blk w bx [.slice ad g.length c] 22) (hv : Sl eS w (.slice ad g.length c) g) (hu : Sl eS w u a) (hz : Goods g zs) (hl : g.length ≤ 16) (hsz : ∀ s ∈ a, s.size ≤ 9223372036854775807) :
    Calls Tryz.prog 65 #[u, .pointer (some ⟨bx, 0, none⟩)] w (Rets fun v w' => v = .bool (out5 g a) ∧ Below w.heap.size w w') := by
  have hcell := hk.cell 0 _ rfl
  have HV := Lib.hid hv; have HU := Lib.hid hu; have HZ := Lib.hid hz; have HSZ := Lib.hid hsz
  obtain ⟨ad', b', o', c', rfl, -, -, -, -⟩ := hu.open elemStr
  obtain ⟨q, hq⟩ : ∃ q, out5 g a = q := ⟨_, rfl⟩
  have HQ := Lib.hid hq
  have hq2 : (mchk g a != 0) = q := hq
  obtain ⟨m, hm⟩ : ∃ m, mchk g a = m := ⟨_, rfl⟩
  have HM := Lib.hid hm
  rw [hm] at hq2
  clear hv hu hz hsz hk hq hm
  go_enter Tryz.func65, Tryz.ntmps65
  go_wp2_with (go_at_call 66; (with_reducible refine (In_big _ _ _ g a zs HV.out HU.out HZ.out hl (fun _ => HSZ.out)).mono ?_); rintro e w1 ⟨v, rfl, rfl, hb1⟩; rw [HM.out])
  go_ret
  exact ⟨_, rfl, by rw [HQ.out]; first | rfl | exact congrArg Value.bool hq2, hb1⟩
theorem Lst.len2 {w : World} {v : Value} {vs : List Value} {xss : List (List ByteArray)} (h : Lst w v vs xss) : vs.length ≤ maxLen := by
  obtain ⟨a, b, o, c, rfl, _, h1, h2, _⟩ := h.sl; omega
set_option maxHeartbeats 1000000 in
theorem idxR_none (w : World) (v : Value) (vs : List Value) (xss : List (List ByteArray)) (bx c : Nat) (ad : Option Addr) (g : List ByteArray) (zs : List Int) (hk : Blk w bx [.slice ad g.length c] 22) (hvg : Sl eS w (.slice ad g.length c) g) (hz : Goods g zs) (hl : g.length ≤ 16) (hv : Lst w v vs xss) (hsz : ∀ xs ∈ xss, ∀ s ∈ xs, s.size ≤ 9223372036854775807) (h : ∀ xs ∈ xss, out5 g xs = false) :
    Calls Tryz.prog 112 #[v, .func (.func 65) #[] #[.pointer (some ⟨bx, 0, none⟩)]] w (Rets fun v w' => v = .int .i64 (-1) ∧ Below w.heap.size w w') := by
  obtain ⟨a, b, o, cc, rfl, hi, hp, hc, hm⟩ := hv.sl.open elemSl
  have H := Lib.hid h; have HG := Lib.hid hv.get; have HL := Lib.hid hv.len; have HSZ := Lib.hid hsz; have HK := Lib.hid hk; have HVG := Lib.hid hvg; have HZ := Lib.hid hz
  clear hv h hsz hk hvg hz
  unfold maxLen at hm
  go_enter Tryz.func112, Tryz.ntmps112
  go_wp2
  go_loopw [8] (fun i wr => ∃ k : Nat, k ≤ vs.length ∧ i = .int .i64 k ∧ Hid (Below w.heap.size w wr)) (fun i _ => vs.length - (intOf i).toNat)
  case atStart => exact ⟨0, Nat.zero_le _, rfl, Lib.hid (Below.refl _ _)⟩
  case round =>
    obtain ⟨k, hkk, rfl, hb⟩ := hrel
    by_cases hkn : k < vs.length
    · have h1 : wr.cell? ⟨b, o + k, none⟩ = some vs[k] := hp.at hb.out (Nat.le_refl _) k hkn
      have HKX := Lib.hid (show k < xss.length by rw [HL.out]; exact hkn)
      have HB := Lib.hid (H.out _ (List.getElem_mem HKX.out))
      go_wp2_with (go_at_call 65; (with_reducible refine (right1 _ vs[k] bx c ad g (xss[k]'HKX.out) zs (HK.out.below hb.out (Nat.le_refl _)) (HVG.out.below hb.out (Nat.le_refl _)) ((HG.out k hkn HKX.out).below hb.out (Nat.le_refl _)) HZ.out hl (HSZ.out _ (List.getElem_mem HKX.out))).mono ?_); rintro e w1 ⟨v, rfl, rfl, hb1⟩; rw [HB.out])
      go_roundw
      case rel => exact ⟨k + 1, by omega, by go_num, Lib.hid (hb.out.trans (hb1.mono hb.out.size))⟩
      case measure => simp [intOf]; omega
    · obtain rfl : k = vs.length := by omega
      go_wp2
      go_ret
      exact ⟨_, rfl, rfl, hb.out⟩
set_option maxHeartbeats 1000000 in
theorem idxR_some (w : World) (v : Value) (vs : List Value) (xss : List (List ByteArray)) (bx c : Nat) (ad : Option Addr) (g : List ByteArray) (zs : List Int) (hk : Blk w bx [.slice ad g.length c] 22) (hvg : Sl eS w (.slice ad g.length c) g) (hz : Goods g zs) (hl : g.length ≤ 16) (hv : Lst w v vs xss) (hsz : ∀ xs ∈ xss, ∀ s ∈ xs, s.size ≤ 9223372036854775807) (m : Nat) (hm : m < xss.length) (h : out5 g xss[m] = true) (h2 : ∀ j (hj : j < m), out5 g (xss[j]'(by omega)) = false) :
    Calls Tryz.prog 112 #[v, .func (.func 65) #[] #[.pointer (some ⟨bx, 0, none⟩)]] w (Rets fun v w' => v = .int .i64 m ∧ Below w.heap.size w w') := by
  obtain ⟨a, b, o, cc, rfl, hi, hp, hc, hcm⟩ := hv.sl.open elemSl
  have H := Lib.hid h; have H2 := Lib.hid h2; have HG := Lib.hid hv.get; have HL := Lib.hid hv.len; have HSZ := Lib.hid hsz; have HK := Lib.hid hk; have HVG := Lib.hid hvg; have HZ := Lib.hid hz
  have hmv : m < vs.length := by rw [← hv.len]; exact hm
  clear hv h h2 hsz hk hvg hz
  unfold maxLen at hcm
  go_enter Tryz.func112, Tryz.ntmps112
  go_wp2
  go_loopw [8] (fun i wr => ∃ k : Nat, k ≤ m ∧ i = .int .i64 k ∧ Hid (Below w.heap.size w wr)) (fun i _ => vs.length - (intOf i).toNat)
  case atStart => exact ⟨0, Nat.zero_le _, rfl, Lib.hid (Below.refl _ _)⟩
  case round =>
    obtain ⟨k, hkk, rfl, hb⟩ := hrel
    have hkn : k < vs.length := by omega
    have h1 : wr.cell? ⟨b, o + k, none⟩ = some vs[k] := hp.at hb.out (Nat.le_refl _) k hkn
    have HKX := Lib.hid (show k < xss.length by rw [HL.out]; exact hkn)
    by_cases hkm : k < m
    · have HB := Lib.hid (H2.out k hkm)
      go_wp2_with (go_at_call 65; (with_reducible refine (right1 _ vs[k] bx c ad g (xss[k]'HKX.out) zs (HK.out.below hb.out (Nat.le_refl _)) (HVG.out.below hb.out (Nat.le_refl _)) ((HG.out k hkn HKX.out).below hb.out (Nat.le_refl _)) HZ.out hl (HSZ.out _ (List.getElem_mem HKX.out))).mono ?_); rintro e w1 ⟨v, rfl, rfl, hb1⟩; rw [HB.out])
      go_roundw
      case rel => exact ⟨k + 1, by omega, by go_num, Lib.hid (hb.out.trans (hb1.mono hb.out.size))⟩
      case measure => simp [intOf]; omega
    · obtain rfl : k = m := by omega
      go_wp2_with (go_at_call 65; (with_reducible refine (right1 _ vs[k] bx c ad g (xss[k]'HKX.out) zs (HK.out.below hb.out (Nat.le_refl _)) (HVG.out.below hb.out (Nat.le_refl _)) ((HG.out k hkn HKX.out).below hb.out (Nat.le_refl _)) HZ.out hl (HSZ.out _ (List.getElem_mem HKX.out))).mono ?_); rintro e w1 ⟨v, rfl, rfl, hb1⟩; rw [H.out])
      go_ret
      exact ⟨_, rfl, rfl, hb.out.trans (hb1.mono hb.out.size)⟩
set_option maxHeartbeats 400000 in
theorem containsR (w : World) (v : Value) (vs : List Value) (xss : List (List ByteArray)) (bx c : Nat) (ad : Option Addr) (g : List ByteArray) (zs : List Int) (hk : Blk w bx [.slice ad g.length c] 22) (hvg : Sl eS w (.slice ad g.length c) g) (hz : Goods g zs) (hl : g.length ≤ 16) (hv : Lst w v vs xss) (hsz : ∀ xs ∈ xss, ∀ s ∈ xs, s.size ≤ 9223372036854775807) :
    Calls Tryz.prog 64 #[v, .func (.func 65) #[] #[.pointer (some ⟨bx, 0, none⟩)]] w (Rets fun v w' => v = .bool (xss.any (out5 g)) ∧ Below w.heap.size w w') := by
  have HV := Lib.hid hv; have HSZ := Lib.hid hsz; have HK := Lib.hid hk; have HVG := Lib.hid hvg; have HZ := Lib.hid hz
  obtain ⟨a, b, o, cc, rfl, -, -, -, -⟩ := hv.sl.open elemSl
  clear hv hsz hk hvg hz
  cases hf : xss.any (out5 g)
  · have H : Hid (∀ xs ∈ xss, out5 g xs = false) := Lib.hid (fun s hs => by
      have := List.any_eq_false.1 hf s hs
      simpa using this)
    clear hf
    go_enter Tryz.func64, Tryz.ntmps64
    go_wp2_with (go_at_call 112; (with_reducible refine (idxR_none _ _ vs xss bx c ad g zs HK.out HVG.out HZ.out hl HV.out HSZ.out H.out).mono ?_); rintro e w1 ⟨v, rfl, rfl, hb1⟩)
    go_ret
    exact ⟨_, rfl, rfl, hb1⟩
  · obtain ⟨m, hm, h1, h2⟩ := first_hitL (out5 g) xss hf
    have H1 := Lib.hid h1; have H2 := Lib.hid h2
    have hm0 : (0 : Int) ≤ (m : Int) := by omega
    clear hf h1 h2
    go_enter Tryz.func64, Tryz.ntmps64
    go_wp2_with (go_at_call 112; (with_reducible refine (idxR_some _ _ vs xss bx c ad g zs HK.out HVG.out HZ.out hl HV.out HSZ.out m hm H1.out H2.out).mono ?_); rintro e w1 ⟨v, rfl, rfl, hb1⟩)
    go_ret
    exact ⟨_, rfl, rfl, hb1⟩
/-- Is a group right and small, and are these lists elements of it? -/
def rightB (g : List ByteArray) (xss : List (List ByteArray)) : Bool := few05 g && (gchk g == 0) && !(xss.any (out5 g))
set_option maxHeartbeats 1000000 in
theorem right_any (w : World) (u v : Value) (vs : List Value) (g : List ByteArray) (xss : List (List ByteArray)) (hu : Sl eS w u g) (hv : Lst w v vs xss) (hsg : ∀ s ∈ g, s.size ≤ 9223372036854775807) (hsz : ∀ xs ∈ xss, ∀ s ∈ xs, s.size ≤ 9223372036854775807) :
    Calls Tryz.prog 24 #[u, v] w (Rets fun v w' => v = .bool (rightB g xss) ∧ Below w.heap.size w w') := by
  obtain ⟨ad, b, o, c, rfl, -, -, -, -⟩ := hu.open elemStr
  have q0 : Below w.heap.size w (w.alloc (.cells #[.slice ad g.length c] 22)) := (Below.refl _ w).alloc (Nat.le_refl _) _
  have hk := Blk.new w [.slice ad g.length c] 22
  have hc0 := hk.cell 0 _ rfl
  have HK := Lib.hid hk; have HU := Lib.hid (hu.below q0 (Nat.le_refl _)); have HV := Lib.hid (hv.below q0 (Nat.le_refl _)); have HSG := Lib.hid hsg; have HSZ := Lib.hid hsz
  obtain ⟨av, bv, ov, cv, rfl, -, -, -, -⟩ := hv.sl.open elemSl
  have hmf : ∀ (fn : Fn) (first cap : Array Value) (w : World), (Instr.makeFunc fn first cap).run Tryz.prog w = .ok (.func fn first cap) w := fun _ _ _ _ => rfl
  clear hu hv hsg hsz hk
  cases hf : few05 g
  · have HF := Lib.hid hf
    have HR := Lib.hid (show rightB g xss = false by simp [rightB, hf])
    clear hf
    go_enter Tryz.func24, Tryz.ntmps24
    go_wp2_with (go_at_call 14; (with_reducible refine (Few05_any _ _ g HU.out HSG.out).mono ?_); rintro e w1 ⟨v, rfl, rfl, rfl⟩; rw [HF.out])
    go_ret
    exact ⟨_, rfl, by rw [HR.out]; rfl, q0⟩
  · have HF := Lib.hid hf
    have HSS := Lib.hid (few05_size hf)
    by_cases hg : gchk g = 0
    · have HG := Lib.hid hg
      have hl16 := (gchk_len hg).1
      obtain ⟨zs, hG⟩ := grp_of hg
      have HZ := Lib.hid hG.good
      obtain ⟨q, hq⟩ : ∃ q, xss.any (out5 g) = q := ⟨_, rfl⟩
      have HR := Lib.hid (show rightB g xss = !q by simp [rightB, hf, hg, hq])
      have HQ := Lib.hid hq
      clear hf hg hG hq
      go_enter Tryz.func24, Tryz.ntmps24
      go_wp2_with (first
        | (go_at_call 14; (with_reducible refine (Few05_any _ _ g HU.out HSG.out).mono ?_); rintro e w1 ⟨v, rfl, rfl, rfl⟩; rw [HF.out])
        | (go_at_call 15; (with_reducible refine (rACheck_any _ _ g HU.out HSS.out).mono ?_); rintro e w2 ⟨v, rfl, rfl, hb2⟩; rw [HG.out])
        | (go_at_call 64; (with_reducible refine (containsR _ _ vs xss w.heap.size c ad g zs (HK.out.below hb2 (Nat.le_refl _)) (HU.out.below hb2 (Nat.le_refl _)) HZ.out hl16 (HV.out.below hb2 (Nat.le_refl _)) HSZ.out).mono ?_); rintro e w3 ⟨v, rfl, rfl, hb3⟩; rw [HQ.out]; have b3 := q0.trans ((hb2.trans (hb3.mono hb2.size)).mono q0.size)))
      go_ret
      exact ⟨_, rfl, by rw [HR.out]; rfl, b3⟩
    · have HR := Lib.hid (show rightB g xss = false by simp [rightB, hg])
      have hne : (gchk g == 0) = false := by simp [hg]
      clear hf hg
      go_enter Tryz.func24, Tryz.ntmps24
      go_wp2_with (first
        | (go_at_call 14; (with_reducible refine (Few05_any _ _ g HU.out HSG.out).mono ?_); rintro e w1 ⟨v, rfl, rfl, rfl⟩; rw [HF.out])
        | (go_at_call 15; (with_reducible refine (rACheck_any _ _ g HU.out HSS.out).mono ?_); rintro e w2 ⟨v, rfl, rfl, hb2⟩))
      go_ret
      exact ⟨_, rfl, by rw [HR.out]; rfl, q0.trans (hb2.mono q0.size)⟩
theorem rightB_of {g : List ByteArray} {xss : List (List ByteArray)} (h : rightB g xss = true) : few05 g = true ∧ gchk g = 0 ∧ ∀ a ∈ xss, mchk g a = 0 := by
  simp only [rightB, Bool.and_eq_true, beq_iff_eq, Bool.not_eq_true'] at h
  refine ⟨h.1.1, h.1.2, fun a ha => ?_⟩
  have := List.any_eq_false.1 h.2 a ha
  simpa [out5] using this
end Go.Proofs.YtajkhbpffakmfaaGreatDoor

namespace Go.Proofs.YtajkhbpffakmfaaGreatDoor
open Go.RowKit
set_option maxRecDepth 100000

section
variable {P : Program} {t e : TypeId} {z : Value} {size bytes : Nat} {ops : Array Oper} {rest : List Oper} {o : Oper} {a : Act} {Q : Exit → Act → World → Prop}
/-- 'append(row, xs...)', the row the call's own. -/
theorem appL {α : Type} {enc : α → Value} (hE : ElemOk P t e z 1 bytes) (hgd : o.guard = none) (s x : Operand) (ho : o.op = .call { callee := .builtin .append, args := #[s, x], argTypes := #[t, t] })
    {u v : Value} {n base B : Nat} {ys : List Value} {xs : List α} {w W : World} (hs : a.eval s = u) (hx : a.eval x = v) (hown : w.ownsRow base e 1 u n ys) (hv : Sl enc w v xs) (hb : Below B W w) (hB : B ≤ base) (hbase : base ≤ w.heap.size)
    (h2 : ∀ y, (enc y).oneCell' = true) (hn : (n + xs.length) * bytes ≤ 140737488355328) (hn' : n + xs.length ≤ maxLen)
    (h : ∀ v' w', w'.ownsRow base e 1 v' (n + xs.length) (ys ++ xs.map enc) → Below B W w' → wpList P ops Q rest (a.put o.dst v') w') :
    wpList P ops Q (o :: rest) a w := by
  obtain ⟨i, hi, hz, hsz, hby⟩ := hE.info
  obtain ⟨ad, b, off, c, rfl, ha, hc, hm, hnn, hcell⟩ := hv
  cases ad with
  | none =>
    have hc0 := hnn rfl
    have hl0 : xs.length = 0 := by omega
    obtain rfl : xs = [] := List.length_eq_zero_iff.1 hl0
    subst hc0
    refine wpList_append_own_none hgd s x t ho base e i 1 hE.und hi _ n ys hs hown hx ?_
    exact h _ _ (by simpa using hown) hb
  | some ad =>
    have hnews : ∀ j y, (xs.map enc)[j]? = some y → w.cell? (ad.add j) = some y := by
      intro j y hj
      have hj' : j < xs.length := by have := (List.getElem?_eq_some_iff.1 hj).1; simpa using this
      have := ha (by omega)
      cases this
      have h3 := hcell.2 j hj'
      simp [hj'] at hj
      rw [show (⟨b, off, none⟩ : Addr).add j = ⟨b, off + j, none⟩ by simp [Addr.add], h3, hj]
    refine wpList_append_own _ hgd s x t ho base e i z 1 bytes hE.und hi hz hsz hby hE.cells hE.pos _ n ys hs hown ad xs.length c (xs.map enc) hx (by simp) hnews (by intro y hy; obtain ⟨y', _, rfl⟩ := List.mem_map.1 hy; exact h2 y') hn' hn hbase ?_
    intro v' w' ho' hg _
    exact h v' w' ho' (hb.grown hg (by omega) (fun j hj => by have := (hown.lt j hj).1; omega))
end
theorem own_two (w : World) (u v : Value) (e : TypeId) : (w.alloc (.cells #[u, v] e)).ownsRow w.heap.size e 1 (.slice (some ⟨w.heap.size, 0, none⟩) 2 2) 2 [u, v] :=
  ⟨rfl, .inr ⟨w.heap.size, 2, #[u, v], rfl, by omega, heap_alloc_new w _, by omega, by simp [maxLen], rfl, rfl⟩⟩
theorem Lst.nil (w : World) : Lst w (.slice none 0 0) [] [] := ⟨Sl.nil, rfl, fun i h _ => by simp at h⟩
theorem Lst.two (w : World) (v u : Value) (xs ys : List ByteArray) (hv : Sl eS w v xs) (hu : Sl eS w u ys) (e : TypeId) : Lst (w.alloc (.cells #[v, u] e)) (.slice (some ⟨w.heap.size, 0, none⟩) 2 2) [v, u] [xs, ys] := by
  have hb : Below w.heap.size w (w.alloc (.cells #[v, u] e)) := (Below.refl _ w).alloc (Nat.le_refl _) _
  refine ⟨Sl.ofOwns (n := 2) (base := 0) (e := e) ⟨rfl, .inr ⟨w.heap.size, 2, #[v, u], rfl, by omega, heap_alloc_new w _, by omega, by simp [maxLen], rfl, rfl⟩⟩, rfl, fun i h1 h2 => ?_⟩
  match i, h1 with
  | 0, _ => exact hv.below hb (Nat.le_refl _)
  | 1, _ => exact hu.below hb (Nat.le_refl _)
theorem chks_all : ∀ (xs : List ByteArray), (∀ j (h : j < xs.length), chk xs[j].data.toList = 0) → chks xs = 0
  | [], _ => rfl
  | s :: l, h => by
    rw [chks, if_pos (show chk s.data.toList = 0 from h 0 (by simp))]
    exact chks_all l fun j hj => h (j + 1) (by simpa using hj)
theorem goods_chks : ∀ {xs : List ByteArray} {zs : List Int}, Goods xs zs → chks xs = 0
  | [], [], _ => rfl
  | s :: l, z :: zs, h => by rw [chks, if_pos h.1.chk]; exact goods_chks h.2
  | [], _ :: _, h => h.elim
  | _ :: _, [], h => h.elim
theorem goods_map : ∀ (zs : List Int), (∀ z ∈ zs, dn z ≤ 1000) → Goods (zs.map txt) zs
  | [], _ => trivial
  | z :: zs, h => ⟨.of (big_dn (by have := h z (by simp); omega)), goods_map zs fun u hu => h u (by simp [hu])⟩
theorem ostep_gstep : ∀ (l : List ByteArray) (p q : Option ByteArray), gstep p l = 0 → (q = p ∨ q = some ⟨#[49]⟩) → ostep q l = 0
  | [], _, q, _, _ => by cases q <;> rfl
  | s :: l, p, q, h, hq => by
    rw [gstep] at h
    by_cases h1 : chk s.data.toList = 0
    · rw [if_pos h1] at h
      by_cases h2 : num s < 2
      · rw [if_pos h2] at h; exact absurd h (by decide)
      · rw [if_neg h2] at h
        by_cases h3 : fits p s
        · rw [if_pos h3] at h
          have hf : fits q s = true := by
            rcases hq with rfl | rfl
            · exact h3
            · simp only [fits, g1.num, decide_eq_true_eq]; exact Int.fmod_one _
          rw [ostep, if_pos h1, if_neg (by omega), if_neg (by omega), if_pos hf]
          exact ostep_gstep l (some s) (some s) h (.inl rfl)
        · rw [if_neg h3] at h; exact absurd h (by decide)
    · rw [if_neg h1] at h; exact absurd h h1
theorem of_ones {g : List ByteArray} (hg : gchk g = 0) (hl : g.length ≤ 14) : ochk (⟨#[49]⟩ :: ⟨#[49]⟩ :: g) = 0 ∧ okeep (⟨#[49]⟩ :: ⟨#[49]⟩ :: g) = g := by
  have h1 : chk (⟨#[49]⟩ : ByteArray).data.toList = 0 := g1.chk
  have hn : num (⟨#[49]⟩ : ByteArray) = 1 := g1.num
  have ho : ochk (⟨#[49]⟩ :: ⟨#[49]⟩ :: g) = 0 := by
    unfold ochk
    rw [if_neg (by simp; omega), ostep, if_pos h1, if_neg (by omega), if_neg (by omega), if_pos (show fits none (⟨#[49]⟩ : ByteArray) = true from rfl), ostep, if_pos h1, if_neg (by omega), if_neg (by omega), if_pos (by simp only [fits, hn]; decide)]
    exact ostep_gstep g none _ (gchk_len hg).2 (.inr rfl)
  refine ⟨ho, ?_⟩
  unfold okeep
  rw [if_pos ho]
  have h49 : isOne (⟨#[49]⟩ : ByteArray) = true := by rw [isOne, ByteArray.toList_eq]; rfl
  rw [List.filter_cons, List.filter_cons]
  simp only [h49]
  simp only [Bool.not_true, Bool.false_eq_true, if_false]
  rw [List.filter_eq_self]
  intro s hs
  obtain ⟨zs, hG⟩ := grp_of hg
  obtain ⟨i, hi, rfl⟩ := List.getElem_of_mem hs
  have hz : i < zs.length := by rw [hG.good.len]; exact hi
  have g2 := hG.good.get i hi hz
  have h2 := hG.two _ (List.getElem_mem hz)
  cases hq : isOne g[i]
  · rfl
  · exfalso
    have e : g[i] = ⟨#[49]⟩ := by
      have : g[i].toList = [49] := by simpa [isOne] using hq
      rw [ByteArray.toList_eq] at this
      exact ByteArray.ext (Array.toList_inj.1 this)
    rw [e] at g2
    have := g2.num
    rw [hn] at this
    omega
/-- The sums of two lists of integers, as texts. -/
def sumL (n : Nat) (a b : List ByteArray) : List Int := mapI n fun i => (nums a).getD i 0 + (nums b).getD i 0
theorem reduces_facts {g a b : List ByteArray} (hg : gchk g = 0) (hla : a.length = g.length) (hlb : b.length = g.length) (ba : bad a = false) (bb : bad b = false) (ca : chks a = 0) (cb : chks b = 0) :
    elemS g a = ((redL (nums g) (nums a)).map txt, 0) ∧ elemS g b = ((redL (nums g) (nums b)).map txt, 0) ∧ elemS g ((sumL g.length a b).map txt) = ((plusL (nums g) (redL (nums g) (nums a)) (redL (nums g) (nums b))).map txt, 0) ∧
    addS g ((redL (nums g) (nums a)).map txt) ((redL (nums g) (nums b)).map txt) = ((plusL (nums g) (redL (nums g) (nums a)) (redL (nums g) (nums b))).map txt, 0) ∧
    (∀ s ∈ (sumL g.length a b).map txt, s.size ≤ 1000000) ∧ (∀ s ∈ (redL (nums g) (nums a)).map txt, s.size ≤ 1000000) ∧ (∀ s ∈ (redL (nums g) (nums b)).map txt, s.size ≤ 1000000) := by
  have h2 := nums_two hg
  have er := El.red h2 (nums a); have es := El.red h2 (nums b)
  have hd : ∀ z ∈ sumL g.length a b, dn z ≤ 1000 := by
    intro z hz
    obtain ⟨i, hi, rfl⟩ := List.mem_map.1 hz
    have hi : i < g.length := by simpa using hi
    obtain ⟨us, hus⟩ := Goods.of a ca
    obtain ⟨vs, hvs⟩ := Goods.of b cb
    have hu := hus.len; have hv := hvs.len
    rw [nums_of hus, nums_of hvs, getD_at _ _ (by omega), getD_at _ _ (by omega)]
    have d1 := bad_dn ba _ (List.getElem_mem (show i < a.length by omega)) _ (hus.get i (by omega) (by omega))
    have d2 := bad_dn bb _ (List.getElem_mem (show i < b.length by omega)) _ (hvs.get i (by omega) (by omega))
    have := dn_add us[i] vs[i]
    omega
  have hG := goods_map _ hd
  refine ⟨by unfold elemS; rw [if_pos hg, if_pos hla, if_pos ca], by unfold elemS; rw [if_pos hg, if_pos hlb, if_pos cb], ?_, addS_el hg er es, goods_size hG, el_size hg er, el_size hg es⟩
  unfold elemS
  rw [if_pos hg, if_pos (by rw [List.length_map, sumL, mapI_len]), if_pos (goods_chks hG), nums_of hG]
  congr 2
  have := redL_plus h2 (nums a) (nums b)
  rw [nums_len] at this
  exact this

end Go.Proofs.YtajkhbpffakmfaaGreatDoor

namespace Go.Proofs.YtajkhbpffakmfaaGreatDoor
set_option maxRecDepth 100000

/-- The product of sizes. -/
def pr : List Nat → Nat
  | [] => 1
  | n :: l => n * pr l
/-- The digits of a number on a clock with these wheels. -/
def ctr : List Nat → Nat → List Nat
  | [], _ => []
  | _ :: l, t => t / pr l :: ctr l (t % pr l)
theorem ctr_len : ∀ (l : List Nat) (t : Nat), (ctr l t).length = l.length
  | [], _ => rfl
  | _ :: l, t => by simp [ctr, ctr_len l]
theorem pr_append (l m : List Nat) : pr (l ++ m) = pr l * pr m := by
  induction l with
  | nil => simp [pr]
  | cons a l ih => simp only [List.cons_append, pr, ih, Nat.mul_assoc]
theorem pr_pos : ∀ {l : List Nat}, (∀ n ∈ l, 0 < n) → 0 < pr l
  | [], _ => by simp [pr]
  | n :: l, h => Nat.mul_pos (h n (by simp)) (pr_pos fun x hx => h x (by simp [hx]))
theorem ctr_zero : ∀ (l : List Nat), ctr l 0 = List.replicate l.length 0
  | [] => rfl
  | _ :: l => by simp only [ctr, Nat.zero_div, Nat.zero_mod, ctr_zero l, List.length_cons, List.replicate_succ]
theorem ctr_lt : ∀ (l : List Nat) (t : Nat), (∀ n ∈ l, 0 < n) → t < pr l → ∀ i (h : i < l.length) (h' : i < (ctr l t).length), (ctr l t)[i] < l[i]
  | [], _, _, _, i, h, _ => by simp at h
  | n :: l, t, hp, ht, i, h, h' => by
    have hl := pr_pos fun x hx => hp x (List.mem_cons_of_mem _ hx)
    cases i with
    | zero =>
      simp only [ctr, List.getElem_cons_zero]
      exact Nat.div_lt_of_lt_mul (by rw [Nat.mul_comm]; exact ht)
    | succ i =>
      simp only [ctr, List.getElem_cons_succ]
      exact ctr_lt l _ (fun x hx => hp x (List.mem_cons_of_mem _ hx)) (Nat.mod_lt _ hl) i (by simpa using h) _
/-- The product's order: one more wheel at the end. -/
theorem ctr_snoc (n : Nat) : ∀ (l : List Nat) (j k : Nat), (∀ x ∈ l, 0 < x) → k < n → ctr (l ++ [n]) (j * n + k) = ctr l j ++ [if l = [] then j * n + k else k]
  | [], j, k, _, _ => by simp [ctr, pr]
  | a :: l, j, k, hp, hk => by
    have hl := pr_pos fun x hx => hp x (List.mem_cons_of_mem _ hx)
    have e1 : (j * n + k) / (pr l * n) = j / pr l := by
      rw [Nat.mul_comm (pr l) n, ← Nat.div_div_eq_div_mul, Nat.mul_comm j n, Nat.mul_add_div (by omega), Nat.div_eq_of_lt hk, Nat.add_zero]
    have e2 : (j * n + k) % (pr l * n) = (j % pr l) * n + k := by
      have h1 := Nat.div_add_mod j (pr l)
      have : j * n + k = (j % pr l * n + k) + pr l * n * (j / pr l) := by
        conv => lhs; rw [← h1]
        rw [Nat.add_mul, Nat.mul_right_comm]; omega
      rw [this, Nat.add_mul_mod_self_left, Nat.mod_eq_of_lt]
      have h2 := Nat.mod_lt j hl
      calc j % pr l * n + k < j % pr l * n + n := by omega
        _ = (j % pr l + 1) * n := by rw [Nat.add_mul, Nat.one_mul]
        _ ≤ pr l * n := Nat.mul_le_mul_right _ h2
    have e3 : pr (l ++ [n]) = pr l * n := by rw [pr_append]; simp [pr]
    simp only [List.cons_append, ctr, e3, e1, e2, ctr_snoc n l _ k (fun x hx => hp x (List.mem_cons_of_mem _ hx)) hk, reduceCtorEq, if_false]
    by_cases hn : l = []
    · subst hn; simp only [if_true, pr, Nat.mod_one, Nat.zero_mul, Nat.zero_add]
    · simp only [hn, if_false]
theorem ctr_snoc' (n : Nat) (l : List Nat) (j k : Nat) (hp : ∀ x ∈ l, 0 < x) (hj : j < pr l) (hk : k < n) : ctr (l ++ [n]) (j * n + k) = ctr l j ++ [k] := by
  rw [ctr_snoc n l j k hp hk]
  by_cases h : l = []
  · subst h; simp [pr] at hj; subst hj; simp
  · simp only [h, if_false]
/-- All wheels from place i on stand at their ends. -/
def Ends (l c : List Nat) (i : Nat) : Prop := ∀ j, i ≤ j → j < l.length → c.getD j 0 + 1 = l.getD j 0
theorem ends_last : ∀ (l : List Nat) (t : Nat), (∀ n ∈ l, 0 < n) → t < pr l → Ends l (ctr l t) 0 → t + 1 = pr l
  | [], t, _, ht, _ => by simp [pr] at *; omega
  | n :: l, t, hp, ht, he => by
    have hl := pr_pos fun x hx => hp x (List.mem_cons_of_mem _ hx)
    have h1 : t / pr l + 1 = n := by have := he 0 (by omega) (by simp); simpa [ctr] using this
    have h2 : t % pr l + 1 = pr l := ends_last l _ (fun x hx => hp x (List.mem_cons_of_mem _ hx)) (Nat.mod_lt _ hl) fun j _ hj => by
      have := he (j + 1) (by omega) (by simp; omega); simpa [ctr] using this
    have h3 := Nat.div_add_mod t (pr l)
    show t + 1 = n * pr l
    calc t + 1 = pr l * (t / pr l) + (t % pr l + 1) := by omega
      _ = pr l * (t / pr l + 1) := by rw [h2, Nat.mul_add, Nat.mul_one]
      _ = n * pr l := by rw [h1, Nat.mul_comm]
theorem ends_next : ∀ (l : List Nat) (t i : Nat), (∀ n ∈ l, 0 < n) → t < pr l → i < l.length → Ends l (ctr l t) (i + 1) → (ctr l t).getD i 0 + 1 < l.getD i 0 →
    t + 1 < pr l ∧ ctr l (t + 1) = (ctr l t).take i ++ ((ctr l t).getD i 0 + 1) :: List.replicate (l.length - i - 1) 0
  | [], t, i, _, _, hi, _, _ => by simp at hi
  | n :: l, t, i, hp, ht, hi, he, hd => by
    have hl := pr_pos fun x hx => hp x (List.mem_cons_of_mem _ hx)
    have h3 := Nat.div_add_mod t (pr l)
    have hr := Nat.mod_lt t hl
    cases i with
    | zero =>
      have h2 : t % pr l + 1 = pr l := ends_last l _ (fun x hx => hp x (List.mem_cons_of_mem _ hx)) hr fun j _ hj => by
        have := he (j + 1) (by omega) (by simp; omega); simpa [ctr] using this
      have hq : t / pr l + 1 < n := by simpa [ctr] using hd
      have e : t + 1 = pr l * (t / pr l + 1) := by rw [Nat.mul_add, Nat.mul_one]; omega
      refine ⟨?_, ?_⟩
      · rw [e]; show _ < n * pr l; rw [Nat.mul_comm n]; exact Nat.mul_lt_mul_of_pos_left hq hl
      · simp only [ctr, List.take_zero, List.nil_append, List.getD_cons_zero, List.length_cons, Nat.sub_zero, Nat.add_sub_cancel]
        rw [e, Nat.mul_div_cancel_left _ hl, Nat.mul_mod_right, ctr_zero]
    | succ i =>
      obtain ⟨g1, g2⟩ := ends_next l (t % pr l) i (fun x hx => hp x (List.mem_cons_of_mem _ hx)) hr (by simpa using hi) (fun j h1 h2 => by
        have := he (j + 1) (by omega) (by simp; omega); simpa [ctr] using this) (by simpa [ctr] using hd)
      have e1 : (t + 1) / pr l = t / pr l := by
        rw [← h3, Nat.add_assoc, Nat.mul_add_div hl, Nat.mul_add_div hl, Nat.div_eq_of_lt g1, Nat.div_eq_of_lt hr]
      have e2 : (t + 1) % pr l = t % pr l + 1 := by
        conv => lhs; rw [← h3, Nat.add_assoc, Nat.mul_add_mod, Nat.mod_eq_of_lt g1]
      have hq : t / pr l < n := Nat.div_lt_of_lt_mul (by rw [Nat.mul_comm]; exact ht)
      refine ⟨?_, ?_⟩
      · show t + 1 < n * pr l
        have := Nat.mul_le_mul_left (pr l) (show t / pr l + 1 ≤ n from hq)
        rw [Nat.mul_add, Nat.mul_one] at this
        rw [Nat.mul_comm n]; omega
      · simp only [ctr, e1, e2, g2, List.take_succ_cons, List.cons_append, List.getD_cons_succ, List.length_cons]
        rw [show l.length + 1 - (i + 1) - 1 = l.length - i - 1 by omega]
end Go.Proofs.YtajkhbpffakmfaaGreatDoor

namespace Go.Proofs.YtajkhbpffakmfaaGreatDoor
set_option maxRecDepth 100000

/-- How many numbers below n a test lets through. -/
def cn (f : Nat → Bool) : Nat → Nat
  | 0 => 0
  | n + 1 => cn f n + if f n then 1 else 0
theorem cn_congr {f g : Nat → Bool} {n : Nat} (h : ∀ a, a < n → f a = g a) : cn f n = cn g n := by
  induction n with
  | zero => rfl
  | succ n ih => rw [cn, cn, ih fun a ha => h a (by omega), h n (by omega)]
theorem cn_add (f : Nat → Bool) (m n : Nat) : cn f (m + n) = cn f m + cn (fun a => f (m + a)) n := by
  induction n with
  | zero => rfl
  | succ n ih => rw [← Nat.add_assoc, cn, cn, ih]; omega
theorem cn_true (n : Nat) : cn (fun _ => true) n = n := by
  induction n with
  | zero => rfl
  | succ n ih => rw [cn, ih]; rfl
theorem cn_false (n : Nat) : cn (fun _ => false) n = 0 := by
  induction n with
  | zero => rfl
  | succ n ih => rw [cn, ih]; rfl
theorem cn_and (b : Bool) (f : Nat → Bool) (n : Nat) : cn (fun a => b && f a) n = if b then cn f n else 0 := by
  cases b
  · simp only [Bool.false_and, cn_false]; rfl
  · simp only [Bool.true_and]; rfl
theorem cn_mul (a b : Nat → Bool) (p : Nat) (hp : 0 < p) : ∀ n, cn (fun t => a (t / p) && b (t % p)) (n * p) = cn a n * cn b p
  | 0 => by simp [cn]
  | n + 1 => by
    have h : cn (fun r => a ((n * p + r) / p) && b ((n * p + r) % p)) p = cn (fun r => a n && b r) p := cn_congr fun r hr => by
      rw [Nat.mul_comm n p, Nat.mul_add_div hp, Nat.div_eq_of_lt hr, Nat.mul_add_mod, Nat.mod_eq_of_lt hr, Nat.add_zero]
    rw [Nat.add_mul, Nat.one_mul, cn_add, cn_mul a b p hp n, h, cn_and, cn, Nat.add_mul]
    split <;> simp
theorem cn_zero : ∀ m, 0 < m → cn (fun r => decide (r = 0)) m = 1
  | 1, _ => rfl
  | m + 2, _ => by
    rw [cn, cn_zero (m + 1) (by omega)]; simp
theorem cn_gcd (n k : Nat) (hn : 0 < n) : cn (fun a => decide (n ∣ k * a)) n = Nat.gcd n k := by
  have hg : 0 < Nat.gcd n k := Nat.gcd_pos_of_pos_left _ hn
  have hd : Nat.gcd n k ∣ n := Nat.gcd_dvd_left n k
  have hm : 0 < n / Nat.gcd n k := Nat.div_pos (Nat.le_of_dvd hn hd) hg
  have e : Nat.gcd n k * (n / Nat.gcd n k) = n := Nat.mul_div_cancel' hd
  have h1 : cn (fun a => decide (n ∣ k * a)) (Nat.gcd n k * (n / Nat.gcd n k)) = cn (fun t => (fun _ => true) (t / (n / Nat.gcd n k)) && (fun r => decide (r = 0)) (t % (n / Nat.gcd n k))) (Nat.gcd n k * (n / Nat.gcd n k)) := cn_congr fun a _ => by
    simp only [Bool.true_and, decide_eq_decide]
    rw [Nat.mul_comm k a, ord_dvd n k a hn, Nat.dvd_iff_mod_eq_zero]
  rw [cn_mul (fun _ => true) (fun r => decide (r = 0)) _ hm, cn_true, cn_zero _ hm, Nat.mul_one] at h1
  rwa [e] at h1
/-- Does k make the element of number t vanish? -/
def vanB (k : Nat) : List Nat → Nat → Bool
  | [], _ => true
  | n :: l, t => decide (n ∣ k * (t / pr l)) && vanB k l (t % pr l)
theorem vanB_iff (k : Nat) : ∀ (l : List Nat) (t : Nat), vanB k l t = true ↔ ∀ i (h : i < l.length) (h' : i < (ctr l t).length), l[i] ∣ k * (ctr l t)[i]
  | [], t => by simp [vanB]
  | n :: l, t => by
    simp only [vanB, Bool.and_eq_true, decide_eq_true_eq, vanB_iff k l]
    constructor
    · rintro ⟨h1, h2⟩ i hi hi'
      cases i with
      | zero => exact h1
      | succ i => exact h2 i (by simpa using hi) (by rw [ctr_len]; simpa using hi)
    · intro h
      exact ⟨h 0 (by simp) (by rw [ctr_len]; simp), fun i hi hi' => h (i + 1) (by simpa using hi) (by rw [ctr_len]; simpa using hi)⟩
theorem cn_van (k : Nat) : ∀ (l : List Nat), (∀ n ∈ l, 0 < n) → cn (vanB k l) (pr l) = pr (l.map fun n => Nat.gcd n k)
  | [], _ => rfl
  | n :: l, h => by
    have hl := pr_pos fun x hx => h x (List.mem_cons_of_mem _ hx)
    have := cn_mul (fun q => decide (n ∣ k * q)) (vanB k l) (pr l) hl n
    rw [cn_gcd n k (h n (by simp)), cn_van k l fun x hx => h x (List.mem_cons_of_mem _ hx)] at this
    exact this
/-- Two neighbours on a clock: they agree up to some place, and there the second is greater. -/
theorem ctr_next (l : List Nat) (t : Nat) (hp : ∀ n ∈ l, 0 < n) (ht : t + 1 < pr l) : ∃ i, ∃ (_ : i < l.length), (ctr l t).take i = (ctr l (t + 1)).take i ∧ (ctr l t).getD i 0 < (ctr l (t + 1)).getD i 0 := by
  have key : ∀ d, d ≤ l.length → Ends l (ctr l t) d ∨ ∃ i, i < l.length ∧ Ends l (ctr l t) (i + 1) ∧ (ctr l t).getD i 0 + 1 ≠ l.getD i 0 := by
    intro d
    induction h : l.length - d generalizing d with
    | zero => intro hd; exact .inl fun j h1 h2 => by omega
    | succ m ih =>
      intro hd
      rcases ih (d + 1) (by omega) (by omega) with h1 | h1
      · by_cases e : (ctr l t).getD d 0 + 1 = l.getD d 0
        · refine .inl fun j h2 h3 => ?_
          by_cases hj : j = d
          · subst hj; exact e
          · exact h1 j (by omega) h3
        · exact .inr ⟨d, by omega, h1, e⟩
      · exact .inr h1
  rcases key 0 (Nat.zero_le _) with h | ⟨i, hi, h1, h2⟩
  · have := ends_last l t hp (by omega) h; omega
  · have h3 : (ctr l t).getD i 0 < l.getD i 0 := by
      have := ctr_lt l t hp (by omega) i hi (by rw [ctr_len]; exact hi)
      rw [List.getD_eq_getElem?_getD, List.getD_eq_getElem?_getD, List.getElem?_eq_getElem hi, List.getElem?_eq_getElem (by rw [ctr_len]; exact hi)]
      exact this
    obtain ⟨-, e⟩ := ends_next l t i hp (by omega) hi h1 (by omega)
    have hlen : ((ctr l t).take i).length = i := by rw [List.length_take, ctr_len]; omega
    refine ⟨i, hi, ?_, ?_⟩
    · rw [e, List.take_append, hlen, Nat.sub_self, List.take_zero, List.append_nil, List.take_take, Nat.min_self]
    · rw [e, List.getD_eq_getElem?_getD, List.getD_eq_getElem?_getD, List.getElem?_append_right (by omega), hlen, Nat.sub_self, List.getElem?_cons_zero]
      simp
end Go.Proofs.YtajkhbpffakmfaaGreatDoor

namespace Go.Proofs.YtajkhbpffakmfaaGreatDoor
open Go.RowKit
set_option maxRecDepth 100000

/-- The call's own row of rows of integers. -/
structure ORow (w : World) (base : Nat) (v : Value) (us : List Value) (xss : List (List ByteArray)) : Prop where
  own : w.ownsRow base 22 1 v xss.length us
  items : ∀ i (h : i < us.length) (h' : i < xss.length), w.ownsRow 0 26 1 us[i] xss[i].length (xss[i].map eS)
theorem ORow.len {w : World} {base : Nat} {v : Value} {us : List Value} {xss : List (List ByteArray)} (h : ORow w base v us xss) : us.length = xss.length := by have := h.own.1; omega
theorem ORow.nil (w : World) (base : Nat) : ORow w base (.slice none 0 0) [] [] := ⟨World.ownsRow_nil _ _ _ _, fun i h => by simp at h⟩
theorem ORow.below {w w' : World} {base B : Nat} {v : Value} {us : List Value} {xss : List (List ByteArray)} (h : ORow w base v us xss) (hb : Below B w w') (hB : w.heap.size ≤ B) : ORow w' base v us xss :=
  ⟨own_below h.own hb hB, fun i h1 h2 => own_below (h.items i h1 h2) hb hB⟩
theorem own_base {w : World} {b b' e s n : Nat} {v : Value} {ys : List Value} (h : w.ownsRow b e s v n ys) (hb : b' ≤ b) : w.ownsRow b' e s v n ys :=
  ⟨h.1, h.2.imp_right fun ⟨g, cap, cur, h1, h2, r⟩ => ⟨g, cap, cur, h1, Nat.le_trans hb h2, r⟩⟩
theorem ORow.base {w : World} {b b' : Nat} {v : Value} {us : List Value} {xss : List (List ByteArray)} (h : ORow w b v us xss) (hb : b' ≤ b) : ORow w b' v us xss := ⟨own_base h.own hb, h.items⟩
theorem ORow.lst {w : World} {base : Nat} {v : Value} {us : List Value} {xss : List (List ByteArray)} (h : ORow w base v us xss) : Lst w v us xss := by
  have hl := h.len
  refine ⟨Sl.ofOwns (n := us.length) (base := base) (e := 22) ?_, hl.symm, fun i h1 h2 => Sl.ofOwns (h.items i h1 h2)⟩
  rw [List.map_id, hl]; exact h.own
theorem ORow.cast {w : World} {base : Nat} {v : Value} {us : List Value} {xss yss : List (List ByteArray)} (h : ORow w base v us xss) (he : xss = yss) : ORow w base v us yss := he ▸ h
/-- Rows of different elements lie in different blocks. -/
theorem own_apart {w : World} {b b' s s' n n' : Nat} {e e' : TypeId} {u v : Value} {ys ys' : List Value} (h : w.ownsRow b e s u n ys) (h' : w.ownsRow b' e' s' v n' ys') (hne : e ≠ e') : u.ownBlock = none ∨ u.ownBlock ≠ v.ownBlock := by
  rcases h.2 with ⟨rfl, -⟩ | ⟨g, cap, cur, rfl, -, hg, -⟩
  · exact .inl rfl
  · rcases h'.2 with ⟨rfl, -⟩ | ⟨g', cap', cur', rfl, -, hg', -⟩
    · exact .inr (by simp [Value.ownBlock])
    · refine .inr fun e2 => ?_
      simp only [Value.ownBlock, Option.some.injEq] at e2
      subst e2
      rw [hg] at hg'
      injection hg' with hg'
      injection hg' with _ e3 _
      exact hne e3
theorem own_one {w : World} {b e s n : Nat} {u : Value} {ys : List Value} (h : w.ownsRow b e s u n ys) : u.oneCell' = true := by
  rcases h.2 with ⟨rfl, -⟩ | ⟨g, cap, cur, rfl, -⟩ <;> simp [Value.oneCell']
theorem ORow.snoc {w0 w' : World} {base : Nat} {v v' u : Value} {us : List Value} {xss : List (List ByteArray)} {ys : List ByteArray} {o : Obj} (h : ORow w0 base v us xss) (hu : w0.ownsRow 0 26 1 u ys.length (ys.map eS))
    (ho : w'.ownsRow base 22 1 v' (xss.length + 1) (us ++ [u])) (hg : (w0.alloc o).grownBy w' v.ownBlock) : ORow w' base v' (us ++ [u]) (xss ++ [ys]) := by
  have hl := h.len
  refine ⟨by rw [List.length_append]; exact ho, fun i h1 h2 => ?_⟩
  by_cases hi : i < us.length
  · have e1 : (us ++ [u])[i] = us[i] := List.getElem_append_left hi
    have e2 : (xss ++ [ys])[i] = xss[i]'(by omega) := List.getElem_append_left (by omega)
    rw [e1, e2]
    have h3 := h.items i hi (by omega)
    exact (h3.alloc o).kept hg (own_apart h3 h.own (by decide))
  · have e0 : i = us.length := by simp at h1; omega
    subst e0
    have e2 : (xss ++ [ys])[us.length] = ys := by simp [hl]
    rw [e2]
    simp only [List.getElem_concat_length]
    exact (hu.alloc o).kept hg (own_apart hu h.own (by decide))

section
variable {P : Program} {t e : TypeId} {z : Value} {size bytes : Nat} {ops : Array Oper} {rest : List Oper} {o : Oper} {a : Act} {Q : Exit → Act → World → Prop}
/-- 'rows = append(rows, row)', the row of rows the call's own, the row just laid in a new block. -/
theorem appR (hE : ElemOk P t 22 z 1 bytes) (hgd : o.guard = none) (s x : Operand) (ho : o.op = .call { callee := .builtin .append, args := #[s, x], argTypes := #[t, t] })
    {u v : Value} {c base B : Nat} {us : List Value} {xss : List (List ByteArray)} {ys : List ByteArray} {w0 W : World} (hs : a.eval s = v) (hx : a.eval x = .slice (some ⟨w0.heap.size, 0, none⟩) 1 c)
    (hO : ORow w0 base v us xss) (hu : w0.ownsRow 0 26 1 u ys.length (ys.map eS)) (hb : Below B W w0) (hB : B ≤ base) (hbase : base ≤ w0.heap.size)
    (hn : (xss.length + 1) * bytes ≤ 140737488355328) (hn' : xss.length + 1 ≤ maxLen)
    (h : ∀ v' w', ORow w' base v' (us ++ [u]) (xss ++ [ys]) → Below B W w' → wpList P ops Q rest (a.put o.dst v') w') :
    wpList P ops Q (o :: rest) a (w0.alloc (.cells #[u] 22)) := by
  obtain ⟨i, hi, hz, hsz, hby⟩ := hE.info
  refine wpList_append_own _ hgd s x t ho base 22 i z 1 bytes hE.und hi hz hsz hby hE.cells hE.pos v xss.length us hs (hO.own.alloc _) ⟨w0.heap.size, 0, none⟩ 1 c [u] hx (by simp) ?_ (by intro y hy; rw [List.mem_singleton.1 hy]; exact own_one hu) hn' hn (by simp; omega) ?_
  · intro j y hj
    rw [addr0, cell_of_row _ w0.heap.size j #[u] 22 (0, 0) (heap_alloc_new w0 _)]
    simpa using hj
  · intro v' w' ho' hg _
    exact h v' w' (hO.snoc hu ho' hg) ((hb.alloc (by omega) _).grown hg (by simp; omega) (fun j hj => by have := (hO.own.lt j hj).1; omega))
end

/-- The elements of a group. -/
def allL (ss : List Nat) : List (List ByteArray) := (List.range (pr ss)).map fun t => (ctr ss t).map tx
theorem allL_len (ss : List Nat) : (allL ss).length = pr ss := by simp [allL]
theorem allL_get (ss : List Nat) (t : Nat) (h : t < (allL ss).length) : (allL ss)[t] = (ctr ss t).map tx := by simp [allL]
theorem allL_nil : allL [] = [[]] := rfl
theorem allL_next (ss : List Nat) (n j c : Nat) (hp : ∀ x ∈ ss, 0 < x) (hj : j < pr ss) (hj' : j < (allL ss).length) (hc : c < n) :
    (allL (ss ++ [n])).take (j * n + c + 1) = (allL (ss ++ [n])).take (j * n + c) ++ [(allL ss)[j] ++ [tx c]] := by
  have h1 : j * n + c < pr (ss ++ [n]) := by
    rw [pr_append]; simp only [pr, Nat.mul_one]
    calc j * n + c < j * n + n := by omega
      _ = (j + 1) * n := by rw [Nat.add_mul, Nat.one_mul]
      _ ≤ pr ss * n := Nat.mul_le_mul_right _ hj
  rw [List.take_succ_eq_append_getElem (by rw [allL_len]; exact h1), allL_get, allL_get, ctr_snoc' n ss j c hp hj hc, List.map_append]
  rfl
theorem one_row (w : World) (u : Value) (ys : List ByteArray) (h : w.ownsRow 0 26 1 u ys.length (ys.map eS)) : ORow (w.alloc (.cells #[u] 22)) w.heap.size (.slice (some ⟨w.heap.size, 0, none⟩) 1 1) [u] [ys] := by
  refine ⟨⟨rfl, .inr ⟨w.heap.size, 1, #[u], rfl, Nat.le_refl _, heap_alloc_new w _, by simp, by simp [maxLen], rfl, rfl⟩⟩, fun i h1 h2 => ?_⟩
  obtain rfl : i = 0 := by have h3 : i < 1 := h1; omega
  exact h.alloc _
theorem own_empty (w : World) (e : TypeId) : (w.alloc (.cells #[] e)).ownsRow w.heap.size e 1 (.slice (some ⟨w.heap.size, 0, none⟩) 0 0) 0 [] :=
  ⟨rfl, .inr ⟨w.heap.size, 0, #[], rfl, Nat.le_refl _, heap_alloc_new w _, by omega, by simp [maxLen], rfl, rfl⟩⟩
theorem pr_take_le (ss : List Nat) (hp : ∀ n ∈ ss, 0 < n) (k : Nat) : pr (ss.take k) ≤ pr ss := by
  conv => rhs; rw [← List.take_append_drop k ss, pr_append]
  exact Nat.le_mul_of_pos_right _ (pr_pos fun n hn => hp n (List.mem_of_mem_drop hn))
theorem mem_le_pr : ∀ (ss : List Nat), (∀ n ∈ ss, 0 < n) → ∀ n ∈ ss, n ≤ pr ss
  | a :: l, hp, n, hn => by
    have h1 := pr_pos fun x hx => hp x (List.mem_cons_of_mem a hx)
    have h2 := hp a (by simp)
    rcases List.mem_cons.1 hn with rfl | h
    · exact Nat.le_mul_of_pos_right _ h1
    · exact Nat.le_trans (mem_le_pr l (fun x hx => hp x (List.mem_cons_of_mem _ hx)) n h) (Nat.le_mul_of_pos_left _ h2)
theorem good_tx (n : Nat) (h : n ≤ 1000000) : Good (tx n) n := .of (big_dn (by
  have : dn (n : Int) ≤ 7 := by unfold dn; rw [digs_len _ _ _ (by omega)]; simp; omega
  omega))
theorem isI64_nat (n : Nat) (h : n ≤ 1000000) : isI64 (n : Int) = true := by unfold isI64; simp; omega

set_option maxHeartbeats 4000000 in
theorem rAll_any (w : World) (v : Value) (g : List ByteArray) (ss : List Nat) (hv : Sl eS w v g) (hg : g = ss.map tx) (hp : ∀ n ∈ ss, 0 < n) (hl : ss.length ≤ 16) (hpr : pr ss ≤ 1000000) :
    Calls Tryz.prog 62 #[v] w (Rets fun r w' => ∃ us, ORow w' w.heap.size r us (allL ss) ∧ Below w.heap.size w w') := by
  obtain ⟨ad, b, o, c, rfl, hi, hq, hcc, hm⟩ := hv.open elemStr
  have hgl : g.length = ss.length := by rw [hg, List.length_map]
  have HG := Lib.hid hg; have HP := Lib.hid hp; have HPR := Lib.hid hpr
  rw [hgl] at hi ⊢
  have HGL := Lib.hid hgl
  clear hv hg hp hpr hgl
  unfold maxLen at hm
  go_enter Tryz.func62, Tryz.ntmps62
  go_wp2
  have hO := (one_row w (.slice none 0 0) [] (World.ownsRow_nil _ _ _ _)).cast allL_nil.symm
  go_loopw [3, 4] (fun out i wr => ∃ k : Nat, k ≤ ss.length ∧ i = .int .i64 k ∧ (∃ us, ORow wr w.heap.size out us (allL (ss.take k))) ∧ Below w.heap.size w wr) (fun _ i _ => ss.length - (intOf i).toNat)
  case atStart => exact ⟨0, Nat.zero_le _, rfl, ⟨_, hO⟩, (Below.refl _ _).alloc (Nat.le_refl _) _⟩
  case round =>
    clear hO
    obtain ⟨k, hk, rfl, ⟨us, hO⟩, hb⟩ := hrel
    have hbs := hb.size
    by_cases hkn : k < ss.length
    · have hkg : k < g.length := by rw [HGL.out]; exact hkn
      have h1 : wr.cell? ⟨b, o + k, none⟩ = some (.string g[k]) := hq.at hb (Nat.le_refl _) k hkg
      obtain ⟨n, hn⟩ : ∃ n, ss[k] = n := ⟨_, rfl⟩
      have hgn : g[k] = tx n := by simp [HG.out, hn]
      have hnm : n ∈ ss := by rw [← hn]; exact List.getElem_mem hkn
      have hn0 := HP.out n hnm
      have hn6 : n ≤ 1000000 := Nat.le_trans (mem_le_pr ss HP.out n hnm) HPR.out
      rw [hgn] at h1
      have hS : ss.take (k + 1) = ss.take k ++ [n] := by rw [List.take_succ_eq_append_getElem hkn, hn]
      obtain ⟨S, hSS⟩ : ∃ S, ss.take k = S := ⟨_, rfl⟩
      have hSp : ∀ x ∈ S, 0 < x := fun x hx => HP.out x (by rw [← hSS] at hx; exact List.mem_of_mem_take hx)
      have hSn : pr S * n ≤ 1000000 := by
        have := pr_take_le ss HP.out (k + 1)
        rw [hS, hSS, pr_append] at this; simp only [pr, Nat.mul_one] at this
        exact Nat.le_trans this HPR.out
      have hS6 : pr S ≤ 1000000 := Nat.le_trans (Nat.le_mul_of_pos_right _ hn0) hSn
      rw [hSS] at hO
      rw [hSS] at hS
      have HN := Lib.hid (good_tx n hn6); have HI := Lib.hid (isI64_nat n hn6); have HS := Lib.hid hS; have HSP := Lib.hid hSp; have HSN := Lib.hid hSn
      have HL := Lib.hid hO.lst; have HLen := Lib.hid hO.len; have HAL := Lib.hid (allL_len S)
      clear hO hn hgn hnm hS hSS hSp hSn
      obtain ⟨ad3, b3, o3, c3, rfl, hi3, hq3, -, hm3⟩ := HL.out.sl.open elemSl
      unfold maxLen at hm3
      have hul : us.length = pr S := by rw [HLen.out, HAL.out]
      have HUL := Lib.hid hul
      have HK := Lib.hid (show ss.take (k + 1) = S ++ [n] from HS.out)
      clear hul
      obtain ⟨WA, rfl⟩ : ∃ W, W = wr := ⟨_, rfl⟩
      go_wp2_with (go_at_call 111; (with_reducible refine (rSmall_ok _ _ (n : Int) HN.out HI.out).mono ?_); rintro e w1 ⟨v, rfl, rfl, hb1⟩)
      go_loopw [7, 8] (fun nx i w2 => ∃ j : Nat, j ≤ us.length ∧ i = .int .i64 j ∧ (∃ us2, ORow w2 WA.heap.size nx us2 ((allL (S ++ [n])).take (j * n))) ∧ Below WA.heap.size WA w2) (fun _ i _ => us.length - (intOf i).toNat)
      case atStart => exact ⟨0, Nat.zero_le _, rfl, ⟨_, (ORow.nil _ _).cast (by simp)⟩, hb1⟩
      case round =>
        obtain ⟨j, hj, rfl, ⟨us2, hN⟩, hb2⟩ := hrel
        by_cases hju : j < us.length
        · have hjn : j < pr S := by rw [← HUL.out]; exact hju
          have hjl : j < (allL S).length := by rw [HAL.out]; exact hjn
          have HX := Lib.hid (HL.out.get j hju hjl)
          have HXL := Lib.hid (show (allL S)[j].length ≤ 16 by rw [allL_get, List.length_map, ctr_len]; have := congrArg List.length HK.out; simp at this; omega)
          have HNX := Lib.hid (fun c (hc : c < n) => allL_next S n j c HSP.out hjn hjl hc)
          obtain ⟨ys, hys⟩ : ∃ ys, (allL S)[j] = ys := ⟨_, rfl⟩
          rw [hys] at HX HXL HNX
          have HJ := Lib.hid (show j * n + n ≤ 1000000 from Nat.le_trans (by rw [← Nat.succ_mul]; exact Nat.mul_le_mul_right _ hjn) HSN.out)
          have HTL := Lib.hid (fun c (hc : c ≤ n) => show ((allL (S ++ [n])).take (j * n + c)).length = j * n + c by
            rw [List.length_take, allL_len, pr_append]; simp only [pr, Nat.mul_one]
            have : j * n + n ≤ pr S * n := by rw [← Nat.succ_mul]; exact Nat.mul_le_mul_right _ hjn
            omega)
          clear hys
          obtain ⟨WB, rfl⟩ : ∃ W, W = wr := ⟨_, rfl⟩
          go_wp2
          go_loopw [7, 9] (fun nx i w3 => ∃ c : Nat, c ≤ n ∧ i = .int .i64 c ∧ (∃ us3, ORow w3 WA.heap.size nx us3 ((allL (S ++ [n])).take (j * n + c))) ∧ Below WA.heap.size WA w3) (fun _ i _ => n - (intOf i).toNat)
          case atStart => exact ⟨0, Nat.zero_le _, rfl, ⟨_, hN⟩, hb2⟩
          case round =>
            clear hN hb2
            obtain ⟨c, hc, rfl, ⟨us3, hN⟩, hb3⟩ := hrel
            by_cases hcn : c < n
            · have h2 : wr.cell? ⟨b3, o3 + j, none⟩ = some us[j] := hq3.at hb3 (Nat.le_refl _) j hju
              have HX2 := Lib.hid (HX.out.below hb3 (Nat.le_refl _))
              have HN3 := Lib.hid hN; have HB3 := Lib.hid hb3
              have hwa := hb3.size
              have hb3l : b3 < wr.heap.size := Nat.lt_of_lt_of_le (hq3.1 (by omega)) hwa
              have HT := Lib.hid (HTL.out c (by omega))
              have q0 : (0 : Int) ≤ (c : Int) := by omega
              have HQ := Lib.hid (show (c : Int) ≤ 9223372036854775807 by have := HJ.out; omega)
              clear hN hb3
              go_wp2_with (first
                | (at_builtin; (refine appL elemStr rfl _ _ rfl rfl rfl (own_empty wr _) (HX2.out.below ((Below.refl wr.heap.size wr).alloc (Nat.le_refl _) _) (Nat.le_refl _)) ((Below.refl wr.heap.size wr).alloc (Nat.le_refl _) _) (Nat.le_refl _) (by simp) (fun y => by simp [eS, Value.oneCell']) (by have := HXL.out; omega) (by unfold maxLen; have := HXL.out; omega) ?_; intro v4 w4 hown4 hb4; have HO4 := Lib.hid hown4; clear hown4))
                | (go_at_call 19; (with_reducible refine (rOf_any _ (c : Int) (by omega) HQ.out).mono ?_); rintro e w5 ⟨v, rfl, rfl, hb5⟩; have HO5 := Lib.hid (own_below HO4.out hb5 (Nat.le_refl _)); have b5 := hb4.trans (hb5.mono hb4.size))
                | (at_builtin; (refine app1 (news := [.string (txt (c : Int))]) elemStr rfl _ _ rfl rfl rfl HO5.out b5 (Nat.le_refl _) b5.size rfl (by simp [Value.oneCell']) (by have := HXL.out; omega) (by unfold maxLen; have := HXL.out; omega) ?_; intro v6 w6 hown6 hb6; obtain ⟨g6, cap6, rfl⟩ := ownsRow_succ hown6; rw [Nat.zero_add] at hown6 ⊢; have HO6 := Lib.hid (show w6.ownsRow 0 26 1 (.slice (some ⟨g6, 0, none⟩) (ys.length + 1) cap6) (ys ++ [tx c]).length ((ys ++ [tx c]).map eS) by refine ownsRow_cast (own_base hown6 (Nat.zero_le _)) (by simp) (by simp [eS]); done); clear hown6; have HN6 := Lib.hid (HN3.out.below hb6 (Nat.le_refl _)); have b6 := HB3.out.trans (hb6.mono hwa)))
                | (at_builtin; refine appR elemSl rfl _ _ rfl rfl rfl HN6.out HO6.out b6 (Nat.le_refl _) b6.size (by rw [HT.out]; have := HJ.out; omega) (by rw [HT.out]; unfold maxLen; have := HJ.out; omega) ?_; intro v7 w7 hO7 hb7; have HO7 := Lib.hid hO7; clear hO7))
              go_roundw
              case rel => exact ⟨c + 1, by omega, by go_num, ⟨_, HO7.out.cast (HNX.out c hcn).symm⟩, hb7⟩
              case measure => simp [intOf]; omega
            · obtain rfl : c = n := by omega
              have HN4 := Lib.hid hN
              clear hN
              go_wp2
              go_roundw
              case rel => exact ⟨j + 1, by omega, by go_num, ⟨_, HN4.out.cast (by rw [Nat.succ_mul])⟩, hb3⟩
              case measure => simp [intOf]; omega
        · obtain rfl : j = us.length := by omega
          have HN4 := Lib.hid hN
          have HF := Lib.hid (show (allL (S ++ [n])).take (us.length * n) = allL (S ++ [n]) from List.take_of_length_le (by rw [allL_len, pr_append, HUL.out]; simp [pr]))
          clear hN
          go_wp2
          go_roundw
          case rel => exact ⟨k + 1, by omega, by go_num, ⟨_, (HN4.out.base hbs).cast (by rw [HF.out, HK.out])⟩, hb.trans (hb2.mono hbs)⟩
          case measure => simp [intOf]; omega
    · obtain rfl : k = ss.length := by omega
      have HO := Lib.hid (hO.cast (by rw [List.take_length]))
      clear hO
      go_wp2
      go_ret
      exact ⟨_, rfl, _, HO.out, hb⟩
end Go.Proofs.YtajkhbpffakmfaaGreatDoor

namespace Go.Proofs.YtajkhbpffakmfaaGreatDoor
open Go.RowKit Go.Shelf
set_option maxRecDepth 100000

attribute [local go_sem] Oper.semAt_some

/-- Blocks of ints and of rows of ints stand as they stood. -/
def KpT (W W' : World) : Prop := ∀ (b : Nat) (cs : Array Value) (m : Nat × Nat) (T : TypeId), (T = 3 ∨ T = 61) → W.heap[b]? = some (Obj.cells cs T m) → W'.heap[b]? = some (Obj.cells cs T m)
theorem KpT.rfl' (W : World) : KpT W W := fun _ _ _ _ _ h => h
theorem KpT.tr {X Y Z : World} (h : KpT X Y) (h' : KpT Y Z) : KpT X Z := fun b cs m T hT e => h' b cs m T hT (h b cs m T hT e)
theorem KpT.put (W : World) (l : Nat) (o o' : Obj) (ho : W.heap[l]? = some o) (hc : o.isCells = false) : KpT W (W.putObj l o') := fun b cs m T _ e => by
  have hne : b ≠ l := fun e2 => by subst e2; rw [ho] at e; cases e; exact absurd hc (by simp [Obj.isCells])
  exact (World.putObj_heap_other hne).trans e
theorem KpT.below {B : Nat} {W W' : World} (h : Below B W W') (hB : W.heap.size ≤ B) : KpT W W' := fun b _ _ _ _ e =>
  (h.block b (Nat.lt_of_lt_of_le (Array.getElem?_eq_some_iff.1 e).1 hB)).trans e
theorem KpT.own {W W' : World} (h : KpT W W') {b n : Nat} {v : Value} {ys : List Value} (ho : W.ownsRow b 3 1 v n ys) : W'.ownsRow b 3 1 v n ys :=
  ⟨ho.1, ho.2.imp_right fun ⟨g, cap, cur, h1, h2, h3, r⟩ => ⟨g, cap, cur, h1, h2, h _ _ _ _ (.inl rfl) h3, r⟩⟩
theorem KpT.blk {W W' : World} (h : KpT W W') {g : Nat} {cs : List Value} (hk : Blk W g cs 61) : Blk W' g cs 61 := h _ _ _ _ (.inr rfl) hk
theorem own_other {w : World} {b e s n g j : Nat} {u v : Value} {ys : List Value} (h : w.ownsRow b e s v n ys) (hne : v.ownBlock ≠ some g) : (w.setCell ⟨g, j, none⟩ u).ownsRow b e s v n ys := by
  refine ⟨h.1, h.2.imp_right fun ⟨g', cap, cur, h1, h2, h3, r⟩ => ⟨g', cap, cur, h1, h2, ?_, r⟩⟩
  have : g' ≠ g := fun e2 => hne (by rw [h1, e2]; rfl)
  exact (Below.heap_setCell _ _ _ _ this).trans h3
theorem grown_drewN (w : World) (n : Nat) : w.grownBy (w.drewN n) none := ⟨rfl, rfl, rfl, Nat.le_refl _, fun _ _ _ => rfl⟩
/-- The clock's row in the midst of a step: the first K wheels as they stood, the others at 0. -/
def midL (c : List Nat) (n K : Nat) : List Nat := c.take K ++ List.replicate (n - K) 0
theorem midL_len {c : List Nat} {n K : Nat} (h : c.length = n) (hK : K ≤ n) : (midL c n K).length = n := by simp [midL, h]; omega
theorem midL_all {c : List Nat} {n : Nat} (h : c.length = n) : midL c n n = c := by simp [midL, ← h]
theorem midL_get {c : List Nat} {n k : Nat} (h : c.length = n) (hk : k < n) (h' : k < (midL c n (k + 1)).length) (h2 : k < c.length) : (midL c n (k + 1))[k] = c[k] := by
  simp only [midL]
  rw [List.getElem_append_left (by simp; omega), List.getElem_take]
theorem midL_set {c : List Nat} {n k : Nat} (h : c.length = n) (hk : k < n) (x : Nat) : (midL c n (k + 1)).set k x = c.take k ++ x :: List.replicate (n - k - 1) 0 := by
  have hl : (c.take k).length = k := by simp; omega
  rw [midL, List.take_succ_eq_append_getElem (by omega), List.append_assoc, List.set_append_right _ _ (by omega), hl, Nat.sub_self]
  simp only [List.cons_append, List.nil_append, List.set_cons_zero]
  rw [show n - (k + 1) = n - k - 1 by omega]
theorem midL_zero {c : List Nat} {n k : Nat} (h : c.length = n) (hk : k < n) : (midL c n (k + 1)).set k 0 = midL c n k := by
  rw [midL_set h hk, midL, show n - k = n - k - 1 + 1 by omega, List.replicate_succ, Nat.add_sub_cancel]
theorem eI_map_set (l : List Nat) (k x : Nat) : (l.map eI).set k (eI x) = (l.set k x).map eI := List.map_set.symm
theorem getD_get (l : List Nat) (k : Nat) (h : k < l.length) : l.getD k 0 = l[k] := by rw [List.getD_eq_getElem?_getD, List.getElem?_eq_getElem h]; rfl

/-- What the iterator hands out: its own row, which stands at a clock's number. -/
def GdE (N : Nat) (s : Nat) (x : Nat × List Nat) (W : World) : Prop := x.1 = s ∧ s < W.heap.size ∧ x.2.length = N ∧ (∀ y ∈ x.2, y ≤ 1000000) ∧ W.ownsRow s 3 1 (.slice (some ⟨s, 0, none⟩) N N) N (x.2.map eI)
/-- The numbers up to t. -/
def upto (d : Nat) (ss : List Nat) (t : Nat) : List (Nat × List Nat) := (List.range t).map fun i => (d, ctr ss i)
theorem upto_succ (d : Nat) (ss : List Nat) (t : Nat) : upto d ss (t + 1) = upto d ss t ++ [(d, ctr ss t)] := by simp [upto, List.range_succ]
theorem upto_len (d : Nat) (ss : List Nat) (t : Nat) : (upto d ss t).length = t := by simp [upto]
/-- What the iterator holds between two rounds. -/
structure ItE (W : World) (B c sb : Nat) (ss : List Nat) (row : List Nat) (wr : World) : Prop where
  box : Blk wr B [.slice (some ⟨sb, 0, none⟩) ss.length c] 61
  siz : wr.ownsRow 0 3 1 (.slice (some ⟨sb, 0, none⟩) ss.length c) ss.length (ss.map eI)
  now : wr.ownsRow W.heap.size 3 1 (.slice (some ⟨W.heap.size, 0, none⟩) ss.length ss.length) ss.length (row.map eI)
theorem ItE.kp {W w1 w2 : World} {B c sb : Nat} {ss row : List Nat} (h : ItE W B c sb ss row w1) (hk : KpT w1 w2) : ItE W B c sb ss row w2 := ⟨hk.blk h.box, hk.own h.siz, hk.own h.now⟩
theorem ItE.set {W wr : World} {B c sb : Nat} {ss row : List Nat} (h : ItE W B c sb ss row wr) (hB : B < W.heap.size) (hs : sb < W.heap.size) (k x : Nat) (u : Value) (hu : u = eI x) :
    ItE W B c sb ss (row.set k x) (wr.setCell ⟨W.heap.size, k, none⟩ u) := by
  refine ⟨h.box.setCell (by omega) _, own_other h.siz (by simp [Value.ownBlock]; omega), ?_⟩
  rw [← eI_map_set, hu]
  exact (h.now.stored k _).1

set_option maxHeartbeats 4000000 in
theorem elements1_seq {w : World} {B c sb : Nat} {ss : List Nat} (hk : Blk w B [.slice (some ⟨sb, 0, none⟩) ss.length c] 61) (hs : w.ownsRow 0 3 1 (.slice (some ⟨sb, 0, none⟩) ss.length c) ss.length (ss.map eI))
    (hp : ∀ n ∈ ss, 0 < n) (hl : ss.length ≤ 16) (hpr : pr ss ≤ 1000000) (n : Nat) (hn : 1 ≤ n) :
    SeqG Fence.wide n Tryz.prog 110 #[.pointer (some ⟨B, 0, none⟩)] (fun x : Nat × List Nat => #[.slice (some ⟨x.1, 0, none⟩) ss.length ss.length]) KpT (GdE ss.length)
      (fun xs _ => ∃ d, xs = upto d ss (pr ss)) (pr ss) w := by
  intro l J W hbW hJ hJc hY h0
  have hkW := hk.below hbW (Nat.le_refl _)
  have hsW := own_below hs hbW (Nat.le_refl _)
  have hBW : B < W.heap.size := hkW.lt
  have hsb : sb < W.heap.size := by
    rcases hsW.2 with ⟨e, _⟩ | ⟨g, cap, cur, e, _, hg, _⟩
    · cases e
    · cases e; exact (Array.getElem?_eq_some_iff.1 hg).1
  have hpos := pr_pos hp
  have HY := Lib.hid hY; have HJ := Lib.hid hJ; have HJC := Lib.hid hJc; have HP := Lib.hid hp; have HPR := Lib.hid hpr; have HSW := Lib.hid hsW
  have hmL : ss.length ≤ maxLen := by unfold maxLen; omega
  clear hY hJ hJc hk hs hbW hp hpr hsW
  refine callsIn_of_wp Tryz.func110 rfl trivial ?_ rfl
  simp only [Tryz.ntmps110, List.size_toArray, List.length_cons, List.length_nil, Nat.reduceAdd, Nat.reduceSub, Array.replicate_succ, Array.replicate_zero, List.push_toArray, List.append_toArray, List.nil_append, List.cons_append]
  have hc0 : W.cell? ⟨B, 0, none⟩ = some (.slice (some ⟨sb, 0, none⟩) ss.length c) := hkW.cell 0 _ rfl
  gi_wp2_with (gi_at_make; refine mkNI elemInt rfl _ _ rfl ss.length rfl rfl rfl rfl (by omega) hmL rfl ?_; intro w1 hown hg1)
  have hI : ItE W B c sb ss (ctr ss 0) w1 := by
    have hb1 : Below W.heap.size W w1 := (Below.refl _ W).grown hg1 (Nat.le_refl _) (fun _ h => by cases h)
    refine ⟨hkW.below hb1 (Nat.le_refl _), own_below HSW.out hb1 (Nat.le_refl _), ownsRow_cast hown rfl ?_⟩
    rw [ctr_zero, List.map_replicate]; rfl
  have HI := Lib.hid hI
  have HJ1 := Lib.hid (HJ.out [] W w1 none h0 hg1 (fun r h => by cases h))
  clear hI h0 hown hg1 hc0 hkW
  gi_loopg [4] (pr ss) (fun k _ wr => ∃ t : Nat, k + t = pr ss ∧ 0 < k ∧ Hid (J (upto W.heap.size ss t) wr) ∧ Hid (ItE W B c sb ss (ctr ss t) wr))
  case atStart => exact ⟨0, by omega, hpos, HJ1, HI⟩
  case round =>
    clear HJ1 HI
    obtain ⟨t, hkt, hk0, hJs, hIt⟩ := hrel
    have htl : t < pr ss := by omega
    have hcl := ctr_len ss t
    have HCL := Lib.hid hcl
    have hgd : GdE ss.length W.heap.size (W.heap.size, ctr ss t) wr := ⟨rfl, by
      rcases hIt.out.now.2 with ⟨e, _⟩ | ⟨g, cap, cur, e, _, hg, _⟩
      · cases e
      · cases e; exact (Array.getElem?_eq_some_iff.1 hg).1, hcl, fun y hy => by
        obtain ⟨i, hi, rfl⟩ := List.getElem_of_mem hy
        have hi2 : i < ss.length := by rw [← hcl]; exact hi
        have h1 := ctr_lt ss t HP.out htl i hi2 hi
        have h2 := mem_le_pr ss HP.out _ (List.getElem_mem hi2)
        exact Nat.le_trans (Nat.le_of_lt (Nat.lt_of_lt_of_le h1 h2)) HPR.out, hIt.out.now⟩
    obtain ⟨fn, tmps, assign, body, hy, hR⟩ := HY.out (upto W.heap.size ss t) (W.heap.size, ctr ss t) wr hJs.out hgd (by rw [upto_len]; exact htl)
    clear hgd hcl
    gi_wp2
    refine hR.mono ?_
    rintro e W3 ⟨rfl, hJ3, hk3⟩
    have HI3 := Lib.hid (hIt.out.kp hk3)
    have HJ3 : Hid (J (upto W.heap.size ss (t + 1)) W3) := Lib.hid (by rw [upto_succ]; exact hJ3)
    have HKT := Lib.hid hkt
    clear hJ3 hk3 hJs hIt hy hR hkt
    obtain ⟨X, hX⟩ : ∃ X, ctr ss t = X := ⟨_, rfl⟩
    have HLT := Lib.hid (fun i (h : i < ss.length) (h' : i < X.length) => show X[i] < ss[i] by subst hX; exact ctr_lt ss t HP.out htl i h h')
    have HEND := Lib.hid (fun (he : Ends ss X 0) => ends_last ss t HP.out htl (by rw [hX]; exact he))
    have HNXT := Lib.hid (fun i (hi : i < ss.length) (he : Ends ss X (i + 1)) (hd : X.getD i 0 + 1 < ss.getD i 0) => show t + 1 < pr ss ∧ ctr ss (t + 1) = X.take i ++ (X.getD i 0 + 1) :: List.replicate (ss.length - i - 1) 0 by subst hX; exact ends_next ss t i HP.out htl hi he hd)
    rw [hX] at HI3 HCL
    clear hX
    gi_wp2
    gi_loopw [4] (fun i wr => ∃ q : Int, i = .int .i64 q ∧ -1 ≤ q ∧ q < ss.length ∧ Hid (Ends ss X (q + 1).toNat) ∧ Hid (J (upto W.heap.size ss (t + 1)) wr) ∧ Hid (ItE W B c sb ss (midL X ss.length (q + 1).toNat) wr)) (fun i _ => (intOf i + 1).toNat)
    case atStart => exact ⟨(ss.length : Int) - 1, rfl, by omega, by omega, Lib.hid (fun j h1 h2 => by omega), HJ3, Lib.hid (by rw [show ((ss.length : Int) - 1 + 1).toNat = ss.length by omega, midL_all HCL.out]; exact HI3.out)⟩
    case round =>
      clear HJ3 HI3
      obtain ⟨q, rfl, hq0, hq1, hE, hJs, hI⟩ := hrel
      by_cases hpos : 0 ≤ q
      · obtain ⟨k, rfl⟩ : ∃ k : Nat, q = (k : Int) := ⟨q.toNat, by omega⟩
        rw [show ((k : Int) + 1).toNat = k + 1 by omega] at hE hI
        have hks : k < ss.length := by omega
        have hkX : k < X.length := by rw [HCL.out]; exact hks
        have hkm : k < (midL X ss.length (k + 1)).length := by rw [midL_len HCL.out (by omega)]; exact hks
        obtain ⟨c1, f1⟩ := own_get hI.out.now hkm
        obtain ⟨c2, -⟩ := own_get hI.out.siz hks
        rw [midL_get HCL.out hks hkm hkX] at c1
        have hb := hI.out.box.cell 0 _ rfl
        have hx6 : X[k] < ss[k] := HLT.out k hks hkX
        have hn6 : ss[k] ≤ 1000000 := Nat.le_trans (mem_le_pr ss HP.out _ (List.getElem_mem hks)) HPR.out
        have HXD := Lib.hid (getD_get X k hkX); have HSD := Lib.hid (getD_get ss k hks)
        obtain ⟨x, hx⟩ : ∃ x, X[k] = x := ⟨_, rfl⟩
        obtain ⟨m, hm⟩ : ∃ m, ss[k] = m := ⟨_, rfl⟩
        rw [hx] at c1 hx6 HXD
        rw [hm] at c2 hx6 hn6 HSD
        unfold eI at c1 c2
        have HCL2 := Lib.hid (And.intro hkX hkm)
        clear hkX hkm hx hm
        by_cases hxm : x + 1 = m
        · have hq2 : ((x : Int) == (m : Int) - 1) = true := by simp; omega
          have HXM := Lib.hid hxm
          clear hxm
          gi_wp2_with fail
          gi_quiet (fail)
          have HJ4 := HJ.out _ wr (wr.drewN nq) none hJs.out (grown_drewN _ _) (fun r h => by cases h)
          have HI4 : ItE W B c sb ss (midL X ss.length (k + 1)) (wr.drewN nq) := hI.out.kp (fun _ _ _ _ _ h => h)
          have HJ5 := Lib.hid (HJC.out _ _ (Value.int .i64 0) k HJ4)
          have HI5 := Lib.hid (HI4.set hBW hsb k 0 (Value.int .i64 0) rfl)
          have HE5 := Lib.hid (show Ends ss X k from fun j h1 h2 => by
            by_cases e : j = k
            · subst e; rw [HXD.out, HSD.out]; exact HXM.out
            · exact hE.out j (by omega) h2)
          clear HJ4 HI4
          gi_wp2
          go_roundw
          case rel => exact ⟨(k : Int) - 1, rfl, by omega, by omega, Lib.hid (by rw [show ((k : Int) - 1 + 1).toNat = k by omega]; exact HE5.out), HJ5, Lib.hid (by rw [show ((k : Int) - 1 + 1).toNat = k by omega, ← midL_zero HCL.out hks]; exact HI5.out)⟩
          case measure => first | (simp [intOf]; done) | (simp [intOf]; omega)
        · have hq2 : ((x : Int) == (m : Int) - 1) = false := by simp; omega
          have HXM := Lib.hid hxm
          clear hxm
          gi_wp2_with fail
          gi_quiet (fail)
          have HJ4 := HJ.out _ wr (wr.drewN nq) none hJs.out (grown_drewN _ _) (fun r h => by cases h)
          have HI4 : ItE W B c sb ss (midL X ss.length (k + 1)) (wr.drewN nq) := hI.out.kp (fun _ _ _ _ _ h => h)
          have HJ5 := Lib.hid (HJC.out _ _ (Value.int .i64 ((x : Int) + 1)) k HJ4)
          have HI5 := Lib.hid (HI4.set hBW hsb k (x + 1) (Value.int .i64 ((x : Int) + 1)) (by simp [eI]))
          have HN5 := Lib.hid (HNXT.out k hks hE.out (by rw [HXD.out, HSD.out]; have := HXM.out; omega))
          clear HJ4 HI4
          gi_wp2
          gi_roundg (pr ss - (t + 1))
          case measure => have := HKT.out; have := HN5.out.1; omega
          case rel => exact ⟨t + 1, by have := HN5.out.1; omega, by have := HN5.out.1; omega, HJ5, Lib.hid (by rw [HN5.out.2, HXD.out, ← midL_set HCL.out hks]; exact HI5.out)⟩
      · obtain rfl : q = -1 := by omega
        gi_wp2_with fail
        gi_quiet (fail)
        have HJ4 := Lib.hid (HJ.out _ wr (wr.drewN nq) none hJs.out (grown_drewN _ _) (fun r h => by cases h))
        have HT5 := Lib.hid (HEND.out hE.out)
        gi_wp2
        refine bodyPost_ret (results_none rfl _ _ _) rfl ?_
        exact ⟨⟨_, rfl⟩, _, ⟨W.heap.size, by rw [← HT5.out]⟩, HJ4.out⟩
end Go.Proofs.YtajkhbpffakmfaaGreatDoor

namespace Go.Proofs.YtajkhbpffakmfaaGreatDoor
open Go.RowKit Go.Shelf
set_option maxRecDepth 100000

attribute [local go_sem] Oper.semAt_some

set_option maxHeartbeats 1000000 in
theorem each_elements (w : World) (v cap : Value) (xs rs : List ByteArray) (hv : Sl eS w v xs) (hl : xs.length ≤ 1000000) (hr : rs.length = xs.length)
    (hF : ∀ k (hk : k < xs.length) (hk' : k < rs.length) w', Below w.heap.size w w' → Calls Tryz.prog 61 #[.int .i64 k, .string xs[k], cap] w' (Rets fun v w'' => v = .string rs[k] ∧ Below w'.heap.size w' w'')) :
    Calls Tryz.prog 60 #[v, .func (.func 61) #[] #[cap]] w (Rets fun v' w' => w'.ownsRow w.heap.size 26 1 v' rs.length (rs.map eS) ∧ Below w.heap.size w w') := by
  obtain ⟨a, b, o, c, rfl, hi, hp, hc, hm⟩ := hv.open elemStr
  have HF := Lib.hid hF; have HR := Lib.hid hr
  clear hv hF
  unfold maxLen at hm
  go_enter Tryz.func60, Tryz.ntmps60
  go_wp2_with (at_make; refine mkN elemStr rfl _ _ rfl xs.length rfl rfl (by omega) (by omega) (by omega) (by unfold maxLen; omega) (Below.refl _ _) (Nat.le_refl _) rfl ?_; intro w1 hown hb hb2; clear hb2)
  have hown := ownsRow_cast hown rfl (show List.replicate xs.length (Value.string ⟨#[]⟩) = (rs.take 0 ++ List.replicate (xs.length - 0) (⟨#[]⟩ : ByteArray)).map eS by simp [eS])
  go_loopw [13] (fun i wr => ∃ k : Nat, k ≤ xs.length ∧ i = .int .i64 k ∧ wr.ownsRow w.heap.size 26 1 (.slice (some ⟨w.heap.size, 0, none⟩) xs.length xs.length) xs.length ((rs.take k ++ List.replicate (xs.length - k) (⟨#[]⟩ : ByteArray)).map eS) ∧ Below w.heap.size w wr) (fun i _ => xs.length - (intOf i).toNat)
  case atStart => exact ⟨0, Nat.zero_le _, rfl, hown, hb⟩
  case round =>
    clear hown hb
    obtain ⟨k, hk, rfl, hown, hb⟩ := hrel
    by_cases hkn : k < xs.length
    · have hkr : k < rs.length := by rw [HR.out]; exact hkn
      have h1 : wr.cell? ⟨b, o + k, none⟩ = some (.string xs[k]) := hp.at hb (Nat.le_refl _) k hkn
      have HO := Lib.hid hown
      clear hown
      go_wp2_with ((with_reducible refine (HF.out k hkn hkr _ hb).mono ?_); rintro e w2 ⟨v, rfl, rfl, hb2⟩; have HO2 := Lib.hid (own_below HO.out hb2 (Nat.le_refl _)); obtain ⟨u, -, hcu, hfr⟩ := own_at HO2.out hkn; have hb3 := hb.trans (hb2.mono hb.size))
      go_roundw
      case rel =>
        have R := fun (q : Value) (hq : q = eS rs[k]) => fill_own HO2.out hb3 (Nat.le_refl _) (by simp; omega) hkn rs[k] q hq
        rw [← List.take_succ_eq_append_getElem hkr] at R
        exact ⟨k + 1, by omega, by go_num, (R _ rfl).1, (R _ rfl).2⟩
      case measure => simp [intOf]; omega
    · obtain rfl : k = xs.length := by omega
      rw [List.take_of_length_le (show rs.length ≤ xs.length by rw [HR.out]; exact Nat.le_refl _), Nat.sub_self, List.replicate_zero, List.append_nil] at hown
      have HS := Lib.hid (show wr.ownsRow w.heap.size 26 1 (.slice (some ⟨w.heap.size, 0, none⟩) xs.length xs.length) rs.length (rs.map eS) from ownsRow_cast hown HR.out.symm rfl)
      clear hown
      go_wp2
      go_ret
      exact ⟨_, rfl, HS.out, hb⟩

set_option maxHeartbeats 1000000 in
/-- The closure of a round: a place of the clock's row, as a text. -/
theorem el1_any (w : World) (B s N : Nat) (ys : List Nat) (k : Nat) (hk : k < ys.length) (x : ByteArray) (hB : Blk w B [.slice (some ⟨s, 0, none⟩) N N] 61) (hs : w.ownsRow 0 3 1 (.slice (some ⟨s, 0, none⟩) N N) N (ys.map eI)) (hy : ∀ y ∈ ys, y ≤ 1000000) (he : Env w) :
    Calls Tryz.prog 61 #[.int .i64 k, .string x, .pointer (some ⟨B, 0, none⟩)] w (Rets fun v w'' => v = .string (tx ys[k]) ∧ Below w.heap.size w w'') := by
  obtain ⟨c1, -⟩ := own_get hs hk
  have hlen : ys.length = N := by have := hs.1; simpa using this
  subst hlen
  have c0 := hB.cell 0 _ rfl
  have h6 := hy _ (List.getElem_mem hk)
  obtain ⟨y, hyy⟩ : ∃ y, ys[k] = y := ⟨_, rfl⟩
  rw [hyy] at c1 h6 ⊢
  unfold eI at c1
  have HE := Lib.hid he
  clear hyy hB hs hy he
  go_enter Tryz.func61, Tryz.ntmps61
  go_wp2_with (go_at_call 44; (with_reducible refine (Of_any _ (y : Int) (by omega) (by omega) HE.out).mono ?_); rintro e w1 ⟨v, rfl, rfl, hb1⟩)
  go_ret
  exact ⟨_, rfl, rfl, hb1⟩

theorem elements_any (w : World) (ad : Option Addr) (n c : Nat) :
    Calls Tryz.prog 59 #[.slice ad n c] w (Rets fun r w' => r = .func (.func 110) #[] #[.pointer (some ⟨w.heap.size, 0, none⟩)] ∧ w' = w.alloc (.cells #[.slice ad n c] 61)) := by
  go_enter Tryz.func59, Tryz.ntmps59
  go_wp2
  go_ret
  exact ⟨_, rfl, rfl, rfl⟩

theorem own_form {w : World} {b e s n : Nat} {v : Value} {ys : List Value} (h : w.ownsRow b e s v n ys) : ∃ a c, v = .slice a n c := by
  rcases h.2 with ⟨rfl, h0⟩ | ⟨g, cap, cur, rfl, -⟩
  · subst h0
    exact ⟨_, _, rfl⟩
  · exact ⟨_, _, rfl⟩
/-- The blocks of the rows handed out lie beyond S. -/
def Far (S : Nat) (v : Value) (us : List Value) : Prop := (∀ g, v.ownBlock = some g → S < g) ∧ ∀ u ∈ us, ∀ g, u.ownBlock = some g → S < g
/-- What the range keeps: the variable of the result, whose rows lie beyond the iterator's own. -/
def ItO (w0 : World) (D S : Nat) (xs : List (Nat × List Nat)) (W : World) : Prop :=
  ∃ v us, Blk W D [v] 42 ∧ ORow W 0 v us (xs.map fun x => x.2.map tx) ∧ Far S v us ∧ Below D w0 W
theorem own_set_other {w : World} {b e s n g j : Nat} {u v : Value} {ys : List Value} (h : w.ownsRow b e s v n ys) (hne : ∀ g', v.ownBlock = some g' → g < g') : (w.setCell ⟨g, j, none⟩ u).ownsRow b e s v n ys :=
  own_other h fun e => Nat.lt_irrefl _ (hne _ e)
theorem ItO.setS {w0 : World} {D S : Nat} {xs : List (Nat × List Nat)} {W : World} (h : ItO w0 D S xs W) (hD : D < S) (u : Value) (j : Nat) : ItO w0 D S xs (W.setCell ⟨S, j, none⟩ u) := by
  obtain ⟨v, us, h1, h2, h3, h4⟩ := h
  exact ⟨v, us, h1.setCell (by omega) _, ⟨own_set_other h2.own h3.1, fun i hi hi' => own_set_other (h2.items i hi hi') (h3.2 _ (List.getElem_mem hi))⟩, h3, h4.setCell (by simp; omega) _⟩
theorem own_kept_nc {A B : World} {b e s n : Nat} {v : Value} {ys : List Value} {row : Option Nat} (h : A.ownsRow b e s v n ys) (hg : A.grownBy B row) (hr : ∀ r, row = some r → ∃ o : Obj, A.heap[r]? = some o ∧ o.isCells = false) : B.ownsRow b e s v n ys := by
  refine ⟨h.1, h.2.imp_right fun ⟨g, cap, cur, h1, h2, h3, r⟩ => ⟨g, cap, cur, h1, h2, ?_, r⟩⟩
  rw [hg.block g (Array.getElem?_eq_some_iff.1 h3).1 fun e => ?_]; · exact h3
  obtain ⟨o, ho, hc⟩ := hr g e.symm
  rw [h3] at ho; cases ho; cases hc
theorem ItO.own (w0 : World) (D S B : Nat) (hD : D ≤ B) (h0 : D ≤ w0.heap.size) : OwnFrom B (ItO w0 D S) := by
  rintro xs A C row ⟨v, us, h1, h2, h3, h4⟩ hg hr
  have hr' : ∀ r, row = some r → ∃ o : Obj, A.heap[r]? = some o ∧ o.isCells = false := fun r e => (hr r e).2
  refine ⟨v, us, ?_, ⟨own_kept_nc h2.own hg hr', fun i hi hi' => own_kept_nc (h2.items i hi hi') hg hr'⟩, h3, h4.grown hg (Nat.le_trans h0 h4.size) fun k e => Nat.le_trans hD (hr k e).1⟩
  have hlt := h1.lt
  unfold Blk at *
  rw [hg.block D hlt fun e => ?_]; · exact h1
  obtain ⟨o, ho, hc⟩ := hr' D e.symm
  rw [h1] at ho; cases ho; cases hc

section
variable {P : Program} {t : TypeId} {z : Value} {bytes : Nat} {ops : Array Oper} {o : Oper} {a : Act} {Q : Exit → Act → World → Prop} {K : Act → World → Prop} {E : Prop}
/-- 'append(rows, row)' as one operation of a region. -/
theorem appR_step (hE : ElemOk P t 22 z 1 bytes) (hgd : o.guard = none) (s x : Operand) (ho : o.op = .call { callee := .builtin .append, args := #[s, x], argTypes := #[t, t] })
    {u v : Value} {c B S : Nat} {us : List Value} {xss : List (List ByteArray)} {ys : List ByteArray} {w0 W : World} (hs : a.eval s = v) (hx : a.eval x = .slice (some ⟨w0.heap.size, 0, none⟩) 1 c)
    (hO : ORow w0 0 v us xss) (hu : w0.ownsRow 0 26 1 u ys.length (ys.map eS)) (hF : Far S v us) (hFu : ∀ g, u.ownBlock = some g → S < g) (hS : S < w0.heap.size) (hb : Below B W w0) (hB : B ≤ S + 1)
    (hn : (xss.length + 1) * bytes ≤ 140737488355328) (hn' : xss.length + 1 ≤ maxLen)
    (h : ∀ v' w', ORow w' 0 v' (us ++ [u]) (xss ++ [ys]) → Far S v' (us ++ [u]) → Below B W w' → (∀ (b : Nat) (cs : Array Value) (m : Nat × Nat) (T : TypeId), T ≠ 22 → w0.heap[b]? = some (Obj.cells cs T m) → w'.heap[b]? = some (Obj.cells cs T m)) → KeepsOthers w0 w' → K (a.put o.dst v') w') :
    if Region.wanted o (yielded ops a.tmps) = true then Oper.wp P o a (w0.alloc (.cells #[u] 22)) K Q else E := by
  rw [if_pos (by simp [Region.wanted, hgd])]
  obtain ⟨i, hi, hz, hsz, hby⟩ := hE.info
  have hown : w0.ownsRow (S + 1) 22 1 v xss.length us := ⟨hO.own.1, hO.own.2.imp_right fun ⟨g, cap, cur, h1, h2, r⟩ => ⟨g, cap, cur, h1, hF.1 g (by rw [h1]; rfl), r⟩⟩
  refine wp_append_own _ s x t ho (S + 1) 22 i z 1 bytes hE.und hi hz hsz hby hE.cells hE.pos v xss.length us hs (hown.alloc _) ⟨w0.heap.size, 0, none⟩ 1 c [u] hx (by simp) ?_ (by intro y hy; rw [List.mem_singleton.1 hy]; exact own_one hu) hn' hn (by simp; omega) ?_
  · intro j y hj
    rw [addr0, cell_of_row _ w0.heap.size j #[u] 22 (0, 0) (heap_alloc_new w0 _)]
    simpa using hj
  · intro v' w' ho' hg _
    have hrow : ∀ r, v.ownBlock = some r → ∃ cs m, w0.heap[r]? = some (.cells cs 22 m) := fun r e => by
      rcases hO.own.2 with ⟨rfl, -⟩ | ⟨g, cap, cur, rfl, -, hg, -⟩
      · simp [Value.ownBlock] at e
      · simp [Value.ownBlock] at e; subst e; exact ⟨_, _, hg⟩
    have hsame : ∀ k o', w0.heap[k]? = some o' → v.ownBlock ≠ some k → w'.heap[k]? = some o' := fun k o' hk hne => by
      have hlt := (Array.getElem?_eq_some_iff.1 hk).1
      rw [hg.block k (by simp; omega) (Ne.symm hne), Below.heap_alloc _ _ _ hlt]; exact hk
    refine h v' w' (hO.snoc hu (own_base ho' (Nat.zero_le _)) hg) ⟨fun g e => ?_, fun y hy => ?_⟩ ((hb.alloc (by omega) _).grown hg (by simp; omega) (fun j hj => by have := hF.1 j hj; omega)) (fun b cs m T hT e => ?_) ⟨?_, fun k o' hk hc => ?_⟩
    · rcases ho'.2 with ⟨rfl, -⟩ | ⟨g', cap, cur, rfl, hb', -⟩
      · simp [Value.ownBlock] at e
      · simp [Value.ownBlock] at e; omega
    · rcases List.mem_append.1 hy with hy | hy
      · exact hF.2 y hy
      · rw [List.mem_singleton.1 hy]; exact hFu
    · refine hsame b _ e fun e2 => ?_
      obtain ⟨cs', m', h'⟩ := hrow b e2
      rw [e] at h'; cases h'
      exact hT rfl
    · have := hg.size; simp at this; omega
    · refine hsame k _ hk fun e2 => ?_
      obtain ⟨cs', m', h'⟩ := hrow k e2
      rw [hk] at h'; cases h'; cases hc
end
end Go.Proofs.YtajkhbpffakmfaaGreatDoor
