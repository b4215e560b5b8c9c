/- The walk of integer's common (the greatest common divisor). The walk of integer's Gcd. The public functions at short numbers. The walks of the reference's Down, Rest, Common, Divide and Bezout. The walks of the reference's divides and Check of groups. Plain law: the order of an element of a finite abelian group. The walks of abelian's multiple and of its folds of products and of least common multiples. The walk of abelian's member; the closures of OrderOf and Count. The walk of abelian's each, for each of the closures that it is handed. The walks of abelian's OrderOf, Order, Exponent and Count. -/
import Derived.Test.YtdpdkojeapaflaaGreatDoorPk2
import Derived.Test.YtdpdkojeapaflaaGreatDoorPk4
import Derived.Test.YtdpdkojeapaflaaGreatDoorPk3
import Derived.Test.YtdpdkojeapaflaaGreatDoorPk1
namespace Go.Proofs.YtdpdkojeapaflaaGreatDoor
open Go.RowKit
set_option maxRecDepth 100000

theorem Sl.unique {w : World} {v : Value} {xs ys : List Nat} (h : Sl eU w v xs) (h' : Sl eU w v ys) : xs = ys := by
  obtain ⟨a, b, o, c, rfl, ha, -, -, -, hx⟩ := h
  obtain ⟨a', b', o', c', he, ha', -, -, -, hx'⟩ := h'
  injection he with e1 e2 e3
  refine List.ext_getElem e2 fun i h1 h2 => ?_
  have p1 := ha (by omega)
  have p2 := ha' (by omega)
  rw [← e1, p1] at p2
  injection p2 with p2
  injection p2 with q1 q2
  have c1 := hx.2 i h1
  have c2 := hx'.2 i h2
  rw [← q1, ← q2, c1] at c2
  simp [eU] at c2
  exact_mod_cast c2
open Classical in
/-- The natural number that a slice value reads as. -/
noncomputable def rdN (w : World) (v : Value) : Nat := if h : ∃ n, Sl eU w v (digs 1000000000 n) then Classical.choose h else 0
theorem rdN_eq {w : World} {v : Value} {n : Nat} (h : Sl eU w v (digs 1000000000 n)) : rdN w v = n := by
  have hex : ∃ n, Sl eU w v (digs 1000000000 n) := ⟨n, h⟩
  unfold rdN
  rw [dif_pos hex]
  have := (Classical.choose_spec hex).unique h
  have e := congrArg (val 1000000000) this
  rwa [val_digs _ _ (by omega), val_digs _ _ (by omega)] at e

set_option maxHeartbeats 1000000 in
theorem common_any (w : World) (x y : Value) (p q : Nat) (hx : Sl eU w x (digs 1000000000 p)) (hy : Sl eU w y (digs 1000000000 q)) (hl : (digs 1000000000 p).length ≤ 1000000000000) (hl' : (digs 1000000000 q).length ≤ 1000000000000) :
    Calls Tryz.prog 117 #[x, y] w (Rets fun v w' => Sl eU w' v (digs 1000000000 (Nat.gcd p q)) ∧ Below w.heap.size w w') := by
  have HX := Lib.hid hx; have HY := Lib.hid hy; have HL := Lib.hid hl; have HL' := Lib.hid hl'
  clear hx hy hl hl'
  go_enter Tryz.func117, Tryz.ntmps117
  go_wp2
  go_loopw [0, 1] (fun x y wr => ∃ m k : Nat, Hid (Sl eU wr x (digs 1000000000 m)) ∧ Hid (Sl eU wr y (digs 1000000000 k)) ∧ Hid (Nat.gcd m k = Nat.gcd p q) ∧ Hid ((digs 1000000000 m).length ≤ 1000000000000) ∧ Hid ((digs 1000000000 k).length ≤ 1000000000000) ∧ Below w.heap.size w wr) (fun _ y wr => rdN wr y)
  case atStart => exact ⟨p, q, HX, HY, Lib.hid rfl, HL, HL', Below.refl _ _⟩
  case round =>
    obtain ⟨m, k, hm, hk, hg, h1, h2, hb⟩ := hrel
    obtain ⟨ay, ny, cy, rfl⟩ := hk.out.shape
    have hny := digs_pos_len k
    rw [← hk.out.len.1] at hny
    by_cases h0 : ny = 0
    · subst h0
      have hk0 : k = 0 := by omega
      have hg2 := hg.out
      rw [hk0, Nat.gcd_zero_right] at hg2
      have hm2 := hm.out
      rw [hg2] at hm2
      have HM2 := Lib.hid hm2
      clear hm2 hg2 hny hk0
      go_wp2
      go_ret
      exact ⟨_, rfl, HM2.out, hb⟩
    · have hkp : 0 < k := by omega
      have hpos : 0 < ny := by omega
      clear hny
      go_wp2_with (go_at_call 125; refine (divided_any _ _ _ m k hm.out hk.out hkp h1.out h2.out).mono ?_; rintro e w1 ⟨v, rfl, ⟨aq, ar, rfl, hq, hr⟩, hb1⟩; have HR := Lib.hid hr; clear hr hq)
      go_roundw
      case rel =>
        exact ⟨k, m % k, Lib.hid (hk.out.below hb1 (Nat.le_refl _)), HR, Lib.hid (by rw [← hg.out, Nat.gcd_comm m k, Nat.gcd_rec k m, Nat.gcd_comm]), h2,
          Lib.hid (Nat.le_trans (digs_len_mono _ (by omega) (Nat.le_of_lt (Nat.mod_lt m hkp))) h2.out), hb.trans (hb1.mono hb.size)⟩
      case measure => rw [rdN_eq HR.out, rdN_eq hk.out]; exact Nat.mod_lt m hkp
end Go.Proofs.YtdpdkojeapaflaaGreatDoor

namespace Go.Proofs.YtdpdkojeapaflaaGreatDoor
open Go.RowKit
set_option maxRecDepth 100000

set_option maxHeartbeats 1000000 in
theorem gcd1_any (w : World) (x y : Value) (s t : Int) (hx : Num w x s) (hy : Num w y t) (hl : wl s ≤ 1000000000000) (hl' : wl t ≤ 1000000000000) :
    Calls Tryz.prog 115 #[x, y] w (Rets fun v w' => Num w' v (Nat.gcd s.natAbs t.natAbs : Nat) ∧ Below w.heap.size w w') := by
  obtain ⟨m, a, n, c, rfl, hm, hs⟩ := hx
  obtain ⟨m', a', n', c', rfl, hm', hs'⟩ := hy
  have HX := Lib.hid hs; have HY := Lib.hid hs'
  have HBX := Lib.hid (Boxes.made w m a n c m' a' n' c')
  have HL := Lib.hid hl; have HL' := Lib.hid hl'
  clear hs hs' hm hm' hl hl'
  go_enter Tryz.func115, Tryz.ntmps115
  go_wp2_with fail
  refine (common_any _ _ _ s.natAbs t.natAbs (HX.out.below HBX.out.1 (Nat.le_refl _)) (HY.out.below HBX.out.1 (Nat.le_refl _)) HL.out HL'.out).mono ?_
  rintro e w1 ⟨v, rfl, hv, hb1⟩
  have hk1 := HBX.out.keep hb1
  have HK1 := Lib.hid hk1; have HV := Lib.hid hv
  clear hk1 hv hb1
  go_wp2_with fail
  refine (signed_any _ _ _ _ HV.out).mono ?_
  rintro e w2 ⟨v, rfl, ⟨m1, a1, n1, c1, rfl, hm1, hs1⟩, hb2⟩
  rw [show sg false (Nat.gcd s.natAbs t.natAbs) = ((Nat.gcd s.natAbs t.natAbs : Nat) : Int) from rfl] at hm1 hs1
  have hk := HK1.out.keep hb2
  obtain ⟨p, q, hk0, hk1, hf0, hf1⟩ := hk.res
  have HM1 := Lib.hid hm1; clear hm1
  obtain ⟨g1, r0, r1, hst⟩ := hk.stored (r := m1) hs1
  have HG := Lib.hid g1; have HST := Lib.hid hst
  clear g1 hst hs1 hb2
  go_wp2
  refine bodyPost_ret (v := .agg #[.bool m1, .slice a1 n1 c1]) (by simp [results, Tryz.results115, go_sem, r0, r1]) rfl ?_
  exact ⟨_, rfl, ⟨_, _, _, _, rfl, HM1.out, HG.out⟩, HST.out⟩
theorem wl_gcd (x y : Int) : wl ((Nat.gcd x.natAbs y.natAbs : Nat) : Int) ≤ max (wl x) (wl y) + 1 := by
  have h : Nat.gcd x.natAbs y.natAbs ≤ x.natAbs ∨ Nat.gcd x.natAbs y.natAbs ≤ y.natAbs := by
    rcases Nat.eq_zero_or_pos x.natAbs with h | h
    · right; rw [h, Nat.gcd_zero_left]; exact Nat.le_refl _
    · left; exact Nat.le_of_dvd h (Nat.gcd_dvd_left _ _)
  unfold wl
  rw [Int.natAbs_natCast]
  rcases h with h | h
  · have := digs_len_mono 1000000000 (by omega) h; omega
  · have := digs_len_mono 1000000000 (by omega) h; omega
set_option maxHeartbeats 400000 in
theorem both_gcd (w : World) (s t : ByteArray) (x y : Int) (hx : Good s x) (hy : Good t y) (he : Env w) :
    Calls Tryz.prog 94 #[.string s, .string t, .func (.func 115) #[] #[]] w (Rets fun v w' => v = resV ((Nat.gcd x.natAbs y.natAbs : Nat) : Int) ∧ Below w.heap.size w w') := by
  have h0 : chks [s, t] = 0 := by rw [chks_pair, hx.chk, hy.chk]; rfl
  have hb0 : Below w.heap.size w (w.alloc (.cells #[.string s, .string t] 27)) := (Below.refl _ w).alloc (Nat.le_refl _) _
  obtain ⟨tt, k, hr, -, -⟩ := resV_cases ((Nat.gcd x.natAbs y.natAbs : Nat) : Int)
  have hwl := wl_gcd x y
  have HWL := Lib.hid hwl
  have HB0 := Lib.hid hb0; have H0 := Lib.hid h0; have HX := Lib.hid hx; have HY := Lib.hid hy; have HR := Lib.hid hr; have HE := Lib.hid he
  have HSZ := Lib.hid (show ∀ x ∈ [s, t], x.size ≤ 1000000 by intro x h; simp at h; rcases h with rfl | rfl; (have := hx.size; omega); (have := hy.size; omega))
  clear h0 hb0 hx hy hr he hwl
  go_enter Tryz.func94, Tryz.ntmps94
  go_wp2_with (first
    | (go_at_call 88; refine (checked_any _ _ _ (Sl.pair w s t _) HSZ.out (by simp)).mono ?_; rintro e w1 ⟨v, rfl, rfl, hb1⟩; rw [H0.out]; have b1 := HB0.out.trans (hb1.mono (by simp)))
    | (go_at_call_of 89 (Value.string s); refine (read_any _ _ x HX.out.1 (by have := HX.out.size; omega)).mono ?_; rintro e w2 ⟨v, rfl, hn2, hb2⟩; have HN2 := Lib.hid hn2; clear hn2; have b2 := b1.trans (hb2.mono b1.size))
    | (go_at_call_of 89 (Value.string t); refine (read_any _ _ y HY.out.1 (by have := HY.out.size; omega)).mono ?_; rintro e w3 ⟨v, rfl, hn3, hb3⟩; have HN3 := Lib.hid hn3; clear hn3; have b3 := b2.trans (hb3.mono b2.size))
    | (go_at_call 115; refine (gcd1_any _ _ _ x y (HN2.out.below hb3 (Nat.le_refl _)) HN3.out (by have := HX.out.wl; omega) (by have := HY.out.wl; omega)).mono ?_; rintro e w5 ⟨v, rfl, hn5, hb5⟩; have HN5 := Lib.hid hn5; clear hn5; have b5 := b3.trans (hb5.mono b3.size))
    | (go_at_call 91; refine (result_any _ _ _ HN5.out (by have := HX.out.wl; have := HY.out.wl; have := HWL.out; omega) (HE.out.below b5 (Nat.le_refl _))).mono ?_; rintro e w6 ⟨v, rfl, rfl, hb6⟩; rw [HR.out]))
  go_ret2
  exact ⟨_, rfl, by rw [HR.out]; rfl, b5.trans (hb6.mono b5.size)⟩
set_option maxHeartbeats 400000 in
theorem Gcd_err (w : World) (s t : ByteArray) (hs : s.size ≤ 1000000) (ht : t.size ≤ 1000000) (h : chks [s, t] ≠ 0) :
    Calls Tryz.prog 66 #[.string s, .string t] w (Rets fun v w' => v = .tuple #[.string ⟨#[]⟩, .int .i64 (chks [s, t])] ∧ Below w.heap.size w w') := by
  go_enter Tryz.func66, Tryz.ntmps66
  go_wp2_with (go_at_call 94; refine (both_err _ _ _ _ hs ht h).mono ?_; rintro e w' ⟨v, rfl, rfl, hb⟩)
  go_ret2
  exact ⟨_, rfl, rfl, hb⟩
set_option maxHeartbeats 400000 in
theorem Gcd_ok (w : World) (s t : ByteArray) (x y : Int) (hx : Good s x) (hy : Good t y) (he : Env w) :
    Calls Tryz.prog 66 #[.string s, .string t] w (Rets fun v w' => v = resV ((Nat.gcd x.natAbs y.natAbs : Nat) : Int) ∧ Below w.heap.size w w') := by
  obtain ⟨tt, k, hr, -, -⟩ := resV_cases ((Nat.gcd x.natAbs y.natAbs : Nat) : Int)
  have HR := Lib.hid hr; have HX := Lib.hid hx; have HY := Lib.hid hy; have HE := Lib.hid he
  clear hr hx hy he
  go_enter Tryz.func66, Tryz.ntmps66
  go_wp2_with (go_at_call 94; refine (both_gcd _ _ _ x y HX.out HY.out HE.out).mono ?_; rintro e w' ⟨v, rfl, rfl, hb⟩; rw [HR.out])
  go_ret2
  exact ⟨_, rfl, by rw [HR.out]; rfl, hb⟩

end Go.Proofs.YtdpdkojeapaflaaGreatDoor

namespace Go.Proofs.YtdpdkojeapaflaaGreatDoor
open Go.RowKit
set_option maxRecDepth 100000

/-- The text is the numeral of an integer of at most so many digits. -/
structure Sm (s : ByteArray) (z : Int) (k : Nat) : Prop where
  good : Good s z
  le : dn z ≤ k
theorem big_dn {z : Int} (h : dn z ≤ 1024) : big z = false := by
  rw [big_digs, decide_eq_false_iff_not]; unfold dn at h; omega
theorem sm_of {s : ByteArray} (h1 : s.size ≤ 60) (h : chk s.data.toList = 0) : ∃ z, Sm s z 60 := by
  obtain ⟨z, hz⟩ := good_of h
  refine ⟨z, hz, ?_⟩
  have h2 := digs10_len z.natAbs
  have h3 : (Lib.decDigits z.natAbs).length ≤ (Lib.itoa z).length := by rw [itoa_cases]; split <;> simp
  have h4 : (Lib.itoa z).length = s.size := by rw [← hz.1, Lib.size_eq]
  unfold dn; omega
theorem dn_le {x y : Int} (h : x.natAbs ≤ y.natAbs) : dn x ≤ dn y := by unfold dn; exact digs_len_mono 10 (by omega) h
theorem dn_fdiv (x y : Int) (h : y ≠ 0) : dn (Int.fdiv x y) ≤ dn x + dn y + 1 := by
  have := digs_len_add 10 x.natAbs y.natAbs (by omega)
  have h2 := digs_len_mono 10 (by omega) (fdiv_abs x y h)
  unfold dn; omega
theorem dn_fmod (x y : Int) (h : y ≠ 0) : dn (Int.fmod x y) ≤ dn y := by
  have h2 := digs_len_mono 10 (by omega) (Nat.le_of_lt (fmod_abs x y h))
  unfold dn; omega

theorem add_sm (w : World) (s t : ByteArray) (x y : Int) (k l : Nat) (hx : Sm s x k) (hy : Sm t y l) (hk : k + l + 1 ≤ 1000) (he : Env w) :
    Calls Tryz.prog 122 #[.string s, .string t] w (Rets fun v w' => v = .tuple #[.string (txt (x + y)), .int .i64 0] ∧ Below w.heap.size w w' ∧ Sm (txt (x + y)) (x + y) (k + l + 1)) := by
  have hd : dn (x + y) ≤ k + l + 1 := by have := dn_add x y; have := hx.le; have := hy.le; omega
  have hb : big (x + y) = false := big_dn (by omega)
  refine (Add_ok w s t x y hx.good hy.good he).mono ?_
  rintro e w' ⟨v, rfl, rfl, hbl⟩
  exact ⟨_, rfl, by rw [resV_eq, resT_ok hb, resK_ok hb], hbl, ⟨rfl, hb⟩, hd⟩

theorem sub_sm (w : World) (s t : ByteArray) (x y : Int) (k l : Nat) (hx : Sm s x k) (hy : Sm t y l) (hk : k + l + 1 ≤ 1000) (he : Env w) :
    Calls Tryz.prog 121 #[.string s, .string t] w (Rets fun v w' => v = .tuple #[.string (txt (x - y)), .int .i64 0] ∧ Below w.heap.size w w' ∧ Sm (txt (x - y)) (x - y) (k + l + 1)) := by
  have hd : dn (x - y) ≤ k + l + 1 := by have := dn_sub x y; have := hx.le; have := hy.le; omega
  have hb : big (x - y) = false := big_dn (by omega)
  refine (Sub_ok w s t x y hx.good hy.good he).mono ?_
  rintro e w' ⟨v, rfl, rfl, hbl⟩
  exact ⟨_, rfl, by rw [resV_eq, resT_ok hb, resK_ok hb], hbl, ⟨rfl, hb⟩, hd⟩

theorem mul_sm (w : World) (s t : ByteArray) (x y : Int) (k l : Nat) (hx : Sm s x k) (hy : Sm t y l) (hk : k + l ≤ 1000) (he : Env w) :
    Calls Tryz.prog 38 #[.string s, .string t] w (Rets fun v w' => v = .tuple #[.string (txt (x * y)), .int .i64 0] ∧ Below w.heap.size w w' ∧ Sm (txt (x * y)) (x * y) (k + l)) := by
  have hd : dn (x * y) ≤ k + l := by have := dn_mul x y; have := hx.le; have := hy.le; omega
  have hb : big (x * y) = false := big_dn (by omega)
  refine (Mul_ok w s t x y hx.good hy.good he).mono ?_
  rintro e w' ⟨v, rfl, rfl, hbl⟩
  exact ⟨_, rfl, by rw [resV_eq, resT_ok hb, resK_ok hb], hbl, ⟨rfl, hb⟩, hd⟩

theorem quo_sm (w : World) (s t : ByteArray) (x y : Int) (k l : Nat) (hx : Sm s x k) (hy : Sm t y l) (h0 : y ≠ 0) (hk : k + l + 1 ≤ 1000) (he : Env w) :
    Calls Tryz.prog 37 #[.string s, .string t] w (Rets fun v w' => v = .tuple #[.string (txt (Int.fdiv x y)), .int .i64 0] ∧ Below w.heap.size w w' ∧ Sm (txt (Int.fdiv x y)) (Int.fdiv x y) (k + l + 1)) := by
  have hd : dn (Int.fdiv x y) ≤ k + l + 1 := by have := dn_fdiv x y h0; have := hx.le; have := hy.le; omega
  have hb : big (Int.fdiv x y) = false := big_dn (by omega)
  refine (Quo_ok w s t x y hx.good hy.good h0 he).mono ?_
  rintro e w' ⟨v, rfl, rfl, hbl⟩
  exact ⟨_, rfl, by rw [resV_eq, resT_ok hb, resK_ok hb], hbl, ⟨rfl, hb⟩, hd⟩

theorem rem_sm (w : World) (s t : ByteArray) (x y : Int) (k l : Nat) (hx : Sm s x k) (hy : Sm t y l) (h0 : y ≠ 0) (hk : l ≤ 1000) (he : Env w) :
    Calls Tryz.prog 34 #[.string s, .string t] w (Rets fun v w' => v = .tuple #[.string (txt (Int.fmod x y)), .int .i64 0] ∧ Below w.heap.size w w' ∧ Sm (txt (Int.fmod x y)) (Int.fmod x y) (l)) := by
  have hd : dn (Int.fmod x y) ≤ l := by have := dn_fmod x y h0; have := hy.le; omega
  have hb : big (Int.fmod x y) = false := big_dn (by omega)
  refine (Rem_ok w s t x y hx.good hy.good h0 he).mono ?_
  rintro e w' ⟨v, rfl, rfl, hbl⟩
  exact ⟨_, rfl, by rw [resV_eq, resT_ok hb, resK_ok hb], hbl, ⟨rfl, hb⟩, hd⟩

theorem gcd_dn (x y : Int) {k l : Nat} (hx : dn x ≤ k) (hy : dn y ≤ l) : dn ((Nat.gcd x.natAbs y.natAbs : Nat) : Int) ≤ k + l := by
  rcases Nat.eq_zero_or_pos x.natAbs with h | h
  · rw [h, Nat.gcd_zero_left]
    have : dn ((y.natAbs : Nat) : Int) = dn y := by unfold dn; rw [Int.natAbs_natCast]
    omega
  · have h2 : Nat.gcd x.natAbs y.natAbs ≤ x.natAbs := Nat.le_of_dvd h (Nat.gcd_dvd_left _ _)
    have := dn_le (x := ((Nat.gcd x.natAbs y.natAbs : Nat) : Int)) (y := x) (by rw [Int.natAbs_natCast]; exact h2)
    omega
theorem gcd_sm (w : World) (s t : ByteArray) (x y : Int) (k l : Nat) (hx : Sm s x k) (hy : Sm t y l) (hk : k + l ≤ 1000) (he : Env w) :
    Calls Tryz.prog 66 #[.string s, .string t] w (Rets fun v w' => v = .tuple #[.string (txt (((Nat.gcd x.natAbs y.natAbs : Nat) : Int))), .int .i64 0] ∧ Below w.heap.size w w' ∧ Sm (txt (((Nat.gcd x.natAbs y.natAbs : Nat) : Int))) (((Nat.gcd x.natAbs y.natAbs : Nat) : Int)) (k + l)) := by
  have hd : dn (((Nat.gcd x.natAbs y.natAbs : Nat) : Int)) ≤ k + l := gcd_dn x y hx.le hy.le
  have hb : big (((Nat.gcd x.natAbs y.natAbs : Nat) : Int)) = false := big_dn (by omega)
  refine (Gcd_ok w s t x y hx.good hy.good he).mono ?_
  rintro e w' ⟨v, rfl, rfl, hbl⟩
  exact ⟨_, rfl, by rw [resV_eq, resT_ok hb, resK_ok hb], hbl, ⟨rfl, hb⟩, hd⟩

theorem cmp_sm (w : World) (s t : ByteArray) (x y : Int) (k l : Nat) (hx : Sm s x k) (hy : Sm t y l) :
    Calls Tryz.prog 53 #[.string s, .string t] w (Rets fun v w' => v = .tuple #[.int .i64 (x - y).sign, .int .i64 0] ∧ Below w.heap.size w w') := Compare_ok w s t x y hx.good hy.good
theorem Sm.txt {s : ByteArray} {z : Int} {k : Nat} (h : Sm s z k) : s = txt z := h.good.eq
theorem sl3 (w : World) (s t u : ByteArray) (e : TypeId) : Sl eS (w.alloc (.cells #[.string s, .string t, .string u] e)) (.slice (some ⟨w.heap.size, 0, none⟩) 3 3) [s, t, u] :=
  Sl.ofOwns (n := 3) (base := 0) (e := e) ⟨rfl, .inr ⟨w.heap.size, 3, #[.string s, .string t, .string u], rfl, by omega, heap_alloc_new w _, by omega, by simp [maxLen], rfl, rfl⟩⟩
end Go.Proofs.YtdpdkojeapaflaaGreatDoor

namespace Go.Proofs.YtdpdkojeapaflaaGreatDoor
open Go.RowKit
set_option maxRecDepth 100000

theorem fdiv_cases (x y : Int) (h : y ≠ 0) : (decide (x < 0) = decide (y < 0) → Int.fdiv x y = ((x.natAbs / y.natAbs : Nat) : Int)) ∧
    (decide (x < 0) ≠ decide (y < 0) → (x.natAbs % y.natAbs = 0 → Int.fdiv x y = -((x.natAbs / y.natAbs : Nat) : Int)) ∧ (0 < x.natAbs % y.natAbs → Int.fdiv x y = -((x.natAbs / y.natAbs : Nat) : Int) - 1)) := by
  have hd := Nat.div_add_mod x.natAbs y.natAbs
  have hm := Nat.mod_lt x.natAbs (y := y.natAbs) (by omega)
  have hd' : (y.natAbs : Int) * ((x.natAbs / y.natAbs : Nat) : Int) + ((x.natAbs % y.natAbs : Nat) : Int) = (x.natAbs : Int) := by exact_mod_cast hd
  generalize x.natAbs / y.natAbs = q at *
  generalize x.natAbs % y.natAbs = r at *
  have uniq : ∀ r p : Int, r + y * p = x → (0 < y → 0 ≤ r ∧ r < y) → (y < 0 → y < r ∧ r ≤ 0) → Int.fdiv x y = p := by
    intro r p e hp hn
    rcases Int.lt_or_gt_of_ne h with h0 | h0
    · exact ((Int.fdiv_fmod_unique' (a := x) (b := y) (r := r) (q := p) h0).2 ⟨e, (hn h0).1, (hn h0).2⟩).1
    · exact ((Int.fdiv_fmod_unique (a := x) (b := y) (r := r) (q := p) h0).2 ⟨e, (hp h0).1, (hp h0).2⟩).1
  have hyq : y < 0 → (y.natAbs : Int) * (q : Int) = -(y * q) := fun h0 => by rw [show (y.natAbs : Int) = -y by omega, Int.neg_mul]
  have hyq' : 0 < y → (y.natAbs : Int) * (q : Int) = y * q := fun h0 => by rw [show (y.natAbs : Int) = y by omega]
  have e1 : y * (-(q : Int)) = -(y * q) := Int.mul_neg _ _
  have e2 : y * (-(q : Int) - 1) = -(y * q) - y := by rw [Int.mul_sub, e1, Int.mul_one]
  refine ⟨fun hs => ?_, fun hs => ⟨fun h0 => ?_, fun h0 => ?_⟩⟩
  · have hs2 : (x < 0 ↔ y < 0) := by simpa using hs
    by_cases hx : x < 0
    · have hy := hs2.1 hx
      have := hyq hy
      exact uniq (-(r : Int)) q (by omega) (by omega) (by omega)
    · have hy : 0 < y := by have : ¬ y < 0 := fun h => hx (hs2.2 h); omega
      have := hyq' hy
      exact uniq r q (by omega) (by omega) (by omega)
  · have hs2 : ¬ (x < 0 ↔ y < 0) := by simpa using hs
    rcases Int.lt_or_gt_of_ne h with hy | hy
    · have := hyq hy
      have hx : ¬ x < 0 := fun hx => hs2 ⟨fun _ => hy, fun _ => hx⟩
      exact uniq 0 (-(q : Int)) (by omega) (by omega) (by omega)
    · have := hyq' hy
      have hx : x < 0 := by
        rcases Int.lt_or_le x 0 with hx | hx
        · exact hx
        · exact absurd ⟨fun h => by omega, fun h => by omega⟩ hs2
      exact uniq 0 (-(q : Int)) (by omega) (by omega) (by omega)
  · have hs2 : ¬ (x < 0 ↔ y < 0) := by simpa using hs
    rcases Int.lt_or_gt_of_ne h with hy | hy
    · have := hyq hy
      have hx : ¬ x < 0 := fun hx => hs2 ⟨fun _ => hy, fun _ => hx⟩
      exact uniq (r + y) (-(q : Int) - 1) (by omega) (by omega) (by omega)
    · have := hyq' hy
      have hx : x < 0 := by
        rcases Int.lt_or_le x 0 with hx | hx
        · exact hx
        · exact absurd ⟨fun h => by omega, fun h => by omega⟩ hs2
      exact uniq (-(r : Int) + y) (-(q : Int) - 1) (by omega) (by omega) (by omega)
theorem sg_true (n : Nat) : sg true n = -(n : Int) := rfl
theorem sg_false (n : Nat) : sg false n = (n : Int) := rfl
theorem less_one (w : World) (x : Int) (hx : dn x ≤ 100000) :
    Calls Tryz.prog 60 #[.string (txt x), .string ⟨#[49]⟩] w (Rets fun v w' => v = .string (txt (x - 1)) ∧ Below w.heap.size w w') := by
  rw [g1.eq]; exact Less_any w x 1 hx (by have := g1.dn; omega)
theorem dn_nat_le {m n : Nat} (h : m ≤ n) : dn (m : Int) ≤ dn (n : Int) := dn_le (by omega)
theorem dn_abs (x : Int) : dn (x.natAbs : Int) = dn x := by unfold dn; rw [Int.natAbs_natCast]

theorem digs10_zero (r : Nat) : (digs 10 r).length = 0 ↔ r = 0 := by rw [List.length_eq_zero_iff, digs_nil (by omega)]
set_option maxHeartbeats 2000000 in
theorem Down_any (w : World) (x y : Int) (hx : dn x ≤ 90000) (hy : dn y ≤ 90000) (h0 : y ≠ 0) :
    Calls Tryz.prog 138 #[.string (txt x), .string (txt y)] w (Rets fun v w' => v = .string (txt (Int.fdiv x y)) ∧ Below w.heap.size w w') := by
  have hl := itoa_len x
  have hl' := itoa_len y
  have hc := fdiv_cases x y h0
  have hq : (digs 10 (x.natAbs / y.natAbs)).length ≤ 90000 := Nat.le_trans (digs_len_mono 10 (by omega) (Nat.div_le_self _ _)) hx
  have hqd : dn (-((x.natAbs / y.natAbs : Nat) : Int)) ≤ 90000 := by unfold dn; rw [Int.natAbs_neg, Int.natAbs_natCast]; exact hq
  have HL1 := Lib.hid hl; have HL2 := Lib.hid hl'; have HX1 := Lib.hid hx; have HX2 := Lib.hid hy; have HQ := Lib.hid hq; have HQD := Lib.hid hqd
  have HY0 := Lib.hid (show 0 < y.natAbs by omega)
  obtain ⟨m, hm⟩ : ∃ m, decide (x < 0) = m := ⟨_, rfl⟩
  obtain ⟨m', hm'⟩ : ∃ m, decide (y < 0) = m := ⟨_, rfl⟩
  rw [hm, hm'] at hc
  have HM := Lib.hid hm; have HM' := Lib.hid hm'
  clear hl hl' hx hy hq hm hm' h0 hqd
  by_cases hr : x.natAbs % y.natAbs = 0
  · have HE : Hid (sg (!(m == m')) (x.natAbs / y.natAbs) = Int.fdiv x y) := Lib.hid (by
      by_cases hs : m = m'
      · rw [hc.1 hs, hs]; simp [sg_false]
      · have hb : (m == m') = false := by simpa using hs
        rw [(hc.2 hs).1 hr, hb]; rfl)
    have HR := Lib.hid hr
    clear hc hr
    go_enter Tryz.func138, Tryz.ntmps138
    go_wp2_with (first
      | (go_at_call_of 81 (Value.string (txt x)); (with_reducible refine (digits_any _ x (by have := HL1.out; have := HX1.out; omega)).mono ?_); rintro e w1 ⟨v1, rfl, hs1, hb1⟩; have HS1 := Lib.hid hs1; clear hs1)
      | (go_at_call_of 81 (Value.string (txt y)); (with_reducible refine (digits_any _ y (by have := HL2.out; have := HX2.out; omega)).mono ?_); rintro e w2 ⟨v2, rfl, hs2, hb2⟩; have HS2 := Lib.hid hs2; have b2 := hb1.trans (hb2.mono hb1.size); clear hs2)
      | (go_at_call 150; (with_reducible refine (rdivided_any _ _ _ x.natAbs y.natAbs (HS1.out.below hb2 (Nat.le_refl _)) HS2.out (by have := HX1.out; unfold dn at this; omega) (by have := HX2.out; unfold dn at this; omega) HY0.out).mono ?_); rintro e w4 ⟨v4, rfl, vq, ar, nr, cr, rfl, hsq, hsr, hb4⟩; have HSQ := Lib.hid hsq; have hnr : nr = 0 := (by rw [hsr.len.1, HR.out, digs_zero]; rfl); subst hnr; have b4 := b2.trans (hb4.mono b2.size); clear hsq hsr)
      | (go_at_call_of 61 (Value.string (txt x)); (with_reducible refine (Minus_any _ x).mono ?_); rintro e w3 ⟨v, rfl, rfl, rfl⟩; rw [HM.out])
      | (go_at_call_of 61 (Value.string (txt y)); (with_reducible refine (Minus_any _ y).mono ?_); rintro e w3 ⟨v, rfl, rfl, rfl⟩; rw [HM'.out])
      | (go_at_call 82; refine (rtext_any _ _ (x.natAbs / y.natAbs) (!(m == m')) HSQ.out (by have := HQ.out; omega)).mono ?_; rintro e w5 ⟨v, rfl, rfl, hb5⟩; rw [HE.out]; have b5 := b4.trans (hb5.mono b4.size)))
    go_ret
    exact ⟨_, rfl, rfl, b5⟩
  · by_cases hs : m = m'
    · have HE := Lib.hid (show sg false (x.natAbs / y.natAbs) = Int.fdiv x y by rw [sg_false, hc.1 hs])
      have HR := Lib.hid hr
      subst hs
      clear hc hr
      go_enter Tryz.func138, Tryz.ntmps138
      go_wp2_with (first
      | (go_at_call_of 81 (Value.string (txt x)); (with_reducible refine (digits_any _ x (by have := HL1.out; have := HX1.out; omega)).mono ?_); rintro e w1 ⟨v1, rfl, hs1, hb1⟩; have HS1 := Lib.hid hs1; clear hs1)
      | (go_at_call_of 81 (Value.string (txt y)); (with_reducible refine (digits_any _ y (by have := HL2.out; have := HX2.out; omega)).mono ?_); rintro e w2 ⟨v2, rfl, hs2, hb2⟩; have HS2 := Lib.hid hs2; have b2 := hb1.trans (hb2.mono hb1.size); clear hs2)
      | (go_at_call 150; (with_reducible refine (rdivided_any _ _ _ x.natAbs y.natAbs (HS1.out.below hb2 (Nat.le_refl _)) HS2.out (by have := HX1.out; unfold dn at this; omega) (by have := HX2.out; unfold dn at this; omega) HY0.out).mono ?_); rintro e w4 ⟨v4, rfl, vq, ar, nr, cr, rfl, hsq, hsr, hb4⟩; have HSQ := Lib.hid hsq; have hnr : 0 < nr := (by rw [hsr.len.1]; have := mt (digs10_zero (x.natAbs % y.natAbs)).1 HR.out; omega); have b4 := b2.trans (hb4.mono b2.size); clear hsq hsr)
      | (go_at_call_of 61 (Value.string (txt x)); (with_reducible refine (Minus_any _ x).mono ?_); rintro e w3 ⟨v, rfl, rfl, rfl⟩; rw [HM.out])
      | (go_at_call_of 61 (Value.string (txt y)); (with_reducible refine (Minus_any _ y).mono ?_); rintro e w3 ⟨v, rfl, rfl, rfl⟩; rw [HM'.out])
      | (go_at_call 82; refine (rtext_any _ _ (x.natAbs / y.natAbs) false HSQ.out (by have := HQ.out; omega)).mono ?_; rintro e w5 ⟨v, rfl, rfl, hb5⟩; rw [HE.out]; have b5 := b4.trans (hb5.mono b4.size)))
      go_ret
      exact ⟨_, rfl, rfl, b5⟩
    · obtain ⟨z, hz⟩ : ∃ z : Int, -((x.natAbs / y.natAbs : Nat) : Int) = z := ⟨_, rfl⟩
      have HE := Lib.hid (show sg true (x.natAbs / y.natAbs) = z from hz)
      have HE2 := Lib.hid (show z - 1 = Int.fdiv x y by rw [(hc.2 hs).2 (by omega), hz])
      have HQD : Hid (dn z ≤ 90000) := Lib.hid (by rw [← hz]; exact HQD.out)
      clear hz
      have hne : (m == m') = false := by simpa using hs
      have HR := Lib.hid hr
      clear hc hr hs
      go_enter Tryz.func138, Tryz.ntmps138
      go_wp2_with (first
      | (go_at_call_of 81 (Value.string (txt x)); (with_reducible refine (digits_any _ x (by have := HL1.out; have := HX1.out; omega)).mono ?_); rintro e w1 ⟨v1, rfl, hs1, hb1⟩; have HS1 := Lib.hid hs1; clear hs1)
      | (go_at_call_of 81 (Value.string (txt y)); (with_reducible refine (digits_any _ y (by have := HL2.out; have := HX2.out; omega)).mono ?_); rintro e w2 ⟨v2, rfl, hs2, hb2⟩; have HS2 := Lib.hid hs2; have b2 := hb1.trans (hb2.mono hb1.size); clear hs2)
      | (go_at_call 150; (with_reducible refine (rdivided_any _ _ _ x.natAbs y.natAbs (HS1.out.below hb2 (Nat.le_refl _)) HS2.out (by have := HX1.out; unfold dn at this; omega) (by have := HX2.out; unfold dn at this; omega) HY0.out).mono ?_); rintro e w4 ⟨v4, rfl, vq, ar, nr, cr, rfl, hsq, hsr, hb4⟩; have HSQ := Lib.hid hsq; have hnr : 0 < nr := (by rw [hsr.len.1]; have := mt (digs10_zero (x.natAbs % y.natAbs)).1 HR.out; omega); have b4 := b2.trans (hb4.mono b2.size); clear hsq hsr)
      | (go_at_call_of 61 (Value.string (txt x)); (with_reducible refine (Minus_any _ x).mono ?_); rintro e w3 ⟨v, rfl, rfl, rfl⟩; rw [HM.out])
      | (go_at_call_of 61 (Value.string (txt y)); (with_reducible refine (Minus_any _ y).mono ?_); rintro e w3 ⟨v, rfl, rfl, rfl⟩; rw [HM'.out])
      | (go_at_call 82; refine (rtext_any _ _ (x.natAbs / y.natAbs) true HSQ.out (by have := HQ.out; omega)).mono ?_; rintro e w5 ⟨v, rfl, rfl, hb5⟩; rw [HE.out]; have b5 := b4.trans (hb5.mono b4.size))
      | (go_at_call 60; (with_reducible refine (less_one _ z (by have := HQD.out; omega)).mono ?_); rintro e w6 ⟨v, rfl, rfl, hb6⟩; rw [HE2.out]; have b6 := b5.trans (hb6.mono b5.size)))
      go_ret
      exact ⟨_, rfl, rfl, b6⟩

theorem dn_fmod2 (x y : Int) (h : y ≠ 0) : dn (Int.fmod x y) ≤ dn y := dn_fmod x y h
set_option maxHeartbeats 1000000 in
theorem Rest_any (w : World) (x y : Int) (hx : dn x ≤ 30000) (hy : dn y ≤ 30000) (h0 : y ≠ 0) :
    Calls Tryz.prog 113 #[.string (txt x), .string (txt y)] w (Rets fun v w' => v = .string (txt (Int.fmod x y)) ∧ Below w.heap.size w w') := by
  have hd := dn_fdiv x y h0
  have hm := dn_mul y (Int.fdiv x y)
  have HE := Lib.hid (show x - y * Int.fdiv x y = Int.fmod x y by have := Int.fmod_add_mul_fdiv x y; omega)
  have HX := Lib.hid hx; have HY := Lib.hid hy; have HD := Lib.hid hd; have HM := Lib.hid hm; have H0 := Lib.hid h0
  clear hx hy hd hm h0
  go_enter Tryz.func113, Tryz.ntmps113
  go_wp2_with (first
    | (go_at_call 138; (with_reducible refine (Down_any _ x y (by have := HX.out; omega) (by have := HY.out; omega) H0.out).mono ?_); rintro e w1 ⟨v, rfl, rfl, hb1⟩)
    | (go_at_call 101; (with_reducible refine (Times_any _ y (Int.fdiv x y) (by have := HY.out; omega) (by have := HX.out; have := HY.out; have := HD.out; omega)).mono ?_); rintro e w2 ⟨v, rfl, rfl, hb2⟩; have b2 := hb1.trans (hb2.mono hb1.size))
    | (go_at_call 60; (with_reducible refine (Less_any _ x (y * Int.fdiv x y) (by have := HX.out; omega) (by have := HX.out; have := HY.out; have := HD.out; have := HM.out; omega)).mono ?_); rintro e w3 ⟨v, rfl, rfl, hb3⟩; rw [HE.out]; have b3 := b2.trans (hb3.mono b2.size)))
  go_ret
  exact ⟨_, rfl, rfl, b3⟩

open Classical in
/-- The integer whose text a value is. -/
noncomputable def rdZ (v : Value) : Int := if h : ∃ z, v = .string (txt z) then Classical.choose h else 0
theorem rdZ_eq (z : Int) : rdZ (.string (txt z)) = z := by
  have hex : ∃ y, Value.string (txt z) = .string (txt y) := ⟨z, rfl⟩
  unfold rdZ
  rw [dif_pos hex]
  have h := Classical.choose_spec hex
  injection h with h
  exact (txt_inj h).symm
theorem txt_z0 : ((txt 0).toList == [48]) = true := by rw [txt_list, itoa0]; rfl

set_option maxHeartbeats 1000000 in
theorem Common_any (w : World) (x y : Int) (hx : dn x ≤ 30000) (hy : dn y ≤ 30000) :
    Calls Tryz.prog 102 #[.string (txt x), .string (txt y)] w (Rets fun v w' => v = .string (txt ((Nat.gcd x.natAbs y.natAbs : Nat) : Int)) ∧ Below w.heap.size w w') := by
  have HX := Lib.hid hx; have HY := Lib.hid hy
  have HZ0 := Lib.hid txt_z0
  clear hx hy
  go_enter Tryz.func102, Tryz.ntmps102
  go_wp2_with (first
    | (go_at_call_of 132 (Value.string (txt x)); (with_reducible refine (Positive_any _ x (by have := HX.out; omega)).mono ?_); rintro e w1 ⟨v, rfl, rfl, hb1⟩)
    | (go_at_call_of 132 (Value.string (txt y)); (with_reducible refine (Positive_any _ y (by have := HY.out; omega)).mono ?_); rintro e w2 ⟨v, rfl, rfl, hb2⟩; have b2 := hb1.trans (hb2.mono hb1.size)))
  go_loopw [0, 1] (fun a b wr => ∃ m k : Nat, Hid (a = .string (txt m)) ∧ Hid (b = .string (txt k)) ∧ Hid (Nat.gcd m k = Nat.gcd x.natAbs y.natAbs) ∧ Hid (dn (m : Int) ≤ 30000) ∧ Hid (dn (k : Int) ≤ 30000) ∧ Below w.heap.size w wr) (fun _ b _ => (rdZ b).natAbs)
  case atStart => exact ⟨x.natAbs, y.natAbs, Lib.hid rfl, Lib.hid rfl, Lib.hid rfl, Lib.hid (by rw [dn_abs]; exact HX.out), Lib.hid (by rw [dn_abs]; exact HY.out), b2⟩
  case round =>
    obtain ⟨m, k, ha, hk, hg, h1, h2, hb⟩ := hrel
    obtain rfl := ha.out
    obtain rfl := hk.out
    clear ha hk
    by_cases h0 : k = 0
    · obtain ⟨kz, hkz⟩ : ∃ z : Int, (k : Int) = z ∧ z = 0 := ⟨_, rfl, by omega⟩
      have hz0 : ((txt (k : Int)).toList == [48]) = true := by rw [h0]; exact txt_z0
      have HG := Lib.hid (show m = Nat.gcd x.natAbs y.natAbs by rw [← hg.out, h0, Nat.gcd_zero_right])
      clear hkz h0
      go_wp2
      go_ret
      exact ⟨_, rfl, by rw [← HG.out]; rfl, hb⟩
    · have hne : ((txt (k : Int)).toList == [48]) = false := txt_ne0 (by omega)
      have HE := Lib.hid (show Int.fmod (m : Int) (k : Int) = ((m % k : Nat) : Int) by rw [Int.fmod_eq_emod_of_nonneg _ (by omega)]; rfl)
      have H0 := Lib.hid h0
      clear h0
      go_wp2_with (go_at_call 113; (with_reducible refine (Rest_any _ (m : Int) (k : Int) h1.out h2.out (by have := H0.out; omega)).mono ?_); rintro e w3 ⟨v, rfl, rfl, hb3⟩; rw [HE.out])
      go_roundw
      case rel => exact ⟨k, m % k, Lib.hid rfl, Lib.hid rfl, Lib.hid (by rw [← hg.out, Nat.gcd_comm m k, Nat.gcd_rec k m, Nat.gcd_comm]), h2, Lib.hid (Nat.le_trans (dn_nat_le (Nat.le_of_lt (Nat.mod_lt m (by have := H0.out; omega)))) h2.out), hb.trans (hb3.mono hb.size)⟩
      case measure => rw [rdZ_eq, rdZ_eq]; have := Nat.mod_lt m (y := k) (by have := H0.out; omega); omega

end Go.Proofs.YtdpdkojeapaflaaGreatDoor

namespace Go.Proofs.YtdpdkojeapaflaaGreatDoor
open Go.RowKit
set_option maxRecDepth 100000

theorem ord_two (w : World) (x : Int) (hx : dn x ≤ 90000) : Calls Tryz.prog 14 #[.string (txt x), .string ⟨#[50]⟩] w (Rets fun v w' => v = .int .i64 (x - 2).sign ∧ Below w.heap.size w w') := by
  rw [g2'.eq]; exact Order_any w x 2 hx (by have := g2'.dn; omega)
set_option maxHeartbeats 400000 in
theorem rdivides_any (w : World) (x y : Int) (hx : dn x ≤ 20000) (hy : dn y ≤ 20000) (h0 : x ≠ 0) :
    Calls Tryz.prog 59 #[.string (txt x), .string (txt y)] w (Rets fun v w' => v = .bool (decide (Int.fmod y x = 0)) ∧ Below w.heap.size w w') := by
  have HX := Lib.hid hx; have HY := Lib.hid hy; have H0 := Lib.hid h0
  have hne := txt_ne0 h0
  clear hx hy h0
  by_cases hm : Int.fmod y x = 0
  · have hz : ((txt (Int.fmod y x)).toList == [48]) = true := by rw [hm]; exact txt_z0
    have HD := Lib.hid (show decide (Int.fmod y x = 0) = true by simp [hm])
    clear hm
    go_enter Tryz.func59, Tryz.ntmps59
    go_wp2_with (go_at_call 113; (with_reducible refine (Rest_any _ y x (by have := HY.out; omega) (by have := HX.out; omega) H0.out).mono ?_); rintro e w1 ⟨v, rfl, rfl, hb1⟩)
    go_ret
    exact ⟨_, rfl, by rw [HD.out]; rfl, hb1⟩
  · have hz := txt_ne0 hm
    have HD := Lib.hid (show decide (Int.fmod y x = 0) = false by simp [hm])
    clear hm
    go_enter Tryz.func59, Tryz.ntmps59
    go_wp2_with (go_at_call 113; (with_reducible refine (Rest_any _ y x (by have := HY.out; omega) (by have := HX.out; omega) H0.out).mono ?_); rintro e w1 ⟨v, rfl, rfl, hb1⟩)
    go_ret
    exact ⟨_, rfl, by rw [HD.out]; rfl, hb1⟩

theorem wrap_small (k : Nat) (h : k ≤ 1000000) : IntKind.i64.wrap (k : Int) = (k : Int) := by
  simp [IntKind.wrap, IntKind.signed, IntKind.bits]; omega
theorem held_two {w w2 : World} {c d : Addr} {u v : Value} (h4 : ∀ w', Below w.heap.size w w' → w'.cell? c = some u) (h5 : ∀ w', Below w.heap.size w w' → w'.cell? d = some v) (b2 : Below w.heap.size w w2) :
    ∀ w', Below w2.heap.size w2 w' → Below w2.heap.size w2 w' ∧ w'.cell? c = some u ∧ w'.cell? d = some v :=
  fun _ hb => ⟨hb, h4 _ (b2.trans (hb.mono b2.size)), h5 _ (b2.trans (hb.mono b2.size))⟩
set_option maxHeartbeats 2000000 in
theorem rACheck_any (w : World) (v : Value) (xs : List ByteArray) (hv : Sl eS w v xs) (hsz : xs.length ≤ 16 → ∀ s ∈ xs, s.size ≤ 1000000) :
    Calls Tryz.prog 13 #[v] w (Rets fun v w' => v = .int .i64 (gchk xs) ∧ Below w.heap.size w w') := by
  obtain ⟨a, b, o, c, rfl, hi, hp, hc, hm⟩ := hv.open elemStr
  clear hv
  unfold maxLen at hm
  by_cases h16 : 16 < xs.length
  · have HG := Lib.hid (show gchk xs = 5 by unfold gchk; rw [if_pos h16])
    clear hsz
    go_enter Tryz.func13, Tryz.ntmps13
    go_wp2
    go_ret
    exact ⟨_, rfl, by rw [HG.out]; rfl, Below.refl _ _⟩
  · have hs := hsz (by omega)
    have HS := Lib.hid hs
    have hl : xs.length ≤ 16 := by omega
    clear hsz hs
    go_enter Tryz.func13, Tryz.ntmps13
    go_wp2
    go_loopw [3] (fun i wr => ∃ k : Nat, k ≤ xs.length ∧ i = .int .i64 k ∧ Hid (At xs k) ∧ Below w.heap.size w wr) (fun i _ => xs.length - (intOf i).toNat)
    case atStart => exact ⟨0, Nat.zero_le _, rfl, Lib.hid (At.start hl), Below.refl _ _⟩
    case round =>
      obtain ⟨k, hk, rfl, hA, hb⟩ := hrel
      by_cases hkn : k < xs.length
      · have h1 : wr.cell? ⟨b, o + k, none⟩ = some (.string xs[k]) := hp.at hb (Nat.le_refl _) k hkn
        have hV := hA.out.val hkn
        have hsk := HS.out _ (List.getElem_mem hkn)
        by_cases h0 : chk xs[k].data.toList = 0
        · rw [if_pos h0] at hV
          have hG := good_num h0
          obtain ⟨y, hy⟩ : ∃ y, num xs[k] = y := ⟨_, rfl⟩
          rw [hy] at hG hV
          rw [hG.eq] at h1
          have HC := Lib.hid (show chk (txt y).data.toList = 0 by rw [← hG.eq]; exact h0)
          have HSZ := Lib.hid (show (txt y).size ≤ 1000000 by rw [← hG.eq]; exact hsk)
          have HDN := Lib.hid hG.dn
          by_cases h2 : y < 2
          · rw [if_pos h2] at hV
            have HV := Lib.hid hV
            have HS2 := Lib.hid (show (y - 2).sign = -1 from Int.sign_eq_neg_one_of_neg (by omega))
            clear hV hG h0 h2 hsk hy
            go_wp2_with (first
              | (go_at_call 30; (with_reducible refine (rCheck_any _ _ HSZ.out).mono ?_); rintro e w1 ⟨v, rfl, rfl, rfl⟩; rw [HC.out])
              | (go_at_call 14; (with_reducible refine (ord_two _ _ (by have := HDN.out; omega)).mono ?_); rintro e w2 ⟨v, rfl, rfl, hb2⟩; rw [HS2.out]; have b2 := hb.trans (hb2.mono hb.size)))
            go_ret
            exact ⟨_, rfl, by rw [HV.out]; rfl, b2⟩
          · rw [if_neg h2] at hV
            obtain ⟨u, hu, hu0⟩ : ∃ u, (y - 2).sign = u ∧ 0 ≤ u := ⟨_, rfl, by
              rcases Int.lt_or_eq_of_le (show 2 ≤ y by omega) with h | h
              · rw [Int.sign_eq_one_of_pos (by omega)]; omega
              · rw [← h]; decide⟩
            have HU := Lib.hid hu
            rcases k with _ | k
            · rw [Nat.add_zero] at h1
              have HN := Lib.hid (hA.out.next hkn h0 (by rw [hy]; exact h2) rfl)
              clear hV hG h0 h2 hu hsk hy
              go_wp2_with (first
                | (go_at_call 30; (with_reducible refine (rCheck_any _ _ HSZ.out).mono ?_); rintro e w1 ⟨v, rfl, rfl, rfl⟩; rw [HC.out])
                | (go_at_call 14; (with_reducible refine (ord_two _ _ (by have := HDN.out; omega)).mono ?_); rintro e w2 ⟨v, rfl, rfl, hb2⟩; rw [HU.out]; have b2 := hb.trans (hb2.mono hb.size)))
              go_quiet (fail)
              have b3 := below_drewN b2 nq
              go_wp2
              go_roundw
              case rel => exact ⟨1, by omega, rfl, HN, b3⟩
              case measure => simp [intOf]; omega
            · have hkp : k < xs.length := by omega
              obtain ⟨z, hz, hz2⟩ := hA.out.prev (by omega)
              have hz : Good xs[k] z := by simpa using hz
              have h4 : ∀ w', Below w.heap.size w w' → w'.cell? ⟨b, o + k, none⟩ = some (.string (txt z)) := fun w' hb' => by rw [← hz.eq]; exact hp.at hb' (Nat.le_refl _) k hkp
              have h5 : ∀ w', Below w.heap.size w w' → w'.cell? ⟨b, o + (k + 1), none⟩ = some (.string (txt y)) := fun w' hb' => by rw [← hG.eq]; exact hp.at hb' (Nat.le_refl _) (k + 1) hkn
              have H4 := Lib.hid h4; have H5 := Lib.hid h5
              have q1 : (0 : Int) ≤ (k : Int) := by omega
              have q2 : (k : Int) < (xs.length : Int) := by omega
              have q3 : (0 : Int) ≤ (k : Int) + 1 := by omega
              have q4 : (k : Int) + 1 < (xs.length : Int) := by omega
              have q5 : IntKind.i64.wrap (k : Int) = (k : Int) := wrap_small k (by omega)
              have q6 : IntKind.i64.wrap ((k : Int) + 1 - 1) = (k : Int) := by rw [Int.add_sub_cancel]; exact q5
              have hbf : fits (before xs (k + 1)) xs[k + 1] = decide (Int.fmod y z = 0) := by rw [before_succ xs k hkp]; simp only [fits]; rw [hz.num, hy]
              have HZ := Lib.hid hz.dn; have HZ0 := Lib.hid (show z ≠ 0 by omega)
              by_cases hf : Int.fmod y z = 0
              · have HD := Lib.hid (show decide (Int.fmod y z = 0) = true by simp [hf])
                have HN := Lib.hid (hA.out.next hkn h0 (by rw [hy]; exact h2) (by rw [hbf, HD.out]))
                clear hV hG h0 h2 hu hz hbf hf hsk hy h4 h5
                go_wp2_with (first
                  | (go_at_call 30; (with_reducible refine (rCheck_any _ _ HSZ.out).mono ?_); rintro e w1 ⟨v, rfl, rfl, rfl⟩; rw [HC.out])
                  | (go_at_call 14; (with_reducible refine (ord_two _ _ (by have := HDN.out; omega)).mono ?_); rintro e w2 ⟨v, rfl, rfl, hb2⟩; rw [HU.out]; have b2 := hb.trans (hb2.mono hb.size); have h6 := H4.out _ b2; have h7 := H5.out _ b2))
                have HB2 := Lib.hid b2
                have HH := Lib.hid (held_two H4.out H5.out b2)
                clear b2 h6 h7
                go_region_held3 (fun w' => Below w2.heap.size w2 w' ∧ w'.cell? ⟨b, o + k, none⟩ = some (.string (txt z)) ∧ w'.cell? ⟨b, o + (k + 1), none⟩ = some (.string (txt y)))
                  (((refine HH.out _ ?_); first
                    | with_reducible exact (Below.refl _ _).drew
                    | with_reducible exact Below.trans (And.left (by assumption)) (Below.mono (by assumption) (Below.size (And.left (by assumption))))))
                  ((go_at_call 59; (with_reducible refine (rdivides_any _ z y (by have := HZ.out; omega) (by have := HDN.out; omega) HZ0.out).mono ?_); rintro e w3 ⟨v, rfl, rfl, hb3⟩; rw [HD.out]))
                all_goals
                  have hf : Below w2.heap.size w2 w3 := And.left (by assumption)
                  have b3 := HB2.out.trans (hf.mono HB2.out.size)
                  clear hf
                  go_wp2
                  go_roundw
                  case rel => exact ⟨k + 2, by omega, by go_num, HN, b3⟩
                  case measure => simp [intOf]; omega
              · have HD := Lib.hid (show decide (Int.fmod y z = 0) = false by simp [hf])
                rw [hbf, HD.out] at hV
                have HV := Lib.hid hV
                clear hV hG h0 h2 hu hz hbf hf hsk hy h4 h5
                go_wp2_with (first
                  | (go_at_call 30; (with_reducible refine (rCheck_any _ _ HSZ.out).mono ?_); rintro e w1 ⟨v, rfl, rfl, rfl⟩; rw [HC.out])
                  | (go_at_call 14; (with_reducible refine (ord_two _ _ (by have := HDN.out; omega)).mono ?_); rintro e w2 ⟨v, rfl, rfl, hb2⟩; rw [HU.out]; have b2 := hb.trans (hb2.mono hb.size); have h6 := H4.out _ b2; have h7 := H5.out _ b2))
                have HB2 := Lib.hid b2
                have HH := Lib.hid (held_two H4.out H5.out b2)
                clear b2 h6 h7
                go_region_held3 (fun w' => Below w2.heap.size w2 w' ∧ w'.cell? ⟨b, o + k, none⟩ = some (.string (txt z)) ∧ w'.cell? ⟨b, o + (k + 1), none⟩ = some (.string (txt y)))
                  (((refine HH.out _ ?_); first
                    | with_reducible exact (Below.refl _ _).drew
                    | with_reducible exact Below.trans (And.left (by assumption)) (Below.mono (by assumption) (Below.size (And.left (by assumption))))))
                  ((go_at_call 59; (with_reducible refine (rdivides_any _ z y (by have := HZ.out; omega) (by have := HDN.out; omega) HZ0.out).mono ?_); rintro e w3 ⟨v, rfl, rfl, hb3⟩; rw [HD.out]))
                all_goals
                  have hf : Below w2.heap.size w2 w3 := And.left (by assumption)
                  have b3 := HB2.out.trans (hf.mono HB2.out.size)
                  clear hf
                  go_wp2
                  go_ret
                  exact ⟨_, rfl, by rw [HV.out]; rfl, b3⟩
        · rw [if_neg h0] at hV
          have hne : (chk xs[k].data.toList != 0) = true := by simp [h0]
          have HV := Lib.hid hV
          clear hV h0
          go_wp2_with (go_at_call 30; (with_reducible refine (rCheck_any _ _ hsk).mono ?_); rintro e w1 ⟨v, rfl, rfl, rfl⟩)
          go_ret
          exact ⟨_, rfl, by rw [HV.out]; rfl, hb⟩
      · obtain rfl : k = xs.length := by omega
        have HV := Lib.hid hA.out.done
        go_wp2
        go_ret
        exact ⟨_, rfl, by rw [HV.out]; rfl, hb⟩
end Go.Proofs.YtdpdkojeapaflaaGreatDoor

namespace Go.Proofs.YtdpdkojeapaflaaGreatDoor

theorem ord_dvd (n a k : Nat) (hn : 0 < n) : n ∣ k * a ↔ n / Nat.gcd n a ∣ k := by
  have hg : 0 < Nat.gcd n a := Nat.gcd_pos_of_pos_left _ hn
  obtain ⟨n', hn'⟩ := Nat.gcd_dvd_left n a
  obtain ⟨a', ha'⟩ := Nat.gcd_dvd_right n a
  have hco : Nat.gcd n' a' = 1 := by
    have h := Nat.gcd_mul_left (Nat.gcd n a) n' a'
    rw [← hn', ← ha'] at h
    have : Nat.gcd n a * 1 = Nat.gcd n a * Nat.gcd n' a' := by rw [Nat.mul_one]; exact h
    exact (Nat.eq_of_mul_eq_mul_left hg this).symm
  have hd : n / Nat.gcd n a = n' := by
    apply Nat.div_eq_of_eq_mul_right hg
    exact hn'
  rw [hd]
  generalize Nat.gcd n a = g at *
  subst hn' ha'
  rw [show k * (g * a') = g * (k * a') by rw [← Nat.mul_assoc, Nat.mul_comm k g, Nat.mul_assoc], Nat.mul_dvd_mul_iff_left hg]
  exact ⟨fun h => Nat.Coprime.dvd_of_dvd_mul_right hco h, fun h => Nat.dvd_trans h (Nat.dvd_mul_right _ _)⟩
/-- The least common multiple of some numbers. -/
def lcms (qs : List Nat) : Nat := qs.foldl Nat.lcm 1
theorem lcms_snoc (qs : List Nat) (q : Nat) : lcms (qs ++ [q]) = Nat.lcm (lcms qs) q := by simp [lcms]
theorem lcms_take (qs : List Nat) (k : Nat) (h : k < qs.length) : lcms (qs.take (k + 1)) = Nat.lcm (lcms (qs.take k)) qs[k] := by
  rw [List.take_succ_eq_append_getElem h, lcms_snoc]
theorem fold_lcm_dvd (qs : List Nat) : ∀ (a k : Nat), qs.foldl Nat.lcm a ∣ k ↔ a ∣ k ∧ ∀ q ∈ qs, q ∣ k := by
  induction qs with
  | nil => intro a k; simp
  | cons q l ih =>
    intro a k
    rw [List.foldl_cons, ih, Nat.lcm_dvd_iff]
    simp [and_assoc]
theorem lcms_dvd (qs : List Nat) (k : Nat) : lcms qs ∣ k ↔ ∀ q ∈ qs, q ∣ k := by
  rw [lcms, fold_lcm_dvd]; simp
theorem lcms_pos (qs : List Nat) (h : ∀ q ∈ qs, 0 < q) : 0 < lcms qs := by
  have : ∀ (l : List Nat) (a : Nat), 0 < a → (∀ q ∈ l, 0 < q) → 0 < l.foldl Nat.lcm a := by
    intro l
    induction l with
    | nil => intro a ha _; exact ha
    | cons q l ih => intro a ha hl; rw [List.foldl_cons]; exact ih _ (Nat.lcm_pos ha (hl q (by simp))) (fun x hx => hl x (by simp [hx]))
  exact this qs 1 (by omega) h
end Go.Proofs.YtdpdkojeapaflaaGreatDoor

namespace Go.Proofs.YtdpdkojeapaflaaGreatDoor
open Go.RowKit
set_option maxRecDepth 100000

/-- The product of some numbers. -/
def prods (zs : List Int) : Int := zs.foldl (· * ·) 1
theorem prods_snoc (zs : List Int) (z : Int) : prods (zs ++ [z]) = prods zs * z := by simp [prods]
theorem prods_take (zs : List Int) (k : Nat) (h : k < zs.length) : prods (zs.take (k + 1)) = prods (zs.take k) * zs[k] := by
  rw [List.take_succ_eq_append_getElem h, prods_snoc]
theorem prods_mono (zs : List Int) (hp : ∀ z ∈ zs, 1 ≤ z) : ∀ a : Int, 1 ≤ a → a ≤ zs.foldl (· * ·) a := by
  induction zs with
  | nil => intro a _; exact Int.le_refl _
  | cons z l ih =>
    intro a ha
    rw [List.foldl_cons]
    have hz := hp z (by simp)
    have h1 : a * 1 ≤ a * z := Int.mul_le_mul_of_nonneg_left hz (by omega)
    have := ih (fun x hx => hp x (by simp [hx])) (a * z) (by omega)
    omega
theorem prods_pos (zs : List Int) (hp : ∀ z ∈ zs, 1 ≤ z) : 1 ≤ prods zs := prods_mono zs hp 1 (by omega)
theorem prods_le (zs : List Int) (hp : ∀ z ∈ zs, 1 ≤ z) (k : Nat) : prods (zs.take k) ≤ prods zs := by
  have h : prods zs = (zs.drop k).foldl (· * ·) (prods (zs.take k)) := by
    unfold prods; rw [← List.foldl_append, List.take_append_drop]
  rw [h]
  exact prods_mono _ (fun z hz => hp z (List.mem_of_mem_drop hz)) _ (prods_pos _ (fun z hz => hp z (List.mem_of_mem_take hz)))
theorem big_le_of {x y : Int} (h0 : 0 ≤ x) (h : x ≤ y) (hb : big x = true) : big y = true := by
  cases hy : big y
  · have := (big_iff y).1 hy
    have hx : big x = false := (big_iff x).2 (by omega)
    rw [hx] at hb; cases hb
  · rfl
theorem one_text : (⟨#[49]⟩ : ByteArray) = txt 1 := g1.eq

set_option maxHeartbeats 1000000 in
theorem folded_mul (w : World) (v : Value) (xs : List ByteArray) (zs : List Int) (hv : Sl eS w v xs) (hz : Goods xs zs) (hp : ∀ z ∈ zs, 1 ≤ z) (he : Env w) :
    Calls Tryz.prog 63 #[v, .string ⟨#[49]⟩, .func (.func 38) #[] #[]] w (Rets fun v w' => v = resV (prods zs) ∧ Below w.heap.size w w') := by
  obtain ⟨a, b, o, c, rfl, hi, hq, hc, hm⟩ := hv.open elemStr
  have HZ := Lib.hid hz; have HP := Lib.hid hp; have HL := Lib.hid hz.len; have HE := Lib.hid he
  clear hv hz hp he
  unfold maxLen at hm
  go_enter Tryz.func63, Tryz.ntmps63
  go_wp2
  go_loopw [1, 14] (fun p i wr => ∃ k : Nat, k ≤ xs.length ∧ i = .int .i64 k ∧ Hid (p = .string (txt (prods (zs.take k)))) ∧ Hid (big (prods (zs.take k)) = false) ∧ Below w.heap.size w wr) (fun _ i _ => xs.length - (intOf i).toNat)
  case atStart => exact ⟨0, Nat.zero_le _, rfl, Lib.hid (by rw [one_text]; rfl), Lib.hid g1.2, Below.refl _ _⟩
  case round =>
    obtain ⟨k, hk, rfl, ho, hbg, hb⟩ := hrel
    obtain rfl := ho.out
    clear ho
    by_cases hkn : k < xs.length
    · have hkz : k < zs.length := by rw [HL.out]; exact hkn
      have h1 : wr.cell? ⟨b, o + k, none⟩ = some (.string xs[k]) := hq.at hb (Nat.le_refl _) k hkn
      have hg := HZ.out.get k hkn hkz
      have HG := Lib.hid hg
      have HGP := Lib.hid (show Good (txt (prods (zs.take k))) (prods (zs.take k)) from ⟨rfl, hbg.out⟩)
      have hpt := (prods_take zs k hkz).symm
      have hr := resV_eq (prods (zs.take (k + 1)))
      have HPT := Lib.hid hpt
      cases hbn : big (prods (zs.take (k + 1)))
      · rw [resT_ok hbn, resK_ok hbn] at hr
        have HR := Lib.hid hr; have HB := Lib.hid hbn
        clear hg hpt hr hbn
        go_wp2_with (go_at_call 38; (with_reducible refine (Mul_ok _ _ _ (prods (zs.take k)) zs[k] HGP.out HG.out (HE.out.below hb (Nat.le_refl _))).mono ?_); rintro e w1 ⟨v, rfl, rfl, hb1⟩; rw [HPT.out, HR.out])
        go_roundw
        case rel => exact ⟨k + 1, by omega, by go_num, Lib.hid rfl, HB, hb.trans (hb1.mono hb.size)⟩
        case measure => simp [intOf]; omega
      · have hbt : big (prods zs) = true := big_le_of (by have := prods_pos (zs.take (k + 1)) (fun z hz => HP.out z (List.mem_of_mem_take hz)); omega) (prods_le zs HP.out (k + 1)) hbn
        have HR : Hid (resV (prods (zs.take (k + 1))) = .tuple #[.string ⟨#[]⟩, .int .i64 11]) := Lib.hid (by unfold resV; rw [hbn]; rfl)
        have HR2 : Hid (resV (prods zs) = .tuple #[.string ⟨#[]⟩, .int .i64 11]) := Lib.hid (by unfold resV; rw [hbt]; rfl)
        clear hg hpt hr hbn hbt
        go_wp2_with (go_at_call 38; (with_reducible refine (Mul_ok _ _ _ (prods (zs.take k)) zs[k] HGP.out HG.out (HE.out.below hb (Nat.le_refl _))).mono ?_); rintro e w1 ⟨v, rfl, rfl, hb1⟩; rw [HPT.out, HR.out])
        go_ret2
        exact ⟨_, rfl, by rw [HR2.out]; rfl, hb.trans (hb1.mono hb.size)⟩
    · obtain rfl : k = xs.length := by omega
      have e1 : zs.take xs.length = zs := by rw [← HL.out, List.take_length]
      rw [e1] at hbg ⊢
      have HR : Hid (resV (prods zs) = .tuple #[.string (txt (prods zs)), .int .i64 0]) := Lib.hid (by rw [resV_eq, resT_ok hbg.out, resK_ok hbg.out])
      clear e1
      go_wp2
      go_ret2
      exact ⟨_, rfl, by rw [HR.out]; rfl, hb⟩

theorem lcm_div (m k : Nat) : m / Nat.gcd m k * k = Nat.lcm m k := by
  rw [Nat.lcm, Nat.div_mul_right_comm (Nat.gcd_dvd_left m k)]
set_option maxHeartbeats 1000000 in
theorem multiple_any (w : World) (m k K : Nat) (hm : Sm (txt m) m K) (hk : Sm (txt k) k K) (hK : 4 * K + 1 ≤ 1000) (h0 : 0 < m) (he : Env w) :
    Calls Tryz.prog 67 #[.string (txt m), .string (txt k)] w (Rets fun v w' => v = .tuple #[.string (txt (Nat.lcm m k)), .int .i64 0] ∧ Below w.heap.size w w') := by
  have HE := Lib.hid he
  obtain ⟨G, hG⟩ : ∃ G : Int, ((Nat.gcd (m : Int).natAbs (k : Int).natAbs : Nat) : Int) = G := ⟨_, rfl⟩
  have hG2 : ((Nat.gcd m k : Nat) : Int) = G := by rw [← hG]; simp
  obtain ⟨Q, hQ⟩ : ∃ Q : Int, Int.fdiv (m : Int) G = Q := ⟨_, rfl⟩
  have hQ2 : ((m / Nat.gcd m k : Nat) : Int) = Q := by rw [← hQ, ← hG2, Int.fdiv_eq_ediv_of_nonneg _ (by omega)]; rfl
  obtain ⟨L, hL⟩ : ∃ L : Int, ((Nat.lcm m k : Nat) : Int) = L := ⟨_, rfl⟩
  have e3 : Q * (k : Int) = L := by rw [← hL, ← hQ2, ← Int.natCast_mul, lcm_div]
  have E1 := Lib.hid hG; have E2 := Lib.hid hQ; have E3 := Lib.hid e3; have E4 := Lib.hid hL
  have HG := Lib.hid (show G ≠ 0 by have := Nat.gcd_pos_of_pos_left k h0; omega)
  clear he hG hG2 hQ hQ2 hL e3
  have b := Below.refl w.heap.size w
  go_enter Tryz.func67, Tryz.ntmps67
  go_wp2_with (first
    | (go_at_call 66; (with_reducible refine (gcd_sm _ _ _ _ _ K K hm hk (by omega) (HE.out.below b (Nat.le_refl _))).mono ?_); rintro e w' ⟨v, rfl, rfl, hb, hS⟩; have b := b.trans (hb.mono b.size); rw [E1.out] at hS ⊢; have HS := Lib.hid hS; clear hS)
    | (go_at_call 37; (with_reducible refine (quo_sm _ _ _ _ _ K (K + K) hm HS.out HG.out (by omega) (HE.out.below b (Nat.le_refl _))).mono ?_); rintro e w' ⟨v, rfl, rfl, hb, hS⟩; have b := b.trans (hb.mono b.size); rw [E2.out] at hS ⊢; have HQ := Lib.hid hS; clear hS)
    | (go_at_call 38; (with_reducible refine (mul_sm _ _ _ _ _ (K + (K + K) + 1) K HQ.out hk (by omega) (HE.out.below b (Nat.le_refl _))).mono ?_); rintro e w' ⟨v, rfl, rfl, hb, hS⟩; have b := b.trans (hb.mono b.size); rw [E3.out]))
  go_ret2
  exact ⟨_, rfl, by rw [E4.out]; rfl, b⟩

theorem lcms_le (qs : List Nat) (L k : Nat) (hL : 0 < L) (hd : ∀ q ∈ qs, q ∣ L) : lcms (qs.take k) ≤ L :=
  Nat.le_of_dvd hL ((lcms_dvd _ _).2 fun q hq => hd q (List.mem_of_mem_take hq))
theorem sm_nat {m L K : Nat} (h : m ≤ L) (hK : dn (L : Int) ≤ K) (hK2 : K ≤ 1000) : Sm (txt (m : Int)) m K := by
  have : dn (m : Int) ≤ dn (L : Int) := dn_le (by omega)
  exact ⟨⟨rfl, big_dn (by omega)⟩, by omega⟩
set_option maxHeartbeats 1000000 in
theorem folded_lcm (w : World) (v : Value) (xs : List ByteArray) (qs : List Nat) (L K : Nat) (hv : Sl eS w v xs) (hx : xs = qs.map fun q => txt (q : Nat)) (hd : ∀ q ∈ qs, q ∣ L) (hL : 0 < L) (hK : dn (L : Int) ≤ K) (hK2 : 4 * K + 1 ≤ 1000) (he : Env w) :
    Calls Tryz.prog 63 #[v, .string ⟨#[49]⟩, .func (.func 67) #[] #[]] w (Rets fun v w' => v = .tuple #[.string (txt (lcms qs : Nat)), .int .i64 0] ∧ Below w.heap.size w w') := by
  obtain ⟨a, b, o, c, rfl, hi, hq, hc, hm⟩ := hv.open elemStr
  have hq0 : ∀ q ∈ qs, 0 < q := fun q hq => Nat.pos_of_dvd_of_pos (hd q hq) hL
  have HD := Lib.hid hd; have HE := Lib.hid he; have HQ0 := Lib.hid hq0; have HK := Lib.hid hK; have HX := Lib.hid hx
  have HL := Lib.hid (show qs.length = xs.length by rw [hx, List.length_map])
  clear hv hd he hq0 hK hx
  unfold maxLen at hm
  go_enter Tryz.func63, Tryz.ntmps63
  go_wp2
  go_loopw [1, 14] (fun p i wr => ∃ k : Nat, k ≤ xs.length ∧ i = .int .i64 k ∧ Hid (p = .string (txt (lcms (qs.take k) : Nat))) ∧ Below w.heap.size w wr) (fun _ i _ => xs.length - (intOf i).toNat)
  case atStart => exact ⟨0, Nat.zero_le _, rfl, Lib.hid (by rw [one_text]; rfl), Below.refl _ _⟩
  case round =>
    obtain ⟨k, hk, rfl, ho, hb⟩ := hrel
    obtain rfl := ho.out
    clear ho
    by_cases hkn : k < xs.length
    · have hkz : k < qs.length := by rw [HL.out]; exact hkn
      have h1 : wr.cell? ⟨b, o + k, none⟩ = some (.string (txt (qs[k] : Nat))) := by
        have h2 := hq.at hb (Nat.le_refl _) k hkn
        have h3 : xs[k] = txt (qs[k] : Nat) := by simp [HX.out]
        rw [h2, h3]; rfl
      have hmq := List.getElem_mem hkz
      have HPT := Lib.hid (lcms_take qs k hkz).symm
      have HP := Lib.hid (lcms_pos (qs.take k) (fun q hq => HQ0.out q (List.mem_of_mem_take hq)))
      have HS1 := Lib.hid (sm_nat (lcms_le qs L k hL HD.out) HK.out (by omega))
      have HS2 := Lib.hid (sm_nat (Nat.le_of_dvd hL (HD.out _ hmq)) HK.out (by omega))
      clear hmq
      go_wp2_with (go_at_call 67; (with_reducible refine (multiple_any _ (lcms (qs.take k)) qs[k] K HS1.out HS2.out hK2 HP.out (HE.out.below hb (Nat.le_refl _))).mono ?_); rintro e w1 ⟨v, rfl, rfl, hb1⟩; rw [HPT.out])
      go_roundw
      case rel => exact ⟨k + 1, by omega, by go_num, Lib.hid rfl, hb.trans (hb1.mono hb.size)⟩
      case measure => simp [intOf]; omega
    · obtain rfl : k = xs.length := by omega
      have e1 : qs.take xs.length = qs := by rw [← HL.out, List.take_length]
      rw [e1]
      clear e1
      go_wp2
      go_ret2
      exact ⟨_, rfl, rfl, hb⟩
end Go.Proofs.YtdpdkojeapaflaaGreatDoor

namespace Go.Proofs.YtdpdkojeapaflaaGreatDoor
open Go.RowKit
set_option maxRecDepth 100000

theorem txt_head (z : Int) : ∃ (c : UInt8) (r : List UInt8), txt z = ⟨(c :: r).toArray⟩ ∧ ((c.toNat : Int) == 45) = decide (z < 0) := by
  have hp := pre_itoa z
  have hne := itoa_ne z
  unfold txt
  generalize Lib.itoa z = l at *
  rcases l with _ | ⟨c, r⟩
  · exact absurd rfl hne
  · refine ⟨c, r, rfl, ?_⟩
    rw [← hp]
    by_cases h : c = 45
    · subst h; rfl
    · have : c.toNat ≠ 45 := fun e => h (UInt8.toNat_inj.1 e)
      simp [Lib.hasPrefix, List.isPrefixOf]
      rw [Bool.eq_iff_iff]
      simp
      constructor
      · intro e; omega
      · intro e; exact absurd e.symm h
/-- The first error of an element of a group. -/
def mstep : List ByteArray → List ByteArray → Int
  | n :: g, s :: l => if chk s.data.toList = 0 then (if num s < 0 ∨ num n ≤ num s then 2 else mstep g l) else chk s.data.toList
  | _, _ => 0
def mchk (g a : List ByteArray) : Int := if a.length = g.length then mstep g a else 8
/-- The numbers of an element of a right group. -/
def Elt (zs us : List Int) : Prop := ∀ i (h : i < zs.length) (h' : i < us.length), 0 ≤ us[i] ∧ us[i] < zs[i]
theorem mstep_good : ∀ (g a : List ByteArray) (zs : List Int), Goods g zs → a.length = g.length → mstep g a = 0 → ∃ us, Goods a us ∧ Elt zs us
  | [], [], _, _, _, _ => ⟨[], trivial, fun i h h' => absurd h' (by simp)⟩
  | n :: g, s :: l, z :: zs, hz, hl, h => by
    rw [mstep] at h
    by_cases h1 : chk s.data.toList = 0
    · rw [if_pos h1] at h
      by_cases h2 : num s < 0 ∨ num n ≤ num s
      · rw [if_pos h2] at h; exact absurd h (by decide)
      · rw [if_neg h2] at h
        obtain ⟨us, ha, he⟩ := mstep_good g l zs hz.2 (by simpa using hl) h
        refine ⟨num s :: us, ⟨good_num h1, ha⟩, fun i hi hi' => ?_⟩
        cases i with
        | zero => have := hz.1.num; simp; omega
        | succ i => simpa using he i (by simpa using hi) (by simpa using hi')
    · rw [if_neg h1] at h; exact absurd h h1
theorem elt_of {g a : List ByteArray} {zs : List Int} (hg : Goods g zs) (h : mchk g a = 0) : a.length = g.length ∧ ∃ us, Goods a us ∧ Elt zs us := by
  unfold mchk at h
  by_cases hl : a.length = g.length
  · rw [if_pos hl] at h; exact ⟨hl, mstep_good g a zs hg hl h⟩
  · rw [if_neg hl] at h; exact absurd h (by decide)
theorem mstep_at (g a : List ByteArray) (k : Nat) (hg : k < g.length) (ha : k < a.length) : mstep (g.drop k) (a.drop k) = if chk a[k].data.toList = 0 then (if num a[k] < 0 ∨ num g[k] ≤ num a[k] then 2 else mstep (g.drop (k + 1)) (a.drop (k + 1))) else chk a[k].data.toList := by
  rw [List.drop_eq_getElem_cons hg, List.drop_eq_getElem_cons ha, mstep]
theorem mstep_end (g a : List ByteArray) : mstep (g.drop a.length) (a.drop a.length) = 0 := by
  rw [List.drop_length]; cases g.drop a.length <;> rfl

set_option maxHeartbeats 2000000 in
theorem member_any (w : World) (v u : Value) (g a : List ByteArray) (zs : List Int) (hv : Sl eS w v g) (hu : Sl eS w u a) (hz : Goods g zs) (hl : g.length ≤ 16) (hsz : a.length = g.length → ∀ s ∈ a, s.size ≤ 1000000) :
    Calls Tryz.prog 62 #[v, u] w (Rets fun v w' => v = .int .i64 (mchk g a) ∧ Below w.heap.size w w') := by
  obtain ⟨ad, b, o, c, rfl, hi, hp, hc, hm⟩ := hv.open elemStr
  obtain ⟨ad', b', o', c', rfl, hi', hp', hc', hm'⟩ := hu.open elemStr
  have HZ := Lib.hid hz; have HLZ := Lib.hid hz.len
  clear hv hu hz
  unfold maxLen at hm hm'
  by_cases hle : a.length = g.length
  · have hs := hsz hle
    have HS := Lib.hid hs
    have HM := Lib.hid (show mchk g a = mstep g a by unfold mchk; rw [if_pos hle])
    have hla : a.length ≤ 16 := by omega
    have hne : ((a.length : Int) != (g.length : Int)) = false := by simp [hle]
    have HLE := Lib.hid hle
    clear hsz hs hle
    go_enter Tryz.func62, Tryz.ntmps62
    go_wp2
    go_loopw [15] (fun i wr => ∃ k : Nat, k ≤ a.length ∧ i = .int .i64 k ∧ Hid (mchk g a = mstep (g.drop k) (a.drop k)) ∧ Below w.heap.size w wr) (fun i _ => a.length - (intOf i).toNat)
    case atStart => exact ⟨0, Nat.zero_le _, rfl, Lib.hid (by rw [HM.out]; rfl), Below.refl _ _⟩
    case round =>
      obtain ⟨k, hk, rfl, hA, hb⟩ := hrel
      by_cases hkn : k < a.length
      · have hkg : k < g.length := by rw [← HLE.out]; exact hkn
        have h1 : wr.cell? ⟨b', o' + k, none⟩ = some (.string a[k]) := hp'.at hb (Nat.le_refl _) k hkn
        have hV := hA.out
        rw [mstep_at g a k hkg hkn] at hV
        have hsk := HS.out _ (List.getElem_mem hkn)
        have hgz := HZ.out.get k hkg (by rw [HLZ.out]; exact hkg)
        have hgn := hgz.num
        by_cases h0 : chk a[k].data.toList = 0
        · rw [if_pos h0] at hV
          have hG := good_num h0
          obtain ⟨y, hy⟩ : ∃ y, num a[k] = y := ⟨_, rfl⟩
          obtain ⟨n, hn⟩ : ∃ n, zs[k]'(by rw [HLZ.out]; exact hkg) = n := ⟨_, rfl⟩
          rw [hn] at hgz hgn
          rw [hy] at hG hV
          rw [hgn] at hV
          obtain ⟨ch, rs, ht, hch⟩ := txt_head y
          have hax : a[k] = ⟨(ch :: rs).toArray⟩ := by rw [hG.eq, ht]
          rw [hax] at h1 hG h0 hsk
          have hs0 : ∀ h, (({ data := (ch :: rs).toArray } : ByteArray)[0]'h) = ch := fun _ => rfl
          have HC := Lib.hid h0; have HG := Lib.hid hG; have HSK := Lib.hid hsk; have HGZ := Lib.hid hgz
          have hcg : ∀ w', Below w.heap.size w w' → w'.cell? ⟨b, o + k, none⟩ = some (.string g[k]) := fun w' hb' => hp.at hb' (Nat.le_refl _) k hkg
          have HCG := Lib.hid hcg
          by_cases hneg : y < 0
          · rw [if_pos (.inl hneg)] at hV
            have HV := Lib.hid hV
            have hc45 : ((ch.toNat : Int) == 45) = true := by rw [hch]; simp [hneg]
            clear hV hG h0 hsk hgz hgn hy hn ht hch hax hcg hneg
            go_wp2_with (go_at_call 70; (with_reducible refine (check_any _ _ HSK.out).mono ?_); rintro e w1 ⟨v, rfl, rfl, hb1⟩; rw [HC.out]; have b1 := hb.trans (hb1.mono hb.size); have h9 := HCG.out _ b1)
            go_ret
            exact ⟨_, rfl, by rw [HV.out]; rfl, b1⟩
          · have hc45 : ((ch.toNat : Int) == 45) = false := by rw [hch]; simp [hneg]
            by_cases hbig : n ≤ y
            · rw [if_pos (.inr hbig)] at hV
              have HV := Lib.hid hV
              obtain ⟨u, hu, hu0⟩ : ∃ u, (y - n).sign = u ∧ 0 ≤ u := ⟨_, rfl, by
                rcases Int.lt_or_eq_of_le hbig with h | h
                · rw [Int.sign_eq_one_of_pos (by omega)]; omega
                · rw [h, Int.sub_self]; decide⟩
              have HU := Lib.hid hu
              clear hV hG h0 hsk hgz hgn hy hn ht hch hax hcg hneg hbig hu
              go_wp2_with (first
                | (go_at_call 70; (with_reducible refine (check_any _ _ HSK.out).mono ?_); rintro e w1 ⟨v, rfl, rfl, hb1⟩; rw [HC.out]; have b1 := hb.trans (hb1.mono hb.size); have h9 := HCG.out _ b1)
                | (go_at_call 79; (with_reducible refine (aorder_any _ _ _ y n HG.out HGZ.out).mono ?_); rintro e w2 ⟨v, rfl, rfl, hb2⟩; rw [HU.out]; have b2 := b1.trans (hb2.mono b1.size)))
              go_ret
              exact ⟨_, rfl, by rw [HV.out]; rfl, b2⟩
            · rw [if_neg (by omega)] at hV
              have HV := Lib.hid hV
              have HU := Lib.hid (show (y - n).sign = -1 from Int.sign_eq_neg_one_of_neg (by omega))
              clear hV hG h0 hsk hgz hgn hy hn ht hch hax hcg hneg hbig
              go_wp2_with (first
                | (go_at_call 70; (with_reducible refine (check_any _ _ HSK.out).mono ?_); rintro e w1 ⟨v, rfl, rfl, hb1⟩; rw [HC.out]; have b1 := hb.trans (hb1.mono hb.size); have h9 := HCG.out _ b1)
                | (go_at_call 79; (with_reducible refine (aorder_any _ _ _ y n HG.out HGZ.out).mono ?_); rintro e w2 ⟨v, rfl, rfl, hb2⟩; rw [HU.out]; have b2 := b1.trans (hb2.mono b1.size)))
              go_roundw
              case rel => exact ⟨k + 1, by omega, by go_num, HV, b2⟩
              case measure => simp [intOf]; omega
        · rw [if_neg h0] at hV
          have hne : (chk a[k].data.toList != 0) = true := by simp [h0]
          have HV := Lib.hid hV
          clear hV h0
          go_wp2_with (go_at_call 70; (with_reducible refine (check_any _ _ hsk).mono ?_); rintro e w1 ⟨v, rfl, rfl, hb1⟩; have b1 := hb.trans (hb1.mono hb.size))
          go_ret
          exact ⟨_, rfl, by rw [HV.out]; rfl, b1⟩
      · obtain rfl : k = a.length := by omega
        have HV := Lib.hid (show mchk g a = 0 by rw [hA.out, mstep_end])
        go_wp2
        go_ret
        exact ⟨_, rfl, by rw [HV.out]; rfl, hb⟩
  · have HM := Lib.hid (show mchk g a = 8 by unfold mchk; rw [if_neg hle])
    have hne : ((a.length : Int) != (g.length : Int)) = true := by simp; omega
    clear hsz
    go_enter Tryz.func62, Tryz.ntmps62
    go_wp2
    go_ret
    exact ⟨_, rfl, by rw [HM.out]; rfl, Below.refl _ _⟩
end Go.Proofs.YtdpdkojeapaflaaGreatDoor

namespace Go.Proofs.YtdpdkojeapaflaaGreatDoor
open Go.RowKit
set_option maxRecDepth 100000

set_option maxHeartbeats 1000000 in
theorem each_orders (w : World) (v cap : Value) (xs rs : List ByteArray) (hv : Sl eS w v xs) (hl : xs.length ≤ 1000000) (hr : rs.length = xs.length)
    (hF : ∀ k (hk : k < xs.length) (hk' : k < rs.length) w', Below w.heap.size w w' → Calls Tryz.prog 65 #[.int .i64 k, .string xs[k], cap] w' (Rets fun v w'' => v = .string rs[k] ∧ Below w'.heap.size w' w'')) :
    Calls Tryz.prog 64 #[v, .func (.func 65) #[] #[cap]] w (Rets fun v' w' => Sl eS w' v' rs ∧ Below w.heap.size w w') := by
  obtain ⟨a, b, o, c, rfl, hi, hp, hc, hm⟩ := hv.open elemStr
  have HF := Lib.hid hF; have HR := Lib.hid hr
  clear hv hF
  unfold maxLen at hm
  go_enter Tryz.func64, Tryz.ntmps64
  go_wp2_with (at_make; refine mkN elemStr rfl _ _ rfl xs.length rfl rfl (by omega) (by omega) (by omega) (by unfold maxLen; omega) (Below.refl _ _) (Nat.le_refl _) rfl ?_; intro w1 hown hb hb2; clear hb2)
  have hown := ownsRow_cast hown rfl (show List.replicate xs.length (Value.string ⟨#[]⟩) = (rs.take 0 ++ List.replicate (xs.length - 0) (⟨#[]⟩ : ByteArray)).map eS by simp [eS])
  go_loopw [13] (fun i wr => ∃ k : Nat, k ≤ xs.length ∧ i = .int .i64 k ∧ wr.ownsRow w.heap.size 27 1 (.slice (some ⟨w.heap.size, 0, none⟩) xs.length xs.length) xs.length ((rs.take k ++ List.replicate (xs.length - k) (⟨#[]⟩ : ByteArray)).map eS) ∧ Below w.heap.size w wr) (fun i _ => xs.length - (intOf i).toNat)
  case atStart => exact ⟨0, Nat.zero_le _, rfl, hown, hb⟩
  case round =>
    clear hown hb
    obtain ⟨k, hk, rfl, hown, hb⟩ := hrel
    by_cases hkn : k < xs.length
    · have hkr : k < rs.length := by rw [HR.out]; exact hkn
      have h1 : wr.cell? ⟨b, o + k, none⟩ = some (.string xs[k]) := hp.at hb (Nat.le_refl _) k hkn
      have HO := Lib.hid hown
      clear hown
      go_wp2_with ((with_reducible refine (HF.out k hkn hkr _ hb).mono ?_); rintro e w2 ⟨v, rfl, rfl, hb2⟩; have HO2 := Lib.hid (own_below HO.out hb2 (Nat.le_refl _)); obtain ⟨u, -, hcu, hfr⟩ := own_at HO2.out hkn; have hb3 := hb.trans (hb2.mono hb.size))
      go_roundw
      case rel =>
        have R := fun (q : Value) (hq : q = eS rs[k]) => fill_own HO2.out hb3 (Nat.le_refl _) (by simp; omega) hkn rs[k] q hq
        rw [← List.take_succ_eq_append_getElem hkr] at R
        exact ⟨k + 1, by omega, by go_num, (R _ rfl).1, (R _ rfl).2⟩
      case measure => simp [intOf]; omega
    · obtain rfl : k = xs.length := by omega
      rw [List.take_of_length_le (show rs.length ≤ xs.length by rw [HR.out]; exact Nat.le_refl _), Nat.sub_self, List.replicate_zero, List.append_nil] at hown
      have HS := Lib.hid (show Sl eS wr _ rs from Sl.ofOwns hown)
      clear hown
      go_wp2
      go_ret
      exact ⟨_, rfl, HS.out, hb⟩
set_option maxHeartbeats 1000000 in
theorem each_counts (w : World) (v cap : Value) (xs rs : List ByteArray) (hv : Sl eS w v xs) (hl : xs.length ≤ 1000000) (hr : rs.length = xs.length)
    (hF : ∀ k (hk : k < xs.length) (hk' : k < rs.length) w', Below w.heap.size w w' → Calls Tryz.prog 100 #[.int .i64 k, .string xs[k], cap] w' (Rets fun v w'' => v = .string rs[k] ∧ Below w'.heap.size w' w'')) :
    Calls Tryz.prog 64 #[v, .func (.func 100) #[] #[cap]] w (Rets fun v' w' => Sl eS w' v' rs ∧ Below w.heap.size w w') := by
  obtain ⟨a, b, o, c, rfl, hi, hp, hc, hm⟩ := hv.open elemStr
  have HF := Lib.hid hF; have HR := Lib.hid hr
  clear hv hF
  unfold maxLen at hm
  go_enter Tryz.func64, Tryz.ntmps64
  go_wp2_with (at_make; refine mkN elemStr rfl _ _ rfl xs.length rfl rfl (by omega) (by omega) (by omega) (by unfold maxLen; omega) (Below.refl _ _) (Nat.le_refl _) rfl ?_; intro w1 hown hb hb2; clear hb2)
  have hown := ownsRow_cast hown rfl (show List.replicate xs.length (Value.string ⟨#[]⟩) = (rs.take 0 ++ List.replicate (xs.length - 0) (⟨#[]⟩ : ByteArray)).map eS by simp [eS])
  go_loopw [13] (fun i wr => ∃ k : Nat, k ≤ xs.length ∧ i = .int .i64 k ∧ wr.ownsRow w.heap.size 27 1 (.slice (some ⟨w.heap.size, 0, none⟩) xs.length xs.length) xs.length ((rs.take k ++ List.replicate (xs.length - k) (⟨#[]⟩ : ByteArray)).map eS) ∧ Below w.heap.size w wr) (fun i _ => xs.length - (intOf i).toNat)
  case atStart => exact ⟨0, Nat.zero_le _, rfl, hown, hb⟩
  case round =>
    clear hown hb
    obtain ⟨k, hk, rfl, hown, hb⟩ := hrel
    by_cases hkn : k < xs.length
    · have hkr : k < rs.length := by rw [HR.out]; exact hkn
      have h1 : wr.cell? ⟨b, o + k, none⟩ = some (.string xs[k]) := hp.at hb (Nat.le_refl _) k hkn
      have HO := Lib.hid hown
      clear hown
      go_wp2_with ((with_reducible refine (HF.out k hkn hkr _ hb).mono ?_); rintro e w2 ⟨v, rfl, rfl, hb2⟩; have HO2 := Lib.hid (own_below HO.out hb2 (Nat.le_refl _)); obtain ⟨u, -, hcu, hfr⟩ := own_at HO2.out hkn; have hb3 := hb.trans (hb2.mono hb.size))
      go_roundw
      case rel =>
        have R := fun (q : Value) (hq : q = eS rs[k]) => fill_own HO2.out hb3 (Nat.le_refl _) (by simp; omega) hkn rs[k] q hq
        rw [← List.take_succ_eq_append_getElem hkr] at R
        exact ⟨k + 1, by omega, by go_num, (R _ rfl).1, (R _ rfl).2⟩
      case measure => simp [intOf]; omega
    · obtain rfl : k = xs.length := by omega
      rw [List.take_of_length_le (show rs.length ≤ xs.length by rw [HR.out]; exact Nat.le_refl _), Nat.sub_self, List.replicate_zero, List.append_nil] at hown
      have HS := Lib.hid (show Sl eS wr _ rs from Sl.ofOwns hown)
      clear hown
      go_wp2
      go_ret
      exact ⟨_, rfl, HS.out, hb⟩
end Go.Proofs.YtdpdkojeapaflaaGreatDoor

namespace Go.Proofs.YtdpdkojeapaflaaGreatDoor
open Go.RowKit
set_option maxRecDepth 100000

abbrev tx (n : Nat) : ByteArray := txt (n : Int)
/-- A right group, all of whose numbers divide L, and an element; in natural numbers. -/
structure Pos (g : List ByteArray) (ns : List Nat) (L K : Nat) : Prop where
  eq : g = ns.map tx
  two : ∀ n ∈ ns, 2 ≤ n
  dvd : ∀ n ∈ ns, n ∣ L
  pos : 0 < L
  dn : dn (L : Int) ≤ K
  K : 4 * K + 1 ≤ 1000
theorem Pos.len {g : List ByteArray} {ns : List Nat} {L K : Nat} (h : Pos g ns L K) : ns.length = g.length := by rw [h.eq, List.length_map]
theorem Pos.get {g : List ByteArray} {ns : List Nat} {L K : Nat} (h : Pos g ns L K) (k : Nat) (hk : k < g.length) : ∃ n, g[k] = tx n ∧ ns[k]? = some n ∧ 2 ≤ n ∧ n ∣ L ∧ Sm (tx n) n K := by
  have hk' : k < ns.length := by rw [h.len]; exact hk
  have hm := List.getElem_mem hk'
  exact ⟨ns[k], by simp [h.eq], List.getElem?_eq_getElem hk', h.two _ hm, h.dvd _ hm, sm_nat (Nat.le_of_dvd h.pos (h.dvd _ hm)) h.dn (by have := h.K; omega)⟩

set_option maxHeartbeats 400000 in
theorem ord_clos (w : World) (k n y K bx c : Nat) (ad : Option Addr) (us : List ByteArray) (hs : Sm (tx n) n K) (hn : 0 < n) (hcell : w.cell? ⟨bx, 0, none⟩ = some (.slice ad us.length c)) (hv : Sl eS w (.slice ad us.length c) us) (hk : k < us.length) (hy : us[k] = tx y) (hs' : Sm (tx y) y K) (hK : 4 * K + 1 ≤ 1000) (he : Env w) :
    Calls Tryz.prog 65 #[.int .i64 k, .string (tx n), .pointer (some ⟨bx, 0, none⟩)] w (Rets fun v w' => v = .string (tx (n / Nat.gcd n y)) ∧ Below w.heap.size w w') := by
  obtain ⟨ad, b, o, c, e, hi, hp, hc, hm⟩ := hv.open elemStr
  cases e
  have h1 : w.cell? ⟨b, o + k, none⟩ = some (.string (tx y)) := by rw [← hy]; exact hp.2 k hk
  obtain ⟨G, hG⟩ : ∃ G : Int, ((Nat.gcd (n : Int).natAbs (y : Int).natAbs : Nat) : Int) = G := ⟨_, rfl⟩
  have hG2 : ((Nat.gcd n y : Nat) : Int) = G := by rw [← hG]; simp
  obtain ⟨Q, hQ⟩ : ∃ Q : Int, Int.fdiv (n : Int) G = Q := ⟨_, rfl⟩
  have hQ2 : ((n / Nat.gcd n y : Nat) : Int) = Q := by rw [← hQ, ← hG2, Int.fdiv_eq_ediv_of_nonneg _ (by omega)]; rfl
  have E1 := Lib.hid hG; have E2 := Lib.hid hQ; have E3 := Lib.hid hQ2
  have HG := Lib.hid (show G ≠ 0 by have := Nat.gcd_pos_of_pos_left y hn; omega)
  have HE := Lib.hid he; have HS := Lib.hid hs; have HS' := Lib.hid hs'
  clear hG hG2 hQ hQ2 he hv hs hs' hy
  have b0 := Below.refl w.heap.size w
  go_enter Tryz.func65, Tryz.ntmps65
  go_wp2_with (first
    | (go_at_call 66; (with_reducible refine (gcd_sm _ _ _ _ _ K K HS.out HS'.out (by omega) (HE.out.below b0 (Nat.le_refl _))).mono ?_); rintro e w' ⟨v, rfl, rfl, hb, hS⟩; have b0 := b0.trans (hb.mono b0.size); rw [E1.out] at hS ⊢; have HGS := Lib.hid hS; clear hS)
    | (go_at_call 37; (with_reducible refine (quo_sm _ _ _ _ _ K (K + K) HS.out HGS.out HG.out (by omega) (HE.out.below b0 (Nat.le_refl _))).mono ?_); rintro e w' ⟨v, rfl, rfl, hb, hS⟩; have b0 := b0.trans (hb.mono b0.size); rw [E2.out]))
  go_ret
  exact ⟨_, rfl, by rw [← E3.out]; rfl, b0⟩

/-- The quotients whose least common multiple is an element's order. -/
def quos (ns ys : List Nat) : List Nat := List.zipWith (fun n y => n / Nat.gcd n y) ns ys

set_option maxHeartbeats 2000000 in
theorem OrderOf_ok (w : World) (v u : Value) (g a : List ByteArray) (zs : List Int) (ns ys : List Nat) (L K : Nat) (hv : Sl eS w v g) (hu : Sl eS w u a) (hz : Goods g zs) (hg : gchk g = 0) (hm : mchk g a = 0) (hP : Pos g ns L K) (ha : a = ys.map tx) (hlt : ∀ i (h : i < ns.length) (h' : i < ys.length), ys[i] < ns[i])
    (hl : g.length ≤ 16) (hla : a.length = g.length) (hsz : ∀ s ∈ g, s.size ≤ 1000000) (hsz' : ∀ s ∈ a, s.size ≤ 1000000) (he : Env w) :
    Calls Tryz.prog 17 #[v, u] w (Rets fun r w' => r = .tuple #[.string (tx (lcms (quos ns ys))), .int .i64 0] ∧ Below w.heap.size w w') := by
  have HU := Lib.hid hu; have HV := Lib.hid hv
  obtain ⟨ad, b, o, c, rfl, hi, hp, hcc, hmm⟩ := hv.open elemStr
  obtain ⟨ad', b', o', c', rfl, hi', hp', hcc', hmm'⟩ := hu.open elemStr
  have HZ := Lib.hid hz; have HG := Lib.hid hg; have HM := Lib.hid hm; have HP := Lib.hid hP; have HSZ := Lib.hid hsz; have HSZ' := Lib.hid hsz'; have HE := Lib.hid he; have HLT := Lib.hid hlt; have HA := Lib.hid ha
  have hmf : ∀ (fn : Fn) (first cap : Array Value) (w : World), (Instr.makeFunc fn first cap).run Tryz.prog w = .ok (.func fn first cap) w := fun _ _ _ _ => rfl
  have hk0 := Blk.new w [.slice ad' a.length c'] 22
  have hb0 : Below w.heap.size w (w.alloc (.cells #[.slice ad' a.length c'] 22)) := (Below.refl _ w).alloc (Nat.le_refl _) _
  have HK0 := Lib.hid hk0; have HB0 := Lib.hid hb0
  have HQL := Lib.hid (show (quos ns ys).length = g.length by unfold quos; rw [List.length_zipWith, hP.len, show ys.length = a.length by rw [ha, List.length_map], hla, Nat.min_self])
  have hQM : ((quos ns ys).map tx).length = g.length := by rw [List.length_map, HQL.out]
  have hclos : ∀ w', Env w' → Sl eS w' (.slice ad' a.length c') a → Blk w' w.heap.size [.slice ad' a.length c'] 22 → ∀ k (hk : k < g.length) (hk' : k < ((quos ns ys).map tx).length),
      Calls Tryz.prog 65 #[.int .i64 k, .string g[k], .pointer (some ⟨w.heap.size, 0, none⟩)] w' (Rets fun v w'' => v = .string ((quos ns ys).map tx)[k] ∧ Below w'.heap.size w' w'') := by
    intro w' he' hs' hk0' k hk hk'
    obtain ⟨n, hn, hns, hn2, hnd, hsm⟩ := hP.get k hk
    have hka : k < a.length := by rw [hla]; exact hk
    have hky : k < ys.length := by have := congrArg List.length ha; rw [List.length_map] at this; omega
    have hkn : k < ns.length := by rw [hP.len]; exact hk
    have hay : a[k] = tx ys[k] := by simp [ha]
    have hnn : ns[k] = n := by rw [List.getElem?_eq_getElem hkn] at hns; exact Option.some.inj hns
    have hyl := hlt k hkn hky
    rw [hnn] at hyl
    have hsy : Sm (tx ys[k]) (ys[k] : Nat) K := sm_nat (Nat.le_trans (Nat.le_of_lt hyl) (Nat.le_of_dvd hP.pos hnd)) hP.dn (by have := hP.K; omega)
    have e : ((quos ns ys).map tx)[k] = tx (n / Nat.gcd n ys[k]) := by simp [quos, hnn]
    rw [e, hn]
    exact ord_clos w' k n ys[k] K w.heap.size c' ad' a hsm (by omega) (hk0'.cell 0 _ rfl) hs' hka hay hsy hP.K he'
  have hqd : ∀ q ∈ quos ns ys, q ∣ L := fun q hq => by
    obtain ⟨i, hi, rfl⟩ := List.getElem_of_mem hq
    have hkn : i < ns.length := by have := hP.len; have := HQL.out; omega
    simp only [quos, List.getElem_zipWith]
    exact Nat.dvd_trans (Nat.div_dvd_of_dvd (Nat.gcd_dvd_left _ _)) (hP.dvd _ (List.getElem_mem hkn))
  have HQM := Lib.hid hQM; have HCL := Lib.hid hclos; have HQD := Lib.hid hqd
  clear hQM hclos hqd
  clear hv hu hz hg hm hP hsz hsz' he hlt ha hk0 hb0 hp hp' hla
  go_enter Tryz.func17, Tryz.ntmps17
  go_wp2_with (first
    | (go_at_call 27; (with_reducible refine (ACheck_any _ _ g (HV.out.below HB0.out (Nat.le_refl _)) (fun _ => HSZ.out) (HE.out.below HB0.out (Nat.le_refl _))).mono ?_); rintro e w1 ⟨v, rfl, rfl, hb1⟩; rw [HG.out]; have b1 := HB0.out.trans (hb1.mono HB0.out.size); have HK1 := Lib.hid (HK0.out.below hb1 (Nat.le_refl _)); have hc1 := HK1.out.cell 0 _ rfl)
    | (go_at_call 62; (with_reducible refine (member_any _ _ _ g a zs (HV.out.below b1 (Nat.le_refl _)) (HU.out.below b1 (Nat.le_refl _)) HZ.out hl (fun _ => HSZ'.out)).mono ?_); rintro e w2 ⟨v, rfl, rfl, hb2⟩; rw [HM.out]; have b2 := b1.trans (hb2.mono b1.size); have HK2 := Lib.hid (HK1.out.below hb2 (Nat.le_refl _)))
    | (go_at_call 64; (with_reducible refine (each_orders _ _ _ g ((quos ns ys).map tx) (HV.out.below b2 (Nat.le_refl _)) (by omega) HQM.out (fun k hk hk' w' hb' => HCL.out w' (HE.out.below (b2.trans (hb'.mono b2.size)) (Nat.le_refl _)) (HU.out.below (b2.trans (hb'.mono b2.size)) (Nat.le_refl _)) (HK2.out.below hb' (Nat.le_refl _)) k hk hk')).mono ?_); rintro e w3 ⟨v3, rfl, hs3, hb3⟩; have HS3 := Lib.hid hs3; have b3 := b2.trans (hb3.mono b2.size); clear hs3)
    | (go_at_call 63; (with_reducible refine (folded_lcm _ _ _ (quos ns ys) L K HS3.out rfl HQD.out HP.out.pos HP.out.dn HP.out.K (HE.out.below b3 (Nat.le_refl _))).mono ?_); rintro e w4 ⟨v, rfl, rfl, hb4⟩; have b4 := b3.trans (hb4.mono b3.size)))
  go_ret2
  exact ⟨_, rfl, rfl, b4⟩
end Go.Proofs.YtdpdkojeapaflaaGreatDoor
