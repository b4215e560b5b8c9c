/- The walk of abelian's each, for the closures of Add, Neg and Times. Plain law: the order of an element of a finite abelian group. The walks of abelian's multiple and of its folds of products and of least common multiples. The walk of abelian's member; the closures of OrderOf and Count. The walk of abelian's each, for each of the closures that it is handed. The walks of abelian's OrderOf, Order, Exponent and Count. The walks of the reference's In, Zero, Plus and Period of a group's elements. The walks of the reference's Plus, Period, Last and OrderOf of a group's elements. The walks of the reference's Plus, Multiple and Reduced of a group's elements. The walks of the law's few over lists of lists; of the reference's Last, and of its OrderOf's errors. -/
import Derived.Test.YtajkhbpffakmfaaGreatDoorPk5
import Derived.Test.YtajkhbpffakmfaaGreatDoorPk1
import Derived.Test.YtajkhbpffakmfaaGreatDoorPk9
namespace Go.Proofs.YtajkhbpffakmfaaGreatDoor
open Go.RowKit
set_option maxRecDepth 100000

end Go.Proofs.YtajkhbpffakmfaaGreatDoor

namespace Go.Proofs.YtajkhbpffakmfaaGreatDoor

theorem ord_dvd (n a k : Nat) (hn : 0 < n) : n ∣ k * a ↔ n / Nat.gcd n a ∣ k := by
  have hg : 0 < Nat.gcd n a := Nat.gcd_pos_of_pos_left _ hn
  obtain ⟨n', hn'⟩ := Nat.gcd_dvd_left n a
  obtain ⟨a', ha'⟩ := Nat.gcd_dvd_right n a
  have hco : Nat.gcd n' a' = 1 := by
    have h := Nat.gcd_mul_left (Nat.gcd n a) n' a'
    rw [← hn', ← ha'] at h
    have : Nat.gcd n a * 1 = Nat.gcd n a * Nat.gcd n' a' := by rw [Nat.mul_one]; exact h
    exact (Nat.eq_of_mul_eq_mul_left hg this).symm
  have hd : n / Nat.gcd n a = n' := by
    apply Nat.div_eq_of_eq_mul_right hg
    exact hn'
  rw [hd]
  generalize Nat.gcd n a = g at *
  subst hn' ha'
  rw [show k * (g * a') = g * (k * a') by rw [← Nat.mul_assoc, Nat.mul_comm k g, Nat.mul_assoc], Nat.mul_dvd_mul_iff_left hg]
  exact ⟨fun h => Nat.Coprime.dvd_of_dvd_mul_right hco h, fun h => Nat.dvd_trans h (Nat.dvd_mul_right _ _)⟩
/-- The least common multiple of some numbers. -/
def lcms (qs : List Nat) : Nat := qs.foldl Nat.lcm 1
theorem lcms_snoc (qs : List Nat) (q : Nat) : lcms (qs ++ [q]) = Nat.lcm (lcms qs) q := by simp [lcms]
theorem lcms_take (qs : List Nat) (k : Nat) (h : k < qs.length) : lcms (qs.take (k + 1)) = Nat.lcm (lcms (qs.take k)) qs[k] := by
  rw [List.take_succ_eq_append_getElem h, lcms_snoc]
theorem fold_lcm_dvd (qs : List Nat) : ∀ (a k : Nat), qs.foldl Nat.lcm a ∣ k ↔ a ∣ k ∧ ∀ q ∈ qs, q ∣ k := by
  induction qs with
  | nil => intro a k; simp
  | cons q l ih =>
    intro a k
    rw [List.foldl_cons, ih, Nat.lcm_dvd_iff]
    simp [and_assoc]
theorem lcms_dvd (qs : List Nat) (k : Nat) : lcms qs ∣ k ↔ ∀ q ∈ qs, q ∣ k := by
  rw [lcms, fold_lcm_dvd]; simp
theorem lcms_pos (qs : List Nat) (h : ∀ q ∈ qs, 0 < q) : 0 < lcms qs := by
  have : ∀ (l : List Nat) (a : Nat), 0 < a → (∀ q ∈ l, 0 < q) → 0 < l.foldl Nat.lcm a := by
    intro l
    induction l with
    | nil => intro a ha _; exact ha
    | cons q l ih => intro a ha hl; rw [List.foldl_cons]; exact ih _ (Nat.lcm_pos ha (hl q (by simp))) (fun x hx => hl x (by simp [hx]))
  exact this qs 1 (by omega) h
end Go.Proofs.YtajkhbpffakmfaaGreatDoor

namespace Go.Proofs.YtajkhbpffakmfaaGreatDoor
open Go.RowKit
set_option maxRecDepth 100000

/-- The product of some numbers. -/
def prods (zs : List Int) : Int := zs.foldl (· * ·) 1
theorem prods_snoc (zs : List Int) (z : Int) : prods (zs ++ [z]) = prods zs * z := by simp [prods]
theorem prods_take (zs : List Int) (k : Nat) (h : k < zs.length) : prods (zs.take (k + 1)) = prods (zs.take k) * zs[k] := by
  rw [List.take_succ_eq_append_getElem h, prods_snoc]
theorem prods_mono (zs : List Int) (hp : ∀ z ∈ zs, 1 ≤ z) : ∀ a : Int, 1 ≤ a → a ≤ zs.foldl (· * ·) a := by
  induction zs with
  | nil => intro a _; exact Int.le_refl _
  | cons z l ih =>
    intro a ha
    rw [List.foldl_cons]
    have hz := hp z (by simp)
    have h1 : a * 1 ≤ a * z := Int.mul_le_mul_of_nonneg_left hz (by omega)
    have := ih (fun x hx => hp x (by simp [hx])) (a * z) (by omega)
    omega
theorem prods_pos (zs : List Int) (hp : ∀ z ∈ zs, 1 ≤ z) : 1 ≤ prods zs := prods_mono zs hp 1 (by omega)
theorem prods_le (zs : List Int) (hp : ∀ z ∈ zs, 1 ≤ z) (k : Nat) : prods (zs.take k) ≤ prods zs := by
  have h : prods zs = (zs.drop k).foldl (· * ·) (prods (zs.take k)) := by
    unfold prods; rw [← List.foldl_append, List.take_append_drop]
  rw [h]
  exact prods_mono _ (fun z hz => hp z (List.mem_of_mem_drop hz)) _ (prods_pos _ (fun z hz => hp z (List.mem_of_mem_take hz)))
theorem big_le_of {x y : Int} (h0 : 0 ≤ x) (h : x ≤ y) (hb : big x = true) : big y = true := by
  cases hy : big y
  · have := (big_iff y).1 hy
    have hx : big x = false := (big_iff x).2 (by omega)
    rw [hx] at hb; cases hb
  · rfl
theorem one_text : (⟨#[49]⟩ : ByteArray) = txt 1 := g1.eq

set_option maxHeartbeats 1000000 in
theorem folded_mul (w : World) (v : Value) (xs : List ByteArray) (zs : List Int) (hv : Sl eS w v xs) (hz : Goods xs zs) (hp : ∀ z ∈ zs, 1 ≤ z) (he : Env w) :
    Calls Tryz.prog 67 #[v, .string ⟨#[49]⟩, .func (.func 10) #[] #[]] w (Rets fun v w' => v = resV (prods zs) ∧ Below w.heap.size w w') := by
  obtain ⟨a, b, o, c, rfl, hi, hq, hc, hm⟩ := hv.open elemStr
  have HZ := Lib.hid hz; have HP := Lib.hid hp; have HL := Lib.hid hz.len; have HE := Lib.hid he
  clear hv hz hp he
  unfold maxLen at hm
  go_enter Tryz.func67, Tryz.ntmps67
  go_wp2
  go_loopw [1, 14] (fun p i wr => ∃ k : Nat, k ≤ xs.length ∧ i = .int .i64 k ∧ Hid (p = .string (txt (prods (zs.take k)))) ∧ Hid (big (prods (zs.take k)) = false) ∧ Below w.heap.size w wr) (fun _ i _ => xs.length - (intOf i).toNat)
  case atStart => exact ⟨0, Nat.zero_le _, rfl, Lib.hid (by rw [one_text]; rfl), Lib.hid g1.2, Below.refl _ _⟩
  case round =>
    obtain ⟨k, hk, rfl, ho, hbg, hb⟩ := hrel
    obtain rfl := ho.out
    clear ho
    by_cases hkn : k < xs.length
    · have hkz : k < zs.length := by rw [HL.out]; exact hkn
      have h1 : wr.cell? ⟨b, o + k, none⟩ = some (.string xs[k]) := hq.at hb (Nat.le_refl _) k hkn
      have hg := HZ.out.get k hkn hkz
      have HG := Lib.hid hg
      have HGP := Lib.hid (show Good (txt (prods (zs.take k))) (prods (zs.take k)) from ⟨rfl, hbg.out⟩)
      have hpt := (prods_take zs k hkz).symm
      have hr := resV_eq (prods (zs.take (k + 1)))
      have HPT := Lib.hid hpt
      cases hbn : big (prods (zs.take (k + 1)))
      · rw [resT_ok hbn, resK_ok hbn] at hr
        have HR := Lib.hid hr; have HB := Lib.hid hbn
        clear hg hpt hr hbn
        go_wp2_with (go_at_call 10; (with_reducible refine (Mul_ok _ _ _ (prods (zs.take k)) zs[k] HGP.out HG.out (HE.out.below hb (Nat.le_refl _))).mono ?_); rintro e w1 ⟨v, rfl, rfl, hb1⟩; rw [HPT.out, HR.out])
        go_roundw
        case rel => exact ⟨k + 1, by omega, by go_num, Lib.hid rfl, HB, hb.trans (hb1.mono hb.size)⟩
        case measure => simp [intOf]; omega
      · have hbt : big (prods zs) = true := big_le_of (by have := prods_pos (zs.take (k + 1)) (fun z hz => HP.out z (List.mem_of_mem_take hz)); omega) (prods_le zs HP.out (k + 1)) hbn
        have HR : Hid (resV (prods (zs.take (k + 1))) = .tuple #[.string ⟨#[]⟩, .int .i64 11]) := Lib.hid (by unfold resV; rw [hbn]; rfl)
        have HR2 : Hid (resV (prods zs) = .tuple #[.string ⟨#[]⟩, .int .i64 11]) := Lib.hid (by unfold resV; rw [hbt]; rfl)
        clear hg hpt hr hbn hbt
        go_wp2_with (go_at_call 10; (with_reducible refine (Mul_ok _ _ _ (prods (zs.take k)) zs[k] HGP.out HG.out (HE.out.below hb (Nat.le_refl _))).mono ?_); rintro e w1 ⟨v, rfl, rfl, hb1⟩; rw [HPT.out, HR.out])
        go_ret2
        exact ⟨_, rfl, by rw [HR2.out]; rfl, hb.trans (hb1.mono hb.size)⟩
    · obtain rfl : k = xs.length := by omega
      have e1 : zs.take xs.length = zs := by rw [← HL.out, List.take_length]
      rw [e1] at hbg ⊢
      have HR : Hid (resV (prods zs) = .tuple #[.string (txt (prods zs)), .int .i64 0]) := Lib.hid (by rw [resV_eq, resT_ok hbg.out, resK_ok hbg.out])
      clear e1
      go_wp2
      go_ret2
      exact ⟨_, rfl, by rw [HR.out]; rfl, hb⟩

theorem lcm_div (m k : Nat) : m / Nat.gcd m k * k = Nat.lcm m k := by
  rw [Nat.lcm, Nat.div_mul_right_comm (Nat.gcd_dvd_left m k)]
set_option maxHeartbeats 1000000 in
theorem multiple_any (w : World) (m k K : Nat) (hm : Sm (txt m) m K) (hk : Sm (txt k) k K) (hK : 4 * K + 1 ≤ 1000) (h0 : 0 < m) (he : Env w) :
    Calls Tryz.prog 75 #[.string (txt m), .string (txt k)] w (Rets fun v w' => v = .tuple #[.string (txt (Nat.lcm m k)), .int .i64 0] ∧ Below w.heap.size w w') := by
  have HE := Lib.hid he
  obtain ⟨G, hG⟩ : ∃ G : Int, ((Nat.gcd (m : Int).natAbs (k : Int).natAbs : Nat) : Int) = G := ⟨_, rfl⟩
  have hG2 : ((Nat.gcd m k : Nat) : Int) = G := by rw [← hG]; simp
  obtain ⟨Q, hQ⟩ : ∃ Q : Int, Int.fdiv (m : Int) G = Q := ⟨_, rfl⟩
  have hQ2 : ((m / Nat.gcd m k : Nat) : Int) = Q := by rw [← hQ, ← hG2, Int.fdiv_eq_ediv_of_nonneg _ (by omega)]; rfl
  obtain ⟨L, hL⟩ : ∃ L : Int, ((Nat.lcm m k : Nat) : Int) = L := ⟨_, rfl⟩
  have e3 : Q * (k : Int) = L := by rw [← hL, ← hQ2, ← Int.natCast_mul, lcm_div]
  have E1 := Lib.hid hG; have E2 := Lib.hid hQ; have E3 := Lib.hid e3; have E4 := Lib.hid hL
  have HG := Lib.hid (show G ≠ 0 by have := Nat.gcd_pos_of_pos_left k h0; omega)
  clear he hG hG2 hQ hQ2 hL e3
  have b := Below.refl w.heap.size w
  go_enter Tryz.func75, Tryz.ntmps75
  go_wp2_with (first
    | (go_at_call 69; (with_reducible refine (gcd_sm _ _ _ _ _ K K hm hk (by omega) (HE.out.below b (Nat.le_refl _))).mono ?_); rintro e w' ⟨v, rfl, rfl, hb, hS⟩; have b := b.trans (hb.mono b.size); rw [E1.out] at hS ⊢; have HS := Lib.hid hS; clear hS)
    | (go_at_call 74; (with_reducible refine (quo_sm _ _ _ _ _ K (K + K) hm HS.out HG.out (by omega) (HE.out.below b (Nat.le_refl _))).mono ?_); rintro e w' ⟨v, rfl, rfl, hb, hS⟩; have b := b.trans (hb.mono b.size); rw [E2.out] at hS ⊢; have HQ := Lib.hid hS; clear hS)
    | (go_at_call 10; (with_reducible refine (mul_sm _ _ _ _ _ (K + (K + K) + 1) K HQ.out hk (by omega) (HE.out.below b (Nat.le_refl _))).mono ?_); rintro e w' ⟨v, rfl, rfl, hb, hS⟩; have b := b.trans (hb.mono b.size); rw [E3.out]))
  go_ret2
  exact ⟨_, rfl, by rw [E4.out]; rfl, b⟩

theorem lcms_le (qs : List Nat) (L k : Nat) (hL : 0 < L) (hd : ∀ q ∈ qs, q ∣ L) : lcms (qs.take k) ≤ L :=
  Nat.le_of_dvd hL ((lcms_dvd _ _).2 fun q hq => hd q (List.mem_of_mem_take hq))
theorem sm_nat {m L K : Nat} (h : m ≤ L) (hK : dn (L : Int) ≤ K) (hK2 : K ≤ 1000) : Sm (txt (m : Int)) m K := by
  have : dn (m : Int) ≤ dn (L : Int) := dn_le (by omega)
  exact ⟨⟨rfl, big_dn (by omega)⟩, by omega⟩
set_option maxHeartbeats 1000000 in
theorem folded_lcm (w : World) (v : Value) (xs : List ByteArray) (qs : List Nat) (L K : Nat) (hv : Sl eS w v xs) (hx : xs = qs.map fun q => txt (q : Nat)) (hd : ∀ q ∈ qs, q ∣ L) (hL : 0 < L) (hK : dn (L : Int) ≤ K) (hK2 : 4 * K + 1 ≤ 1000) (he : Env w) :
    Calls Tryz.prog 67 #[v, .string ⟨#[49]⟩, .func (.func 75) #[] #[]] w (Rets fun v w' => v = .tuple #[.string (txt (lcms qs : Nat)), .int .i64 0] ∧ Below w.heap.size w w') := by
  obtain ⟨a, b, o, c, rfl, hi, hq, hc, hm⟩ := hv.open elemStr
  have hq0 : ∀ q ∈ qs, 0 < q := fun q hq => Nat.pos_of_dvd_of_pos (hd q hq) hL
  have HD := Lib.hid hd; have HE := Lib.hid he; have HQ0 := Lib.hid hq0; have HK := Lib.hid hK; have HX := Lib.hid hx
  have HL := Lib.hid (show qs.length = xs.length by rw [hx, List.length_map])
  clear hv hd he hq0 hK hx
  unfold maxLen at hm
  go_enter Tryz.func67, Tryz.ntmps67
  go_wp2
  go_loopw [1, 14] (fun p i wr => ∃ k : Nat, k ≤ xs.length ∧ i = .int .i64 k ∧ Hid (p = .string (txt (lcms (qs.take k) : Nat))) ∧ Below w.heap.size w wr) (fun _ i _ => xs.length - (intOf i).toNat)
  case atStart => exact ⟨0, Nat.zero_le _, rfl, Lib.hid (by rw [one_text]; rfl), Below.refl _ _⟩
  case round =>
    obtain ⟨k, hk, rfl, ho, hb⟩ := hrel
    obtain rfl := ho.out
    clear ho
    by_cases hkn : k < xs.length
    · have hkz : k < qs.length := by rw [HL.out]; exact hkn
      have h1 : wr.cell? ⟨b, o + k, none⟩ = some (.string (txt (qs[k] : Nat))) := by
        have h2 := hq.at hb (Nat.le_refl _) k hkn
        have h3 : xs[k] = txt (qs[k] : Nat) := by simp [HX.out]
        rw [h2, h3]; rfl
      have hmq := List.getElem_mem hkz
      have HPT := Lib.hid (lcms_take qs k hkz).symm
      have HP := Lib.hid (lcms_pos (qs.take k) (fun q hq => HQ0.out q (List.mem_of_mem_take hq)))
      have HS1 := Lib.hid (sm_nat (lcms_le qs L k hL HD.out) HK.out (by omega))
      have HS2 := Lib.hid (sm_nat (Nat.le_of_dvd hL (HD.out _ hmq)) HK.out (by omega))
      clear hmq
      go_wp2_with (go_at_call 75; (with_reducible refine (multiple_any _ (lcms (qs.take k)) qs[k] K HS1.out HS2.out hK2 HP.out (HE.out.below hb (Nat.le_refl _))).mono ?_); rintro e w1 ⟨v, rfl, rfl, hb1⟩; rw [HPT.out])
      go_roundw
      case rel => exact ⟨k + 1, by omega, by go_num, Lib.hid rfl, hb.trans (hb1.mono hb.size)⟩
      case measure => simp [intOf]; omega
    · obtain rfl : k = xs.length := by omega
      have e1 : qs.take xs.length = qs := by rw [← HL.out, List.take_length]
      rw [e1]
      clear e1
      go_wp2
      go_ret2
      exact ⟨_, rfl, rfl, hb⟩
end Go.Proofs.YtajkhbpffakmfaaGreatDoor

namespace Go.Proofs.YtajkhbpffakmfaaGreatDoor
open Go.RowKit
set_option maxRecDepth 100000

theorem txt_head (z : Int) : ∃ (c : UInt8) (r : List UInt8), txt z = ⟨(c :: r).toArray⟩ ∧ ((c.toNat : Int) == 45) = decide (z < 0) := by
  have hp := pre_itoa z
  have hne := itoa_ne z
  unfold txt
  generalize Lib.itoa z = l at *
  rcases l with _ | ⟨c, r⟩
  · exact absurd rfl hne
  · refine ⟨c, r, rfl, ?_⟩
    rw [← hp]
    by_cases h : c = 45
    · subst h; rfl
    · have : c.toNat ≠ 45 := fun e => h (UInt8.toNat_inj.1 e)
      simp [Lib.hasPrefix, List.isPrefixOf]
      rw [Bool.eq_iff_iff]
      simp
      constructor
      · intro e; omega
      · intro e; exact absurd e.symm h
/-- The first error of an element of a group. -/
def mstep : List ByteArray → List ByteArray → Int
  | n :: g, s :: l => if chk s.data.toList = 0 then (if num s < 0 ∨ num n ≤ num s then 2 else mstep g l) else chk s.data.toList
  | _, _ => 0
def mchk (g a : List ByteArray) : Int := if a.length = g.length then mstep g a else 8
/-- The numbers of an element of a right group. -/
def Elt (zs us : List Int) : Prop := ∀ i (h : i < zs.length) (h' : i < us.length), 0 ≤ us[i] ∧ us[i] < zs[i]
theorem mstep_good : ∀ (g a : List ByteArray) (zs : List Int), Goods g zs → a.length = g.length → mstep g a = 0 → ∃ us, Goods a us ∧ Elt zs us
  | [], [], _, _, _, _ => ⟨[], trivial, fun i h h' => absurd h' (by simp)⟩
  | n :: g, s :: l, z :: zs, hz, hl, h => by
    rw [mstep] at h
    by_cases h1 : chk s.data.toList = 0
    · rw [if_pos h1] at h
      by_cases h2 : num s < 0 ∨ num n ≤ num s
      · rw [if_pos h2] at h; exact absurd h (by decide)
      · rw [if_neg h2] at h
        obtain ⟨us, ha, he⟩ := mstep_good g l zs hz.2 (by simpa using hl) h
        refine ⟨num s :: us, ⟨good_num h1, ha⟩, fun i hi hi' => ?_⟩
        cases i with
        | zero => have := hz.1.num; simp; omega
        | succ i => simpa using he i (by simpa using hi) (by simpa using hi')
    · rw [if_neg h1] at h; exact absurd h h1
theorem elt_of {g a : List ByteArray} {zs : List Int} (hg : Goods g zs) (h : mchk g a = 0) : a.length = g.length ∧ ∃ us, Goods a us ∧ Elt zs us := by
  unfold mchk at h
  by_cases hl : a.length = g.length
  · rw [if_pos hl] at h; exact ⟨hl, mstep_good g a zs hg hl h⟩
  · rw [if_neg hl] at h; exact absurd h (by decide)
theorem mstep_at (g a : List ByteArray) (k : Nat) (hg : k < g.length) (ha : k < a.length) : mstep (g.drop k) (a.drop k) = if chk a[k].data.toList = 0 then (if num a[k] < 0 ∨ num g[k] ≤ num a[k] then 2 else mstep (g.drop (k + 1)) (a.drop (k + 1))) else chk a[k].data.toList := by
  rw [List.drop_eq_getElem_cons hg, List.drop_eq_getElem_cons ha, mstep]
theorem mstep_end (g a : List ByteArray) : mstep (g.drop a.length) (a.drop a.length) = 0 := by
  rw [List.drop_length]; cases g.drop a.length <;> rfl

set_option maxHeartbeats 2000000 in
theorem member_any (w : World) (v u : Value) (g a : List ByteArray) (zs : List Int) (hv : Sl eS w v g) (hu : Sl eS w u a) (hz : Goods g zs) (hl : g.length ≤ 16) (hsz : a.length = g.length → ∀ s ∈ a, s.size ≤ 1000000) :
    Calls Tryz.prog 72 #[v, u] w (Rets fun v w' => v = .int .i64 (mchk g a) ∧ Below w.heap.size w w') := by
  obtain ⟨ad, b, o, c, rfl, hi, hp, hc, hm⟩ := hv.open elemStr
  obtain ⟨ad', b', o', c', rfl, hi', hp', hc', hm'⟩ := hu.open elemStr
  have HZ := Lib.hid hz; have HLZ := Lib.hid hz.len
  clear hv hu hz
  unfold maxLen at hm hm'
  by_cases hle : a.length = g.length
  · have hs := hsz hle
    have HS := Lib.hid hs
    have HM := Lib.hid (show mchk g a = mstep g a by unfold mchk; rw [if_pos hle])
    have hla : a.length ≤ 16 := by omega
    have hne : ((a.length : Int) != (g.length : Int)) = false := by simp [hle]
    have HLE := Lib.hid hle
    clear hsz hs hle
    go_enter Tryz.func72, Tryz.ntmps72
    go_wp2
    go_loopw [15] (fun i wr => ∃ k : Nat, k ≤ a.length ∧ i = .int .i64 k ∧ Hid (mchk g a = mstep (g.drop k) (a.drop k)) ∧ Below w.heap.size w wr) (fun i _ => a.length - (intOf i).toNat)
    case atStart => exact ⟨0, Nat.zero_le _, rfl, Lib.hid (by rw [HM.out]; rfl), Below.refl _ _⟩
    case round =>
      obtain ⟨k, hk, rfl, hA, hb⟩ := hrel
      by_cases hkn : k < a.length
      · have hkg : k < g.length := by rw [← HLE.out]; exact hkn
        have h1 : wr.cell? ⟨b', o' + k, none⟩ = some (.string a[k]) := hp'.at hb (Nat.le_refl _) k hkn
        have hV := hA.out
        rw [mstep_at g a k hkg hkn] at hV
        have hsk := HS.out _ (List.getElem_mem hkn)
        have hgz := HZ.out.get k hkg (by rw [HLZ.out]; exact hkg)
        have hgn := hgz.num
        by_cases h0 : chk a[k].data.toList = 0
        · rw [if_pos h0] at hV
          have hG := good_num h0
          obtain ⟨y, hy⟩ : ∃ y, num a[k] = y := ⟨_, rfl⟩
          obtain ⟨n, hn⟩ : ∃ n, zs[k]'(by rw [HLZ.out]; exact hkg) = n := ⟨_, rfl⟩
          rw [hn] at hgz hgn
          rw [hy] at hG hV
          rw [hgn] at hV
          obtain ⟨ch, rs, ht, hch⟩ := txt_head y
          have hax : a[k] = ⟨(ch :: rs).toArray⟩ := by rw [hG.eq, ht]
          rw [hax] at h1 hG h0 hsk
          have hs0 : ∀ h, (({ data := (ch :: rs).toArray } : ByteArray)[0]'h) = ch := fun _ => rfl
          have HC := Lib.hid h0; have HG := Lib.hid hG; have HSK := Lib.hid hsk; have HGZ := Lib.hid hgz
          have hcg : ∀ w', Below w.heap.size w w' → w'.cell? ⟨b, o + k, none⟩ = some (.string g[k]) := fun w' hb' => hp.at hb' (Nat.le_refl _) k hkg
          have HCG := Lib.hid hcg
          by_cases hneg : y < 0
          · rw [if_pos (.inl hneg)] at hV
            have HV := Lib.hid hV
            have hc45 : ((ch.toNat : Int) == 45) = true := by rw [hch]; simp [hneg]
            clear hV hG h0 hsk hgz hgn hy hn ht hch hax hcg hneg
            go_wp2_with (go_at_call 45; (with_reducible refine (check_any _ _ HSK.out).mono ?_); rintro e w1 ⟨v, rfl, rfl, hb1⟩; rw [HC.out]; have b1 := hb.trans (hb1.mono hb.size); have h9 := HCG.out _ b1)
            go_ret
            exact ⟨_, rfl, by rw [HV.out]; rfl, b1⟩
          · have hc45 : ((ch.toNat : Int) == 45) = false := by rw [hch]; simp [hneg]
            by_cases hbig : n ≤ y
            · rw [if_pos (.inr hbig)] at hV
              have HV := Lib.hid hV
              obtain ⟨u, hu, hu0⟩ : ∃ u, (y - n).sign = u ∧ 0 ≤ u := ⟨_, rfl, by
                rcases Int.lt_or_eq_of_le hbig with h | h
                · rw [Int.sign_eq_one_of_pos (by omega)]; omega
                · rw [h, Int.sub_self]; decide⟩
              have HU := Lib.hid hu
              clear hV hG h0 hsk hgz hgn hy hn ht hch hax hcg hneg hbig hu
              go_wp2_with (first
                | (go_at_call 45; (with_reducible refine (check_any _ _ HSK.out).mono ?_); rintro e w1 ⟨v, rfl, rfl, hb1⟩; rw [HC.out]; have b1 := hb.trans (hb1.mono hb.size); have h9 := HCG.out _ b1)
                | (go_at_call 57; (with_reducible refine (aorder_any _ _ _ y n HG.out HGZ.out).mono ?_); rintro e w2 ⟨v, rfl, rfl, hb2⟩; rw [HU.out]; have b2 := b1.trans (hb2.mono b1.size)))
              go_ret
              exact ⟨_, rfl, by rw [HV.out]; rfl, b2⟩
            · rw [if_neg (by omega)] at hV
              have HV := Lib.hid hV
              have HU := Lib.hid (show (y - n).sign = -1 from Int.sign_eq_neg_one_of_neg (by omega))
              clear hV hG h0 hsk hgz hgn hy hn ht hch hax hcg hneg hbig
              go_wp2_with (first
                | (go_at_call 45; (with_reducible refine (check_any _ _ HSK.out).mono ?_); rintro e w1 ⟨v, rfl, rfl, hb1⟩; rw [HC.out]; have b1 := hb.trans (hb1.mono hb.size); have h9 := HCG.out _ b1)
                | (go_at_call 57; (with_reducible refine (aorder_any _ _ _ y n HG.out HGZ.out).mono ?_); rintro e w2 ⟨v, rfl, rfl, hb2⟩; rw [HU.out]; have b2 := b1.trans (hb2.mono b1.size)))
              go_roundw
              case rel => exact ⟨k + 1, by omega, by go_num, HV, b2⟩
              case measure => simp [intOf]; omega
        · rw [if_neg h0] at hV
          have hne : (chk a[k].data.toList != 0) = true := by simp [h0]
          have HV := Lib.hid hV
          clear hV h0
          go_wp2_with (go_at_call 45; (with_reducible refine (check_any _ _ hsk).mono ?_); rintro e w1 ⟨v, rfl, rfl, hb1⟩; have b1 := hb.trans (hb1.mono hb.size))
          go_ret
          exact ⟨_, rfl, by rw [HV.out]; rfl, b1⟩
      · obtain rfl : k = a.length := by omega
        have HV := Lib.hid (show mchk g a = 0 by rw [hA.out, mstep_end])
        go_wp2
        go_ret
        exact ⟨_, rfl, by rw [HV.out]; rfl, hb⟩
  · have HM := Lib.hid (show mchk g a = 8 by unfold mchk; rw [if_neg hle])
    have hne : ((a.length : Int) != (g.length : Int)) = true := by simp; omega
    clear hsz
    go_enter Tryz.func72, Tryz.ntmps72
    go_wp2
    go_ret
    exact ⟨_, rfl, by rw [HM.out]; rfl, Below.refl _ _⟩
end Go.Proofs.YtajkhbpffakmfaaGreatDoor

namespace Go.Proofs.YtajkhbpffakmfaaGreatDoor
open Go.RowKit
set_option maxRecDepth 100000

set_option maxHeartbeats 1000000 in
theorem each_orders (w : World) (v cap : Value) (xs rs : List ByteArray) (hv : Sl eS w v xs) (hl : xs.length ≤ 1000000) (hr : rs.length = xs.length)
    (hF : ∀ k (hk : k < xs.length) (hk' : k < rs.length) w', Below w.heap.size w w' → Calls Tryz.prog 73 #[.int .i64 k, .string xs[k], cap] w' (Rets fun v w'' => v = .string rs[k] ∧ Below w'.heap.size w' w'')) :
    Calls Tryz.prog 60 #[v, .func (.func 73) #[] #[cap]] w (Rets fun v' w' => Sl eS w' v' rs ∧ Below w.heap.size w w') := by
  obtain ⟨a, b, o, c, rfl, hi, hp, hc, hm⟩ := hv.open elemStr
  have HF := Lib.hid hF; have HR := Lib.hid hr
  clear hv hF
  unfold maxLen at hm
  go_enter Tryz.func60, Tryz.ntmps60
  go_wp2_with (at_make; refine mkN elemStr rfl _ _ rfl xs.length rfl rfl (by omega) (by omega) (by omega) (by unfold maxLen; omega) (Below.refl _ _) (Nat.le_refl _) rfl ?_; intro w1 hown hb hb2; clear hb2)
  have hown := ownsRow_cast hown rfl (show List.replicate xs.length (Value.string ⟨#[]⟩) = (rs.take 0 ++ List.replicate (xs.length - 0) (⟨#[]⟩ : ByteArray)).map eS by simp [eS])
  go_loopw [13] (fun i wr => ∃ k : Nat, k ≤ xs.length ∧ i = .int .i64 k ∧ wr.ownsRow w.heap.size 26 1 (.slice (some ⟨w.heap.size, 0, none⟩) xs.length xs.length) xs.length ((rs.take k ++ List.replicate (xs.length - k) (⟨#[]⟩ : ByteArray)).map eS) ∧ Below w.heap.size w wr) (fun i _ => xs.length - (intOf i).toNat)
  case atStart => exact ⟨0, Nat.zero_le _, rfl, hown, hb⟩
  case round =>
    clear hown hb
    obtain ⟨k, hk, rfl, hown, hb⟩ := hrel
    by_cases hkn : k < xs.length
    · have hkr : k < rs.length := by rw [HR.out]; exact hkn
      have h1 : wr.cell? ⟨b, o + k, none⟩ = some (.string xs[k]) := hp.at hb (Nat.le_refl _) k hkn
      have HO := Lib.hid hown
      clear hown
      go_wp2_with ((with_reducible refine (HF.out k hkn hkr _ hb).mono ?_); rintro e w2 ⟨v, rfl, rfl, hb2⟩; have HO2 := Lib.hid (own_below HO.out hb2 (Nat.le_refl _)); obtain ⟨u, -, hcu, hfr⟩ := own_at HO2.out hkn; have hb3 := hb.trans (hb2.mono hb.size))
      go_roundw
      case rel =>
        have R := fun (q : Value) (hq : q = eS rs[k]) => fill_own HO2.out hb3 (Nat.le_refl _) (by simp; omega) hkn rs[k] q hq
        rw [← List.take_succ_eq_append_getElem hkr] at R
        exact ⟨k + 1, by omega, by go_num, (R _ rfl).1, (R _ rfl).2⟩
      case measure => simp [intOf]; omega
    · obtain rfl : k = xs.length := by omega
      rw [List.take_of_length_le (show rs.length ≤ xs.length by rw [HR.out]; exact Nat.le_refl _), Nat.sub_self, List.replicate_zero, List.append_nil] at hown
      have HS := Lib.hid (show Sl eS wr _ rs from Sl.ofOwns hown)
      clear hown
      go_wp2
      go_ret
      exact ⟨_, rfl, HS.out, hb⟩
set_option maxHeartbeats 1000000 in
theorem each_counts (w : World) (v cap : Value) (xs rs : List ByteArray) (hv : Sl eS w v xs) (hl : xs.length ≤ 1000000) (hr : rs.length = xs.length)
    (hF : ∀ k (hk : k < xs.length) (hk' : k < rs.length) w', Below w.heap.size w w' → Calls Tryz.prog 68 #[.int .i64 k, .string xs[k], cap] w' (Rets fun v w'' => v = .string rs[k] ∧ Below w'.heap.size w' w'')) :
    Calls Tryz.prog 60 #[v, .func (.func 68) #[] #[cap]] w (Rets fun v' w' => Sl eS w' v' rs ∧ Below w.heap.size w w') := by
  obtain ⟨a, b, o, c, rfl, hi, hp, hc, hm⟩ := hv.open elemStr
  have HF := Lib.hid hF; have HR := Lib.hid hr
  clear hv hF
  unfold maxLen at hm
  go_enter Tryz.func60, Tryz.ntmps60
  go_wp2_with (at_make; refine mkN elemStr rfl _ _ rfl xs.length rfl rfl (by omega) (by omega) (by omega) (by unfold maxLen; omega) (Below.refl _ _) (Nat.le_refl _) rfl ?_; intro w1 hown hb hb2; clear hb2)
  have hown := ownsRow_cast hown rfl (show List.replicate xs.length (Value.string ⟨#[]⟩) = (rs.take 0 ++ List.replicate (xs.length - 0) (⟨#[]⟩ : ByteArray)).map eS by simp [eS])
  go_loopw [13] (fun i wr => ∃ k : Nat, k ≤ xs.length ∧ i = .int .i64 k ∧ wr.ownsRow w.heap.size 26 1 (.slice (some ⟨w.heap.size, 0, none⟩) xs.length xs.length) xs.length ((rs.take k ++ List.replicate (xs.length - k) (⟨#[]⟩ : ByteArray)).map eS) ∧ Below w.heap.size w wr) (fun i _ => xs.length - (intOf i).toNat)
  case atStart => exact ⟨0, Nat.zero_le _, rfl, hown, hb⟩
  case round =>
    clear hown hb
    obtain ⟨k, hk, rfl, hown, hb⟩ := hrel
    by_cases hkn : k < xs.length
    · have hkr : k < rs.length := by rw [HR.out]; exact hkn
      have h1 : wr.cell? ⟨b, o + k, none⟩ = some (.string xs[k]) := hp.at hb (Nat.le_refl _) k hkn
      have HO := Lib.hid hown
      clear hown
      go_wp2_with ((with_reducible refine (HF.out k hkn hkr _ hb).mono ?_); rintro e w2 ⟨v, rfl, rfl, hb2⟩; have HO2 := Lib.hid (own_below HO.out hb2 (Nat.le_refl _)); obtain ⟨u, -, hcu, hfr⟩ := own_at HO2.out hkn; have hb3 := hb.trans (hb2.mono hb.size))
      go_roundw
      case rel =>
        have R := fun (q : Value) (hq : q = eS rs[k]) => fill_own HO2.out hb3 (Nat.le_refl _) (by simp; omega) hkn rs[k] q hq
        rw [← List.take_succ_eq_append_getElem hkr] at R
        exact ⟨k + 1, by omega, by go_num, (R _ rfl).1, (R _ rfl).2⟩
      case measure => simp [intOf]; omega
    · obtain rfl : k = xs.length := by omega
      rw [List.take_of_length_le (show rs.length ≤ xs.length by rw [HR.out]; exact Nat.le_refl _), Nat.sub_self, List.replicate_zero, List.append_nil] at hown
      have HS := Lib.hid (show Sl eS wr _ rs from Sl.ofOwns hown)
      clear hown
      go_wp2
      go_ret
      exact ⟨_, rfl, HS.out, hb⟩
end Go.Proofs.YtajkhbpffakmfaaGreatDoor

namespace Go.Proofs.YtajkhbpffakmfaaGreatDoor
open Go.RowKit
set_option maxRecDepth 100000

abbrev tx (n : Nat) : ByteArray := txt (n : Int)
/-- A right group, all of whose numbers divide L, and an element; in natural numbers. -/
structure Pos (g : List ByteArray) (ns : List Nat) (L K : Nat) : Prop where
  eq : g = ns.map tx
  two : ∀ n ∈ ns, 2 ≤ n
  dvd : ∀ n ∈ ns, n ∣ L
  pos : 0 < L
  dn : dn (L : Int) ≤ K
  K : 4 * K + 1 ≤ 1000
theorem Pos.len {g : List ByteArray} {ns : List Nat} {L K : Nat} (h : Pos g ns L K) : ns.length = g.length := by rw [h.eq, List.length_map]
theorem Pos.get {g : List ByteArray} {ns : List Nat} {L K : Nat} (h : Pos g ns L K) (k : Nat) (hk : k < g.length) : ∃ n, g[k] = tx n ∧ ns[k]? = some n ∧ 2 ≤ n ∧ n ∣ L ∧ Sm (tx n) n K := by
  have hk' : k < ns.length := by rw [h.len]; exact hk
  have hm := List.getElem_mem hk'
  exact ⟨ns[k], by simp [h.eq], List.getElem?_eq_getElem hk', h.two _ hm, h.dvd _ hm, sm_nat (Nat.le_of_dvd h.pos (h.dvd _ hm)) h.dn (by have := h.K; omega)⟩

set_option maxHeartbeats 400000 in
theorem ord_clos (w : World) (k n y K bx c : Nat) (ad : Option Addr) (us : List ByteArray) (hs : Sm (tx n) n K) (hn : 0 < n) (hcell : w.cell? ⟨bx, 0, none⟩ = some (.slice ad us.length c)) (hv : Sl eS w (.slice ad us.length c) us) (hk : k < us.length) (hy : us[k] = tx y) (hs' : Sm (tx y) y K) (hK : 4 * K + 1 ≤ 1000) (he : Env w) :
    Calls Tryz.prog 73 #[.int .i64 k, .string (tx n), .pointer (some ⟨bx, 0, none⟩)] w (Rets fun v w' => v = .string (tx (n / Nat.gcd n y)) ∧ Below w.heap.size w w') := by
  obtain ⟨ad, b, o, c, e, hi, hp, hc, hm⟩ := hv.open elemStr
  cases e
  have h1 : w.cell? ⟨b, o + k, none⟩ = some (.string (tx y)) := by rw [← hy]; exact hp.2 k hk
  obtain ⟨G, hG⟩ : ∃ G : Int, ((Nat.gcd (n : Int).natAbs (y : Int).natAbs : Nat) : Int) = G := ⟨_, rfl⟩
  have hG2 : ((Nat.gcd n y : Nat) : Int) = G := by rw [← hG]; simp
  obtain ⟨Q, hQ⟩ : ∃ Q : Int, Int.fdiv (n : Int) G = Q := ⟨_, rfl⟩
  have hQ2 : ((n / Nat.gcd n y : Nat) : Int) = Q := by rw [← hQ, ← hG2, Int.fdiv_eq_ediv_of_nonneg _ (by omega)]; rfl
  have E1 := Lib.hid hG; have E2 := Lib.hid hQ; have E3 := Lib.hid hQ2
  have HG := Lib.hid (show G ≠ 0 by have := Nat.gcd_pos_of_pos_left y hn; omega)
  have HE := Lib.hid he; have HS := Lib.hid hs; have HS' := Lib.hid hs'
  clear hG hG2 hQ hQ2 he hv hs hs' hy
  have b0 := Below.refl w.heap.size w
  go_enter Tryz.func73, Tryz.ntmps73
  go_wp2_with (first
    | (go_at_call 69; (with_reducible refine (gcd_sm _ _ _ _ _ K K HS.out HS'.out (by omega) (HE.out.below b0 (Nat.le_refl _))).mono ?_); rintro e w' ⟨v, rfl, rfl, hb, hS⟩; have b0 := b0.trans (hb.mono b0.size); rw [E1.out] at hS ⊢; have HGS := Lib.hid hS; clear hS)
    | (go_at_call 74; (with_reducible refine (quo_sm _ _ _ _ _ K (K + K) HS.out HGS.out HG.out (by omega) (HE.out.below b0 (Nat.le_refl _))).mono ?_); rintro e w' ⟨v, rfl, rfl, hb, hS⟩; have b0 := b0.trans (hb.mono b0.size); rw [E2.out]))
  go_ret
  exact ⟨_, rfl, by rw [← E3.out]; rfl, b0⟩

/-- The quotients whose least common multiple is an element's order. -/
def quos (ns ys : List Nat) : List Nat := List.zipWith (fun n y => n / Nat.gcd n y) ns ys

set_option maxHeartbeats 2000000 in
theorem OrderOf_ok (w : World) (v u : Value) (g a : List ByteArray) (zs : List Int) (ns ys : List Nat) (L K : Nat) (hv : Sl eS w v g) (hu : Sl eS w u a) (hz : Goods g zs) (hg : gchk g = 0) (hm : mchk g a = 0) (hP : Pos g ns L K) (ha : a = ys.map tx) (hlt : ∀ i (h : i < ns.length) (h' : i < ys.length), ys[i] < ns[i])
    (hl : g.length ≤ 16) (hla : a.length = g.length) (hsz : ∀ s ∈ g, s.size ≤ 1000000) (hsz' : ∀ s ∈ a, s.size ≤ 1000000) (he : Env w) :
    Calls Tryz.prog 30 #[v, u] w (Rets fun r w' => r = .tuple #[.string (tx (lcms (quos ns ys))), .int .i64 0] ∧ Below w.heap.size w w') := by
  have HU := Lib.hid hu; have HV := Lib.hid hv
  obtain ⟨ad, b, o, c, rfl, hi, hp, hcc, hmm⟩ := hv.open elemStr
  obtain ⟨ad', b', o', c', rfl, hi', hp', hcc', hmm'⟩ := hu.open elemStr
  have HZ := Lib.hid hz; have HG := Lib.hid hg; have HM := Lib.hid hm; have HP := Lib.hid hP; have HSZ := Lib.hid hsz; have HSZ' := Lib.hid hsz'; have HE := Lib.hid he; have HLT := Lib.hid hlt; have HA := Lib.hid ha
  have hmf : ∀ (fn : Fn) (first cap : Array Value) (w : World), (Instr.makeFunc fn first cap).run Tryz.prog w = .ok (.func fn first cap) w := fun _ _ _ _ => rfl
  have hk0 := Blk.new w [.slice ad' a.length c'] 22
  have hb0 : Below w.heap.size w (w.alloc (.cells #[.slice ad' a.length c'] 22)) := (Below.refl _ w).alloc (Nat.le_refl _) _
  have HK0 := Lib.hid hk0; have HB0 := Lib.hid hb0
  have HQL := Lib.hid (show (quos ns ys).length = g.length by unfold quos; rw [List.length_zipWith, hP.len, show ys.length = a.length by rw [ha, List.length_map], hla, Nat.min_self])
  have hQM : ((quos ns ys).map tx).length = g.length := by rw [List.length_map, HQL.out]
  have hclos : ∀ w', Env w' → Sl eS w' (.slice ad' a.length c') a → Blk w' w.heap.size [.slice ad' a.length c'] 22 → ∀ k (hk : k < g.length) (hk' : k < ((quos ns ys).map tx).length),
      Calls Tryz.prog 73 #[.int .i64 k, .string g[k], .pointer (some ⟨w.heap.size, 0, none⟩)] w' (Rets fun v w'' => v = .string ((quos ns ys).map tx)[k] ∧ Below w'.heap.size w' w'') := by
    intro w' he' hs' hk0' k hk hk'
    obtain ⟨n, hn, hns, hn2, hnd, hsm⟩ := hP.get k hk
    have hka : k < a.length := by rw [hla]; exact hk
    have hky : k < ys.length := by have := congrArg List.length ha; rw [List.length_map] at this; omega
    have hkn : k < ns.length := by rw [hP.len]; exact hk
    have hay : a[k] = tx ys[k] := by simp [ha]
    have hnn : ns[k] = n := by rw [List.getElem?_eq_getElem hkn] at hns; exact Option.some.inj hns
    have hyl := hlt k hkn hky
    rw [hnn] at hyl
    have hsy : Sm (tx ys[k]) (ys[k] : Nat) K := sm_nat (Nat.le_trans (Nat.le_of_lt hyl) (Nat.le_of_dvd hP.pos hnd)) hP.dn (by have := hP.K; omega)
    have e : ((quos ns ys).map tx)[k] = tx (n / Nat.gcd n ys[k]) := by simp [quos, hnn]
    rw [e, hn]
    exact ord_clos w' k n ys[k] K w.heap.size c' ad' a hsm (by omega) (hk0'.cell 0 _ rfl) hs' hka hay hsy hP.K he'
  have hqd : ∀ q ∈ quos ns ys, q ∣ L := fun q hq => by
    obtain ⟨i, hi, rfl⟩ := List.getElem_of_mem hq
    have hkn : i < ns.length := by have := hP.len; have := HQL.out; omega
    simp only [quos, List.getElem_zipWith]
    exact Nat.dvd_trans (Nat.div_dvd_of_dvd (Nat.gcd_dvd_left _ _)) (hP.dvd _ (List.getElem_mem hkn))
  have HQM := Lib.hid hQM; have HCL := Lib.hid hclos; have HQD := Lib.hid hqd
  clear hQM hclos hqd
  clear hv hu hz hg hm hP hsz hsz' he hlt ha hk0 hb0 hp hp' hla
  go_enter Tryz.func30, Tryz.ntmps30
  go_wp2_with (first
    | (go_at_call 56; (with_reducible refine (ACheck_any _ _ g (HV.out.below HB0.out (Nat.le_refl _)) (fun _ => HSZ.out) (HE.out.below HB0.out (Nat.le_refl _))).mono ?_); rintro e w1 ⟨v, rfl, rfl, hb1⟩; rw [HG.out]; have b1 := HB0.out.trans (hb1.mono HB0.out.size); have HK1 := Lib.hid (HK0.out.below hb1 (Nat.le_refl _)); have hc1 := HK1.out.cell 0 _ rfl)
    | (go_at_call 72; (with_reducible refine (member_any _ _ _ g a zs (HV.out.below b1 (Nat.le_refl _)) (HU.out.below b1 (Nat.le_refl _)) HZ.out hl (fun _ => HSZ'.out)).mono ?_); rintro e w2 ⟨v, rfl, rfl, hb2⟩; rw [HM.out]; have b2 := b1.trans (hb2.mono b1.size); have HK2 := Lib.hid (HK1.out.below hb2 (Nat.le_refl _)))
    | (go_at_call 60; (with_reducible refine (each_orders _ _ _ g ((quos ns ys).map tx) (HV.out.below b2 (Nat.le_refl _)) (by omega) HQM.out (fun k hk hk' w' hb' => HCL.out w' (HE.out.below (b2.trans (hb'.mono b2.size)) (Nat.le_refl _)) (HU.out.below (b2.trans (hb'.mono b2.size)) (Nat.le_refl _)) (HK2.out.below hb' (Nat.le_refl _)) k hk hk')).mono ?_); rintro e w3 ⟨v3, rfl, hs3, hb3⟩; have HS3 := Lib.hid hs3; have b3 := b2.trans (hb3.mono b2.size); clear hs3)
    | (go_at_call 67; (with_reducible refine (folded_lcm _ _ _ (quos ns ys) L K HS3.out rfl HQD.out HP.out.pos HP.out.dn HP.out.K (HE.out.below b3 (Nat.le_refl _))).mono ?_); rintro e w4 ⟨v, rfl, rfl, hb4⟩; have b4 := b3.trans (hb4.mono b3.size)))
  go_ret2
  exact ⟨_, rfl, rfl, b4⟩
end Go.Proofs.YtajkhbpffakmfaaGreatDoor

namespace Go.Proofs.YtajkhbpffakmfaaGreatDoor
open Go.RowKit
set_option maxRecDepth 100000

theorem Minus_q (w : World) (z : Int) (m : Bool) (h : decide (z < 0) = m) : Calls Tryz.prog 51 #[.string (txt z)] w fun e w' => e = .returned (.bool m) ∧ w' = w :=
  (Minus_any w z).mono fun e w' ⟨v, he, hv, hw⟩ => ⟨by rw [he, hv, h], hw.symm⟩

set_option maxHeartbeats 2000000 in
theorem In_big (w : World) (v u : Value) (g a : List ByteArray) (zs : List Int) (hv : Sl eS w v g) (hu : Sl eS w u a) (hz : Goods g zs) (hl : g.length ≤ 16) (hsz : a.length = g.length → ∀ s ∈ a, s.size ≤ 9223372036854775807) :
    Calls Tryz.prog 66 #[v, u] w (Rets fun v w' => v = .int .i64 (mchk g a) ∧ Below w.heap.size w w') := by
  obtain ⟨ad, b, o, c, rfl, hi, hp, hc, hm⟩ := hv.open elemStr
  obtain ⟨ad', b', o', c', rfl, hi', hp', hc', hm'⟩ := hu.open elemStr
  have HZ := Lib.hid hz; have HLZ := Lib.hid hz.len
  clear hv hu hz
  unfold maxLen at hm hm'
  by_cases hle : a.length = g.length
  · have hs := hsz hle
    have HS := Lib.hid hs
    have HM := Lib.hid (show mchk g a = mstep g a by unfold mchk; rw [if_pos hle])
    have hla : a.length ≤ 16 := by omega
    have hne : ((a.length : Int) != (g.length : Int)) = false := by simp [hle]
    have HLE := Lib.hid hle
    clear hsz hs hle
    go_enter Tryz.func66, Tryz.ntmps66
    go_wp2
    go_loopw [5] (fun i wr => ∃ k : Nat, k ≤ a.length ∧ i = .int .i64 k ∧ Hid (mchk g a = mstep (g.drop k) (a.drop k)) ∧ Below w.heap.size w wr) (fun i _ => a.length - (intOf i).toNat)
    case atStart => exact ⟨0, Nat.zero_le _, rfl, Lib.hid (by rw [HM.out]; rfl), Below.refl _ _⟩
    case round =>
      obtain ⟨k, hk, rfl, hA, hb⟩ := hrel
      by_cases hkn : k < a.length
      · have hkg : k < g.length := by rw [← HLE.out]; exact hkn
        have h1 : wr.cell? ⟨b', o' + k, none⟩ = some (.string a[k]) := hp'.at hb (Nat.le_refl _) k hkn
        have hV := hA.out
        rw [mstep_at g a k hkg hkn] at hV
        have hsk := HS.out _ (List.getElem_mem hkn)
        have hgz := HZ.out.get k hkg (by rw [HLZ.out]; exact hkg)
        have hgn := hgz.num
        by_cases h0 : chk a[k].data.toList = 0
        · rw [if_pos h0] at hV
          have hG := good_num h0
          obtain ⟨y, hy⟩ : ∃ y, num a[k] = y := ⟨_, rfl⟩
          obtain ⟨n, hn⟩ : ∃ n, zs[k]'(by rw [HLZ.out]; exact hkg) = n := ⟨_, rfl⟩
          rw [hn] at hgz hgn
          rw [hy] at hG hV
          rw [hgn] at hV
          have h4 : ∀ w', Below w.heap.size w w' → w'.cell? ⟨b', o' + k, none⟩ = some (.string (txt y)) := fun w' hb' => by rw [← hG.eq]; exact hp'.at hb' (Nat.le_refl _) k hkn
          have h5 : ∀ w', Below w.heap.size w w' → w'.cell? ⟨b, o + k, none⟩ = some (.string (txt n)) := fun w' hb' => by rw [← hgz.eq]; exact hp.at hb' (Nat.le_refl _) k hkg
          have H4 := Lib.hid h4; have H5 := Lib.hid h5
          rw [hG.eq] at h1
          have HC := Lib.hid (show chk (txt y).data.toList = 0 by rw [← hG.eq]; exact h0)
          have HSZ := Lib.hid (show (txt y).size ≤ 9223372036854775807 by rw [← hG.eq]; exact hsk)
          have HDN := Lib.hid hG.dn; have HDG := Lib.hid hgz.dn
          have q1 : (0 : Int) ≤ (k : Int) := by omega
          have q2 : (k : Int) < (a.length : Int) := by omega
          have q3 : (k : Int) < (g.length : Int) := by omega
          have hb5 := h5 _ hb
          have HH := Lib.hid (held_two h4 h5 hb)
          have HB := Lib.hid hb
          by_cases hneg : y < 0
          · rw [if_pos (.inl hneg)] at hV
            have HV := Lib.hid hV
            have HMQ := Lib.hid (fun w' => Minus_q w' y true (by simp [hneg]))
            clear hV hG h0 hsk hgz hgn hy hn h4 h5 hneg
            go_wp2_with (go_at_call 7; (with_reducible refine (rCheck_big _ _ HSZ.out).mono ?_); rintro e w1 ⟨v, rfl, rfl, rfl⟩; rw [HC.out])
            go_quiet ((go_at_call 51; exact Calls.quiet_of_same (HMQ.out _)))
            have b3 := below_drewN hb nq
            go_wp2
            go_ret
            exact ⟨_, rfl, by rw [HV.out]; rfl, b3⟩
          · have HMQ := Lib.hid (fun w' => Minus_q w' y false (by simp [hneg]))
            by_cases hbig : n ≤ y
            · rw [if_pos (.inr hbig)] at hV
              have HV := Lib.hid hV
              obtain ⟨u, hu, hu0⟩ : ∃ u, (y - n).sign = u ∧ 0 ≤ u := ⟨_, rfl, by
                rcases Int.lt_or_eq_of_le hbig with h | h
                · rw [Int.sign_eq_one_of_pos (by omega)]; omega
                · rw [h, Int.sub_self]; decide⟩
              have HU := Lib.hid hu
              clear hV hG h0 hsk hgz hgn hy hn h4 h5 hneg hbig hu hb5
              go_wp2_with (go_at_call 7; (with_reducible refine (rCheck_big _ _ HSZ.out).mono ?_); rintro e w1 ⟨v, rfl, rfl, rfl⟩; rw [HC.out])
              clear hb h1
              go_region_held3 (fun w' => Below wr.heap.size wr w' ∧ w'.cell? ⟨b', o' + k, none⟩ = some (.string (txt y)) ∧ w'.cell? ⟨b, o + k, none⟩ = some (.string (txt n)))
                (((refine HH.out _ ?_); first
                  | with_reducible exact (Below.refl _ _).drew
                  | with_reducible exact Below.trans (And.left (by assumption)) (Below.mono (by assumption) (Below.size (And.left (by assumption))))
                  | with_reducible exact And.left (by assumption)))
                (first
                  | (go_at_call 51; (with_reducible refine (HMQ.out _).mono ?_); rintro e w3 ⟨rfl, rfl⟩)
                  | (go_at_call 17; (with_reducible refine (Order_any _ y n (by have := HDN.out; omega) (by have := HDG.out; omega)).mono ?_); rintro e w4 ⟨v, rfl, rfl, hb4⟩; rw [HU.out]))
              all_goals
                have hf : Below wr.heap.size wr w4 := And.left (by assumption)
                have b3 := HB.out.trans (hf.mono HB.out.size)
                clear hf
                go_wp2
                go_ret
                exact ⟨_, rfl, by rw [HV.out]; rfl, b3⟩
            · rw [if_neg (by omega)] at hV
              have HV := Lib.hid hV
              have HU := Lib.hid (show (y - n).sign = -1 from Int.sign_eq_neg_one_of_neg (by omega))
              clear hV hG h0 hsk hgz hgn hy hn h4 h5 hneg hbig hb5
              go_wp2_with (go_at_call 7; (with_reducible refine (rCheck_big _ _ HSZ.out).mono ?_); rintro e w1 ⟨v, rfl, rfl, rfl⟩; rw [HC.out])
              clear hb h1
              go_region_held3 (fun w' => Below wr.heap.size wr w' ∧ w'.cell? ⟨b', o' + k, none⟩ = some (.string (txt y)) ∧ w'.cell? ⟨b, o + k, none⟩ = some (.string (txt n)))
                (((refine HH.out _ ?_); first
                  | with_reducible exact (Below.refl _ _).drew
                  | with_reducible exact Below.trans (And.left (by assumption)) (Below.mono (by assumption) (Below.size (And.left (by assumption))))
                  | with_reducible exact And.left (by assumption)))
                (first
                  | (go_at_call 51; (with_reducible refine (HMQ.out _).mono ?_); rintro e w3 ⟨rfl, rfl⟩)
                  | (go_at_call 17; (with_reducible refine (Order_any _ y n (by have := HDN.out; omega) (by have := HDG.out; omega)).mono ?_); rintro e w4 ⟨v, rfl, rfl, hb4⟩; rw [HU.out]))
              all_goals
                have hf : Below wr.heap.size wr w4 := And.left (by assumption)
                have b3 := HB.out.trans (hf.mono HB.out.size)
                clear hf
                go_wp2
                go_roundw
                case rel => exact ⟨k + 1, by omega, by go_num, HV, b3⟩
                case measure => simp [intOf]; omega
        · rw [if_neg h0] at hV
          have hne : (chk a[k].data.toList != 0) = true := by simp [h0]
          have HV := Lib.hid hV
          clear hV h0
          go_wp2_with (go_at_call 7; (with_reducible refine (rCheck_big _ _ hsk).mono ?_); rintro e w1 ⟨v, rfl, rfl, rfl⟩)
          go_ret
          exact ⟨_, rfl, by rw [HV.out]; rfl, hb⟩
      · obtain rfl : k = a.length := by omega
        have HV := Lib.hid (show mchk g a = 0 by rw [hA.out, mstep_end])
        go_wp2
        go_ret
        exact ⟨_, rfl, by rw [HV.out]; rfl, hb⟩
  · have HM := Lib.hid (show mchk g a = 8 by unfold mchk; rw [if_neg hle])
    have hne : ((a.length : Int) != (g.length : Int)) = true := by simp; omega
    clear hsz
    go_enter Tryz.func66, Tryz.ntmps66
    go_wp2
    go_ret
    exact ⟨_, rfl, by rw [HM.out]; rfl, Below.refl _ _⟩

theorem In_any (w : World) (v u : Value) (g a : List ByteArray) (zs : List Int) (hv : Sl eS w v g) (hu : Sl eS w u a) (hz : Goods g zs) (hl : g.length ≤ 16) (hsz : a.length = g.length → ∀ s ∈ a, s.size ≤ 1000000) :
    Calls Tryz.prog 66 #[v, u] w (Rets fun v w' => v = .int .i64 (mchk g a) ∧ Below w.heap.size w w') :=
  In_big w v u g a zs hv hu hz hl fun h s hs => Nat.le_trans (hsz h s hs) (by omega)
end Go.Proofs.YtajkhbpffakmfaaGreatDoor

namespace Go.Proofs.YtajkhbpffakmfaaGreatDoor
open Go.RowKit
set_option maxRecDepth 100000

section
variable {P : Program} {t e : TypeId} {z : Value} {size bytes : Nat} {ops : Array Oper} {o : Oper} {a : Act} {Q : Exit → Act → World → Prop} {K : Act → World → Prop} {E : Prop}
/-- 'append(out, x)' as one operation of a region: out nil or the call's own, x just laid in a new block. -/
theorem app1w (hE : ElemOk P t e z size bytes) (s x : Operand) (ho : o.op = .call { callee := .builtin .append, args := #[s, x], argTypes := #[t, t] })
    {v : Value} {n c base B : Nat} {xs news : List Value} {w0 W : World} (hs : a.eval s = v) (hx : a.eval x = .slice (some ⟨w0.heap.size, 0, none⟩) 1 c)
    (hown : w0.ownsRow base e size v n xs) (hb : Below B W w0) (hB : B ≤ base) (hbase : base ≤ w0.heap.size) (hl : news.length = size) (h1 : ∀ u ∈ news, u.oneCell' = true)
    (hn : (n + 1) * bytes ≤ 140737488355328) (hn' : n + 1 ≤ maxLen)
    (h : ∀ v' w', w'.ownsRow base e size v' (n + 1) (xs ++ news) → Below B W w' → K (a.put o.dst v') w') :
    Oper.wp P o a (w0.alloc (.cells news.toArray e)) K Q := by
  obtain ⟨i, hi, hz, hsz, hby⟩ := hE.info
  refine wp_append_own _ s x t ho base e i z size bytes hE.und hi hz hsz hby hE.cells hE.pos v n xs hs (hown.alloc _) ⟨w0.heap.size, 0, none⟩ 1 c news hx (by simp [hl]) ?_ h1 hn' hn (by simp; omega) ?_
  · intro j u hj
    rw [addr0]
    rw [cell_of_row _ w0.heap.size j news.toArray e (0, 0) (heap_alloc_new w0 _)]
    simpa using hj
  · intro v' w' ho' hg _
    exact h v' w' ho' ((hb.alloc (by omega) _).grown hg (by simp; omega) (fun j hj => by have := (hown.lt j hj).1; omega))
theorem app1_step (hE : ElemOk P t e z size bytes) (hgd : o.guard = none) (s x : Operand) (ho : o.op = .call { callee := .builtin .append, args := #[s, x], argTypes := #[t, t] })
    {v : Value} {n c base B : Nat} {xs news : List Value} {w0 W : World} (hs : a.eval s = v) (hx : a.eval x = .slice (some ⟨w0.heap.size, 0, none⟩) 1 c)
    (hown : w0.ownsRow base e size v n xs) (hb : Below B W w0) (hB : B ≤ base) (hbase : base ≤ w0.heap.size) (hl : news.length = size) (h1 : ∀ u ∈ news, u.oneCell' = true)
    (hn : (n + 1) * bytes ≤ 140737488355328) (hn' : n + 1 ≤ maxLen)
    (h : ∀ v' w', w'.ownsRow base e size v' (n + 1) (xs ++ news) → Below B W w' → K (a.put o.dst v') w') :
    if Region.wanted o (yielded ops a.tmps) = true then Oper.wp P o a (w0.alloc (.cells news.toArray e)) K Q else E := by
  rw [if_pos (by simp [Region.wanted, hgd])]
  exact app1w hE s x ho hs hx hown hb hB hbase hl h1 hn hn' h
end
/-- A multiple of an element. -/
def mulN (ns us : List Nat) (k : Nat) : List Nat := List.zipWith (fun n u => (k * u) % n) ns us
theorem mulN_len {ns us : List Nat} (h : us.length = ns.length) (k : Nat) : (mulN ns us k).length = ns.length := by simp [mulN, h]
theorem mulN_get {ns us : List Nat} (k i : Nat) (h : i < (mulN ns us k).length) (h1 : i < ns.length) (h2 : i < us.length) : (mulN ns us k)[i] = (k * us[i]) % ns[i] := by simp [mulN]
theorem held_three {w : World} {c d f : Addr} {u v x : Value} (h4 : ∀ w', Below w.heap.size w w' → w'.cell? c = some u) (h5 : ∀ w', Below w.heap.size w w' → w'.cell? d = some v) (h6 : ∀ w', Below w.heap.size w w' → w'.cell? f = some x) :
    ∀ w', Below w.heap.size w w' → Below w.heap.size w w' ∧ w'.cell? c = some u ∧ w'.cell? d = some v ∧ w'.cell? f = some x :=
  fun _ hb => ⟨hb, h4 _ hb, h5 _ hb, h6 _ hb⟩
theorem cell_tx {w : World} {b o : Nat} {xs : List ByteArray} {ns : List Nat} (hp : Cells eS w b o xs) (h : xs = ns.map tx) (k : Nat) (hk : k < ns.length) : ∀ w', Below w.heap.size w w' → w'.cell? ⟨b, o + k, none⟩ = some (.string (txt (ns[k] : Nat))) := by
  intro w' hb
  have hk' : k < xs.length := by rw [h, List.length_map]; exact hk
  have h2 := hp.at hb (Nat.le_refl _) k hk'
  have h3 : xs[k] = txt (ns[k] : Nat) := by simp [h]
  rw [h2, h3]; rfl

theorem mulN_one {ns us : List Nat} (hl : us.length = ns.length) (hlt : ∀ i (h : i < ns.length) (h' : i < us.length), us[i] < ns[i]) : mulN ns us 1 = us := by
  refine List.ext_getElem (by rw [mulN_len hl, hl]) fun i h1 h2 => ?_
  have hn : i < ns.length := by rw [← hl]; exact h2
  rw [mulN_get 1 i h1 hn h2, Nat.one_mul, Nat.mod_eq_of_lt (hlt i hn h2)]
theorem mulN_zero {ns us : List Nat} (hl : us.length = ns.length) (h2 : ∀ n ∈ ns, 2 ≤ n) (k : Nat) : (mulN ns us k).all (· == 0) = decide (lcms (quos ns us) ∣ k) := by
  rw [Bool.eq_iff_iff, List.all_eq_true, decide_eq_true_iff, lcms_dvd]
  have hq : (quos ns us).length = ns.length := by simp [quos, hl]
  constructor
  · intro h q hq'
    obtain ⟨i, hi, rfl⟩ := List.getElem_of_mem hq'
    have hn : i < ns.length := by rw [← hq]; exact hi
    have hu : i < us.length := by rw [hl]; exact hn
    have hm : i < (mulN ns us k).length := by rw [mulN_len hl]; exact hn
    have := h _ (List.getElem_mem hm)
    rw [mulN_get k i hm hn hu] at this
    have h0 : ns[i] ∣ k * us[i] := Nat.dvd_of_mod_eq_zero (by simpa using this)
    have h1 := (ord_dvd ns[i] us[i] k (by have := h2 _ (List.getElem_mem hn); omega)).1 h0
    simpa [quos] using h1
  · intro h x hx
    obtain ⟨i, hm, rfl⟩ := List.getElem_of_mem hx
    have hn : i < ns.length := by rw [mulN_len hl] at hm; exact hm
    have hu : i < us.length := by rw [hl]; exact hn
    have hi : i < (quos ns us).length := by rw [hq]; exact hn
    have h1 := h _ (List.getElem_mem hi)
    have h1 : ns[i] / Nat.gcd ns[i] us[i] ∣ k := by simpa [quos] using h1
    have h0 := (ord_dvd ns[i] us[i] k (by have := h2 _ (List.getElem_mem hn); omega)).2 h1
    rw [mulN_get k i hm hn hu]
    simpa using Nat.mod_eq_zero_of_dvd h0
theorem quos_pos {ns us : List Nat} (h2 : ∀ n ∈ ns, 2 ≤ n) : ∀ q ∈ quos ns us, 0 < q := by
  intro q hq
  obtain ⟨i, hi, rfl⟩ := List.getElem_of_mem hq
  have hn : i < ns.length := by simp [quos] at hi; omega
  have hu : i < us.length := by simp [quos] at hi; omega
  have h3 := h2 _ (List.getElem_mem hn)
  have hg : Nat.gcd ns[i] us[i] ≤ ns[i] := Nat.le_of_dvd (by omega) (Nat.gcd_dvd_left _ _)
  have : 0 < ns[i] / Nat.gcd ns[i] us[i] := Nat.div_pos hg (Nat.gcd_pos_of_pos_left _ (by omega))
  simpa [quos] using this

end Go.Proofs.YtajkhbpffakmfaaGreatDoor

namespace Go.Proofs.YtajkhbpffakmfaaGreatDoor
open Go.RowKit
set_option maxRecDepth 100000

theorem held_both {w : World} {c d : Addr} {u v : Value} (h4 : ∀ w', Below w.heap.size w w' → w'.cell? c = some u) (h5 : ∀ w', Below w.heap.size w w' → w'.cell? d = some v) :
    ∀ w', Below w.heap.size w w' → Below w.heap.size w w' ∧ w'.cell? c = some u ∧ w'.cell? d = some v := fun _ hb => ⟨hb, h4 _ hb, h5 _ hb⟩
/-- The list of the first n values. -/
def mapI (n : Nat) (f : Nat → Int) : List Int := (List.range n).map f
theorem mapI_len (n : Nat) (f : Nat → Int) : (mapI n f).length = n := by simp [mapI]
theorem mapI_get (n : Nat) (f : Nat → Int) (k : Nat) (h : k < (mapI n f).length) : (mapI n f)[k] = f k := by simp [mapI]
theorem getD_at (zs : List Int) (k : Nat) (h : k < zs.length) : zs.getD k 0 = zs[k] := by simp [List.getD, h]
theorem cell_txt {w : World} {b o : Nat} {xs : List ByteArray} {zs : List Int} (hp : Cells eS w b o xs) (h : xs = zs.map txt) (k : Nat) (hk : k < zs.length) : ∀ w', Below w.heap.size w w' → w'.cell? ⟨b, o + k, none⟩ = some (.string (txt zs[k])) := by
  intro w' hb
  have hk' : k < xs.length := by rw [h, List.length_map]; exact hk
  have h2 := hp.at hb (Nat.le_refl _) k hk'
  have h3 : xs[k] = txt zs[k] := by simp [h]
  rw [h2, h3]; rfl
theorem goods_txt : ∀ {xs : List ByteArray} {zs : List Int}, Goods xs zs → xs = zs.map txt
  | [], [], _ => rfl
  | s :: l, z :: zs, h => by rw [List.map_cons, ← goods_txt h.2, ← h.1.eq]
  | [], _ :: _, h => h.elim
  | _ :: _, [], h => h.elim
/-- The sum of elements, a multiple, the element of integers. -/
def plusL (zs us vs : List Int) : List Int := mapI zs.length fun i => Int.fmod (us.getD i 0 + vs.getD i 0) (zs.getD i 0)
def multL (zs : List Int) (K : Int) (us : List Int) : List Int := mapI zs.length fun i => Int.fmod (K * us.getD i 0) (zs.getD i 0)
def redL (zs us : List Int) : List Int := mapI zs.length fun i => Int.fmod (us.getD i 0) (zs.getD i 0)

end Go.Proofs.YtajkhbpffakmfaaGreatDoor

namespace Go.Proofs.YtajkhbpffakmfaaGreatDoor
open Go.RowKit
set_option maxRecDepth 100000

theorem elemSl : ElemOk Tryz.prog 42 22 (.slice none 0 0) 1 24 :=
  ⟨Tryz.underlying42, info_parts (by kernel_rfl : (Tryz.prog.info? 22).map (fun i => (i.zero, i.size, i.bytes)) = some (some (.slice none 0 0), 1, 24)), rfl, by decide, by kernel_rfl, fun _ => by kernel_rfl⟩
/-- The slice of slices v reads as the list of lists xss. -/
structure Lst (w : World) (v : Value) (vs : List Value) (xss : List (List ByteArray)) : Prop where
  sl : Sl id w v vs
  len : xss.length = vs.length
  get : ∀ i (h : i < vs.length) (h' : i < xss.length), Sl eS w vs[i] xss[i]
theorem Lst.below {w w' : World} {v : Value} {vs : List Value} {xss : List (List ByteArray)} {B : Nat} (h : Lst w v vs xss) (hb : Below B w w') (hB : w.heap.size ≤ B) : Lst w' v vs xss :=
  ⟨h.sl.below hb hB, h.len, fun i h1 h2 => (h.get i h1 h2).below hb hB⟩
theorem first_hitL (p : List ByteArray → Bool) : ∀ (xs : List (List ByteArray)), xs.any p = true → ∃ m, ∃ h : m < xs.length, p xs[m] = true ∧ ∀ j (hj : j < m), p (xs[j]'(by omega)) = false
  | [], h => by simp at h
  | x :: l, h => by
    by_cases hx : p x = true
    · exact ⟨0, by simp, hx, fun j hj => absurd hj (by omega)⟩
    · obtain ⟨m, hm, h1, h2⟩ := first_hitL p l (by simpa [hx] using h)
      refine ⟨m + 1, by simpa using hm, by simpa using h1, fun j hj => ?_⟩
      cases j with
      | zero => simpa using hx
      | succ j => simpa using h2 j (by omega)
theorem Lst.one (w : World) (v : Value) (xs : List ByteArray) (hv : Sl eS w v xs) (e : TypeId) : Lst (w.alloc (.cells #[v] e)) (.slice (some ⟨w.heap.size, 0, none⟩) 1 1) [v] [xs] :=
  ⟨Sl.single w v v rfl e, rfl, fun i h1 h2 => by
    have hb : Below w.heap.size w (w.alloc (.cells #[v] e)) := (Below.refl _ w).alloc (Nat.le_refl _) _
    have : i = 0 := by simp at h1; omega
    subst this
    exact hv.below hb (Nat.le_refl _)⟩

/-- The last number of a group, or 1. -/
def rlast (g : List ByteArray) : ByteArray := g.getLast?.getD ⟨#[49]⟩
theorem rlast_eq (g : List ByteArray) (h : 0 < g.length) : rlast g = g[g.length - 1]'(by omega) := by
  unfold rlast
  rw [List.getLast?_eq_getElem?, List.getElem?_eq_getElem (by omega)]
  rfl
end Go.Proofs.YtajkhbpffakmfaaGreatDoor
