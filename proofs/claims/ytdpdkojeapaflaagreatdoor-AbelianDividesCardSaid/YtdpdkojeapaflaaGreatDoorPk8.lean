/- The walks of abelian's opposite, sum and product, and of the closures of Add, Neg and Times. The walk of abelian's each, for the closures of Add, Neg and Times. The walks of the reference's Plus, Multiple and Reduced of a group's elements. The walks of abelian's Add, Neg and Times. The walks of the reference's Add, Neg and Times of elements, and of its Same. The walks of the reference's Size, Order and Count of groups; what Count answers. -/
import Derived.Test.YtdpdkojeapaflaaGreatDoorPk5
import Derived.Test.YtdpdkojeapaflaaGreatDoorPk4
import Derived.Test.YtdpdkojeapaflaaGreatDoorPk6
namespace Go.Proofs.YtdpdkojeapaflaaGreatDoor
open Go.RowKit
set_option maxRecDepth 100000

theorem res_good {z : Int} (h : big z = false) : resV z = .tuple #[.string (txt z), .int .i64 0] := by rw [resV_eq, resT_ok h, resK_ok h]
theorem big_lt {x n : Int} (h0 : 0 ≤ x) (h : x ≤ n) (hb : big n = false) : big x = false := (big_iff _).2 (by have := (big_iff n).1 hb; omega)
theorem txt_zero : ((txt 0).toList == [48]) = true := by rw [txt_list, itoa0]; rfl
/-- The opposite residue. -/
def opp (n a : Int) : Int := if a = 0 then 0 else n - a
set_option maxHeartbeats 400000 in
theorem opposite_any (w : World) (n a : Int) (hn : big n = false) (h0 : 0 ≤ a) (h1 : a < n) (he : Env w) :
    Calls Tryz.prog 98 #[.string (txt n), .string (txt a)] w (Rets fun v w' => v = .string (txt (opp n a)) ∧ Below w.heap.size w w') := by
  by_cases hz : a = 0
  · subst hz
    have HO := Lib.hid (show opp n 0 = 0 from if_pos rfl)
    have h48 := txt_zero
    go_enter Tryz.func98, Tryz.ntmps98
    go_wp2
    go_ret
    exact ⟨_, rfl, by rw [HO.out]; rfl, Below.refl _ _⟩
  · have h48 := txt_ne0 hz
    have HO := Lib.hid (show opp n a = n - a from if_neg hz)
    have HR := Lib.hid (res_good (big_lt (x := n - a) (by omega) (by omega) hn))
    have HN := Lib.hid (show Good (txt n) n from .of hn); have HA := Lib.hid (show Good (txt a) a from .of (big_lt h0 (by omega) hn)); have HE := Lib.hid he
    clear hz hn he
    go_enter Tryz.func98, Tryz.ntmps98
    go_wp2_with (go_at_call 121; (with_reducible refine (Sub_ok _ _ _ n a HN.out HA.out HE.out).mono ?_); rintro e w1 ⟨v, rfl, rfl, hb1⟩; rw [HR.out])
    go_ret
    exact ⟨_, rfl, by rw [HO.out]; rfl, hb1⟩
theorem fmod_small' {x n : Int} (h0 : 0 ≤ x) (h1 : x < n) : Int.fmod x n = x := by rw [Int.fmod_eq_emod_of_nonneg _ (by omega)]; exact Int.emod_eq_of_lt h0 h1
theorem fmod_once {x n : Int} (h0 : n ≤ x) (h1 : x < n + n) (hn : 0 < n) : Int.fmod x n = x - n := by
  rw [Int.fmod_eq_emod_of_nonneg _ (by omega), show x = (x - n) + n by omega, Int.add_emod_right]
  rw [Int.emod_eq_of_lt (by omega) (by omega)]; omega
set_option maxHeartbeats 1000000 in
theorem asum_any (w : World) (n a b : Int) (hn : big n = false) (a0 : 0 ≤ a) (a1 : a < n) (b0 : 0 ≤ b) (b1 : b < n) (he : Env w) :
    Calls Tryz.prog 87 #[.string (txt n), .string (txt a), .string (txt b)] w (Rets fun v w' => v = .string (txt (Int.fmod (a + b) n)) ∧ Below w.heap.size w w') := by
  have HE := Lib.hid he
  have HN := Lib.hid hn
  have HA := Lib.hid (show Good (txt a) a from .of (big_lt a0 (by omega) hn))
  have HB := Lib.hid (show Good (txt b) b from .of (big_lt b0 (by omega) hn))
  by_cases hz : b = 0
  · subst hz
    have h48 := txt_zero
    have HO := Lib.hid (show opp n 0 = 0 from if_pos rfl)
    have HF := Lib.hid (show Int.fmod (a + 0) n = a by rw [Int.add_zero]; exact fmod_small' (by omega) (by omega))
    have HR := Lib.hid (show resV (a + 0) = .tuple #[.string (txt a), .int .i64 0] by rw [Int.add_zero]; exact res_good HA.out.2)
    clear hn he b0 b1
    have hn0 : (0 : Int) < n := by omega
    go_enter Tryz.func87, Tryz.ntmps87
    go_wp2_with (first
      | (go_at_call 98; (with_reducible refine (opposite_any _ n 0 HN.out (by omega) (by omega) HE.out).mono ?_); rintro e w1 ⟨v, rfl, rfl, hb1⟩; rw [HO.out])
      | (go_at_call 122; (with_reducible refine (Add_ok _ _ _ a 0 HA.out HB.out (HE.out.below hb1 (Nat.le_refl _))).mono ?_); rintro e w2 ⟨v, rfl, rfl, hb2⟩; rw [HR.out]; have b2 := hb1.trans (hb2.mono hb1.size)))
    go_ret
    exact ⟨_, rfl, by rw [HF.out]; rfl, b2⟩
  · have h48 := txt_ne0 hz
    have HO := Lib.hid (show opp n b = n - b from if_neg hz)
    have HRR := Lib.hid (show Good (txt (n - b)) (n - b) from .of (big_lt (by omega) (by omega) hn))
    by_cases hge : n ≤ a + b
    · obtain ⟨u, hu, hu0⟩ : ∃ u, (a - (n - b)).sign = u ∧ 0 ≤ u := ⟨_, rfl, by
        rcases Int.lt_or_eq_of_le (show n - b ≤ a by omega) with h | h
        · rw [Int.sign_eq_one_of_pos (by omega)]; omega
        · rw [h, Int.sub_self]; decide⟩
      have HU := Lib.hid hu
      have HF := Lib.hid (show Int.fmod (a + b) n = a - (n - b) by rw [fmod_once hge (by omega) (by omega)]; omega)
      have HR := Lib.hid (res_good (big_lt (x := a - (n - b)) (by omega) (by omega) hn))
      clear hn he hz hu hge
      go_enter Tryz.func87, Tryz.ntmps87
      go_wp2_with (first
        | (go_at_call 98; (with_reducible refine (opposite_any _ n b HN.out b0 b1 HE.out).mono ?_); rintro e w1 ⟨v, rfl, rfl, hb1⟩; rw [HO.out])
        | (go_at_call 79; (with_reducible refine (aorder_any _ _ _ a (n - b) HA.out HRR.out).mono ?_); rintro e w2 ⟨v, rfl, rfl, hb2⟩; rw [HU.out]; have b2 := hb1.trans (hb2.mono hb1.size))
        | (go_at_call 121; (with_reducible refine (Sub_ok _ _ _ a (n - b) HA.out HRR.out (HE.out.below b2 (Nat.le_refl _))).mono ?_); rintro e w3 ⟨v, rfl, rfl, hb3⟩; rw [HR.out]; have b3 := b2.trans (hb3.mono b2.size)))
      go_ret
      exact ⟨_, rfl, by rw [HF.out]; rfl, b3⟩
    · have HU := Lib.hid (show (a - (n - b)).sign = -1 from Int.sign_eq_neg_one_of_neg (by omega))
      have HF := Lib.hid (show Int.fmod (a + b) n = a + b from fmod_small' (by omega) (by omega))
      have HR := Lib.hid (res_good (big_lt (x := a + b) (by omega) (by omega) hn))
      clear hn he hz hge
      go_enter Tryz.func87, Tryz.ntmps87
      go_wp2_with (first
        | (go_at_call 98; (with_reducible refine (opposite_any _ n b HN.out b0 b1 HE.out).mono ?_); rintro e w1 ⟨v, rfl, rfl, hb1⟩; rw [HO.out])
        | (go_at_call 79; (with_reducible refine (aorder_any _ _ _ a (n - b) HA.out HRR.out).mono ?_); rintro e w2 ⟨v, rfl, rfl, hb2⟩; rw [HU.out]; have b2 := hb1.trans (hb2.mono hb1.size))
        | (go_at_call 122; (with_reducible refine (Add_ok _ _ _ a b HA.out HB.out (HE.out.below b2 (Nat.le_refl _))).mono ?_); rintro e w3 ⟨v, rfl, rfl, hb3⟩; rw [HR.out]; have b3 := b2.trans (hb3.mono b2.size)))
      go_ret
      exact ⟨_, rfl, by rw [HF.out]; rfl, b3⟩
set_option maxHeartbeats 1000000 in
theorem aproduct_any (w : World) (n k a : Int) (hn : Good (txt n) n) (hk : Good (txt k) k) (ha : Good (txt a) a) (h0 : n ≠ 0) (hb : big (k * a) = false) (he : Env w) :
    Calls Tryz.prog 93 #[.string (txt n), .string (txt k), .string (txt a)] w (Rets fun v w' => v = .string (txt (Int.fmod (k * a) n)) ∧ Below w.heap.size w w') := by
  have HE := Lib.hid he; have HN := Lib.hid hn; have HK := Lib.hid hk; have HA := Lib.hid ha; have H0 := Lib.hid h0
  have HR := Lib.hid (res_good hb)
  have HP := Lib.hid (show Good (txt (k * a)) (k * a) from .of hb)
  have HR2 := Lib.hid (res_good (fmod_small (y := k * a) h0 hn.2))
  clear he hn hk ha h0 hb
  go_enter Tryz.func93, Tryz.ntmps93
  go_wp2_with (first
    | (go_at_call 38; (with_reducible refine (Mul_ok _ _ _ k a HK.out HA.out HE.out).mono ?_); rintro e w1 ⟨v, rfl, rfl, hb1⟩; rw [HR.out])
    | (go_at_call 34; (with_reducible refine (Rem_ok _ _ _ (k * a) n HP.out HN.out H0.out (HE.out.below hb1 (Nat.le_refl _))).mono ?_); rintro e w2 ⟨v, rfl, rfl, hb2⟩; rw [HR2.out]; have b2 := hb1.trans (hb2.mono hb1.size)))
  go_ret
  exact ⟨_, rfl, rfl, b2⟩

theorem held_four {w : World} {c d f g : Addr} {u v x y : Value} (h3 : ∀ w', Below w.heap.size w w' → w'.cell? c = some u) (h4 : ∀ w', Below w.heap.size w w' → w'.cell? d = some v) (h5 : ∀ w', Below w.heap.size w w' → w'.cell? f = some x) (h6 : ∀ w', Below w.heap.size w w' → w'.cell? g = some y) :
    ∀ w', Below w.heap.size w w' → Below w.heap.size w w' ∧ w'.cell? c = some u ∧ w'.cell? d = some v ∧ w'.cell? f = some x ∧ w'.cell? g = some y :=
  fun _ hb => ⟨hb, h3 _ hb, h4 _ hb, h5 _ hb, h6 _ hb⟩
theorem cell_kept' {w : World} {c : Addr} {u : Value} (hc : c.block < w.heap.size) (h : w.cell? c = some u) : ∀ w', Below w.heap.size w w' → w'.cell? c = some u := fun _ hb => (hb.cell hc).trans h
set_option maxHeartbeats 1000000 in
theorem add_clos (w : World) (k bx bY cA cB : Nat) (adA adB : Option Addr) (xs ys : List ByteArray) (n x y : Int) (hn : big n = false) (x0 : 0 ≤ x) (x1 : x < n) (y0 : 0 ≤ y) (y1 : y < n)
    (hbx : bx < w.heap.size) (hbY : bY < w.heap.size) (hcA : w.cell? ⟨bx, 0, none⟩ = some (.slice adA xs.length cA)) (hcB : w.cell? ⟨bY, 0, none⟩ = some (.slice adB ys.length cB)) (hvA : Sl eS w (.slice adA xs.length cA) xs) (hvB : Sl eS w (.slice adB ys.length cB) ys)
    (hkA : k < xs.length) (hkB : k < ys.length) (hxa : xs[k] = txt x) (hyb : ys[k] = txt y) (he : Env w) :
    Calls Tryz.prog 86 #[.int .i64 k, .string (txt n), .pointer (some ⟨bx, 0, none⟩), .pointer (some ⟨bY, 0, none⟩)] w (Rets fun v w' => v = .string (txt (Int.fmod (x + y) n)) ∧ Below w.heap.size w w') := by
  obtain ⟨a1, b1, o1, c1, e1, hi1, hp1, -, hm1⟩ := hvA.open elemStr
  cases e1
  obtain ⟨a2, b2, o2, c2, e2, hi2, hp2, -, hm2⟩ := hvB.open elemStr
  cases e2
  have h5 : ∀ w', Below w.heap.size w w' → w'.cell? ⟨b1, o1 + k, none⟩ = some (.string (txt x)) := fun w' hb' => by rw [← hxa]; exact hp1.at hb' (Nat.le_refl _) k hkA
  have h6 : ∀ w', Below w.heap.size w w' → w'.cell? ⟨b2, o2 + k, none⟩ = some (.string (txt y)) := fun w' hb' => by rw [← hyb]; exact hp2.at hb' (Nat.le_refl _) k hkB
  have HH := Lib.hid (held_four (cell_kept' (c := ⟨bx, 0, none⟩) hbx hcA) (cell_kept' (c := ⟨bY, 0, none⟩) hbY hcB) h5 h6)
  have HN := Lib.hid hn; have HE := Lib.hid he
  have HX := Lib.hid (And.intro x0 x1); have HY := Lib.hid (And.intro y0 y1)
  have q1 : (0 : Int) ≤ (k : Int) := by omega
  have q2 : (k : Int) < (xs.length : Int) := by omega
  have q3 : (k : Int) < (ys.length : Int) := by omega
  clear hn he hvA hvB hxa hyb h5 h6 hcA hcB hp1 hp2 x0 x1 y0 y1
  unfold maxLen at hm1 hm2
  go_enter Tryz.func86, Tryz.ntmps86
  go_wp2_with fail
  go_region_held3 (fun w' => Below w.heap.size w w' ∧ w'.cell? ⟨bx, 0, none⟩ = some (.slice adA xs.length cA) ∧ w'.cell? ⟨bY, 0, none⟩ = some (.slice adB ys.length cB) ∧ w'.cell? ⟨b1, o1 + k, none⟩ = some (.string (txt x)) ∧ w'.cell? ⟨b2, o2 + k, none⟩ = some (.string (txt y)))
    (((refine HH.out _ ?_); first
      | with_reducible exact (Below.refl _ _).drew
      | with_reducible exact Below.trans (And.left (by assumption)) (Below.mono (by assumption) (Below.size (And.left (by assumption))))))
    ((go_at_call 87; (with_reducible refine (asum_any _ n x y HN.out HX.out.1 HX.out.2 HY.out.1 HY.out.2 (HE.out.below (And.left (by assumption)) (Nat.le_refl _))).mono ?_); rintro e w3 ⟨v, rfl, rfl, hb3⟩))
  all_goals
    have hf : Below w.heap.size w w3 := And.left (by assumption)
    go_wp2
    go_ret
    exact ⟨_, rfl, rfl, hf⟩
set_option maxHeartbeats 400000 in
theorem neg_clos (w : World) (k bx c : Nat) (ad : Option Addr) (us : List ByteArray) (n x : Int) (hn : big n = false) (x0 : 0 ≤ x) (x1 : x < n) (hcell : w.cell? ⟨bx, 0, none⟩ = some (.slice ad us.length c)) (hv : Sl eS w (.slice ad us.length c) us) (hk : k < us.length) (hx : us[k] = txt x) (he : Env w) :
    Calls Tryz.prog 97 #[.int .i64 k, .string (txt n), .pointer (some ⟨bx, 0, none⟩)] w (Rets fun v w' => v = .string (txt (opp n x)) ∧ Below w.heap.size w w') := by
  obtain ⟨ad, b, o, c, e, hi, hp, hc, hm⟩ := hv.open elemStr
  cases e
  have h1 : w.cell? ⟨b, o + k, none⟩ = some (.string (txt x)) := by rw [← hx]; exact hp.2 k hk
  have HN := Lib.hid hn; have HE := Lib.hid he
  clear hn he hv hx
  go_enter Tryz.func97, Tryz.ntmps97
  go_wp2_with (go_at_call 98; (with_reducible refine (opposite_any _ n x HN.out x0 x1 HE.out).mono ?_); rintro e w1 ⟨v, rfl, rfl, hb1⟩)
  go_ret
  exact ⟨_, rfl, rfl, hb1⟩
set_option maxHeartbeats 1000000 in
theorem times_clos (w : World) (k bk bx c : Nat) (ad : Option Addr) (us : List ByteArray) (n x K : Int) (hn : Good (txt n) n) (hx' : Good (txt x) x) (hK : Good (txt K) K) (h0 : n ≠ 0) (hbig : big (Int.fmod K n * x) = false) (hbx : bx < w.heap.size) (hck : w.cell? ⟨bk, 0, none⟩ = some (.string (txt K))) (hcell : w.cell? ⟨bx, 0, none⟩ = some (.slice ad us.length c)) (hv : Sl eS w (.slice ad us.length c) us) (hk : k < us.length) (hx : us[k] = txt x) (he : Env w) :
    Calls Tryz.prog 92 #[.int .i64 k, .string (txt n), .pointer (some ⟨bk, 0, none⟩), .pointer (some ⟨bx, 0, none⟩)] w (Rets fun v w' => v = .string (txt (Int.fmod (Int.fmod K n * x) n)) ∧ Below w.heap.size w w') := by
  obtain ⟨ad, b, o, c, e, hi, hp, hc, hm⟩ := hv.open elemStr
  cases e
  have H1 := Lib.hid (show ∀ w', Below w.heap.size w w' → w'.cell? ⟨b, o + k, none⟩ = some (.string (txt x)) from fun w' hb' => by rw [← hx]; exact hp.at hb' (Nat.le_refl _) k hk)
  have H2 := Lib.hid (cell_kept' (c := ⟨bx, 0, none⟩) hbx hcell)
  have hrb := fmod_small (y := K) h0 hn.2
  have HN := Lib.hid hn; have HE := Lib.hid he; have HK := Lib.hid hK; have HX := Lib.hid hx'; have H0 := Lib.hid h0; have HB := Lib.hid hbig
  have HR := Lib.hid (res_good hrb); have HG := Lib.hid (show Good (txt (Int.fmod K n)) (Int.fmod K n) from .of hrb)
  clear hn he hv hx hK hx' h0 hbig hrb hcell hp
  go_enter Tryz.func92, Tryz.ntmps92
  go_wp2_with (first
    | (go_at_call 34; (with_reducible refine (Rem_ok _ _ _ K n HK.out HN.out H0.out HE.out).mono ?_); rintro e w1 ⟨v, rfl, rfl, hb1⟩; rw [HR.out]; have h8 := H1.out _ hb1; have h9 := H2.out _ hb1)
    | (go_at_call 93; (with_reducible refine (aproduct_any _ n (Int.fmod K n) x HN.out HG.out HX.out H0.out HB.out (HE.out.below hb1 (Nat.le_refl _))).mono ?_); rintro e w2 ⟨v, rfl, rfl, hb2⟩; have b2 := hb1.trans (hb2.mono hb1.size)))
  go_ret
  exact ⟨_, rfl, rfl, b2⟩
end Go.Proofs.YtdpdkojeapaflaaGreatDoor

namespace Go.Proofs.YtdpdkojeapaflaaGreatDoor
open Go.RowKit
set_option maxRecDepth 100000

set_option maxHeartbeats 1000000 in
theorem each_adds (w : World) (v cap cap2 : Value) (xs rs : List ByteArray) (hv : Sl eS w v xs) (hl : xs.length ≤ 1000000) (hr : rs.length = xs.length)
    (hF : ∀ k (hk : k < xs.length) (hk' : k < rs.length) w', Below w.heap.size w w' → Calls Tryz.prog 86 #[.int .i64 k, .string xs[k], cap, cap2] w' (Rets fun v w'' => v = .string rs[k] ∧ Below w'.heap.size w' w'')) :
    Calls Tryz.prog 64 #[v, .func (.func 86) #[] #[cap, cap2]] w (Rets fun v' w' => Sl eS w' v' rs ∧ Below w.heap.size w w') := by
  obtain ⟨a, b, o, c, rfl, hi, hp, hc, hm⟩ := hv.open elemStr
  have HF := Lib.hid hF; have HR := Lib.hid hr
  clear hv hF
  unfold maxLen at hm
  go_enter Tryz.func64, Tryz.ntmps64
  go_wp2_with (at_make; refine mkN elemStr rfl _ _ rfl xs.length rfl rfl (by omega) (by omega) (by omega) (by unfold maxLen; omega) (Below.refl _ _) (Nat.le_refl _) rfl ?_; intro w1 hown hb hb2; clear hb2)
  have hown := ownsRow_cast hown rfl (show List.replicate xs.length (Value.string ⟨#[]⟩) = (rs.take 0 ++ List.replicate (xs.length - 0) (⟨#[]⟩ : ByteArray)).map eS by simp [eS])
  go_loopw [13] (fun i wr => ∃ k : Nat, k ≤ xs.length ∧ i = .int .i64 k ∧ wr.ownsRow w.heap.size 27 1 (.slice (some ⟨w.heap.size, 0, none⟩) xs.length xs.length) xs.length ((rs.take k ++ List.replicate (xs.length - k) (⟨#[]⟩ : ByteArray)).map eS) ∧ Below w.heap.size w wr) (fun i _ => xs.length - (intOf i).toNat)
  case atStart => exact ⟨0, Nat.zero_le _, rfl, hown, hb⟩
  case round =>
    clear hown hb
    obtain ⟨k, hk, rfl, hown, hb⟩ := hrel
    by_cases hkn : k < xs.length
    · have hkr : k < rs.length := by rw [HR.out]; exact hkn
      have h1 : wr.cell? ⟨b, o + k, none⟩ = some (.string xs[k]) := hp.at hb (Nat.le_refl _) k hkn
      have HO := Lib.hid hown
      clear hown
      go_wp2_with ((with_reducible refine (HF.out k hkn hkr _ hb).mono ?_); rintro e w2 ⟨v, rfl, rfl, hb2⟩; have HO2 := Lib.hid (own_below HO.out hb2 (Nat.le_refl _)); obtain ⟨u, -, hcu, hfr⟩ := own_at HO2.out hkn; have hb3 := hb.trans (hb2.mono hb.size))
      go_roundw
      case rel =>
        have R := fun (q : Value) (hq : q = eS rs[k]) => fill_own HO2.out hb3 (Nat.le_refl _) (by simp; omega) hkn rs[k] q hq
        rw [← List.take_succ_eq_append_getElem hkr] at R
        exact ⟨k + 1, by omega, by go_num, (R _ rfl).1, (R _ rfl).2⟩
      case measure => simp [intOf]; omega
    · obtain rfl : k = xs.length := by omega
      rw [List.take_of_length_le (show rs.length ≤ xs.length by rw [HR.out]; exact Nat.le_refl _), Nat.sub_self, List.replicate_zero, List.append_nil] at hown
      have HS := Lib.hid (show Sl eS wr _ rs from Sl.ofOwns hown)
      clear hown
      go_wp2
      go_ret
      exact ⟨_, rfl, HS.out, hb⟩
set_option maxHeartbeats 1000000 in
theorem each_negs (w : World) (v cap : Value) (xs rs : List ByteArray) (hv : Sl eS w v xs) (hl : xs.length ≤ 1000000) (hr : rs.length = xs.length)
    (hF : ∀ k (hk : k < xs.length) (hk' : k < rs.length) w', Below w.heap.size w w' → Calls Tryz.prog 97 #[.int .i64 k, .string xs[k], cap] w' (Rets fun v w'' => v = .string rs[k] ∧ Below w'.heap.size w' w'')) :
    Calls Tryz.prog 64 #[v, .func (.func 97) #[] #[cap]] w (Rets fun v' w' => Sl eS w' v' rs ∧ Below w.heap.size w w') := by
  obtain ⟨a, b, o, c, rfl, hi, hp, hc, hm⟩ := hv.open elemStr
  have HF := Lib.hid hF; have HR := Lib.hid hr
  clear hv hF
  unfold maxLen at hm
  go_enter Tryz.func64, Tryz.ntmps64
  go_wp2_with (at_make; refine mkN elemStr rfl _ _ rfl xs.length rfl rfl (by omega) (by omega) (by omega) (by unfold maxLen; omega) (Below.refl _ _) (Nat.le_refl _) rfl ?_; intro w1 hown hb hb2; clear hb2)
  have hown := ownsRow_cast hown rfl (show List.replicate xs.length (Value.string ⟨#[]⟩) = (rs.take 0 ++ List.replicate (xs.length - 0) (⟨#[]⟩ : ByteArray)).map eS by simp [eS])
  go_loopw [13] (fun i wr => ∃ k : Nat, k ≤ xs.length ∧ i = .int .i64 k ∧ wr.ownsRow w.heap.size 27 1 (.slice (some ⟨w.heap.size, 0, none⟩) xs.length xs.length) xs.length ((rs.take k ++ List.replicate (xs.length - k) (⟨#[]⟩ : ByteArray)).map eS) ∧ Below w.heap.size w wr) (fun i _ => xs.length - (intOf i).toNat)
  case atStart => exact ⟨0, Nat.zero_le _, rfl, hown, hb⟩
  case round =>
    clear hown hb
    obtain ⟨k, hk, rfl, hown, hb⟩ := hrel
    by_cases hkn : k < xs.length
    · have hkr : k < rs.length := by rw [HR.out]; exact hkn
      have h1 : wr.cell? ⟨b, o + k, none⟩ = some (.string xs[k]) := hp.at hb (Nat.le_refl _) k hkn
      have HO := Lib.hid hown
      clear hown
      go_wp2_with ((with_reducible refine (HF.out k hkn hkr _ hb).mono ?_); rintro e w2 ⟨v, rfl, rfl, hb2⟩; have HO2 := Lib.hid (own_below HO.out hb2 (Nat.le_refl _)); obtain ⟨u, -, hcu, hfr⟩ := own_at HO2.out hkn; have hb3 := hb.trans (hb2.mono hb.size))
      go_roundw
      case rel =>
        have R := fun (q : Value) (hq : q = eS rs[k]) => fill_own HO2.out hb3 (Nat.le_refl _) (by simp; omega) hkn rs[k] q hq
        rw [← List.take_succ_eq_append_getElem hkr] at R
        exact ⟨k + 1, by omega, by go_num, (R _ rfl).1, (R _ rfl).2⟩
      case measure => simp [intOf]; omega
    · obtain rfl : k = xs.length := by omega
      rw [List.take_of_length_le (show rs.length ≤ xs.length by rw [HR.out]; exact Nat.le_refl _), Nat.sub_self, List.replicate_zero, List.append_nil] at hown
      have HS := Lib.hid (show Sl eS wr _ rs from Sl.ofOwns hown)
      clear hown
      go_wp2
      go_ret
      exact ⟨_, rfl, HS.out, hb⟩
set_option maxHeartbeats 1000000 in
theorem each_times (w : World) (v cap cap2 : Value) (xs rs : List ByteArray) (hv : Sl eS w v xs) (hl : xs.length ≤ 1000000) (hr : rs.length = xs.length)
    (hF : ∀ k (hk : k < xs.length) (hk' : k < rs.length) w', Below w.heap.size w w' → Calls Tryz.prog 92 #[.int .i64 k, .string xs[k], cap, cap2] w' (Rets fun v w'' => v = .string rs[k] ∧ Below w'.heap.size w' w'')) :
    Calls Tryz.prog 64 #[v, .func (.func 92) #[] #[cap, cap2]] w (Rets fun v' w' => Sl eS w' v' rs ∧ Below w.heap.size w w') := by
  obtain ⟨a, b, o, c, rfl, hi, hp, hc, hm⟩ := hv.open elemStr
  have HF := Lib.hid hF; have HR := Lib.hid hr
  clear hv hF
  unfold maxLen at hm
  go_enter Tryz.func64, Tryz.ntmps64
  go_wp2_with (at_make; refine mkN elemStr rfl _ _ rfl xs.length rfl rfl (by omega) (by omega) (by omega) (by unfold maxLen; omega) (Below.refl _ _) (Nat.le_refl _) rfl ?_; intro w1 hown hb hb2; clear hb2)
  have hown := ownsRow_cast hown rfl (show List.replicate xs.length (Value.string ⟨#[]⟩) = (rs.take 0 ++ List.replicate (xs.length - 0) (⟨#[]⟩ : ByteArray)).map eS by simp [eS])
  go_loopw [13] (fun i wr => ∃ k : Nat, k ≤ xs.length ∧ i = .int .i64 k ∧ wr.ownsRow w.heap.size 27 1 (.slice (some ⟨w.heap.size, 0, none⟩) xs.length xs.length) xs.length ((rs.take k ++ List.replicate (xs.length - k) (⟨#[]⟩ : ByteArray)).map eS) ∧ Below w.heap.size w wr) (fun i _ => xs.length - (intOf i).toNat)
  case atStart => exact ⟨0, Nat.zero_le _, rfl, hown, hb⟩
  case round =>
    clear hown hb
    obtain ⟨k, hk, rfl, hown, hb⟩ := hrel
    by_cases hkn : k < xs.length
    · have hkr : k < rs.length := by rw [HR.out]; exact hkn
      have h1 : wr.cell? ⟨b, o + k, none⟩ = some (.string xs[k]) := hp.at hb (Nat.le_refl _) k hkn
      have HO := Lib.hid hown
      clear hown
      go_wp2_with ((with_reducible refine (HF.out k hkn hkr _ hb).mono ?_); rintro e w2 ⟨v, rfl, rfl, hb2⟩; have HO2 := Lib.hid (own_below HO.out hb2 (Nat.le_refl _)); obtain ⟨u, -, hcu, hfr⟩ := own_at HO2.out hkn; have hb3 := hb.trans (hb2.mono hb.size))
      go_roundw
      case rel =>
        have R := fun (q : Value) (hq : q = eS rs[k]) => fill_own HO2.out hb3 (Nat.le_refl _) (by simp; omega) hkn rs[k] q hq
        rw [← List.take_succ_eq_append_getElem hkr] at R
        exact ⟨k + 1, by omega, by go_num, (R _ rfl).1, (R _ rfl).2⟩
      case measure => simp [intOf]; omega
    · obtain rfl : k = xs.length := by omega
      rw [List.take_of_length_le (show rs.length ≤ xs.length by rw [HR.out]; exact Nat.le_refl _), Nat.sub_self, List.replicate_zero, List.append_nil] at hown
      have HS := Lib.hid (show Sl eS wr _ rs from Sl.ofOwns hown)
      clear hown
      go_wp2
      go_ret
      exact ⟨_, rfl, HS.out, hb⟩
end Go.Proofs.YtdpdkojeapaflaaGreatDoor

namespace Go.Proofs.YtdpdkojeapaflaaGreatDoor
open Go.RowKit
set_option maxRecDepth 100000

theorem held_both {w : World} {c d : Addr} {u v : Value} (h4 : ∀ w', Below w.heap.size w w' → w'.cell? c = some u) (h5 : ∀ w', Below w.heap.size w w' → w'.cell? d = some v) :
    ∀ w', Below w.heap.size w w' → Below w.heap.size w w' ∧ w'.cell? c = some u ∧ w'.cell? d = some v := fun _ hb => ⟨hb, h4 _ hb, h5 _ hb⟩
/-- The list of the first n values. -/
def mapI (n : Nat) (f : Nat → Int) : List Int := (List.range n).map f
theorem mapI_len (n : Nat) (f : Nat → Int) : (mapI n f).length = n := by simp [mapI]
theorem mapI_get (n : Nat) (f : Nat → Int) (k : Nat) (h : k < (mapI n f).length) : (mapI n f)[k] = f k := by simp [mapI]
theorem getD_at (zs : List Int) (k : Nat) (h : k < zs.length) : zs.getD k 0 = zs[k] := by simp [List.getD, h]
theorem cell_txt {w : World} {b o : Nat} {xs : List ByteArray} {zs : List Int} (hp : Cells eS w b o xs) (h : xs = zs.map txt) (k : Nat) (hk : k < zs.length) : ∀ w', Below w.heap.size w w' → w'.cell? ⟨b, o + k, none⟩ = some (.string (txt zs[k])) := by
  intro w' hb
  have hk' : k < xs.length := by rw [h, List.length_map]; exact hk
  have h2 := hp.at hb (Nat.le_refl _) k hk'
  have h3 : xs[k] = txt zs[k] := by simp [h]
  rw [h2, h3]; rfl
theorem goods_txt : ∀ {xs : List ByteArray} {zs : List Int}, Goods xs zs → xs = zs.map txt
  | [], [], _ => rfl
  | s :: l, z :: zs, h => by rw [List.map_cons, ← goods_txt h.2, ← h.1.eq]
  | [], _ :: _, h => h.elim
  | _ :: _, [], h => h.elim
/-- The sum of elements, a multiple, the element of integers. -/
def plusL (zs us vs : List Int) : List Int := mapI zs.length fun i => Int.fmod (us.getD i 0 + vs.getD i 0) (zs.getD i 0)
def multL (zs : List Int) (K : Int) (us : List Int) : List Int := mapI zs.length fun i => Int.fmod (K * us.getD i 0) (zs.getD i 0)
def redL (zs us : List Int) : List Int := mapI zs.length fun i => Int.fmod (us.getD i 0) (zs.getD i 0)

set_option maxHeartbeats 2000000 in
theorem Plus_el (w : World) (v0 : Value) (l0 : List ByteArray) (z0 : List Int) (v1 : Value) (l1 : List ByteArray) (z1 : List Int) (v2 : Value) (l2 : List ByteArray) (z2 : List Int) (hv0 : Sl eS w v0 l0) (hz0 : l0 = z0.map txt) (hd0 : ∀ z ∈ z0, dn z ≤ 1000) (hv1 : Sl eS w v1 l1) (hz1 : l1 = z1.map txt) (hd1 : ∀ z ∈ z1, dn z ≤ 1000) (hv2 : Sl eS w v2 l2) (hz2 : l2 = z2.map txt) (hd2 : ∀ z ∈ z2, dn z ≤ 1000) (hl1 : z1.length = z0.length) (hl2 : z2.length = z0.length) (hn : z0.length ≤ 1000) (h0 : ∀ z ∈ z0, z ≠ 0) :
    Calls Tryz.prog 96 #[v0, v1, v2] w (Rets fun r w' => Sl eS w' r ((plusL z0 z1 z2).map txt) ∧ Below w.heap.size w w') := by
  obtain ⟨ad0, b0, o0, c0, rfl, hi0, hp0, -, hm0⟩ := hv0.open elemStr
  obtain ⟨ad1, b1, o1, c1, rfl, hi1, hp1, -, hm1⟩ := hv1.open elemStr
  obtain ⟨ad2, b2, o2, c2, rfl, hi2, hp2, -, hm2⟩ := hv2.open elemStr
  have hgl0 : l0.length = z0.length := by rw [hz0, List.length_map]
  have hgl1 : l1.length = z0.length := by rw [hz1, List.length_map, hl1]
  have hgl2 : l2.length = z0.length := by rw [hz2, List.length_map, hl2]
  have C0 := fun k hk => cell_txt hp0 hz0 k hk
  have C1 := fun k hk => cell_txt hp1 hz1 k hk
  have C2 := fun k hk => cell_txt hp2 hz2 k hk
  rw [hgl0] at hi0 ⊢
  rw [hgl1] at hi1 ⊢
  rw [hgl2] at hi2 ⊢
  have HC0 := Lib.hid C0; have HD0 := Lib.hid hd0; have HC1 := Lib.hid C1; have HD1 := Lib.hid hd1; have HC2 := Lib.hid C2; have HD2 := Lib.hid hd2; have H0 := Lib.hid h0; have HL1 := Lib.hid hl1; have HL2 := Lib.hid hl2
  obtain ⟨rs, hrs⟩ : ∃ rs, plusL z0 z1 z2 = rs := ⟨_, rfl⟩
  have HRS := Lib.hid hrs
  have HRL := Lib.hid (show rs.length = z0.length by rw [← hrs]; exact mapI_len _ _)
  rw [hrs]
  clear h0 hrs C0 hd0 hv0 hz0 hgl0 hp0 C1 hd1 hv1 hz1 hgl1 hp1 C2 hd2 hv2 hz2 hgl2 hp2 hl1 hl2
  unfold maxLen at hm0 hm1 hm2
  go_enter Tryz.func96, Tryz.ntmps96
  go_wp2
  go_loopw [7, 8] (fun out i wr => ∃ k : Nat, k ≤ z0.length ∧ i = .int .i64 k ∧ wr.ownsRow w.heap.size 27 1 out k ((rs.take k).map (fun n => eS (txt n))) ∧ Below w.heap.size w wr) (fun _ i _ => z0.length - (intOf i).toNat)
  case atStart => exact ⟨0, Nat.zero_le _, rfl, World.ownsRow_nil _ _ _ _, Below.refl _ _⟩
  case round =>
    obtain ⟨k, hk, rfl, hown, hb⟩ := hrel
    have hbs := hb.size
    by_cases hkn : k < z0.length
    · have hkr : k < rs.length := by rw [HRL.out]; exact hkn
      have hk1 : k < z1.length := by rw [HL1.out]; exact hkn
      have hk2 : k < z2.length := by rw [HL2.out]; exact hkn
      obtain ⟨n, hnn⟩ : ∃ n : Int, z0[k] = n := ⟨_, rfl⟩
      have g0 := HC0.out k hkn
      rw [hnn] at g0
      have hdn : dn n ≤ 1000 := by rw [← hnn]; exact HD0.out _ (List.getElem_mem hkn)
      obtain ⟨x, hx⟩ : ∃ n : Int, z1[k] = n := ⟨_, rfl⟩
      have g1 := HC1.out k hk1
      rw [hx] at g1
      have hdx : dn x ≤ 1000 := by rw [← hx]; exact HD1.out _ (List.getElem_mem hk1)
      obtain ⟨y, hy⟩ : ∃ n : Int, z2[k] = n := ⟨_, rfl⟩
      have g2 := HC2.out k hk2
      rw [hy] at g2
      have hdy : dn y ≤ 1000 := by rw [← hy]; exact HD2.out _ (List.getElem_mem hk2)
      have hn0 : n ≠ 0 := by rw [← hnn]; exact H0.out _ (List.getElem_mem hkn)
      have hr : Int.fmod (x + y) n = rs[k] := by
        have : rs[k] = (plusL z0 z1 z2)[k]'(by rw [HRS.out]; exact hkr) := by simp only [HRS.out]
        rw [this]
        simp only [plusL, mapI_get, getD_at _ _ hkn, getD_at _ _ hk1, getD_at _ _ hk2, hnn, hx, hy]
      have HR := Lib.hid hr; have HN0 := Lib.hid hn0; have HDn := Lib.hid hdn; have HDx := Lib.hid hdx; have HDy := Lib.hid hdy
      have HH := Lib.hid (held_three g1 g2 g0)
      have HB := Lib.hid hb
      have HO := Lib.hid hown
      have q1 : (0 : Int) ≤ (k : Int) := by omega
      have q2 : (k : Int) < (z0.length : Int) := by omega
      clear hn0 hr hown hb g0 hdn hnn g1 hdx hx g2 hdy hy
      go_wp2_with fail
      go_region_held3 (fun w' => Below w.heap.size w w' ∧ w'.cell? ⟨b1, o1 + k, none⟩ = some (.string (txt x)) ∧ w'.cell? ⟨b2, o2 + k, none⟩ = some (.string (txt y)) ∧ w'.cell? ⟨b0, o0 + k, none⟩ = some (.string (txt n)))
        (((refine HH.out _ ?_); first
          | with_reducible exact HB.out.drew
          | with_reducible exact Below.trans (And.left (by assumption)) (Below.mono (by assumption) (Below.size (And.left (by assumption))))
          | with_reducible exact Below.alloc (And.left (by assumption)) (Below.size (And.left (by assumption))) _
          | with_reducible assumption
          | with_reducible exact And.left (by assumption)))
        (first
          | (go_at_call 31; (with_reducible refine (Plus_any _ x y (by have := HDx.out; omega) (by have := HDy.out; omega)).mono ?_); rintro e w3 ⟨v, rfl, rfl, hb3⟩; have bq0 : Below wr.heap.size wr w3 := ⟨hb3.os, hb3.tape, hb3.output, hb3.size, hb3.block⟩)
          | (go_at_call 113; (with_reducible refine (Rest_any _ (x + y) n (by have := dn_add x y; have := HDx.out; have := HDy.out; omega) (by have := HDn.out; omega) HN0.out).mono ?_); rintro e w4 ⟨v, rfl, rfl, hb4⟩; have hb4' : Below w3.heap.size w3 w4 := ⟨hb4.os, hb4.tape, hb4.output, hb4.size, hb4.block⟩; have bq1 := bq0.trans (hb4'.mono bq0.size); have HO4 := Lib.hid (own_below HO.out bq1 (Nat.le_refl _)); have bz := HB.out.trans (bq1.mono HB.out.size))
          | (refine app1_step elemStr rfl _ _ rfl rfl rfl HO4.out bz (Nat.le_refl _) bz.size rfl (by simp [Value.oneCell']) (by omega) (by unfold maxLen; omega) ?_; intro v' w5 hown' hb'))
      all_goals
        rw [HR.out] at hown'
        go_wp2_with fail
        go_roundw
        case rel => exact ⟨k + 1, by omega, by go_num, by rw [List.take_succ_eq_append_getElem hkr, List.map_append]; exact hown', hb'⟩
        case measure => simp [intOf]; omega
    · obtain rfl : k = z0.length := by omega
      rw [List.take_of_length_le (by rw [HRL.out]; exact Nat.le_refl _)] at hown
      have hown2 := ownsRow_cast hown rfl (show rs.map (fun n => eS (txt n)) = (rs.map txt).map eS by rw [List.map_map]; rfl)
      have HS := Lib.hid (Sl.ofOwns hown2)
      clear hown hown2
      go_wp2
      go_ret
      exact ⟨_, rfl, HS.out, hb⟩
set_option maxHeartbeats 2000000 in
theorem Mult_el (w : World) (v0 : Value) (l0 : List ByteArray) (z0 : List Int) (v1 : Value) (l1 : List ByteArray) (z1 : List Int) (K : Int) (hK : dn K ≤ 1100) (hv0 : Sl eS w v0 l0) (hz0 : l0 = z0.map txt) (hd0 : ∀ z ∈ z0, dn z ≤ 1000) (hv1 : Sl eS w v1 l1) (hz1 : l1 = z1.map txt) (hd1 : ∀ z ∈ z1, dn z ≤ 1000) (hl1 : z1.length = z0.length) (hn : z0.length ≤ 1000) (h0 : ∀ z ∈ z0, z ≠ 0) :
    Calls Tryz.prog 99 #[v0, .string (txt K), v1] w (Rets fun r w' => Sl eS w' r ((multL z0 K z1).map txt) ∧ Below w.heap.size w w') := by
  obtain ⟨ad0, b0, o0, c0, rfl, hi0, hp0, -, hm0⟩ := hv0.open elemStr
  obtain ⟨ad1, b1, o1, c1, rfl, hi1, hp1, -, hm1⟩ := hv1.open elemStr
  have hgl0 : l0.length = z0.length := by rw [hz0, List.length_map]
  have hgl1 : l1.length = z0.length := by rw [hz1, List.length_map, hl1]
  have C0 := fun k hk => cell_txt hp0 hz0 k hk
  have C1 := fun k hk => cell_txt hp1 hz1 k hk
  rw [hgl0] at hi0 ⊢
  rw [hgl1] at hi1 ⊢
  have HC0 := Lib.hid C0; have HD0 := Lib.hid hd0; have HC1 := Lib.hid C1; have HD1 := Lib.hid hd1; have H0 := Lib.hid h0; have HL1 := Lib.hid hl1; have HK := Lib.hid hK
  obtain ⟨rs, hrs⟩ : ∃ rs, multL z0 K z1 = rs := ⟨_, rfl⟩
  have HRS := Lib.hid hrs
  have HRL := Lib.hid (show rs.length = z0.length by rw [← hrs]; exact mapI_len _ _)
  rw [hrs]
  clear h0 hrs C0 hd0 hv0 hz0 hgl0 hp0 C1 hd1 hv1 hz1 hgl1 hp1 hl1 hK
  unfold maxLen at hm0 hm1
  go_enter Tryz.func99, Tryz.ntmps99
  go_wp2
  go_loopw [7, 8] (fun out i wr => ∃ k : Nat, k ≤ z0.length ∧ i = .int .i64 k ∧ wr.ownsRow w.heap.size 27 1 out k ((rs.take k).map (fun n => eS (txt n))) ∧ Below w.heap.size w wr) (fun _ i _ => z0.length - (intOf i).toNat)
  case atStart => exact ⟨0, Nat.zero_le _, rfl, World.ownsRow_nil _ _ _ _, Below.refl _ _⟩
  case round =>
    obtain ⟨k, hk, rfl, hown, hb⟩ := hrel
    have hbs := hb.size
    by_cases hkn : k < z0.length
    · have hkr : k < rs.length := by rw [HRL.out]; exact hkn
      have hk1 : k < z1.length := by rw [HL1.out]; exact hkn
      obtain ⟨n, hnn⟩ : ∃ n : Int, z0[k] = n := ⟨_, rfl⟩
      have g0 := HC0.out k hkn
      rw [hnn] at g0
      have hdn : dn n ≤ 1000 := by rw [← hnn]; exact HD0.out _ (List.getElem_mem hkn)
      obtain ⟨x, hx⟩ : ∃ n : Int, z1[k] = n := ⟨_, rfl⟩
      have g1 := HC1.out k hk1
      rw [hx] at g1
      have hdx : dn x ≤ 1000 := by rw [← hx]; exact HD1.out _ (List.getElem_mem hk1)
      have hn0 : n ≠ 0 := by rw [← hnn]; exact H0.out _ (List.getElem_mem hkn)
      have hr : Int.fmod (K * x) n = rs[k] := by
        have : rs[k] = (multL z0 K z1)[k]'(by rw [HRS.out]; exact hkr) := by simp only [HRS.out]
        rw [this]
        simp only [multL, mapI_get, getD_at _ _ hkn, getD_at _ _ hk1, hnn, hx]
      have HR := Lib.hid hr; have HN0 := Lib.hid hn0; have HDn := Lib.hid hdn; have HDx := Lib.hid hdx
      have HH := Lib.hid (held_both g1 g0)
      have HB := Lib.hid hb
      have HO := Lib.hid hown
      have q1 : (0 : Int) ≤ (k : Int) := by omega
      have q2 : (k : Int) < (z0.length : Int) := by omega
      clear hn0 hr hown hb g0 hdn hnn g1 hdx hx
      go_wp2_with fail
      go_region_held3 (fun w' => Below w.heap.size w w' ∧ w'.cell? ⟨b1, o1 + k, none⟩ = some (.string (txt x)) ∧ w'.cell? ⟨b0, o0 + k, none⟩ = some (.string (txt n)))
        (((refine HH.out _ ?_); first
          | with_reducible exact HB.out.drew
          | with_reducible exact Below.trans (And.left (by assumption)) (Below.mono (by assumption) (Below.size (And.left (by assumption))))
          | with_reducible exact Below.alloc (And.left (by assumption)) (Below.size (And.left (by assumption))) _
          | with_reducible assumption
          | with_reducible exact And.left (by assumption)))
        (first
          | (go_at_call 101; (with_reducible refine (Times_any _ K x (by have := HK.out; omega) (by have := HDx.out; omega)).mono ?_); rintro e w3 ⟨v, rfl, rfl, hb3⟩; have bq0 : Below wr.heap.size wr w3 := ⟨hb3.os, hb3.tape, hb3.output, hb3.size, hb3.block⟩)
          | (go_at_call 113; (with_reducible refine (Rest_any _ (K * x) n (by have := dn_mul K x; have := HDx.out; have := HK.out; omega) (by have := HDn.out; omega) HN0.out).mono ?_); rintro e w4 ⟨v, rfl, rfl, hb4⟩; have hb4' : Below w3.heap.size w3 w4 := ⟨hb4.os, hb4.tape, hb4.output, hb4.size, hb4.block⟩; have bq1 := bq0.trans (hb4'.mono bq0.size); have HO4 := Lib.hid (own_below HO.out bq1 (Nat.le_refl _)); have bz := HB.out.trans (bq1.mono HB.out.size))
          | (refine app1_step elemStr rfl _ _ rfl rfl rfl HO4.out bz (Nat.le_refl _) bz.size rfl (by simp [Value.oneCell']) (by omega) (by unfold maxLen; omega) ?_; intro v' w5 hown' hb'))
      all_goals
        rw [HR.out] at hown'
        go_wp2_with fail
        go_roundw
        case rel => exact ⟨k + 1, by omega, by go_num, by rw [List.take_succ_eq_append_getElem hkr, List.map_append]; exact hown', hb'⟩
        case measure => simp [intOf]; omega
    · obtain rfl : k = z0.length := by omega
      rw [List.take_of_length_le (by rw [HRL.out]; exact Nat.le_refl _)] at hown
      have hown2 := ownsRow_cast hown rfl (show rs.map (fun n => eS (txt n)) = (rs.map txt).map eS by rw [List.map_map]; rfl)
      have HS := Lib.hid (Sl.ofOwns hown2)
      clear hown hown2
      go_wp2
      go_ret
      exact ⟨_, rfl, HS.out, hb⟩
set_option maxHeartbeats 2000000 in
theorem Red_el (w : World) (v0 : Value) (l0 : List ByteArray) (z0 : List Int) (v1 : Value) (l1 : List ByteArray) (z1 : List Int) (hv0 : Sl eS w v0 l0) (hz0 : l0 = z0.map txt) (hd0 : ∀ z ∈ z0, dn z ≤ 1000) (hv1 : Sl eS w v1 l1) (hz1 : l1 = z1.map txt) (hd1 : ∀ z ∈ z1, dn z ≤ 1000) (hl1 : z1.length = z0.length) (hn : z0.length ≤ 1000) (h0 : ∀ z ∈ z0, z ≠ 0) :
    Calls Tryz.prog 78 #[v0, v1] w (Rets fun r w' => Sl eS w' r ((redL z0 z1).map txt) ∧ Below w.heap.size w w') := by
  obtain ⟨ad0, b0, o0, c0, rfl, hi0, hp0, -, hm0⟩ := hv0.open elemStr
  obtain ⟨ad1, b1, o1, c1, rfl, hi1, hp1, -, hm1⟩ := hv1.open elemStr
  have hgl0 : l0.length = z0.length := by rw [hz0, List.length_map]
  have hgl1 : l1.length = z0.length := by rw [hz1, List.length_map, hl1]
  have C0 := fun k hk => cell_txt hp0 hz0 k hk
  have C1 := fun k hk => cell_txt hp1 hz1 k hk
  rw [hgl0] at hi0 ⊢
  rw [hgl1] at hi1 ⊢
  have HC0 := Lib.hid C0; have HD0 := Lib.hid hd0; have HC1 := Lib.hid C1; have HD1 := Lib.hid hd1; have H0 := Lib.hid h0; have HL1 := Lib.hid hl1
  obtain ⟨rs, hrs⟩ : ∃ rs, redL z0 z1 = rs := ⟨_, rfl⟩
  have HRS := Lib.hid hrs
  have HRL := Lib.hid (show rs.length = z0.length by rw [← hrs]; exact mapI_len _ _)
  rw [hrs]
  clear h0 hrs C0 hd0 hv0 hz0 hgl0 hp0 C1 hd1 hv1 hz1 hgl1 hp1 hl1
  unfold maxLen at hm0 hm1
  go_enter Tryz.func78, Tryz.ntmps78
  go_wp2
  go_loopw [5, 6] (fun out i wr => ∃ k : Nat, k ≤ z0.length ∧ i = .int .i64 k ∧ wr.ownsRow w.heap.size 27 1 out k ((rs.take k).map (fun n => eS (txt n))) ∧ Below w.heap.size w wr) (fun _ i _ => z0.length - (intOf i).toNat)
  case atStart => exact ⟨0, Nat.zero_le _, rfl, World.ownsRow_nil _ _ _ _, Below.refl _ _⟩
  case round =>
    obtain ⟨k, hk, rfl, hown, hb⟩ := hrel
    have hbs := hb.size
    by_cases hkn : k < z0.length
    · have hkr : k < rs.length := by rw [HRL.out]; exact hkn
      have hk1 : k < z1.length := by rw [HL1.out]; exact hkn
      obtain ⟨n, hnn⟩ : ∃ n : Int, z0[k] = n := ⟨_, rfl⟩
      have g0 := HC0.out k hkn
      rw [hnn] at g0
      have hdn : dn n ≤ 1000 := by rw [← hnn]; exact HD0.out _ (List.getElem_mem hkn)
      obtain ⟨x, hx⟩ : ∃ n : Int, z1[k] = n := ⟨_, rfl⟩
      have g1 := HC1.out k hk1
      rw [hx] at g1
      have hdx : dn x ≤ 1000 := by rw [← hx]; exact HD1.out _ (List.getElem_mem hk1)
      have hn0 : n ≠ 0 := by rw [← hnn]; exact H0.out _ (List.getElem_mem hkn)
      have hr : Int.fmod x n = rs[k] := by
        have : rs[k] = (redL z0 z1)[k]'(by rw [HRS.out]; exact hkr) := by simp only [HRS.out]
        rw [this]
        simp only [redL, mapI_get, getD_at _ _ hkn, getD_at _ _ hk1, hnn, hx]
      have HR := Lib.hid hr; have HN0 := Lib.hid hn0; have HDn := Lib.hid hdn; have HDx := Lib.hid hdx
      have HH := Lib.hid (held_both g1 g0)
      have HB := Lib.hid hb
      have HO := Lib.hid hown
      have q1 : (0 : Int) ≤ (k : Int) := by omega
      have q2 : (k : Int) < (z0.length : Int) := by omega
      clear hn0 hr hown hb g0 hdn hnn g1 hdx hx
      go_wp2_with fail
      go_region_held3 (fun w' => Below w.heap.size w w' ∧ w'.cell? ⟨b1, o1 + k, none⟩ = some (.string (txt x)) ∧ w'.cell? ⟨b0, o0 + k, none⟩ = some (.string (txt n)))
        (((refine HH.out _ ?_); first
          | with_reducible exact HB.out.drew
          | with_reducible exact Below.trans (And.left (by assumption)) (Below.mono (by assumption) (Below.size (And.left (by assumption))))
          | with_reducible exact Below.alloc (And.left (by assumption)) (Below.size (And.left (by assumption))) _
          | with_reducible assumption
          | with_reducible exact And.left (by assumption)))
        (first
          | (go_at_call 113; (with_reducible refine (Rest_any _ x n (by have := HDx.out; omega) (by have := HDn.out; omega) HN0.out).mono ?_); rintro e w3 ⟨v, rfl, rfl, hb3⟩; have bq0 : Below wr.heap.size wr w3 := ⟨hb3.os, hb3.tape, hb3.output, hb3.size, hb3.block⟩; have HO4 := Lib.hid (own_below HO.out bq0 (Nat.le_refl _)); have bz := HB.out.trans (bq0.mono HB.out.size))
          | (refine app1_step elemStr rfl _ _ rfl rfl rfl HO4.out bz (Nat.le_refl _) bz.size rfl (by simp [Value.oneCell']) (by omega) (by unfold maxLen; omega) ?_; intro v' w5 hown' hb'))
      all_goals
        rw [HR.out] at hown'
        go_wp2_with fail
        go_roundw
        case rel => exact ⟨k + 1, by omega, by go_num, by rw [List.take_succ_eq_append_getElem hkr, List.map_append]; exact hown', hb'⟩
        case measure => simp [intOf]; omega
    · obtain rfl : k = z0.length := by omega
      rw [List.take_of_length_le (by rw [HRL.out]; exact Nat.le_refl _)] at hown
      have hown2 := ownsRow_cast hown rfl (show rs.map (fun n => eS (txt n)) = (rs.map txt).map eS by rw [List.map_map]; rfl)
      have HS := Lib.hid (Sl.ofOwns hown2)
      clear hown hown2
      go_wp2
      go_ret
      exact ⟨_, rfl, HS.out, hb⟩
end Go.Proofs.YtdpdkojeapaflaaGreatDoor

namespace Go.Proofs.YtdpdkojeapaflaaGreatDoor
open Go.RowKit
set_option maxRecDepth 100000

def nums (xs : List ByteArray) : List Int := xs.map num
/-- What Add, Neg and Times answer: a list and an error. -/
def addS (g a b : List ByteArray) : List ByteArray × Int :=
  if gchk g = 0 then (if mchk g a = 0 then (if mchk g b = 0 then ((plusL (nums g) (nums a) (nums b)).map txt, 0) else ([], mchk g b)) else ([], mchk g a)) else ([], gchk g)
def negS (g a : List ByteArray) : List ByteArray × Int :=
  if gchk g = 0 then (if mchk g a = 0 then ((multL (nums g) (-1) (nums a)).map txt, 0) else ([], mchk g a)) else ([], gchk g)
def timesS (g : List ByteArray) (k : ByteArray) (a : List ByteArray) : List ByteArray × Int :=
  if gchk g = 0 then (if chk k.data.toList = 0 then (if mchk g a = 0 then ((multL (nums g) (num k) (nums a)).map txt, 0) else ([], mchk g a)) else ([], chk k.data.toList)) else ([], gchk g)
/-- An element of a right group, place by place. -/
theorem at_place {g a : List ByteArray} (hg : gchk g = 0) (hm : mchk g a = 0) : a.length = g.length ∧ ∀ k (hk : k < g.length) (hk' : k < a.length),
    g[k] = txt ((nums g).getD k 0) ∧ a[k] = txt ((nums a).getD k 0) ∧ Good g[k] ((nums g).getD k 0) ∧ Good a[k] ((nums a).getD k 0) ∧ 2 ≤ (nums g).getD k 0 ∧ 0 ≤ (nums a).getD k 0 ∧ (nums a).getD k 0 < (nums g).getD k 0 := by
  obtain ⟨zs, hG⟩ := grp_of hg
  obtain ⟨us, hus, hel, hal, -, -⟩ := elt_tx hG hm
  refine ⟨hal, fun k hk hk' => ?_⟩
  have ez := goods_num g zs hG.good
  have eu := goods_num a us hus
  have hz : k < zs.length := by rw [hG.good.len]; exact hk
  have hu : k < us.length := by rw [hus.len]; exact hk'
  have e1 : (nums g).getD k 0 = zs[k] := by unfold nums; rw [← ez]; exact getD_at _ _ hz
  have e2 : (nums a).getD k 0 = us[k] := by unfold nums; rw [← eu]; exact getD_at _ _ hu
  rw [e1, e2]
  have h1 := hG.good.get k hk hz
  have h2 := hus.get k hk' hu
  have h3 := hel k hz hu
  exact ⟨h1.eq, h2.eq, h1, h2, hG.two _ (List.getElem_mem hz), h3.1, h3.2⟩
theorem nums_len (xs : List ByteArray) : (nums xs).length = xs.length := by simp [nums]
theorem opp_fmod {n x : Int} (h0 : 0 ≤ x) (h1 : x < n) : opp n x = Int.fmod (-1 * x) n := by
  unfold opp
  by_cases hz : x = 0
  · rw [if_pos hz, hz]; simp
  · rw [if_neg hz, Int.fmod_eq_emod_of_nonneg _ (by omega), show -1 * x = (n - x) + n * (-1) by omega, Int.add_mul_emod_self_left, Int.emod_eq_of_lt (by omega) (by omega)]
theorem fmod_mul {K n x : Int} (hn : 0 < n) : Int.fmod (Int.fmod K n * x) n = Int.fmod (K * x) n := by
  rw [Int.fmod_eq_emod_of_nonneg _ (by omega), Int.fmod_eq_emod_of_nonneg _ (by omega), Int.fmod_eq_emod_of_nonneg _ (by omega), Int.mul_emod (K % n), Int.emod_emod, ← Int.mul_emod]

set_option maxHeartbeats 4000000 in
theorem AAdd_any (w : World) (v u t : Value) (g a b : List ByteArray) (hv : Sl eS w v g) (hu : Sl eS w u a) (ht : Sl eS w t b) (hsg : g.length ≤ 16 → ∀ s ∈ g, s.size ≤ 1000000) (hsa : ∀ s ∈ a, s.size ≤ 1000000) (hsb : ∀ s ∈ b, s.size ≤ 1000000) (he : Env w) :
    Calls Tryz.prog 32 #[v, u, t] w (Rets fun r w' => ∃ x, r = .tuple #[x, .int .i64 (addS g a b).2] ∧ Sl eS w' x (addS g a b).1 ∧ Below w.heap.size w w') := by
  have HV := Lib.hid hv; have HU := Lib.hid hu; have HT := Lib.hid ht; have HSG := Lib.hid hsg; have HSA := Lib.hid hsa; have HSB := Lib.hid hsb; have HE := Lib.hid he
  obtain ⟨ad, b0, o, c, rfl, -, -, -, -⟩ := hv.open elemStr
  obtain ⟨adA, bA, oA, cA, rfl, -, -, -, -⟩ := hu.open elemStr
  obtain ⟨adB, bB, oB, cB, rfl, -, -, -, -⟩ := ht.open elemStr
  have hmf : ∀ (fn : Fn) (first cap : Array Value) (w : World), (Instr.makeFunc fn first cap).run Tryz.prog w = .ok (.func fn first cap) w := fun _ _ _ _ => rfl
  have HB0 := Lib.hid (show Below w.heap.size w ((w.alloc (.cells #[.slice adA a.length cA] 22)).alloc (.cells #[.slice adB b.length cB] 22)) from ((Below.refl _ w).alloc (Nat.le_refl _) _).alloc (by simp) _)
  have HKA := Lib.hid ((Blk.new w [.slice adA a.length cA] 22).alloc (.cells #[.slice adB b.length cB] 22))
  have HKB := Lib.hid (show Blk ((w.alloc (.cells #[.slice adA a.length cA] 22)).alloc (.cells #[.slice adB b.length cB] 22)) (w.heap.size + 1) [.slice adB b.length cB] 22 by
    have := Blk.new (w.alloc (.cells #[.slice adA a.length cA] 22)) [.slice adB b.length cB] 22
    simpa using this)
  clear hv hu ht hsg hsa hsb he
  by_cases hg : gchk g = 0
  · have HG := Lib.hid hg
    have hl16 := (gchk_len hg).1
    obtain ⟨zs, hG⟩ := grp_of hg
    have HZ := Lib.hid hG.good
    have HCL := Lib.hid (show mchk g a = 0 → mchk g b = 0 → ∀ w', Env w' → Sl eS w' (.slice adA a.length cA) a → Sl eS w' (.slice adB b.length cB) b → Blk w' w.heap.size [.slice adA a.length cA] 22 → Blk w' (w.heap.size + 1) [.slice adB b.length cB] 22 →
        ∀ k (hk : k < g.length) (hk' : k < ((plusL (nums g) (nums a) (nums b)).map txt).length), Calls Tryz.prog 86 #[.int .i64 k, .string g[k], .pointer (some ⟨w.heap.size, 0, none⟩), .pointer (some ⟨w.heap.size + 1, 0, none⟩)] w' (Rets fun v w'' => v = .string ((plusL (nums g) (nums a) (nums b)).map txt)[k] ∧ Below w'.heap.size w' w'') from by
      intro ha hb w' he' hsA hsB hkA hkB k hk hk'
      obtain ⟨hla, pa⟩ := at_place hg ha
      obtain ⟨hlb, pb⟩ := at_place hg hb
      obtain ⟨e1, e2, g1', g2', p2, p0, pl⟩ := pa k hk (by omega)
      obtain ⟨-, e3, -, -, -, r0, rl⟩ := pb k hk (by omega)
      have e4 : ((plusL (nums g) (nums a) (nums b)).map txt)[k] = txt (Int.fmod ((nums a).getD k 0 + (nums b).getD k 0) ((nums g).getD k 0)) := by simp only [List.getElem_map, plusL, mapI_get]
      rw [e4, e1]
      exact add_clos w' k _ _ cA cB adA adB a b _ _ _ g1'.2 p0 pl r0 rl hkA.lt hkB.lt (hkA.cell 0 _ rfl) (hkB.cell 0 _ rfl) hsA hsB (by omega) (by omega) e2 e3 he')
    have HPL := Lib.hid (show ((plusL (nums g) (nums a) (nums b)).map txt).length = g.length by rw [List.length_map, plusL, mapI_len, nums_len])
    have HS1 := Lib.hid (show mchk g a ≠ 0 → addS g a b = ([], mchk g a) from fun h => by unfold addS; rw [if_pos hg, if_neg h])
    have HS2 := Lib.hid (show mchk g a = 0 → mchk g b ≠ 0 → addS g a b = ([], mchk g b) from fun h h2 => by unfold addS; rw [if_pos hg, if_pos h, if_neg h2])
    have HS3 := Lib.hid (show mchk g a = 0 → mchk g b = 0 → addS g a b = ((plusL (nums g) (nums a) (nums b)).map txt, 0) from fun h h2 => by unfold addS; rw [if_pos hg, if_pos h, if_pos h2])
    clear hg hG
    go_enter Tryz.func32, Tryz.ntmps32
    go_wp2_with (go_at_call 27; (with_reducible refine (ACheck_any _ _ g (HV.out.below HB0.out (Nat.le_refl _)) HSG.out (HE.out.below HB0.out (Nat.le_refl _))).mono ?_); rintro e w1 ⟨v, rfl, rfl, hb1⟩; rw [HG.out]; have b1 := HB0.out.trans (hb1.mono HB0.out.size); have KA1 := Lib.hid (HKA.out.below hb1 (Nat.le_refl _)); have KB1 := Lib.hid (HKB.out.below hb1 (Nat.le_refl _)); have hcA := KA1.out.cell 0 _ rfl; have hcB := KB1.out.cell 0 _ rfl)
    have HK2 := Lib.hid (Blk.new w1 [.slice adA a.length cA, .slice adB b.length cB] 22)
    have hW := b1.alloc b1.size (.cells #[.slice adA a.length cA, .slice adB b.length cB] 22)
    have HW := Lib.hid hW
    have KA2 := Lib.hid (KA1.out.alloc (.cells #[.slice adA a.length cA, .slice adB b.length cB] 22)); have KB2 := Lib.hid (KB1.out.alloc (.cells #[.slice adA a.length cA, .slice adB b.length cB] 22))
    clear hW hcA hcB hb1
    go_loopw [21] (fun i wr => ∃ k : Nat, k ≤ 2 ∧ i = .int .i64 k ∧ Hid ((0 < k → mchk g a = 0) ∧ (1 < k → mchk g b = 0)) ∧ Hid (Below (w1.alloc (.cells #[.slice adA a.length cA, .slice adB b.length cB] 22)).heap.size (w1.alloc (.cells #[.slice adA a.length cA, .slice adB b.length cB] 22)) wr)) (fun i _ => 2 - (intOf i).toNat)
    case atStart => exact ⟨0, by omega, rfl, Lib.hid ⟨fun h => by omega, fun h => by omega⟩, Lib.hid (Below.refl _ _)⟩
    case round =>
      obtain ⟨k, hk, rfl, hA, hb⟩ := hrel
      have KA3 := Lib.hid (KA2.out.below hb.out (Nat.le_refl _)); have KB3 := Lib.hid (KB2.out.below hb.out (Nat.le_refl _)); have K3 := Lib.hid (HK2.out.below hb.out (Nat.le_refl _))
      have b2 := HW.out.trans (hb.out.mono HW.out.size)
      match k, hk, hA with
      | 0, _, hA =>
        have hc := K3.out.cell 0 _ rfl
        by_cases hm : mchk g a = 0
        · have HM := Lib.hid hm
          clear hm
          go_wp2_with (go_at_call 62; (with_reducible refine (member_any _ _ _ g a zs (HV.out.below b2 (Nat.le_refl _)) (HU.out.below b2 (Nat.le_refl _)) HZ.out hl16 (fun _ => HSA.out)).mono ?_); rintro e w3 ⟨v, rfl, rfl, hb3⟩; rw [HM.out])
          go_roundw
          case rel => exact ⟨1, by omega, rfl, Lib.hid ⟨fun _ => HM.out, fun h => by omega⟩, Lib.hid (hb.out.trans (hb3.mono hb.out.size))⟩
          case measure => simp [intOf]
        · have HS := Lib.hid (HS1.out hm)
          have hne : (mchk g a != 0) = true := by simp [hm]
          clear hm
          go_wp2_with (go_at_call 62; (with_reducible refine (member_any _ _ _ g a zs (HV.out.below b2 (Nat.le_refl _)) (HU.out.below b2 (Nat.le_refl _)) HZ.out hl16 (fun _ => HSA.out)).mono ?_); rintro e w3 ⟨v, rfl, rfl, hb3⟩)
          go_ret2
          exact ⟨_, rfl, _, by rw [HS.out]; rfl, by rw [HS.out]; exact Sl.nil, b2.trans (hb3.mono b2.size)⟩
      | 1, _, hA =>
        have hc := K3.out.cell 1 _ rfl
        by_cases hm : mchk g b = 0
        · have HM := Lib.hid hm
          clear hm
          go_wp2_with (go_at_call 62; (with_reducible refine (member_any _ _ _ g b zs (HV.out.below b2 (Nat.le_refl _)) (HT.out.below b2 (Nat.le_refl _)) HZ.out hl16 (fun _ => HSB.out)).mono ?_); rintro e w3 ⟨v, rfl, rfl, hb3⟩; rw [HM.out])
          go_roundw
          case rel => exact ⟨2, by omega, rfl, Lib.hid ⟨fun _ => hA.out.1 (by omega), fun _ => HM.out⟩, Lib.hid (hb.out.trans (hb3.mono hb.out.size))⟩
          case measure => simp [intOf]
        · have HS := Lib.hid (HS2.out (hA.out.1 (by omega)) hm)
          have hne : (mchk g b != 0) = true := by simp [hm]
          clear hm
          go_wp2_with (go_at_call 62; (with_reducible refine (member_any _ _ _ g b zs (HV.out.below b2 (Nat.le_refl _)) (HT.out.below b2 (Nat.le_refl _)) HZ.out hl16 (fun _ => HSB.out)).mono ?_); rintro e w3 ⟨v, rfl, rfl, hb3⟩)
          go_ret2
          exact ⟨_, rfl, _, by rw [HS.out]; rfl, by rw [HS.out]; exact Sl.nil, b2.trans (hb3.mono b2.size)⟩
      | 2, _, hA =>
        have HS := Lib.hid (HS3.out (hA.out.1 (by omega)) (hA.out.2 (by omega)))
        have HC := Lib.hid (HCL.out (hA.out.1 (by omega)) (hA.out.2 (by omega)))
        go_wp2_with (go_at_call 64; (with_reducible refine (each_adds _ _ _ _ g ((plusL (nums g) (nums a) (nums b)).map txt) (HV.out.below b2 (Nat.le_refl _)) (by omega) HPL.out (fun k hk hk' w' hb' => HC.out w' (HE.out.below (b2.trans (hb'.mono b2.size)) (Nat.le_refl _)) (HU.out.below (b2.trans (hb'.mono b2.size)) (Nat.le_refl _)) (HT.out.below (b2.trans (hb'.mono b2.size)) (Nat.le_refl _)) (KA3.out.below hb' (Nat.le_refl _)) (KB3.out.below hb' (Nat.le_refl _)) k hk hk')).mono ?_); rintro e w3 ⟨v3, rfl, hs3, hb3⟩; have HS3' := Lib.hid hs3; clear hs3)
        go_ret2
        exact ⟨_, rfl, _, by rw [HS.out]; rfl, by rw [HS.out]; exact HS3'.out, b2.trans (hb3.mono b2.size)⟩
  · have HS := Lib.hid (show addS g a b = ([], gchk g) by unfold addS; rw [if_neg hg])
    have hne : (gchk g != 0) = true := by simp [hg]
    clear hg
    go_enter Tryz.func32, Tryz.ntmps32
    go_wp2_with (go_at_call 27; (with_reducible refine (ACheck_any _ _ g (HV.out.below HB0.out (Nat.le_refl _)) HSG.out (HE.out.below HB0.out (Nat.le_refl _))).mono ?_); rintro e w1 ⟨v, rfl, rfl, hb1⟩; have b1 := HB0.out.trans (hb1.mono HB0.out.size))
    go_ret2
    exact ⟨_, rfl, _, by rw [HS.out]; rfl, by rw [HS.out]; exact Sl.nil, b1⟩

set_option maxHeartbeats 4000000 in
theorem ANeg_any (w : World) (v u : Value) (g a : List ByteArray) (hv : Sl eS w v g) (hu : Sl eS w u a) (hsg : g.length ≤ 16 → ∀ s ∈ g, s.size ≤ 1000000) (hsa : ∀ s ∈ a, s.size ≤ 1000000) (he : Env w) :
    Calls Tryz.prog 40 #[v, u] w (Rets fun r w' => ∃ x, r = .tuple #[x, .int .i64 (negS g a).2] ∧ Sl eS w' x (negS g a).1 ∧ Below w.heap.size w w') := by
  have HV := Lib.hid hv; have HU := Lib.hid hu; have HSG := Lib.hid hsg; have HSA := Lib.hid hsa; have HE := Lib.hid he
  obtain ⟨ad, b0, o, c, rfl, -, -, -, -⟩ := hv.open elemStr
  obtain ⟨adA, bA, oA, cA, rfl, -, -, -, -⟩ := hu.open elemStr
  have hmf : ∀ (fn : Fn) (first cap : Array Value) (w : World), (Instr.makeFunc fn first cap).run Tryz.prog w = .ok (.func fn first cap) w := fun _ _ _ _ => rfl
  have HB0 := Lib.hid (show Below w.heap.size w (w.alloc (.cells #[.slice adA a.length cA] 22)) from (Below.refl _ w).alloc (Nat.le_refl _) _)
  have HKA := Lib.hid (Blk.new w [.slice adA a.length cA] 22)
  clear hv hu hsg hsa he
  by_cases hg : gchk g = 0
  · have HG := Lib.hid hg
    have hl16 := (gchk_len hg).1
    obtain ⟨zs, hG⟩ := grp_of hg
    have HZ := Lib.hid hG.good
    by_cases hm : mchk g a = 0
    · have HM := Lib.hid hm
      have HS := Lib.hid (show negS g a = ((multL (nums g) (-1) (nums a)).map txt, 0) by unfold negS; rw [if_pos hg, if_pos hm])
      have HPL := Lib.hid (show ((multL (nums g) (-1) (nums a)).map txt).length = g.length by rw [List.length_map, multL, mapI_len, nums_len])
      have HC := Lib.hid (show ∀ w', Env w' → Sl eS w' (.slice adA a.length cA) a → Blk w' w.heap.size [.slice adA a.length cA] 22 →
          ∀ k (hk : k < g.length) (hk' : k < ((multL (nums g) (-1) (nums a)).map txt).length), Calls Tryz.prog 97 #[.int .i64 k, .string g[k], .pointer (some ⟨w.heap.size, 0, none⟩)] w' (Rets fun v w'' => v = .string ((multL (nums g) (-1) (nums a)).map txt)[k] ∧ Below w'.heap.size w' w'') from by
        intro w' he' hsA hkA k hk hk'
        obtain ⟨hla, pa⟩ := at_place hg hm
        obtain ⟨e1, e2, g1', g2', p2, p0, pl⟩ := pa k hk (by omega)
        have e4 : ((multL (nums g) (-1) (nums a)).map txt)[k] = txt (opp ((nums g).getD k 0) ((nums a).getD k 0)) := by rw [opp_fmod p0 pl]; simp only [List.getElem_map, multL, mapI_get]
        rw [e4, e1]
        exact neg_clos w' k _ cA adA a _ _ g1'.2 p0 pl (hkA.cell 0 _ rfl) hsA (by omega) e2 he')
      clear hg hG hm
      go_enter Tryz.func40, Tryz.ntmps40
      go_wp2_with (first
        | (go_at_call 27; (with_reducible refine (ACheck_any _ _ g (HV.out.below HB0.out (Nat.le_refl _)) HSG.out (HE.out.below HB0.out (Nat.le_refl _))).mono ?_); rintro e w1 ⟨v, rfl, rfl, hb1⟩; rw [HG.out]; have b1 := HB0.out.trans (hb1.mono HB0.out.size); have KA1 := Lib.hid (HKA.out.below hb1 (Nat.le_refl _)); have hcA := KA1.out.cell 0 _ rfl)
        | (go_at_call 62; (with_reducible refine (member_any _ _ _ g a zs (HV.out.below b1 (Nat.le_refl _)) (HU.out.below b1 (Nat.le_refl _)) HZ.out hl16 (fun _ => HSA.out)).mono ?_); rintro e w2 ⟨v, rfl, rfl, hb2⟩; rw [HM.out]; have b2 := b1.trans (hb2.mono b1.size); have KA2 := Lib.hid (KA1.out.below hb2 (Nat.le_refl _)))
        | (go_at_call 64; (with_reducible refine (each_negs _ _ _ g ((multL (nums g) (-1) (nums a)).map txt) (HV.out.below b2 (Nat.le_refl _)) (by omega) HPL.out (fun k hk hk' w' hb' => HC.out w' (HE.out.below (b2.trans (hb'.mono b2.size)) (Nat.le_refl _)) (HU.out.below (b2.trans (hb'.mono b2.size)) (Nat.le_refl _)) (KA2.out.below hb' (Nat.le_refl _)) k hk hk')).mono ?_); rintro e w3 ⟨v3, rfl, hs3, hb3⟩; have HS3' := Lib.hid hs3; clear hs3))
      go_ret2
      exact ⟨_, rfl, _, by rw [HS.out]; rfl, by rw [HS.out]; exact HS3'.out, b2.trans (hb3.mono b2.size)⟩
    · have HS := Lib.hid (show negS g a = ([], mchk g a) by unfold negS; rw [if_pos hg, if_neg hm])
      have hne : (mchk g a != 0) = true := by simp [hm]
      clear hg hG hm
      go_enter Tryz.func40, Tryz.ntmps40
      go_wp2_with (first
        | (go_at_call 27; (with_reducible refine (ACheck_any _ _ g (HV.out.below HB0.out (Nat.le_refl _)) HSG.out (HE.out.below HB0.out (Nat.le_refl _))).mono ?_); rintro e w1 ⟨v, rfl, rfl, hb1⟩; rw [HG.out]; have b1 := HB0.out.trans (hb1.mono HB0.out.size); have KA1 := Lib.hid (HKA.out.below hb1 (Nat.le_refl _)); have hcA := KA1.out.cell 0 _ rfl)
        | (go_at_call 62; (with_reducible refine (member_any _ _ _ g a zs (HV.out.below b1 (Nat.le_refl _)) (HU.out.below b1 (Nat.le_refl _)) HZ.out hl16 (fun _ => HSA.out)).mono ?_); rintro e w2 ⟨v, rfl, rfl, hb2⟩; have b2 := b1.trans (hb2.mono b1.size)))
      go_ret2
      exact ⟨_, rfl, _, by rw [HS.out]; rfl, by rw [HS.out]; exact Sl.nil, b2⟩
  · have HS := Lib.hid (show negS g a = ([], gchk g) by unfold negS; rw [if_neg hg])
    have hne : (gchk g != 0) = true := by simp [hg]
    clear hg
    go_enter Tryz.func40, Tryz.ntmps40
    go_wp2_with (go_at_call 27; (with_reducible refine (ACheck_any _ _ g (HV.out.below HB0.out (Nat.le_refl _)) HSG.out (HE.out.below HB0.out (Nat.le_refl _))).mono ?_); rintro e w1 ⟨v, rfl, rfl, hb1⟩; have b1 := HB0.out.trans (hb1.mono HB0.out.size))
    go_ret2
    exact ⟨_, rfl, _, by rw [HS.out]; rfl, by rw [HS.out]; exact Sl.nil, b1⟩

set_option maxHeartbeats 4000000 in
theorem ATimes_any (w : World) (v u : Value) (K : ByteArray) (g a : List ByteArray) (hv : Sl eS w v g) (hu : Sl eS w u a) (hsg : g.length ≤ 16 → ∀ s ∈ g, s.size ≤ 1000000) (hsa : ∀ s ∈ a, s.size ≤ 1000000) (hsk : K.size ≤ 1000000) (hdn : gchk g = 0 → ∀ s ∈ g, ∀ z, Good s z → dn z ≤ 500) (he : Env w) :
    Calls Tryz.prog 35 #[v, .string K, u] w (Rets fun r w' => ∃ x, r = .tuple #[x, .int .i64 (timesS g K a).2] ∧ Sl eS w' x (timesS g K a).1 ∧ Below w.heap.size w w') := by
  have HV := Lib.hid hv; have HU := Lib.hid hu; have HSG := Lib.hid hsg; have HSA := Lib.hid hsa; have HSK := Lib.hid hsk; have HE := Lib.hid he
  obtain ⟨ad, b0, o, c, rfl, -, -, -, -⟩ := hv.open elemStr
  obtain ⟨adA, bA, oA, cA, rfl, -, -, -, -⟩ := hu.open elemStr
  have hmf : ∀ (fn : Fn) (first cap : Array Value) (w : World), (Instr.makeFunc fn first cap).run Tryz.prog w = .ok (.func fn first cap) w := fun _ _ _ _ => rfl
  have HB0 := Lib.hid (show Below w.heap.size w ((w.alloc (.cells #[.string K] 27)).alloc (.cells #[.slice adA a.length cA] 22)) from ((Below.refl _ w).alloc (Nat.le_refl _) _).alloc (by simp) _)
  have HKK := Lib.hid ((Blk.new w [.string K] 27).alloc (.cells #[.slice adA a.length cA] 22))
  have HKA := Lib.hid (show Blk ((w.alloc (.cells #[.string K] 27)).alloc (.cells #[.slice adA a.length cA] 22)) (w.heap.size + 1) [.slice adA a.length cA] 22 by
    have := Blk.new (w.alloc (.cells #[.string K] 27)) [.slice adA a.length cA] 22
    simpa using this)
  clear hv hu hsg hsa hsk he
  by_cases hg : gchk g = 0
  · have HG := Lib.hid hg
    have hl16 := (gchk_len hg).1
    obtain ⟨zs, hG⟩ := grp_of hg
    have HZ := Lib.hid hG.good
    by_cases hk : chk K.data.toList = 0
    · have HK := Lib.hid hk
      by_cases hm : mchk g a = 0
      · have HM := Lib.hid hm
        have HS := Lib.hid (show timesS g K a = ((multL (nums g) (num K) (nums a)).map txt, 0) by unfold timesS; rw [if_pos hg, if_pos hk, if_pos hm])
        have HPL := Lib.hid (show ((multL (nums g) (num K) (nums a)).map txt).length = g.length by rw [List.length_map, multL, mapI_len, nums_len])
        have HC := Lib.hid (show ∀ w', Env w' → Sl eS w' (.slice adA a.length cA) a → Blk w' w.heap.size [.string K] 27 → Blk w' (w.heap.size + 1) [.slice adA a.length cA] 22 →
            ∀ k (hk : k < g.length) (hk' : k < ((multL (nums g) (num K) (nums a)).map txt).length), Calls Tryz.prog 92 #[.int .i64 k, .string g[k], .pointer (some ⟨w.heap.size, 0, none⟩), .pointer (some ⟨w.heap.size + 1, 0, none⟩)] w' (Rets fun v w'' => v = .string ((multL (nums g) (num K) (nums a)).map txt)[k] ∧ Below w'.heap.size w' w'') from by
          intro w' he' hsA hkK hkA i hi hi'
          obtain ⟨hla, pa⟩ := at_place hg hm
          obtain ⟨e1, e2, g1', g2', p2, p0, pl⟩ := pa i hi (by omega)
          have gK := good_num hk
          have e4 : ((multL (nums g) (num K) (nums a)).map txt)[i] = txt (Int.fmod (Int.fmod (num K) ((nums g).getD i 0) * (nums a).getD i 0) ((nums g).getD i 0)) := by rw [fmod_mul (by omega)]; simp only [List.getElem_map, multL, mapI_get]
          have d1 := hdn hg _ (List.getElem_mem hi) _ g1'
          have d2 := dn_fmod (num K) _ (show (nums g).getD i 0 ≠ 0 by omega)
          have d3 : dn ((nums a).getD i 0) ≤ dn ((nums g).getD i 0) := dn_le (by omega)
          have d4 := dn_mul (Int.fmod (num K) ((nums g).getD i 0)) ((nums a).getD i 0)
          have hbig : big (Int.fmod (num K) ((nums g).getD i 0) * (nums a).getD i 0) = false := big_dn (by omega)
          rw [e1] at g1'
          rw [e2] at g2'
          rw [e4, e1]
          exact times_clos w' i _ _ cA adA a _ _ (num K) g1' g2' (by rw [← gK.eq]; exact gK) (by omega) hbig hkA.lt (by rw [← gK.eq]; exact hkK.cell 0 _ rfl) (hkA.cell 0 _ rfl) hsA (by omega) e2 he')
        clear hg hG hm hk hdn
        go_enter Tryz.func35, Tryz.ntmps35
        go_wp2_with (first
          | (go_at_call 27; (with_reducible refine (ACheck_any _ _ g (HV.out.below HB0.out (Nat.le_refl _)) HSG.out (HE.out.below HB0.out (Nat.le_refl _))).mono ?_); rintro e w1 ⟨v, rfl, rfl, hb1⟩; rw [HG.out]; have b1 := HB0.out.trans (hb1.mono HB0.out.size); have KA1 := Lib.hid (HKA.out.below hb1 (Nat.le_refl _)); have KK1 := Lib.hid (HKK.out.below hb1 (Nat.le_refl _)); have hcK := KK1.out.cell 0 _ rfl)
          | (go_at_call 70; (with_reducible refine (check_any _ _ HSK.out).mono ?_); rintro e w2 ⟨v, rfl, rfl, hb2⟩; rw [HK.out]; have b2 := b1.trans (hb2.mono b1.size); have KA2 := Lib.hid (KA1.out.below hb2 (Nat.le_refl _)); have KK2 := Lib.hid (KK1.out.below hb2 (Nat.le_refl _)); have hcA := KA2.out.cell 0 _ rfl)
          | (go_at_call 62; (with_reducible refine (member_any _ _ _ g a zs (HV.out.below b2 (Nat.le_refl _)) (HU.out.below b2 (Nat.le_refl _)) HZ.out hl16 (fun _ => HSA.out)).mono ?_); rintro e w3 ⟨v, rfl, rfl, hb3⟩; rw [HM.out]; have b3 := b2.trans (hb3.mono b2.size); have KA3 := Lib.hid (KA2.out.below hb3 (Nat.le_refl _)); have KK3 := Lib.hid (KK2.out.below hb3 (Nat.le_refl _)))
          | (go_at_call 64; (with_reducible refine (each_times _ _ _ _ g ((multL (nums g) (num K) (nums a)).map txt) (HV.out.below b3 (Nat.le_refl _)) (by omega) HPL.out (fun k hk hk' w' hb' => HC.out w' (HE.out.below (b3.trans (hb'.mono b3.size)) (Nat.le_refl _)) (HU.out.below (b3.trans (hb'.mono b3.size)) (Nat.le_refl _)) (KK3.out.below hb' (Nat.le_refl _)) (KA3.out.below hb' (Nat.le_refl _)) k hk hk')).mono ?_); rintro e w4 ⟨v3, rfl, hs4, hb4⟩; have HS4' := Lib.hid hs4; clear hs4))
        go_ret2
        exact ⟨_, rfl, _, by rw [HS.out]; rfl, by rw [HS.out]; exact HS4'.out, b3.trans (hb4.mono b3.size)⟩
      · have HS := Lib.hid (show timesS g K a = ([], mchk g a) by unfold timesS; rw [if_pos hg, if_pos hk, if_neg hm])
        have hne : (mchk g a != 0) = true := by simp [hm]
        clear hg hG hm hk hdn
        go_enter Tryz.func35, Tryz.ntmps35
        go_wp2_with (first
          | (go_at_call 27; (with_reducible refine (ACheck_any _ _ g (HV.out.below HB0.out (Nat.le_refl _)) HSG.out (HE.out.below HB0.out (Nat.le_refl _))).mono ?_); rintro e w1 ⟨v, rfl, rfl, hb1⟩; rw [HG.out]; have b1 := HB0.out.trans (hb1.mono HB0.out.size); have KA1 := Lib.hid (HKA.out.below hb1 (Nat.le_refl _)); have KK1 := Lib.hid (HKK.out.below hb1 (Nat.le_refl _)); have hcK := KK1.out.cell 0 _ rfl)
          | (go_at_call 70; (with_reducible refine (check_any _ _ HSK.out).mono ?_); rintro e w2 ⟨v, rfl, rfl, hb2⟩; rw [HK.out]; have b2 := b1.trans (hb2.mono b1.size); have KA2 := Lib.hid (KA1.out.below hb2 (Nat.le_refl _)); have hcA := KA2.out.cell 0 _ rfl)
          | (go_at_call 62; (with_reducible refine (member_any _ _ _ g a zs (HV.out.below b2 (Nat.le_refl _)) (HU.out.below b2 (Nat.le_refl _)) HZ.out hl16 (fun _ => HSA.out)).mono ?_); rintro e w3 ⟨v, rfl, rfl, hb3⟩; have b3 := b2.trans (hb3.mono b2.size)))
        go_ret2
        exact ⟨_, rfl, _, by rw [HS.out]; rfl, by rw [HS.out]; exact Sl.nil, b3⟩
    · have HS := Lib.hid (show timesS g K a = ([], chk K.data.toList) by unfold timesS; rw [if_pos hg, if_neg hk])
      have hne : (chk K.data.toList != 0) = true := by simp [hk]
      clear hg hG hk hdn
      go_enter Tryz.func35, Tryz.ntmps35
      go_wp2_with (first
        | (go_at_call 27; (with_reducible refine (ACheck_any _ _ g (HV.out.below HB0.out (Nat.le_refl _)) HSG.out (HE.out.below HB0.out (Nat.le_refl _))).mono ?_); rintro e w1 ⟨v, rfl, rfl, hb1⟩; rw [HG.out]; have b1 := HB0.out.trans (hb1.mono HB0.out.size); have KK1 := Lib.hid (HKK.out.below hb1 (Nat.le_refl _)); have hcK := KK1.out.cell 0 _ rfl)
        | (go_at_call 70; (with_reducible refine (check_any _ _ HSK.out).mono ?_); rintro e w2 ⟨v, rfl, rfl, hb2⟩; have b2 := b1.trans (hb2.mono b1.size)))
      go_ret2
      exact ⟨_, rfl, _, by rw [HS.out]; rfl, by rw [HS.out]; exact Sl.nil, b2⟩
  · have HS := Lib.hid (show timesS g K a = ([], gchk g) by unfold timesS; rw [if_neg hg])
    have hne : (gchk g != 0) = true := by simp [hg]
    clear hg hdn
    go_enter Tryz.func35, Tryz.ntmps35
    go_wp2_with (go_at_call 27; (with_reducible refine (ACheck_any _ _ g (HV.out.below HB0.out (Nat.le_refl _)) HSG.out (HE.out.below HB0.out (Nat.le_refl _))).mono ?_); rintro e w1 ⟨v, rfl, rfl, hb1⟩; have b1 := HB0.out.trans (hb1.mono HB0.out.size))
    go_ret2
    exact ⟨_, rfl, _, by rw [HS.out]; rfl, by rw [HS.out]; exact Sl.nil, b1⟩
end Go.Proofs.YtdpdkojeapaflaaGreatDoor

namespace Go.Proofs.YtdpdkojeapaflaaGreatDoor
open Go.RowKit
set_option maxRecDepth 100000

theorem nums_of {xs : List ByteArray} {zs : List Int} (h : Goods xs zs) : nums xs = zs := (goods_num xs zs h).symm
theorem el_facts {g a : List ByteArray} (hg : gchk g = 0) (hm : mchk g a = 0) (hdn : ∀ s ∈ g, ∀ z, Good s z → dn z ≤ 500) :
    g = (nums g).map txt ∧ a = (nums a).map txt ∧ (nums a).length = (nums g).length ∧ (nums g).length ≤ 16 ∧ (∀ z ∈ nums g, dn z ≤ 500) ∧ (∀ z ∈ nums a, dn z ≤ 500) ∧ ∀ z ∈ nums g, z ≠ 0 := by
  obtain ⟨zs, hG⟩ := grp_of hg
  obtain ⟨us, hus, hel, hal, -, -⟩ := elt_tx hG hm
  have hz := hG.good.len
  have hu := hus.len
  have hd : ∀ i (h : i < zs.length), dn zs[i] ≤ 500 := fun i h => hdn _ (List.getElem_mem (show i < g.length by omega)) _ (hG.good.get i (by omega) h)
  rw [nums_of hG.good, nums_of hus]
  refine ⟨goods_txt hG.good, goods_txt hus, by omega, by rw [hz]; exact hG.len, fun z h => ?_, fun z h => ?_, fun z h => ?_⟩
  · obtain ⟨i, hi, rfl⟩ := List.getElem_of_mem h; exact hd i hi
  · obtain ⟨i, hi, rfl⟩ := List.getElem_of_mem h
    have h1 := hel i (by omega) hi
    exact Nat.le_trans (dn_le (by omega)) (hd i (by omega))
  · have := hG.two z h; omega
theorem gm1 : Good ⟨#[45, 49]⟩ (-1) := good_lit (by decide) (by decide)

set_option maxHeartbeats 2000000 in
theorem rAAdd_any (w : World) (v u t : Value) (g a b : List ByteArray) (hv : Sl eS w v g) (hu : Sl eS w u a) (ht : Sl eS w t b) (hsg : g.length ≤ 16 → ∀ s ∈ g, s.size ≤ 1000000) (hsa : ∀ s ∈ a, s.size ≤ 1000000) (hsb : ∀ s ∈ b, s.size ≤ 1000000) (hdn : gchk g = 0 → ∀ s ∈ g, ∀ z, Good s z → dn z ≤ 500) :
    Calls Tryz.prog 39 #[v, u, t] w (Rets fun r w' => ∃ x, r = .tuple #[x, .int .i64 (addS g a b).2] ∧ Sl eS w' x (addS g a b).1 ∧ Below w.heap.size w w') := by
  have HV := Lib.hid hv; have HU := Lib.hid hu; have HT := Lib.hid ht; have HSG := Lib.hid hsg; have HSA := Lib.hid hsa; have HSB := Lib.hid hsb
  obtain ⟨ad, b0, o, c, rfl, -, -, -, -⟩ := hv.open elemStr
  obtain ⟨adA, bA, oA, cA, rfl, -, -, -, -⟩ := hu.open elemStr
  obtain ⟨adB, bB, oB, cB, rfl, -, -, -, -⟩ := ht.open elemStr
  clear hv hu ht hsg hsa hsb
  by_cases hg : gchk g = 0
  · have HG := Lib.hid hg
    have hl16 := (gchk_len hg).1
    obtain ⟨zs, hG⟩ := grp_of hg
    have HZ := Lib.hid hG.good
    by_cases hm : mchk g a = 0
    · have HM := Lib.hid hm
      by_cases hm2 : mchk g b = 0
      · have HM2 := Lib.hid hm2
        have HS := Lib.hid (show addS g a b = ((plusL (nums g) (nums a) (nums b)).map txt, 0) by unfold addS; rw [if_pos hg, if_pos hm, if_pos hm2])
        have HF := Lib.hid (el_facts hg hm (hdn hg)); have HF2 := Lib.hid (el_facts hg hm2 (hdn hg))
        clear hg hG hm hm2 hdn
        go_enter Tryz.func39, Tryz.ntmps39
        go_wp2_with (first
          | (go_at_call 13; (with_reducible refine (rACheck_any _ _ g HV.out HSG.out).mono ?_); rintro e w1 ⟨v, rfl, rfl, hb1⟩; rw [HG.out]; have b1 := hb1)
          | (go_at_call_of 68 (Value.slice adB b.length cB); (with_reducible refine (In_any _ _ _ g b zs (HV.out.below b2 (Nat.le_refl _)) (HT.out.below b2 (Nat.le_refl _)) HZ.out hl16 (fun _ => HSB.out)).mono ?_); rintro e w3 ⟨v, rfl, rfl, hb3⟩; rw [HM2.out]; have b3 := b2.trans (hb3.mono b2.size))
          | (go_at_call 68; (with_reducible refine (In_any _ _ _ g a zs (HV.out.below b1 (Nat.le_refl _)) (HU.out.below b1 (Nat.le_refl _)) HZ.out hl16 (fun _ => HSA.out)).mono ?_); rintro e w2 ⟨v, rfl, rfl, hb2⟩; rw [HM.out]; have b2 := b1.trans (hb2.mono b1.size))
          | (go_at_call 96; (with_reducible refine (Plus_el _ _ g (nums g) _ a (nums a) _ b (nums b) (HV.out.below b3 (Nat.le_refl _)) HF.out.1 (fun z hz => by have := HF.out.2.2.2.2.1 z hz; omega) (HU.out.below b3 (Nat.le_refl _)) HF.out.2.1 (fun z hz => by have := HF.out.2.2.2.2.2.1 z hz; omega) (HT.out.below b3 (Nat.le_refl _)) HF2.out.2.1 (fun z hz => by have := HF2.out.2.2.2.2.2.1 z hz; omega) HF.out.2.2.1 HF2.out.2.2.1 (by have := HF.out.2.2.2.1; omega) HF.out.2.2.2.2.2.2).mono ?_); rintro e w4 ⟨v4, rfl, hs4, hb4⟩; have HS4 := Lib.hid hs4; clear hs4))
        go_ret2
        exact ⟨_, rfl, _, by rw [HS.out]; rfl, by rw [HS.out]; exact HS4.out, b3.trans (hb4.mono b3.size)⟩
      · have HS := Lib.hid (show addS g a b = ([], mchk g b) by unfold addS; rw [if_pos hg, if_pos hm, if_neg hm2])
        have hne : (mchk g b != 0) = true := by simp [hm2]
        clear hg hG hm hm2 hdn
        go_enter Tryz.func39, Tryz.ntmps39
        go_wp2_with (first
          | (go_at_call 13; (with_reducible refine (rACheck_any _ _ g HV.out HSG.out).mono ?_); rintro e w1 ⟨v, rfl, rfl, hb1⟩; rw [HG.out]; have b1 := hb1)
          | (go_at_call_of 68 (Value.slice adB b.length cB); (with_reducible refine (In_any _ _ _ g b zs (HV.out.below b2 (Nat.le_refl _)) (HT.out.below b2 (Nat.le_refl _)) HZ.out hl16 (fun _ => HSB.out)).mono ?_); rintro e w3 ⟨v, rfl, rfl, hb3⟩; have b3 := b2.trans (hb3.mono b2.size))
          | (go_at_call 68; (with_reducible refine (In_any _ _ _ g a zs (HV.out.below b1 (Nat.le_refl _)) (HU.out.below b1 (Nat.le_refl _)) HZ.out hl16 (fun _ => HSA.out)).mono ?_); rintro e w2 ⟨v, rfl, rfl, hb2⟩; rw [HM.out]; have b2 := b1.trans (hb2.mono b1.size)))
        go_ret2
        exact ⟨_, rfl, _, by rw [HS.out]; rfl, by rw [HS.out]; exact Sl.nil, b3⟩
    · have HS := Lib.hid (show addS g a b = ([], mchk g a) by unfold addS; rw [if_pos hg, if_neg hm])
      have hne : (mchk g a != 0) = true := by simp [hm]
      clear hg hG hm hdn
      go_enter Tryz.func39, Tryz.ntmps39
      go_wp2_with (first
        | (go_at_call 13; (with_reducible refine (rACheck_any _ _ g HV.out HSG.out).mono ?_); rintro e w1 ⟨v, rfl, rfl, hb1⟩; rw [HG.out]; have b1 := hb1)
        | (go_at_call 68; (with_reducible refine (In_any _ _ _ g a zs (HV.out.below b1 (Nat.le_refl _)) (HU.out.below b1 (Nat.le_refl _)) HZ.out hl16 (fun _ => HSA.out)).mono ?_); rintro e w2 ⟨v, rfl, rfl, hb2⟩; have b2 := b1.trans (hb2.mono b1.size)))
      go_ret2
      exact ⟨_, rfl, _, by rw [HS.out]; rfl, by rw [HS.out]; exact Sl.nil, b2⟩
  · have HS := Lib.hid (show addS g a b = ([], gchk g) by unfold addS; rw [if_neg hg])
    have hne : (gchk g != 0) = true := by simp [hg]
    clear hg hdn
    go_enter Tryz.func39, Tryz.ntmps39
    go_wp2_with (go_at_call 13; (with_reducible refine (rACheck_any _ _ g HV.out HSG.out).mono ?_); rintro e w1 ⟨v, rfl, rfl, hb1⟩)
    go_ret2
    exact ⟨_, rfl, _, by rw [HS.out]; rfl, by rw [HS.out]; exact Sl.nil, hb1⟩

set_option maxHeartbeats 2000000 in
theorem rANeg_any (w : World) (v u : Value) (g a : List ByteArray) (hv : Sl eS w v g) (hu : Sl eS w u a) (hsg : g.length ≤ 16 → ∀ s ∈ g, s.size ≤ 1000000) (hsa : ∀ s ∈ a, s.size ≤ 1000000) (hdn : gchk g = 0 → ∀ s ∈ g, ∀ z, Good s z → dn z ≤ 500) :
    Calls Tryz.prog 41 #[v, u] w (Rets fun r w' => ∃ x, r = .tuple #[x, .int .i64 (negS g a).2] ∧ Sl eS w' x (negS g a).1 ∧ Below w.heap.size w w') := by
  have HV := Lib.hid hv; have HU := Lib.hid hu; have HSG := Lib.hid hsg; have HSA := Lib.hid hsa
  obtain ⟨ad, b0, o, c, rfl, -, -, -, -⟩ := hv.open elemStr
  obtain ⟨adA, bA, oA, cA, rfl, -, -, -, -⟩ := hu.open elemStr
  clear hv hu hsg hsa
  by_cases hg : gchk g = 0
  · have HG := Lib.hid hg
    have hl16 := (gchk_len hg).1
    obtain ⟨zs, hG⟩ := grp_of hg
    have HZ := Lib.hid hG.good
    by_cases hm : mchk g a = 0
    · have HM := Lib.hid hm
      have HS := Lib.hid (show negS g a = ((multL (nums g) (-1) (nums a)).map txt, 0) by unfold negS; rw [if_pos hg, if_pos hm])
      have HF := Lib.hid (el_facts hg hm (hdn hg))
      have HMU := Lib.hid (fun w' h1 h2 => by
        have := Mult_el w' _ g (nums g) _ a (nums a) (-1) (by have := gm1.dn; omega) h1 HF.out.1 (fun z hz => by have := HF.out.2.2.2.2.1 z hz; omega) h2 HF.out.2.1 (fun z hz => by have := HF.out.2.2.2.2.2.1 z hz; omega) HF.out.2.2.1 (by have := HF.out.2.2.2.1; omega) HF.out.2.2.2.2.2.2
        rw [← gm1.eq] at this
        exact this : ∀ w', Sl eS w' (.slice ad g.length c) g → Sl eS w' (.slice adA a.length cA) a → Calls Tryz.prog 99 #[.slice ad g.length c, .string ⟨#[45, 49]⟩, .slice adA a.length cA] w' (Rets fun r w'' => Sl eS w'' r ((multL (nums g) (-1) (nums a)).map txt) ∧ Below w'.heap.size w' w''))
      clear hg hG hm hdn
      go_enter Tryz.func41, Tryz.ntmps41
      go_wp2_with (first
        | (go_at_call 13; (with_reducible refine (rACheck_any _ _ g HV.out HSG.out).mono ?_); rintro e w1 ⟨v, rfl, rfl, hb1⟩; rw [HG.out]; have b1 := hb1)
        | (go_at_call 68; (with_reducible refine (In_any _ _ _ g a zs (HV.out.below b1 (Nat.le_refl _)) (HU.out.below b1 (Nat.le_refl _)) HZ.out hl16 (fun _ => HSA.out)).mono ?_); rintro e w2 ⟨v, rfl, rfl, hb2⟩; rw [HM.out]; have b2 := b1.trans (hb2.mono b1.size))
        | (go_at_call 99; (with_reducible refine (HMU.out _ (HV.out.below b2 (Nat.le_refl _)) (HU.out.below b2 (Nat.le_refl _))).mono ?_); rintro e w4 ⟨v4, rfl, hs4, hb4⟩; have HS4 := Lib.hid hs4; clear hs4))
      go_ret2
      exact ⟨_, rfl, _, by rw [HS.out]; rfl, by rw [HS.out]; exact HS4.out, b2.trans (hb4.mono b2.size)⟩
    · have HS := Lib.hid (show negS g a = ([], mchk g a) by unfold negS; rw [if_pos hg, if_neg hm])
      have hne : (mchk g a != 0) = true := by simp [hm]
      clear hg hG hm hdn
      go_enter Tryz.func41, Tryz.ntmps41
      go_wp2_with (first
        | (go_at_call 13; (with_reducible refine (rACheck_any _ _ g HV.out HSG.out).mono ?_); rintro e w1 ⟨v, rfl, rfl, hb1⟩; rw [HG.out]; have b1 := hb1)
        | (go_at_call 68; (with_reducible refine (In_any _ _ _ g a zs (HV.out.below b1 (Nat.le_refl _)) (HU.out.below b1 (Nat.le_refl _)) HZ.out hl16 (fun _ => HSA.out)).mono ?_); rintro e w2 ⟨v, rfl, rfl, hb2⟩; have b2 := b1.trans (hb2.mono b1.size)))
      go_ret2
      exact ⟨_, rfl, _, by rw [HS.out]; rfl, by rw [HS.out]; exact Sl.nil, b2⟩
  · have HS := Lib.hid (show negS g a = ([], gchk g) by unfold negS; rw [if_neg hg])
    have hne : (gchk g != 0) = true := by simp [hg]
    clear hg hdn
    go_enter Tryz.func41, Tryz.ntmps41
    go_wp2_with (go_at_call 13; (with_reducible refine (rACheck_any _ _ g HV.out HSG.out).mono ?_); rintro e w1 ⟨v, rfl, rfl, hb1⟩)
    go_ret2
    exact ⟨_, rfl, _, by rw [HS.out]; rfl, by rw [HS.out]; exact Sl.nil, hb1⟩

set_option maxHeartbeats 2000000 in
theorem rATimes_any (w : World) (v u : Value) (K : ByteArray) (g a : List ByteArray) (hv : Sl eS w v g) (hu : Sl eS w u a) (hsg : g.length ≤ 16 → ∀ s ∈ g, s.size ≤ 1000000) (hsa : ∀ s ∈ a, s.size ≤ 1000000) (hsk : K.size ≤ 1000000) (hdn : gchk g = 0 → ∀ s ∈ g, ∀ z, Good s z → dn z ≤ 500) :
    Calls Tryz.prog 42 #[v, .string K, u] w (Rets fun r w' => ∃ x, r = .tuple #[x, .int .i64 (timesS g K a).2] ∧ Sl eS w' x (timesS g K a).1 ∧ Below w.heap.size w w') := by
  have HV := Lib.hid hv; have HU := Lib.hid hu; have HSG := Lib.hid hsg; have HSA := Lib.hid hsa; have HSK := Lib.hid hsk
  obtain ⟨ad, b0, o, c, rfl, -, -, -, -⟩ := hv.open elemStr
  obtain ⟨adA, bA, oA, cA, rfl, -, -, -, -⟩ := hu.open elemStr
  clear hv hu hsg hsa hsk
  by_cases hg : gchk g = 0
  · have HG := Lib.hid hg
    have hl16 := (gchk_len hg).1
    obtain ⟨zs, hG⟩ := grp_of hg
    have HZ := Lib.hid hG.good
    by_cases hk : chk K.data.toList = 0
    · have HK := Lib.hid hk
      by_cases hm : mchk g a = 0
      · have HM := Lib.hid hm
        have HS := Lib.hid (show timesS g K a = ((multL (nums g) (num K) (nums a)).map txt, 0) by unfold timesS; rw [if_pos hg, if_pos hk, if_pos hm])
        have HF := Lib.hid (el_facts hg hm (hdn hg))
        have HMU := Lib.hid (fun w' h1 h2 => by
          have gk := good_num hk
          have := Mult_el w' _ g (nums g) _ a (nums a) (num K) (by have := gk.dn; omega) h1 HF.out.1 (fun z hz => by have := HF.out.2.2.2.2.1 z hz; omega) h2 HF.out.2.1 (fun z hz => by have := HF.out.2.2.2.2.2.1 z hz; omega) HF.out.2.2.1 (by have := HF.out.2.2.2.1; omega) HF.out.2.2.2.2.2.2
          rw [← gk.eq] at this
          exact this : ∀ w', Sl eS w' (.slice ad g.length c) g → Sl eS w' (.slice adA a.length cA) a → Calls Tryz.prog 99 #[.slice ad g.length c, .string K, .slice adA a.length cA] w' (Rets fun r w'' => Sl eS w'' r ((multL (nums g) (num K) (nums a)).map txt) ∧ Below w'.heap.size w' w''))
        clear hg hG hm hk hdn
        go_enter Tryz.func42, Tryz.ntmps42
        go_wp2_with (first
          | (go_at_call 13; (with_reducible refine (rACheck_any _ _ g HV.out HSG.out).mono ?_); rintro e w1 ⟨v, rfl, rfl, hb1⟩; rw [HG.out]; have b1 := hb1)
          | (go_at_call 30; (with_reducible refine (rCheck_any _ _ HSK.out).mono ?_); rintro e w2 ⟨v, rfl, rfl, rfl⟩; rw [HK.out])
          | (go_at_call 68; (with_reducible refine (In_any _ _ _ g a zs (HV.out.below b1 (Nat.le_refl _)) (HU.out.below b1 (Nat.le_refl _)) HZ.out hl16 (fun _ => HSA.out)).mono ?_); rintro e w2 ⟨v, rfl, rfl, hb2⟩; rw [HM.out]; have b2 := b1.trans (hb2.mono b1.size))
          | (go_at_call 99; (with_reducible refine (HMU.out _ (HV.out.below b2 (Nat.le_refl _)) (HU.out.below b2 (Nat.le_refl _))).mono ?_); rintro e w4 ⟨v4, rfl, hs4, hb4⟩; have HS4 := Lib.hid hs4; clear hs4))
        go_ret2
        exact ⟨_, rfl, _, by rw [HS.out]; rfl, by rw [HS.out]; exact HS4.out, b2.trans (hb4.mono b2.size)⟩
      · have HS := Lib.hid (show timesS g K a = ([], mchk g a) by unfold timesS; rw [if_pos hg, if_pos hk, if_neg hm])
        have hne : (mchk g a != 0) = true := by simp [hm]
        clear hg hG hm hk hdn
        go_enter Tryz.func42, Tryz.ntmps42
        go_wp2_with (first
          | (go_at_call 13; (with_reducible refine (rACheck_any _ _ g HV.out HSG.out).mono ?_); rintro e w1 ⟨v, rfl, rfl, hb1⟩; rw [HG.out]; have b1 := hb1)
          | (go_at_call 30; (with_reducible refine (rCheck_any _ _ HSK.out).mono ?_); rintro e w2 ⟨v, rfl, rfl, rfl⟩; rw [HK.out])
          | (go_at_call 68; (with_reducible refine (In_any _ _ _ g a zs (HV.out.below b1 (Nat.le_refl _)) (HU.out.below b1 (Nat.le_refl _)) HZ.out hl16 (fun _ => HSA.out)).mono ?_); rintro e w2 ⟨v, rfl, rfl, hb2⟩; have b2 := b1.trans (hb2.mono b1.size)))
        go_ret2
        exact ⟨_, rfl, _, by rw [HS.out]; rfl, by rw [HS.out]; exact Sl.nil, b2⟩
    · have HS := Lib.hid (show timesS g K a = ([], chk K.data.toList) by unfold timesS; rw [if_pos hg, if_neg hk])
      have hne : (chk K.data.toList != 0) = true := by simp [hk]
      clear hg hG hk hdn
      go_enter Tryz.func42, Tryz.ntmps42
      go_wp2_with (first
        | (go_at_call 13; (with_reducible refine (rACheck_any _ _ g HV.out HSG.out).mono ?_); rintro e w1 ⟨v, rfl, rfl, hb1⟩; rw [HG.out]; have b1 := hb1)
        | (go_at_call 30; (with_reducible refine (rCheck_any _ _ HSK.out).mono ?_); rintro e w2 ⟨v, rfl, rfl, rfl⟩))
      go_ret2
      exact ⟨_, rfl, _, by rw [HS.out]; rfl, by rw [HS.out]; exact Sl.nil, b1⟩
  · have HS := Lib.hid (show timesS g K a = ([], gchk g) by unfold timesS; rw [if_neg hg])
    have hne : (gchk g != 0) = true := by simp [hg]
    clear hg hdn
    go_enter Tryz.func42, Tryz.ntmps42
    go_wp2_with (go_at_call 13; (with_reducible refine (rACheck_any _ _ g HV.out HSG.out).mono ?_); rintro e w1 ⟨v, rfl, rfl, hb1⟩)
    go_ret2
    exact ⟨_, rfl, _, by rw [HS.out]; rfl, by rw [HS.out]; exact Sl.nil, hb1⟩

theorem bytes_ne {s t : ByteArray} (h : s ≠ t) : (s.toList == t.toList) = false := by
  rw [beq_eq_false_iff_ne]
  intro e
  apply h
  rw [ByteArray.toList_eq, ByteArray.toList_eq] at e
  exact ByteArray.ext (Array.toList_inj.1 e)
set_option maxHeartbeats 1000000 in
theorem rSame_any (w : World) (v u : Value) (xs ys : List ByteArray) (hv : Sl eS w v xs) (hu : Sl eS w u ys) :
    Calls Tryz.prog 28 #[v, u] w (Rets fun r w' => r = .bool (decide (xs = ys)) ∧ Below w.heap.size w w') := by
  obtain ⟨a, b, o, c, rfl, hi, hp, hc, hm⟩ := hv.open elemStr
  obtain ⟨a', b', o', c', rfl, hi', hp', hc', hm'⟩ := hu.open elemStr
  clear hv hu
  unfold maxLen at hm hm'
  by_cases hl : xs.length = ys.length
  · have HL := Lib.hid hl
    have hne : ((xs.length : Int) != (ys.length : Int)) = false := by simp [hl]
    clear hl
    go_enter Tryz.func28, Tryz.ntmps28
    go_wp2
    go_loopw [5] (fun i wr => ∃ k : Nat, k ≤ xs.length ∧ i = .int .i64 k ∧ Hid (xs.take k = ys.take k) ∧ Below w.heap.size w wr) (fun i _ => xs.length - (intOf i).toNat)
    case atStart => exact ⟨0, Nat.zero_le _, rfl, Lib.hid (by simp), Below.refl _ _⟩
    case round =>
      obtain ⟨k, hk, rfl, hE, hb⟩ := hrel
      by_cases hkn : k < xs.length
      · have hky : k < ys.length := by rw [← HL.out]; exact hkn
        have h1 : wr.cell? ⟨b, o + k, none⟩ = some (.string xs[k]) := hp.at hb (Nat.le_refl _) k hkn
        have h2 : wr.cell? ⟨b', o' + k, none⟩ = some (.string ys[k]) := hp'.at hb (Nat.le_refl _) k hky
        have q1 : (0 : Int) ≤ (k : Int) := by omega
        have q2 : (k : Int) < (xs.length : Int) := by omega
        have q3 : (k : Int) < (ys.length : Int) := by omega
        by_cases hx : xs[k] = ys[k]
        · rw [hx] at h1
          have HN := Lib.hid (show xs.take (k + 1) = ys.take (k + 1) by rw [List.take_succ_eq_append_getElem hkn, List.take_succ_eq_append_getElem hky, hE.out, hx])
          clear hx
          go_wp2_with fail
          go_quiet (fail)
          have b3 := below_drewN hb nq
          go_wp2
          go_roundw
          case rel => exact ⟨k + 1, by omega, by go_num, HN, b3⟩
          case measure => simp [intOf]; omega
        · have HD := Lib.hid (show decide (xs = ys) = false by
            rw [decide_eq_false_iff_not]
            intro e
            apply hx
            subst e
            rfl)
          have ht := bytes_ne hx
          clear hx
          go_wp2_with fail
          go_quiet (fail)
          have b3 := below_drewN hb nq
          go_wp2
          go_ret
          exact ⟨_, rfl, by rw [HD.out]; rfl, b3⟩
      · obtain rfl : k = xs.length := by omega
        have HD := Lib.hid (show decide (xs = ys) = true by
          rw [decide_eq_true_iff]
          have := hE.out
          rw [List.take_length, HL.out, List.take_length] at this
          exact this)
        go_wp2
        go_ret
        exact ⟨_, rfl, by rw [HD.out]; rfl, hb⟩
  · have hne : ((xs.length : Int) != (ys.length : Int)) = true := by simp; omega
    have HD := Lib.hid (show decide (xs = ys) = false by rw [decide_eq_false_iff_not]; intro e; exact hl (by rw [e]))
    clear hl
    go_enter Tryz.func28, Tryz.ntmps28
    go_wp2
    go_ret
    exact ⟨_, rfl, by rw [HD.out]; rfl, Below.refl _ _⟩
end Go.Proofs.YtdpdkojeapaflaaGreatDoor

namespace Go.Proofs.YtdpdkojeapaflaaGreatDoor
open Go.RowKit
set_option maxRecDepth 100000

theorem prods_dn {K : Nat} : ∀ (zs : List Int) (a : Int), (∀ z ∈ zs, dn z ≤ K) → dn (zs.foldl (· * ·) a) ≤ dn a + K * zs.length
  | [], a, _ => by simp
  | z :: l, a, h => by
    rw [List.foldl_cons]
    have := prods_dn l (a * z) fun x hx => h x (by simp [hx])
    have h1 := h z (by simp)
    have h2 := dn_mul a z
    rw [List.length_cons, Nat.mul_add]
    omega
theorem prods_dn_take {K : Nat} (zs : List Int) (k : Nat) (h : ∀ z ∈ zs, dn z ≤ K) (hl : zs.length ≤ 16) : dn (prods (zs.take k)) ≤ 1 + K * 16 := by
  have h1 := prods_dn (zs.take k) 1 fun z hz => h z (List.mem_of_mem_take hz)
  have h2 : K * (zs.take k).length ≤ K * 16 := Nat.mul_le_mul_left _ (by simp; omega)
  have h3 : dn 1 = 1 := by decide +kernel
  unfold prods
  omega
theorem ord_one (w : World) (x : Int) (hx : dn x ≤ 90000) : Calls Tryz.prog 14 #[.string (txt x), .string ⟨#[49]⟩] w (Rets fun v w' => v = .int .i64 (x - 1).sign ∧ Below w.heap.size w w') := by
  rw [g1.eq]; exact Order_any w x 1 hx (by have := g1.dn; omega)
set_option maxHeartbeats 1000000 in
theorem Size_any (w : World) (v : Value) (g : List ByteArray) (zs : List Int) (hv : Sl eS w v g) (hz : g = zs.map txt) (hd : ∀ z ∈ zs, dn z ≤ 500) (hl : zs.length ≤ 16) :
    Calls Tryz.prog 46 #[v] w (Rets fun r w' => r = .string (txt (prods zs)) ∧ Below w.heap.size w w') := by
  obtain ⟨ad, b, o, c, rfl, hi, hp, hc, hm⟩ := hv.open elemStr
  have hgl : g.length = zs.length := by rw [hz, List.length_map]
  have C := fun k hk => cell_txt hp hz k hk
  rw [hgl] at hi ⊢
  have HC := Lib.hid C; have HD := Lib.hid hd
  have HT := Lib.hid (fun k => prods_dn_take zs k hd hl)
  clear hv hz hd hgl C hp
  unfold maxLen at hm
  go_enter Tryz.func46, Tryz.ntmps46
  go_wp2
  go_loopw [3, 4] (fun p i wr => ∃ k : Nat, k ≤ zs.length ∧ i = .int .i64 k ∧ Hid (p = .string (txt (prods (zs.take k)))) ∧ Below w.heap.size w wr) (fun _ i _ => zs.length - (intOf i).toNat)
  case atStart => exact ⟨0, Nat.zero_le _, rfl, Lib.hid (by rw [one_text]; rfl), Below.refl _ _⟩
  case round =>
    obtain ⟨k, hk, rfl, ho, hb⟩ := hrel
    obtain rfl := ho.out
    clear ho
    by_cases hkn : k < zs.length
    · have h1 := HC.out k hkn _ hb
      have HZ := Lib.hid (HD.out _ (List.getElem_mem hkn))
      have HPT := Lib.hid (prods_take zs k hkn).symm
      go_wp2_with (go_at_call 101; (with_reducible refine (Times_any _ (prods (zs.take k)) zs[k] (by have := HT.out k; omega) (by have := HZ.out; omega)).mono ?_); rintro e w1 ⟨v, rfl, rfl, hb1⟩; rw [HPT.out])
      go_roundw
      case rel => exact ⟨k + 1, by omega, by go_num, Lib.hid rfl, hb.trans (hb1.mono hb.size)⟩
      case measure => simp [intOf]; omega
    · obtain rfl : k = zs.length := by omega
      have e1 : zs.take zs.length = zs := List.take_length
      rw [e1]
      clear e1
      go_wp2
      go_ret
      exact ⟨_, rfl, rfl, hb⟩

/-- The numbers of a right group, as integers. -/
theorem grp_facts {g : List ByteArray} (hg : gchk g = 0) (hdn : ∀ s ∈ g, ∀ z, Good s z → dn z ≤ 500) :
    Goods g (nums g) ∧ g = (nums g).map txt ∧ (nums g).length = g.length ∧ (nums g).length ≤ 16 ∧ (∀ z ∈ nums g, dn z ≤ 500) ∧ ∀ z ∈ nums g, 2 ≤ z := by
  obtain ⟨zs, hG⟩ := grp_of hg
  have hz := hG.good.len
  rw [nums_of hG.good]
  refine ⟨hG.good, goods_txt hG.good, hz, by rw [hz]; exact hG.len, fun z h => ?_, hG.two⟩
  obtain ⟨i, hi, rfl⟩ := List.getElem_of_mem h
  exact hdn _ (List.getElem_mem (show i < g.length by omega)) _ (hG.good.get i (by omega) hi)
/-- What Order and Count answer. -/
def orderS (g : List ByteArray) : ByteArray × Int := if gchk g = 0 then (resT (prods (nums g)), resK (prods (nums g))) else (⟨#[]⟩, gchk g)
def countS (g : List ByteArray) (k : ByteArray) : ByteArray × Int :=
  if gchk g = 0 then (if chk k.data.toList = 0 then (if num k < 1 then (⟨#[]⟩, 2) else (resT (prods (gcds (nums g) (num k))), resK (prods (gcds (nums g) (num k))))) else (⟨#[]⟩, chk k.data.toList)) else (⟨#[]⟩, gchk g)
theorem AOrder_any (w : World) (v : Value) (g : List ByteArray) (hv : Sl eS w v g) (hsg : g.length ≤ 16 → ∀ s ∈ g, s.size ≤ 1000000) (he : Env w) :
    Calls Tryz.prog 21 #[v] w (Rets fun r w' => r = .tuple #[.string (orderS g).1, .int .i64 (orderS g).2] ∧ Below w.heap.size w w') := by
  by_cases hg : gchk g = 0
  · obtain ⟨zs, hG⟩ := grp_of hg
    have := Order_ok w v g zs hv hG.good hG.two hg (hsg hG.len) he
    rw [resV_eq] at this
    unfold orderS
    rw [if_pos hg, nums_of hG.good]
    exact this
  · have := Order_err w v g hv hg hsg he
    unfold orderS
    rw [if_neg hg]
    exact this
set_option maxHeartbeats 1000000 in
theorem rAOrder_any (w : World) (v : Value) (g : List ByteArray) (hv : Sl eS w v g) (hsg : g.length ≤ 16 → ∀ s ∈ g, s.size ≤ 1000000) (hdn : gchk g = 0 → ∀ s ∈ g, ∀ z, Good s z → dn z ≤ 500) :
    Calls Tryz.prog 22 #[v] w (Rets fun r w' => r = .tuple #[.string (orderS g).1, .int .i64 (orderS g).2] ∧ Below w.heap.size w w') := by
  have HV := Lib.hid hv; have HSG := Lib.hid hsg
  obtain ⟨ad, b, o, c, rfl, -, -, -, -⟩ := hv.open elemStr
  clear hv hsg
  by_cases hg : gchk g = 0
  · obtain ⟨hG, h1, h2, h3, h4, h5⟩ := grp_facts hg (hdn hg)
    have HG := Lib.hid hg; have H1 := Lib.hid h1; have H4 := Lib.hid h4; have H3 := Lib.hid h3
    have HS := Lib.hid (show orderS g = (resT (prods (nums g)), resK (prods (nums g))) by unfold orderS; rw [if_pos hg])
    have HR := Lib.hid (resV_eq (prods (nums g)))
    have HD := Lib.hid (show dn (prods (nums g)) ≤ 8001 by have := prods_dn_take (nums g) (nums g).length h4 h3; rw [List.take_length] at this; omega)
    clear hg hG h1 h2 h3 h4 h5 hdn
    go_enter Tryz.func22, Tryz.ntmps22
    go_wp2_with (first
      | (go_at_call 13; (with_reducible refine (rACheck_any _ _ g HV.out HSG.out).mono ?_); rintro e w1 ⟨v, rfl, rfl, hb1⟩; rw [HG.out])
      | (go_at_call 46; (with_reducible refine (Size_any _ _ g (nums g) (HV.out.below hb1 (Nat.le_refl _)) H1.out H4.out H3.out).mono ?_); rintro e w2 ⟨v, rfl, rfl, hb2⟩; have b2 := hb1.trans (hb2.mono hb1.size))
      | (go_at_call 75; (with_reducible refine (Bounded_any _ (prods (nums g)) (by have := HD.out; omega)).mono ?_); rintro e w3 ⟨v, rfl, rfl, hb3⟩; rw [HR.out]; have b3 := b2.trans (hb3.mono b2.size)))
    go_ret2
    exact ⟨_, rfl, by rw [HS.out]; rfl, b3⟩
  · have HS := Lib.hid (show orderS g = (⟨#[]⟩, gchk g) by unfold orderS; rw [if_neg hg])
    have hne : (gchk g != 0) = true := by simp [hg]
    clear hg hdn
    go_enter Tryz.func22, Tryz.ntmps22
    go_wp2_with (go_at_call 13; (with_reducible refine (rACheck_any _ _ g HV.out HSG.out).mono ?_); rintro e w1 ⟨v, rfl, rfl, hb1⟩)
    go_ret2
    exact ⟨_, rfl, by rw [HS.out]; rfl, hb1⟩
theorem ACount_any (w : World) (v : Value) (g : List ByteArray) (k : ByteArray) (hv : Sl eS w v g) (hsg : g.length ≤ 16 → ∀ s ∈ g, s.size ≤ 1000000) (hsk : k.size ≤ 1000000) (he : Env w) :
    Calls Tryz.prog 43 #[v, .string k] w (Rets fun r w' => r = .tuple #[.string (countS g k).1, .int .i64 (countS g k).2] ∧ Below w.heap.size w w') := by
  unfold countS
  by_cases hg : gchk g = 0
  · obtain ⟨zs, hG⟩ := grp_of hg
    have hs := hsg hG.len
    rw [if_pos hg]
    by_cases hk : chk k.data.toList = 0
    · rw [if_pos hk]
      by_cases h1 : num k < 1
      · rw [if_pos h1]
        exact Count_err3 w v g k (num k) hv hg hG.len (good_num hk) h1 hsk hs he
      · rw [if_neg h1, nums_of hG.good]
        have := Count_ok w v g zs k (num k) hv hG.good hG.two hg hG.len (good_num hk) (by omega) hsk hs he
        rw [resV_eq] at this
        exact this
    · rw [if_neg hk]
      exact Count_err2 w v g k hv hg hG.len hk hsk hs he
  · rw [if_neg hg]
    exact Count_err1 w v g k hv hg hsg he
theorem gcds_dn {zs : List Int} {y : Int} (h2 : ∀ z ∈ zs, 2 ≤ z) (hd : ∀ z ∈ zs, dn z ≤ 500) : ∀ u ∈ gcds zs y, dn u ≤ 500 := by
  intro u hu
  obtain ⟨z, hz, rfl⟩ := List.mem_map.1 hu
  have h1 := h2 z hz
  have : Nat.gcd z.natAbs y.natAbs ≤ z.natAbs := Nat.le_of_dvd (by omega) (Nat.gcd_dvd_left _ _)
  exact Nat.le_trans (dn_le (by rw [Int.natAbs_natCast]; exact this)) (hd z hz)
theorem gcds_len (zs : List Int) (y : Int) : (gcds zs y).length = zs.length := by simp [gcds]
set_option maxHeartbeats 2000000 in
theorem rACount_any (w : World) (v : Value) (g : List ByteArray) (k : ByteArray) (hv : Sl eS w v g) (hsg : g.length ≤ 16 → ∀ s ∈ g, s.size ≤ 1000000) (hsk : k.size ≤ 1000000) (hdn : gchk g = 0 → ∀ s ∈ g, ∀ z, Good s z → dn z ≤ 500) :
    Calls Tryz.prog 44 #[v, .string k] w (Rets fun r w' => r = .tuple #[.string (countS g k).1, .int .i64 (countS g k).2] ∧ Below w.heap.size w w') := by
  have HV := Lib.hid hv; have HSG := Lib.hid hsg; have HSK := Lib.hid hsk
  obtain ⟨ad, b, o, c, rfl, hi, hp, hc, hm⟩ := hv.open elemStr
  unfold maxLen at hm
  clear hv hsg hsk
  by_cases hg : gchk g = 0
  · obtain ⟨hG, h1, h2, h3, h4, h5⟩ := grp_facts hg (hdn hg)
    have HG := Lib.hid hg
    by_cases hk : chk k.data.toList = 0
    · have gk := good_num hk
      by_cases h1k : num k < 1
      · have HS := Lib.hid (show countS g k = (⟨#[]⟩, 2) by unfold countS; rw [if_pos hg, if_pos hk, if_pos h1k])
        obtain ⟨y, hy⟩ : ∃ y, num k = y := ⟨_, rfl⟩
        rw [hy] at gk h1k
        obtain ⟨u, hu, hu0⟩ : ∃ u, (y - 1).sign = u ∧ u < 0 := ⟨_, rfl, by rw [Int.sign_eq_neg_one_of_neg (by omega)]; omega⟩
        have HU := Lib.hid hu; have HK := Lib.hid hk; have HE := Lib.hid gk.eq; have HD := Lib.hid gk.dn
        have HO := Lib.hid (fun w' => by have := ord_one w' y (by have := HD.out; omega); rw [← HE.out] at this; exact this : ∀ w', Calls Tryz.prog 14 #[.string k, .string ⟨#[49]⟩] w' (Rets fun v w'' => v = .int .i64 (y - 1).sign ∧ Below w'.heap.size w' w''))
        clear hg hG h1 h2 h3 h4 h5 hdn hk gk hy h1k hu hp hi
        go_enter Tryz.func44, Tryz.ntmps44
        go_wp2_with (first
          | (go_at_call 13; (with_reducible refine (rACheck_any _ _ g HV.out HSG.out).mono ?_); rintro e w1 ⟨v, rfl, rfl, hb1⟩; rw [HG.out])
          | (go_at_call 30; (with_reducible refine (rCheck_any _ _ HSK.out).mono ?_); rintro e w2 ⟨v, rfl, rfl, rfl⟩; rw [HK.out])
          | (go_at_call 14; (with_reducible refine (HO.out _).mono ?_); rintro e w3 ⟨v, rfl, rfl, hb3⟩; rw [HU.out]; have b3 := hb1.trans (hb3.mono hb1.size)))
        go_ret2
        exact ⟨_, rfl, by rw [HS.out]; rfl, b3⟩
      · obtain ⟨y, hy⟩ : ∃ y, num k = y := ⟨_, rfl⟩
        have HS := Lib.hid (show countS g k = (resT (prods (gcds (nums g) y)), resK (prods (gcds (nums g) y))) by unfold countS; rw [if_pos hg, if_pos hk, if_neg h1k, hy])
        rw [hy] at gk h1k
        obtain ⟨u, hu, hu0⟩ : ∃ u, (y - 1).sign = u ∧ 0 ≤ u := ⟨_, rfl, by
          rcases Int.lt_or_eq_of_le (show 1 ≤ y by omega) with h | h
          · rw [Int.sign_eq_one_of_pos (by omega)]; omega
          · rw [← h]; decide⟩
        have hgl : g.length = (nums g).length := h2.symm
        have C := fun k hk => cell_txt hp h1 k hk
        obtain ⟨zs, hzs⟩ : ∃ zs, nums g = zs := ⟨_, rfl⟩
        rw [hzs] at HS h3 h4 h5 hgl C
        have hgd := gcds_dn (y := y) h5 h4
        have hgn := gcds_len zs y
        obtain ⟨us, hus⟩ : ∃ us, gcds zs y = us := ⟨_, rfl⟩
        have HGC := Lib.hid (show ∀ j (h : j < zs.length) (h' : j < us.length), ((Nat.gcd zs[j].natAbs y.natAbs : Nat) : Int) = us[j] from by subst hus; intro j h h'; simp [gcds])
        rw [hus] at HS hgd hgn
        have HU := Lib.hid hu; have HK := Lib.hid hk; have HE := Lib.hid gk.eq; have HD := Lib.hid gk.dn
        have HO := Lib.hid (fun w' => by have := ord_one w' y (by have := HD.out; omega); rw [← HE.out] at this; exact this : ∀ w', Calls Tryz.prog 14 #[.string k, .string ⟨#[49]⟩] w' (Rets fun v w'' => v = .int .i64 (y - 1).sign ∧ Below w'.heap.size w' w''))
        have HCM := Lib.hid (fun w' x hx => by have := Common_any w' x y hx (by have := HD.out; omega); rw [← HE.out] at this; exact this : ∀ w' x, dn x ≤ 30000 → Calls Tryz.prog 102 #[.string (txt x), .string k] w' (Rets fun v w'' => v = .string (txt ((Nat.gcd x.natAbs y.natAbs : Nat) : Int)) ∧ Below w'.heap.size w' w''))
        have HT := Lib.hid (fun j => prods_dn_take us j hgd (by omega))
        have HD4 := Lib.hid h4; have HGD := Lib.hid hgd; have HGN := Lib.hid hgn; have HC := Lib.hid C
        have HR := Lib.hid (resV_eq (prods us))
        rw [hgl] at hi ⊢
        rw [hgl] at HV
        clear hg hG h1 h2 h4 h5 hdn hk gk hy h1k hu hp hgl C hzs hus hgd hgn
        go_enter Tryz.func44, Tryz.ntmps44
        go_wp2_with (first
          | (go_at_call 13; (with_reducible refine (rACheck_any _ _ g HV.out HSG.out).mono ?_); rintro e w1 ⟨v, rfl, rfl, hb1⟩; rw [HG.out])
          | (go_at_call 30; (with_reducible refine (rCheck_any _ _ HSK.out).mono ?_); rintro e w2 ⟨v, rfl, rfl, rfl⟩; rw [HK.out])
          | (go_at_call 14; (with_reducible refine (HO.out _).mono ?_); rintro e w3 ⟨v, rfl, rfl, hb3⟩; rw [HU.out]; have b3 := hb1.trans (hb3.mono hb1.size)))
        go_loopw [8, 9] (fun p i wr => ∃ k : Nat, k ≤ zs.length ∧ i = .int .i64 k ∧ Hid (p = .string (txt (prods (us.take k)))) ∧ Hid (Below w.heap.size w wr)) (fun _ i _ => zs.length - (intOf i).toNat)
        case atStart => exact ⟨0, Nat.zero_le _, rfl, Lib.hid (by rw [one_text]; rfl), Lib.hid b3⟩
        case round =>
          obtain ⟨j, hj, rfl, ho, hb⟩ := hrel
          obtain rfl := ho.out
          have hb := hb.out
          clear ho
          by_cases hkn : j < zs.length
          · have hku : j < us.length := by rw [HGN.out]; exact hkn
            have h1 := HC.out j hkn _ hb
            have HZ := Lib.hid (HD4.out _ (List.getElem_mem hkn)); have HZ2 := Lib.hid (HGD.out _ (List.getElem_mem hku))
            have HGJ := Lib.hid (HGC.out j hkn hku)
            have HPT := Lib.hid (prods_take us j hku).symm
            go_wp2_with (first
              | (go_at_call 102; (with_reducible refine (HCM.out _ zs[j] (by have := HZ.out; omega)).mono ?_); rintro e w4 ⟨v, rfl, rfl, hb4⟩; rw [HGJ.out]; have b4 := hb.trans (hb4.mono hb.size))
              | (go_at_call 101; (with_reducible refine (Times_any _ (prods (us.take j)) us[j] (by have := HT.out j; omega) (by have := HZ2.out; omega)).mono ?_); rintro e w5 ⟨v, rfl, rfl, hb5⟩; rw [HPT.out]; have b5 := b4.trans (hb5.mono b4.size)))
            go_roundw
            case rel => exact ⟨j + 1, by omega, by go_num, Lib.hid rfl, Lib.hid b5⟩
            case measure => simp [intOf]; omega
          · obtain rfl : j = zs.length := by omega
            have e1 : us.take zs.length = us := by rw [← HGN.out, List.take_length]
            have HD2 := Lib.hid (HT.out zs.length)
            rw [e1] at HD2 ⊢
            clear e1
            go_wp2_with (go_at_call 75; (with_reducible refine (Bounded_any _ (prods us) (by have := HD2.out; omega)).mono ?_); rintro e w6 ⟨v, rfl, rfl, hb6⟩; rw [HR.out]; have b6 := hb.trans (hb6.mono hb.size))
            go_ret2
            exact ⟨_, rfl, by rw [HS.out]; rfl, b6⟩
    · have HS := Lib.hid (show countS g k = (⟨#[]⟩, chk k.data.toList) by unfold countS; rw [if_pos hg, if_neg hk])
      have hne : (chk k.data.toList != 0) = true := by simp [hk]
      clear hg hG h1 h2 h3 h4 h5 hdn hk hp hi
      go_enter Tryz.func44, Tryz.ntmps44
      go_wp2_with (first
        | (go_at_call 13; (with_reducible refine (rACheck_any _ _ g HV.out HSG.out).mono ?_); rintro e w1 ⟨v, rfl, rfl, hb1⟩; rw [HG.out])
        | (go_at_call 30; (with_reducible refine (rCheck_any _ _ HSK.out).mono ?_); rintro e w2 ⟨v, rfl, rfl, rfl⟩))
      go_ret2
      exact ⟨_, rfl, by rw [HS.out]; rfl, hb1⟩
  · have HS := Lib.hid (show countS g k = (⟨#[]⟩, gchk g) by unfold countS; rw [if_neg hg])
    have hne : (gchk g != 0) = true := by simp [hg]
    clear hg hdn hp hi
    go_enter Tryz.func44, Tryz.ntmps44
    go_wp2_with (go_at_call 13; (with_reducible refine (rACheck_any _ _ g HV.out HSG.out).mono ?_); rintro e w1 ⟨v, rfl, rfl, hb1⟩)
    go_ret2
    exact ⟨_, rfl, by rw [HS.out]; rfl, hb1⟩
end Go.Proofs.YtdpdkojeapaflaaGreatDoor
