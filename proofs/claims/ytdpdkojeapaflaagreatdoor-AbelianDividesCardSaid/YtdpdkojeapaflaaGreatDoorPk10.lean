/- The walks of abelian's Element and Exponent, and of the reference's Of, Element and Exponent of groups. The walk of the reference's Of of groups. -/
import Derived.Test.YtdpdkojeapaflaaGreatDoorPk8
import Derived.Test.YtdpdkojeapaflaaGreatDoorPk6
import Derived.Test.YtdpdkojeapaflaaGreatDoorPk9
namespace Go.Proofs.YtdpdkojeapaflaaGreatDoor
open Go.RowKit
set_option maxRecDepth 100000

set_option maxHeartbeats 400000 in
theorem elem1 (w : World) (q : Value) (s : ByteArray) (hs : s.size ≤ 1000000) :
    Calls Tryz.prog 77 #[q, .string s] w (Rets fun v w' => v = .tuple #[.int .i64 0, .int .i64 (chk s.data.toList)] ∧ Below w.heap.size w w') := by
  go_enter Tryz.func77, Tryz.ntmps77
  go_wp2_with (go_at_call 70; (with_reducible refine (check_any _ s hs).mono ?_); rintro e w1 ⟨v, rfl, rfl, hb1⟩)
  go_ret2
  exact ⟨_, rfl, rfl, hb1⟩
theorem chks_drop (xs : List ByteArray) (k : Nat) (h : k < xs.length) : chks (xs.drop k) = if chk xs[k].data.toList = 0 then chks (xs.drop (k + 1)) else chk xs[k].data.toList := by
  rw [List.drop_eq_getElem_cons h, chks]
set_option maxHeartbeats 1000000 in
theorem folded_chk (w : World) (v : Value) (xs : List ByteArray) (hv : Sl eS w v xs) (hsz : ∀ s ∈ xs, s.size ≤ 1000000) :
    Calls Tryz.prog 76 #[v, .int .i64 0, .func (.func 77) #[] #[]] w (Rets fun v w' => v = .tuple #[.int .i64 0, .int .i64 (chks xs)] ∧ Below w.heap.size w w') := by
  obtain ⟨a, b, o, c, rfl, hi, hq, hc, hm⟩ := hv.open elemStr
  have HSZ := Lib.hid hsz
  clear hv hsz
  unfold maxLen at hm
  go_enter Tryz.func76, Tryz.ntmps76
  go_wp2
  go_loopw [1, 14] (fun p i wr => ∃ k : Nat, k ≤ xs.length ∧ i = .int .i64 k ∧ p = .int .i64 0 ∧ Hid (chks xs = chks (xs.drop k)) ∧ Below w.heap.size w wr) (fun _ i _ => xs.length - (intOf i).toNat)
  case atStart => exact ⟨0, Nat.zero_le _, rfl, rfl, Lib.hid rfl, Below.refl _ _⟩
  case round =>
    obtain ⟨k, hk, rfl, rfl, ho, hb⟩ := hrel
    by_cases hkn : k < xs.length
    · have h1 : wr.cell? ⟨b, o + k, none⟩ = some (.string xs[k]) := hq.at hb (Nat.le_refl _) k hkn
      have hS := HSZ.out _ (List.getElem_mem hkn)
      have hD := chks_drop xs k hkn
      by_cases h0 : chk xs[k].data.toList = 0
      · rw [if_pos h0] at hD
        have HD := Lib.hid hD; have HC := Lib.hid h0
        clear hD h0
        go_wp2_with (go_at_call 77; (with_reducible refine (elem1 _ _ _ hS).mono ?_); rintro e w1 ⟨v, rfl, rfl, hb1⟩; rw [HC.out])
        go_roundw
        case rel => exact ⟨k + 1, by omega, by go_num, rfl, Lib.hid (by rw [ho.out, HD.out]), hb.trans (hb1.mono hb.size)⟩
        case measure => simp [intOf]; omega
      · rw [if_neg h0] at hD
        have HD := Lib.hid hD
        have hne : (chk xs[k].data.toList != 0) = true := by simp [h0]
        clear hD h0
        go_wp2_with (go_at_call 77; (with_reducible refine (elem1 _ _ _ hS).mono ?_); rintro e w1 ⟨v, rfl, rfl, hb1⟩)
        go_ret2
        exact ⟨_, rfl, by rw [ho.out, HD.out]; rfl, hb.trans (hb1.mono hb.size)⟩
    · obtain rfl : k = xs.length := by omega
      have HD := Lib.hid (show chks xs = 0 by rw [ho.out, List.drop_length]; rfl)
      go_wp2
      go_ret2
      exact ⟨_, rfl, by rw [HD.out]; rfl, hb⟩
/-- What Element and Exponent answer. -/
def elemS (g l : List ByteArray) : List ByteArray × Int :=
  if gchk g = 0 then (if l.length = g.length then (if chks l = 0 then ((redL (nums g) (nums l)).map txt, 0) else ([], chks l)) else ([], 8)) else ([], gchk g)
def expS (g : List ByteArray) : ByteArray × Int := if gchk g = 0 then (lastOf g, 0) else (⟨#[]⟩, gchk g)
theorem red_place {g l : List ByteArray} (hg : gchk g = 0) (hc : chks l = 0) : ((redL (nums g) (nums l)).map txt).length = g.length ∧
    ∀ k (hk : k < g.length) (hk' : k < l.length) (h : k < ((redL (nums g) (nums l)).map txt).length), ((redL (nums g) (nums l)).map txt)[k] = txt (Int.fmod (num l[k]) (num g[k])) ∧ Good g[k] (num g[k]) ∧ Good l[k] (num l[k]) ∧ 2 ≤ num g[k] := by
  obtain ⟨zs, hG⟩ := grp_of hg
  obtain ⟨us, hus⟩ := Goods.of l hc
  have ez := goods_num g zs hG.good
  have eu := goods_num l us hus
  refine ⟨by rw [List.length_map, redL, mapI_len, nums_len], fun k hk hk' h => ?_⟩
  have hz : k < zs.length := by rw [hG.good.len]; exact hk
  have hu : k < us.length := by rw [hus.len]; exact hk'
  have g1 := hG.good.get k hk hz
  have g2 := hus.get k hk' hu
  have n1 := g1.num; have n2 := g2.num
  have h2 := hG.two _ (List.getElem_mem hz)
  rw [← n1] at g1 h2; rw [← n2] at g2
  refine ⟨?_, g1, g2, h2⟩
  simp only [List.getElem_map, redL, mapI_get]
  rw [getD_at _ _ (by rw [nums_len]; exact hk'), getD_at _ _ (by rw [nums_len]; exact hk)]
  simp [nums]
set_option maxHeartbeats 2000000 in
theorem AElement_any (w : World) (v u : Value) (g l : List ByteArray) (hv : Sl eS w v g) (hu : Sl eS w u l) (hsg : g.length ≤ 16 → ∀ s ∈ g, s.size ≤ 1000000) (hsl : ∀ s ∈ l, s.size ≤ 1000000) (he : Env w) :
    Calls Tryz.prog 25 #[v, u] w (Rets fun r w' => ∃ x, r = .tuple #[x, .int .i64 (elemS g l).2] ∧ Sl eS w' x (elemS g l).1 ∧ Below w.heap.size w w') := by
  have HV := Lib.hid hv; have HU := Lib.hid hu; have HSG := Lib.hid hsg; have HSL := Lib.hid hsl; have HE := Lib.hid he
  obtain ⟨ad, b, o, c, rfl, hi, hp, hcc, hm⟩ := hv.open elemStr
  obtain ⟨ad', b', o', c', rfl, hi', hp', hcc', hm'⟩ := hu.open elemStr
  clear hv hu hsg hsl he
  unfold maxLen at hm hm'
  by_cases hg : gchk g = 0
  · have HG := Lib.hid hg
    have hl16 := (gchk_len hg).1
    by_cases hl : l.length = g.length
    · have HL := Lib.hid hl
      have hne : ((l.length : Int) != (g.length : Int)) = false := by simp [hl]
      by_cases hc : chks l = 0
      · have HC := Lib.hid hc
        have HS := Lib.hid (show elemS g l = ((redL (nums g) (nums l)).map txt, 0) by unfold elemS; rw [if_pos hg, if_pos hl, if_pos hc])
        obtain ⟨hrl, hrp⟩ := red_place hg hc
        obtain ⟨rs, hrs⟩ : ∃ rs, (redL (nums g) (nums l)).map txt = rs := ⟨_, rfl⟩
        rw [hrs] at HS
        have HRL := Lib.hid (show rs.length = g.length by rw [← hrs]; exact hrl)
        have HRP := Lib.hid (show ∀ k (hk : k < g.length) (hk' : k < l.length) (h : k < rs.length), rs[k] = txt (Int.fmod (num l[k]) (num g[k])) ∧ Good g[k] (num g[k]) ∧ Good l[k] (num l[k]) ∧ 2 ≤ num g[k] from by subst hrs; exact hrp)
        clear hg hl hc hrl hrp hrs
        go_enter Tryz.func25, Tryz.ntmps25
        go_wp2_with (first
          | (go_at_call 27; (with_reducible refine (ACheck_any _ _ g HV.out HSG.out HE.out).mono ?_); rintro e w1 ⟨v, rfl, rfl, hb1⟩; rw [HG.out])
          | (go_at_call 76; (with_reducible refine (folded_chk _ _ l (HU.out.below hb1 (Nat.le_refl _)) HSL.out).mono ?_); rintro e w2 ⟨v, rfl, rfl, hb2⟩; rw [HC.out]; have b2 := hb1.trans (hb2.mono hb1.size))
          | (at_make; refine mkN elemStr rfl _ _ rfl g.length rfl rfl (by omega) (by omega) (by omega) (by unfold maxLen; omega) b2 b2.size rfl ?_; intro w3 hown hb3 hb3'; clear hb3'))
        have hown := ownsRow_cast hown rfl (show List.replicate g.length (Value.string ⟨#[]⟩) = (rs.take 0 ++ List.replicate (g.length - 0) (⟨#[]⟩ : ByteArray)).map eS by simp [eS])
        have hge : w.heap.size ≤ w2.heap.size := b2.size
        go_loopw [35] (fun i wr => ∃ k : Nat, k ≤ g.length ∧ i = .int .i64 k ∧ wr.ownsRow w2.heap.size 27 1 (.slice (some ⟨w2.heap.size, 0, none⟩) g.length g.length) g.length ((rs.take k ++ List.replicate (g.length - k) (⟨#[]⟩ : ByteArray)).map eS) ∧ Below w.heap.size w wr) (fun i _ => g.length - (intOf i).toNat)
        case atStart => exact ⟨0, Nat.zero_le _, rfl, hown, hb3⟩
        case round =>
          clear hown hb3
          obtain ⟨k, hk, rfl, hown, hb⟩ := hrel
          by_cases hkn : k < g.length
          · have hkl : k < l.length := by rw [HL.out]; exact hkn
            have hkr : k < rs.length := by rw [HRL.out]; exact hkn
            obtain ⟨er, gg, gl, g2⟩ := HRP.out k hkn hkl hkr
            have h1 : wr.cell? ⟨b, o + k, none⟩ = some (.string g[k]) := hp.at hb (Nat.le_refl _) k hkn
            have h2 : wr.cell? ⟨b', o' + k, none⟩ = some (.string l[k]) := hp'.at hb (Nat.le_refl _) k hkl
            have HR := Lib.hid (res_good (fmod_small (y := num l[k]) (show num g[k] ≠ 0 by omega) gg.2))
            have HER := Lib.hid er; have HGG := Lib.hid gg; have HGL := Lib.hid gl; have HG0 := Lib.hid (show num g[k] ≠ 0 by omega)
            have HO := Lib.hid hown
            clear hown er gg gl g2
            go_wp2_with (go_at_call 34; (with_reducible refine (Rem_ok _ _ _ (num l[k]) (num g[k]) HGL.out HGG.out HG0.out (HE.out.below hb (Nat.le_refl _))).mono ?_); rintro e w4 ⟨v, rfl, rfl, hb4⟩; rw [HR.out, ← HER.out]; have HO2 := Lib.hid (own_below HO.out hb4 (Nat.le_refl _)); obtain ⟨u, -, hcu, hfr⟩ := own_at HO2.out hkn; have hb5 := hb.trans (hb4.mono hb.size))
            go_roundw
            case rel =>
              have R := fun (q : Value) (hq : q = eS rs[k]) => fill_own HO2.out hb5 hge (by simp; omega) hkn rs[k] q hq
              rw [← List.take_succ_eq_append_getElem hkr] at R
              exact ⟨k + 1, by omega, by go_num, (R _ rfl).1, (R _ rfl).2⟩
            case measure => simp [intOf]; omega
          · obtain rfl : k = g.length := by omega
            rw [List.take_of_length_le (show rs.length ≤ g.length by rw [HRL.out]; exact Nat.le_refl _), Nat.sub_self, List.replicate_zero, List.append_nil] at hown
            have HSS := Lib.hid (show Sl eS wr _ rs from Sl.ofOwns hown)
            clear hown
            go_wp2
            go_ret2
            exact ⟨_, rfl, _, by rw [HS.out]; rfl, by rw [HS.out]; exact HSS.out, hb⟩
      · have HS := Lib.hid (show elemS g l = ([], chks l) by unfold elemS; rw [if_pos hg, if_pos hl, if_neg hc])
        have hne2 : (chks l != 0) = true := by simp [hc]
        clear hg hl hc
        go_enter Tryz.func25, Tryz.ntmps25
        go_wp2_with (first
          | (go_at_call 27; (with_reducible refine (ACheck_any _ _ g HV.out HSG.out HE.out).mono ?_); rintro e w1 ⟨v, rfl, rfl, hb1⟩; rw [HG.out])
          | (go_at_call 76; (with_reducible refine (folded_chk _ _ l (HU.out.below hb1 (Nat.le_refl _)) HSL.out).mono ?_); rintro e w2 ⟨v, rfl, rfl, hb2⟩; have b2 := hb1.trans (hb2.mono hb1.size)))
        go_ret2
        exact ⟨_, rfl, _, by rw [HS.out]; rfl, by rw [HS.out]; exact Sl.nil, b2⟩
    · have HS := Lib.hid (show elemS g l = ([], 8) by unfold elemS; rw [if_pos hg, if_neg hl])
      have hne : ((l.length : Int) != (g.length : Int)) = true := by simp; omega
      clear hg hl
      go_enter Tryz.func25, Tryz.ntmps25
      go_wp2_with (go_at_call 27; (with_reducible refine (ACheck_any _ _ g HV.out HSG.out HE.out).mono ?_); rintro e w1 ⟨v, rfl, rfl, hb1⟩; rw [HG.out])
      go_ret2
      exact ⟨_, rfl, _, by rw [HS.out]; rfl, by rw [HS.out]; exact Sl.nil, hb1⟩
  · have HS := Lib.hid (show elemS g l = ([], gchk g) by unfold elemS; rw [if_neg hg])
    have hne : (gchk g != 0) = true := by simp [hg]
    clear hg
    go_enter Tryz.func25, Tryz.ntmps25
    go_wp2_with (go_at_call 27; (with_reducible refine (ACheck_any _ _ g HV.out HSG.out HE.out).mono ?_); rintro e w1 ⟨v, rfl, rfl, hb1⟩)
    go_ret2
    exact ⟨_, rfl, _, by rw [HS.out]; rfl, by rw [HS.out]; exact Sl.nil, hb1⟩
theorem AExponent_any (w : World) (v : Value) (g : List ByteArray) (hv : Sl eS w v g) (hsg : g.length ≤ 16 → ∀ s ∈ g, s.size ≤ 1000000) (he : Env w) :
    Calls Tryz.prog 23 #[v] w (Rets fun r w' => r = .tuple #[.string (expS g).1, .int .i64 (expS g).2] ∧ Below w.heap.size w w') := by
  unfold expS
  by_cases hg : gchk g = 0
  · rw [if_pos hg]; exact Exponent_ok w v g hv hg (gchk_len hg).1 (hsg (gchk_len hg).1) he
  · rw [if_neg hg]; exact Exponent_err w v g hv hg hsg he
set_option maxHeartbeats 400000 in
theorem rAExponent_any (w : World) (v : Value) (g : List ByteArray) (hv : Sl eS w v g) (hsg : g.length ≤ 16 → ∀ s ∈ g, s.size ≤ 1000000) :
    Calls Tryz.prog 24 #[v] w (Rets fun r w' => r = .tuple #[.string (expS g).1, .int .i64 (expS g).2] ∧ Below w.heap.size w w') := by
  have HV := Lib.hid hv; have HSG := Lib.hid hsg
  obtain ⟨ad, b, o, c, rfl, -, -, -, -⟩ := hv.open elemStr
  clear hv hsg
  by_cases hg : gchk g = 0
  · have HG := Lib.hid hg
    have HS := Lib.hid (show expS g = (rlast g, 0) by unfold expS; rw [if_pos hg]; rfl)
    clear hg
    go_enter Tryz.func24, Tryz.ntmps24
    go_wp2_with (first
      | (go_at_call 13; (with_reducible refine (rACheck_any _ _ g HV.out HSG.out).mono ?_); rintro e w1 ⟨v, rfl, rfl, hb1⟩; rw [HG.out])
      | (go_at_call 15; (with_reducible refine (Last_any _ _ g (HV.out.below hb1 (Nat.le_refl _))).mono ?_); rintro e w2 ⟨v, rfl, rfl, rfl⟩))
    go_ret2
    exact ⟨_, rfl, by rw [HS.out]; rfl, hb1⟩
  · have HS := Lib.hid (show expS g = (⟨#[]⟩, gchk g) by unfold expS; rw [if_neg hg])
    have hne : (gchk g != 0) = true := by simp [hg]
    clear hg
    go_enter Tryz.func24, Tryz.ntmps24
    go_wp2_with (go_at_call 13; (with_reducible refine (rACheck_any _ _ g HV.out HSG.out).mono ?_); rintro e w1 ⟨v, rfl, rfl, hb1⟩)
    go_ret2
    exact ⟨_, rfl, by rw [HS.out]; rfl, hb1⟩
set_option maxHeartbeats 2000000 in
theorem rAElement_any (w : World) (v u : Value) (g l : List ByteArray) (hv : Sl eS w v g) (hu : Sl eS w u l) (hsg : g.length ≤ 16 → ∀ s ∈ g, s.size ≤ 1000000) (hsl : ∀ s ∈ l, s.size ≤ 1000000) (hdn : gchk g = 0 → ∀ s ∈ g, ∀ z, Good s z → dn z ≤ 500) (hdl : ∀ s ∈ l, ∀ z, Good s z → dn z ≤ 500) :
    Calls Tryz.prog 26 #[v, u] w (Rets fun r w' => ∃ x, r = .tuple #[x, .int .i64 (elemS g l).2] ∧ Sl eS w' x (elemS g l).1 ∧ Below w.heap.size w w') := by
  have HV := Lib.hid hv; have HU := Lib.hid hu; have HSG := Lib.hid hsg; have HSL := Lib.hid hsl
  obtain ⟨ad, b, o, c, rfl, -, -, -, -⟩ := hv.open elemStr
  obtain ⟨ad', b', o', c', rfl, hi', hp', hcc', hm'⟩ := hu.open elemStr
  clear hv hu hsg hsl
  unfold maxLen at hm'
  by_cases hg : gchk g = 0
  · have HG := Lib.hid hg
    have hl16 := (gchk_len hg).1
    obtain ⟨hG, f1, f2, f3, f4, f5⟩ := grp_facts hg (hdn hg)
    by_cases hl : l.length = g.length
    · have HL := Lib.hid hl
      have hne : ((l.length : Int) != (g.length : Int)) = false := by simp [hl]
      have HF := Lib.hid (And.intro f1 (And.intro f4 f5))
      have HN := Lib.hid (show (nums l).length = (nums g).length by rw [nums_len, nums_len, hl])
      have HF3 := Lib.hid f3
      have HS1 := Lib.hid (show chks l = 0 → elemS g l = ((redL (nums g) (nums l)).map txt, 0) from fun hc => by unfold elemS; rw [if_pos hg, if_pos hl, if_pos hc])
      have HS2 := Lib.hid (show chks l ≠ 0 → elemS g l = ([], chks l) from fun hc => by unfold elemS; rw [if_pos hg, if_pos hl, if_neg hc])
      have HDL := Lib.hid (show chks l = 0 → l = (nums l).map txt ∧ ∀ z ∈ nums l, dn z ≤ 1000 from fun hc => by
        obtain ⟨us, hus⟩ := Goods.of l hc
        rw [nums_of hus]
        refine ⟨goods_txt hus, fun z hz => ?_⟩
        obtain ⟨i, hi, rfl⟩ := List.getElem_of_mem hz
        have := hus.len
        have := hdl _ (List.getElem_mem (show i < l.length by omega)) _ (hus.get i (by omega) hi)
        omega)
      clear hg hl hG f1 f2 f3 f4 f5 hdn hdl
      go_enter Tryz.func26, Tryz.ntmps26
      go_wp2_with (go_at_call 13; (with_reducible refine (rACheck_any _ _ g HV.out HSG.out).mono ?_); rintro e w1 ⟨v, rfl, rfl, hb1⟩; rw [HG.out])
      go_loop [7] (fun i => ∃ k : Nat, k ≤ l.length ∧ i = .int .i64 k ∧ Hid (chks l = chks (l.drop k))) (fun i => l.length - (intOf i).toNat)
      case atStart => exact ⟨0, Nat.zero_le _, rfl, Lib.hid rfl⟩
      case round =>
        obtain ⟨k, hk, rfl, ho⟩ := hrel
        by_cases hkn : k < l.length
        · have h1 : w1.cell? ⟨b', o' + k, none⟩ = some (.string l[k]) := hp'.at hb1 (Nat.le_refl _) k hkn
          have hS := HSL.out _ (List.getElem_mem hkn)
          have hD := chks_drop l k hkn
          by_cases h0 : chk l[k].data.toList = 0
          · rw [if_pos h0] at hD
            have HD := Lib.hid hD; have HC := Lib.hid h0
            clear hD h0
            go_wp2_with (go_at_call 30; (with_reducible refine (rCheck_any _ _ hS).mono ?_); rintro e w2 ⟨v, rfl, rfl, rfl⟩; rw [HC.out])
            go_round
            case rel => exact ⟨k + 1, by omega, by go_num, Lib.hid (by rw [ho.out, HD.out])⟩
            case measure => simp [intOf]; omega
          · rw [if_neg h0] at hD
            have HE2 := Lib.hid (show chks l ≠ 0 by rw [ho.out, hD]; exact h0)
            have HD := Lib.hid (show elemS g l = ([], chk l[k].data.toList) by rw [HS2.out HE2.out, ho.out, hD])
            have hne : (chk l[k].data.toList != 0) = true := by simp [h0]
            clear hD h0
            go_wp2_with (go_at_call 30; (with_reducible refine (rCheck_any _ _ hS).mono ?_); rintro e w2 ⟨v, rfl, rfl, rfl⟩)
            go_ret2
            exact ⟨_, rfl, _, by rw [HD.out]; rfl, by rw [HD.out]; exact Sl.nil, hb1⟩
        · obtain rfl : k = l.length := by omega
          have HC := Lib.hid (show chks l = 0 by rw [ho.out, List.drop_length]; rfl)
          have HS := Lib.hid (HS1.out HC.out); have HDD := Lib.hid (HDL.out HC.out)
          go_wp2_with (go_at_call 78; (with_reducible refine (Red_el _ _ g (nums g) _ l (nums l) (HV.out.below hb1 (Nat.le_refl _)) HF.out.1 (fun z hz => by have := HF.out.2.1 z hz; omega) (HU.out.below hb1 (Nat.le_refl _)) HDD.out.1 HDD.out.2 HN.out (by have := HF3.out; omega) (fun z hz => by have := HF.out.2.2 z hz; omega)).mono ?_); rintro e w4 ⟨v4, rfl, hs4, hb4⟩; have HS4 := Lib.hid hs4; clear hs4)
          go_ret2
          exact ⟨_, rfl, _, by rw [HS.out]; rfl, by rw [HS.out]; exact HS4.out, hb1.trans (hb4.mono hb1.size)⟩
    · have HS := Lib.hid (show elemS g l = ([], 8) by unfold elemS; rw [if_pos hg, if_neg hl])
      have hne : ((l.length : Int) != (g.length : Int)) = true := by simp; omega
      clear hg hl hG f1 f2 f3 f4 f5 hdn hdl
      go_enter Tryz.func26, Tryz.ntmps26
      go_wp2_with (go_at_call 13; (with_reducible refine (rACheck_any _ _ g HV.out HSG.out).mono ?_); rintro e w1 ⟨v, rfl, rfl, hb1⟩; rw [HG.out])
      go_ret2
      exact ⟨_, rfl, _, by rw [HS.out]; rfl, by rw [HS.out]; exact Sl.nil, hb1⟩
  · have HS := Lib.hid (show elemS g l = ([], gchk g) by unfold elemS; rw [if_neg hg])
    have hne : (gchk g != 0) = true := by simp [hg]
    clear hg hdn hdl
    go_enter Tryz.func26, Tryz.ntmps26
    go_wp2_with (go_at_call 13; (with_reducible refine (rACheck_any _ _ g HV.out HSG.out).mono ?_); rintro e w1 ⟨v, rfl, rfl, hb1⟩)
    go_ret2
    exact ⟨_, rfl, _, by rw [HS.out]; rfl, by rw [HS.out]; exact Sl.nil, hb1⟩
end Go.Proofs.YtdpdkojeapaflaaGreatDoor

namespace Go.Proofs.YtdpdkojeapaflaaGreatDoor
open Go.RowKit
set_option maxRecDepth 100000

theorem keep_take (xs : List ByteArray) (k : Nat) (h : k < xs.length) : (xs.take (k + 1)).filter (fun s => !isOne s) = (xs.take k).filter (fun s => !isOne s) ++ (if isOne xs[k] then [] else [xs[k]]) := by
  rw [take_filter _ _ _ h]
  cases isOne xs[k] <;> rfl
set_option maxHeartbeats 4000000 in
theorem rAOf_any (w : World) (v : Value) (xs : List ByteArray) (hv : Sl eS w v xs) (hsz : xs.length ≤ 16 → ∀ s ∈ xs, s.size ≤ 1000000) :
    Calls Tryz.prog 20 #[v] w (Rets fun v w' => ∃ r, v = .tuple #[r, .int .i64 (ochk xs)] ∧ Sl eS w' r (okeep xs) ∧ Below w.heap.size w w') := by
  obtain ⟨a, b, o, c, rfl, hi, hp, hc, hm⟩ := hv.open elemStr
  clear hv
  unfold maxLen at hm
  by_cases h16 : 16 < xs.length
  · have HG := Lib.hid (show ochk xs = 5 by unfold ochk; rw [if_pos h16])
    clear hsz
    go_enter Tryz.func20, Tryz.ntmps20
    go_wp2
    go_ret2
    exact ⟨_, rfl, _, by rw [HG.out]; rfl, by rw [okeep, HG.out, if_neg (by decide)]; exact Sl.nil, Below.refl _ _⟩
  · have hs := hsz (by omega)
    have HS := Lib.hid hs
    have hl : xs.length ≤ 16 := by omega
    clear hsz hs
    go_enter Tryz.func20, Tryz.ntmps20
    go_wp2
    go_loopw [4, 5] (fun out i wr => ∃ (k n : Nat), k ≤ xs.length ∧ n ≤ k ∧ i = .int .i64 k ∧ Hid (OAt xs k) ∧ wr.ownsRow w.heap.size 27 1 out n (((xs.take k).filter fun s => !isOne s).map eS) ∧ Below w.heap.size w wr) (fun _ i _ => xs.length - (intOf i).toNat)
    case atStart => exact ⟨0, 0, Nat.zero_le _, Nat.le_refl _, rfl, Lib.hid (OAt.start hl), World.ownsRow_nil _ _ _ _, Below.refl _ _⟩
    case round =>
      obtain ⟨k, n, hk, hnk, rfl, hA, hown, hb⟩ := hrel
      have hbs := hb.size
      by_cases hkn : k < xs.length
      · have h1 : wr.cell? ⟨b, o + k, none⟩ = some (.string xs[k]) := hp.at hb (Nat.le_refl _) k hkn
        have hV := hA.out.val hkn
        have hsk := HS.out _ (List.getElem_mem hkn)
        have HO := Lib.hid hown
        have hKT := keep_take xs k hkn
        have hnl : ((xs.take k).filter fun s => !isOne s).length = n := by have := hown.1; simpa using this
        clear hown
        by_cases h0 : chk xs[k].data.toList = 0
        · rw [if_pos h0] at hV
          have hG := good_num h0
          obtain ⟨y, hy⟩ : ∃ y, num xs[k] = y := ⟨_, rfl⟩
          rw [hy] at hG hV
          have HNX := Lib.hid (fun h1 h2 hf => hA.out.next hkn h0 (by rw [hy]; exact h1) (by rw [hy]; exact h2) hf)
          have HC := Lib.hid (show chk (txt y).data.toList = 0 by rw [← hG.eq]; exact h0)
          have HSZ := Lib.hid (show (txt y).size ≤ 1000000 by rw [← hG.eq]; exact hsk)
          have HDN := Lib.hid hG.dn
          have HX := Lib.hid hG.eq
          rw [hG.eq] at h1
          rw [hG.eq] at hKT
          by_cases hneg : y < 0
          · rw [if_pos hneg] at hV
            have HV := Lib.hid hV
            have HM := Lib.hid (show decide (y < 0) = true by simp [hneg])
            clear hV hG h0 hsk hy hneg hKT
            go_wp2_with (first
              | (go_at_call 30; (with_reducible refine (rCheck_any _ _ HSZ.out).mono ?_); rintro e w1 ⟨v, rfl, rfl, rfl⟩; rw [HC.out])
              | (go_at_call 61; (with_reducible refine (Minus_any _ y).mono ?_); rintro e w1 ⟨v, rfl, rfl, rfl⟩; rw [HM.out]))
            go_ret2
            exact ⟨_, rfl, _, by rw [HV.out]; rfl, by rw [okeep, HV.out, if_neg (by decide)]; exact Sl.nil, hb⟩
          · rw [if_neg hneg] at hV
            have HM := Lib.hid (show decide (y < 0) = false by simp [hneg])
            by_cases hz : y = 0
            · rw [if_pos hz] at hV
              have HV := Lib.hid hV
              have hzz : ((txt y).toList == [48]) = true := by rw [hz]; exact txt_z0
              clear hV hG h0 hsk hy hneg hz hKT
              go_wp2_with (first
                | (go_at_call 30; (with_reducible refine (rCheck_any _ _ HSZ.out).mono ?_); rintro e w1 ⟨v, rfl, rfl, rfl⟩; rw [HC.out])
                | (go_at_call 61; (with_reducible refine (Minus_any _ y).mono ?_); rintro e w1 ⟨v, rfl, rfl, rfl⟩; rw [HM.out]))
              go_ret2
              exact ⟨_, rfl, _, by rw [HV.out]; rfl, by rw [okeep, HV.out, if_neg (by decide)]; exact Sl.nil, hb⟩
            · rw [if_neg hz] at hV
              have hzz : ((txt y).toList == [48]) = false := txt_ne0 hz
              have H1 := Lib.hid (show ∀ w', Below wr.heap.size wr w' → w'.cell? ⟨b, o + k, none⟩ = some (.string (txt y)) from fun w' hb' => by rw [← HX.out]; exact hp.at (hb.trans (hb'.mono hbs)) (Nat.le_refl _) k hkn)
              obtain ⟨q, hq⟩ : ∃ q, isOne (txt y) = q := ⟨_, rfl⟩
              have hq2 : ((txt y).toList == [49]) = q := hq
              rw [hq] at hKT
              have HKT := Lib.hid hKT
              clear hKT hq
              rcases k with _ | k
              · rw [Nat.add_zero] at h1 H1
                have HN := Lib.hid (HNX.out hneg hz rfl)
                clear hV hG h0 hsk hy hneg hz
                go_wp2_with (first
                  | (go_at_call 30; (with_reducible refine (rCheck_any _ _ HSZ.out).mono ?_); rintro e w1 ⟨v, rfl, rfl, rfl⟩; rw [HC.out])
                  | (go_at_call 61; (with_reducible refine (Minus_any _ y).mono ?_); rintro e w1 ⟨v, rfl, rfl, rfl⟩; rw [HM.out]))
                go_quiet (fail)
                have b3 := below_drewN hb nq
                have b3' := below_drewN (Below.refl wr.heap.size wr) nq
                have h9 := H1.out _ b3'
                have HO3 := Lib.hid (own_below HO.out b3' (Nat.le_refl _))
                have hbs3 := b3.size
                cases q
                · have hst := HKT.out
                  rw [if_neg (by decide)] at hst
                  have HST := Lib.hid hst
                  clear hst
                  go_wp2_with (at_builtin; refine app1 elemStr rfl _ _ rfl rfl rfl HO3.out b3 (Nat.le_refl _) hbs3 rfl (by simp [Value.oneCell']) (by omega) (by unfold maxLen; omega) ?_; intro v' w5 hown' hb')
                  go_roundw
                  case rel => exact ⟨1, n + 1, by omega, by omega, by go_num, HN, by rw [HST.out, List.map_append]; exact hown', hb'⟩
                  case measure => simp [intOf]; omega
                · have hst := HKT.out
                  rw [if_pos rfl, List.append_nil] at hst
                  have HST := Lib.hid hst
                  clear hst
                  go_wp2
                  go_roundw
                  case rel => exact ⟨1, n, by omega, by omega, by go_num, HN, by rw [HST.out]; exact HO3.out, b3⟩
                  case measure => simp [intOf]; omega
              · have hkp : k < xs.length := by omega
                obtain ⟨z, hgz, hz1⟩ := hA.out.prev (by omega)
                have hgz : Good xs[k] z := by simpa using hgz
                have H4 := Lib.hid (show ∀ w', Below wr.heap.size wr w' → w'.cell? ⟨b, o + k, none⟩ = some (.string (txt z)) from fun w' hb' => by rw [← hgz.eq]; exact hp.at (hb.trans (hb'.mono hbs)) (Nat.le_refl _) k hkp)
                have q1 : (0 : Int) ≤ (k : Int) := by omega
                have q2 : (k : Int) < (xs.length : Int) := by omega
                have q3 : (0 : Int) ≤ (k : Int) + 1 := by omega
                have q4 : (k : Int) + 1 < (xs.length : Int) := by omega
                have q5 : IntKind.i64.wrap (k : Int) = (k : Int) := wrap_small k (by omega)
                have q6 : IntKind.i64.wrap ((k : Int) + 1 - 1) = (k : Int) := by rw [Int.add_sub_cancel]; exact q5
                have hbf : fits (before xs (k + 1)) xs[k + 1] = decide (Int.fmod y z = 0) := by rw [before_succ xs k hkp]; simp only [fits]; rw [hgz.num, hy]
                have HZ := Lib.hid hgz.dn; have HZ0 := Lib.hid (show z ≠ 0 by omega)
                by_cases hf : Int.fmod y z = 0
                · have HD := Lib.hid (show decide (Int.fmod y z = 0) = true by simp [hf])
                  have HN := Lib.hid (HNX.out hneg hz (by rw [hbf, HD.out]))
                  clear hV hG h0 hsk hy hneg hz hgz hbf hf
                  go_wp2_with (first
                    | (go_at_call 30; (with_reducible refine (rCheck_any _ _ HSZ.out).mono ?_); rintro e w1 ⟨v, rfl, rfl, rfl⟩; rw [HC.out])
                    | (go_at_call 61; (with_reducible refine (Minus_any _ y).mono ?_); rintro e w1 ⟨v, rfl, rfl, rfl⟩; rw [HM.out]))
                  have HH := Lib.hid (held_both H4.out H1.out)
                  go_region_held3 (fun w' => Below wr.heap.size wr w' ∧ w'.cell? ⟨b, o + k, none⟩ = some (.string (txt z)) ∧ w'.cell? ⟨b, o + (k + 1), none⟩ = some (.string (txt y)))
                    (((refine HH.out _ ?_); first
                      | with_reducible exact (Below.refl _ _).drew
                      | with_reducible exact Below.trans (And.left (by assumption)) (Below.mono (by assumption) (Below.size (And.left (by assumption))))))
                    ((go_at_call 59; (with_reducible refine (rdivides_any _ z y (by have := HZ.out; omega) (by have := HDN.out; omega) HZ0.out).mono ?_); rintro e w3 ⟨v, rfl, rfl, hb3⟩; rw [HD.out]))
                  all_goals
                    have hf : Below wr.heap.size wr w3 := And.left (by assumption)
                    have b3 := hb.trans (hf.mono hbs)
                    have h9 := H1.out _ hf
                    have HO3 := Lib.hid (own_below HO.out hf (Nat.le_refl _))
                    have hbs3 := b3.size
                    cases q
                    · have hst := HKT.out
                      rw [if_neg (by decide)] at hst
                      have HST := Lib.hid hst
                      clear hst
                      go_wp2_with (at_builtin; refine app1 elemStr rfl _ _ rfl rfl rfl HO3.out b3 (Nat.le_refl _) hbs3 rfl (by simp [Value.oneCell']) (by omega) (by unfold maxLen; omega) ?_; intro v' w5 hown' hb')
                      go_roundw
                      case rel => exact ⟨k + 2, n + 1, by omega, by omega, by go_num, HN, by rw [HST.out, List.map_append]; exact hown', hb'⟩
                      case measure => simp [intOf]; omega
                    · have hst := HKT.out
                      rw [if_pos rfl, List.append_nil] at hst
                      have HST := Lib.hid hst
                      clear hst
                      go_wp2
                      go_roundw
                      case rel => exact ⟨k + 2, n, by omega, by omega, by go_num, HN, by rw [HST.out]; exact HO3.out, b3⟩
                      case measure => simp [intOf]; omega
                · have HD := Lib.hid (show decide (Int.fmod y z = 0) = false by simp [hf])
                  rw [hbf, HD.out, if_neg (by decide)] at hV
                  have HV := Lib.hid hV
                  clear hV hG h0 hsk hy hneg hz hgz hbf hf
                  go_wp2_with (first
                    | (go_at_call 30; (with_reducible refine (rCheck_any _ _ HSZ.out).mono ?_); rintro e w1 ⟨v, rfl, rfl, rfl⟩; rw [HC.out])
                    | (go_at_call 61; (with_reducible refine (Minus_any _ y).mono ?_); rintro e w1 ⟨v, rfl, rfl, rfl⟩; rw [HM.out]))
                  have HH := Lib.hid (held_both H4.out H1.out)
                  go_region_held3 (fun w' => Below wr.heap.size wr w' ∧ w'.cell? ⟨b, o + k, none⟩ = some (.string (txt z)) ∧ w'.cell? ⟨b, o + (k + 1), none⟩ = some (.string (txt y)))
                    (((refine HH.out _ ?_); first
                      | with_reducible exact (Below.refl _ _).drew
                      | with_reducible exact Below.trans (And.left (by assumption)) (Below.mono (by assumption) (Below.size (And.left (by assumption))))))
                    ((go_at_call 59; (with_reducible refine (rdivides_any _ z y (by have := HZ.out; omega) (by have := HDN.out; omega) HZ0.out).mono ?_); rintro e w3 ⟨v, rfl, rfl, hb3⟩; rw [HD.out]))
                  all_goals
                    have hf : Below wr.heap.size wr w3 := And.left (by assumption)
                    have b3 := hb.trans (hf.mono hbs)
                    clear hf
                    go_wp2
                    go_ret2
                    exact ⟨_, rfl, _, by rw [HV.out]; rfl, by rw [okeep, HV.out, if_neg (by decide)]; exact Sl.nil, b3⟩
        · rw [if_neg h0] at hV
          have hne : (chk xs[k].data.toList != 0) = true := by simp [h0]
          have HV := Lib.hid hV; have H0 := Lib.hid h0
          clear hV h0 hKT
          go_wp2_with (go_at_call 30; (with_reducible refine (rCheck_any _ _ hsk).mono ?_); rintro e w1 ⟨v, rfl, rfl, rfl⟩)
          go_ret2
          exact ⟨_, rfl, _, by rw [HV.out]; rfl, by rw [okeep, HV.out, if_neg H0.out]; exact Sl.nil, hb⟩
      · obtain rfl : k = xs.length := by omega
        rw [List.take_length] at hown
        have HV := Lib.hid hA.out.done
        have HSS := Lib.hid (show Sl eS wr _ (okeep xs) by
          have h2 : ((xs.filter fun s => !isOne s)).length = n := by have := hown.1; simpa using this
          rw [okeep, if_pos HV.out]
          exact Sl.ofOwns hown)
        clear hown
        go_wp2
        go_ret2
        exact ⟨_, rfl, _, by rw [HV.out]; rfl, HSS.out, hb⟩
end Go.Proofs.YtdpdkojeapaflaaGreatDoor
