/- The walks of euler's reached, connected. Reachability along the arcs that are left, computed round by round; what connected answers, computed. The walks of slices.Equal at numbers, of euler's eulerian. The walk of euler's eulerian. The walk of the reference's reached: the marks spread pass by pass. The walk of the reference's Is. Plain: where pointers lead; the cycles that they have. -/
import Derived.Test.YtlnhocgjgmhfgaaGreatDoorPk9
import Derived.Laws.EntriesVeiled
import Derived.Test.YtlnhocgjgmhfgaaGreatDoorPk10
namespace Go.Proofs.YtlnhocgjgmhfgaaGreatDoor
open Go.RowKit
set_option maxRecDepth 100000

set_option maxHeartbeats 4000000 in
theorem reached_ok (w : World) (n v : Nat) (ev uv : Value) (SS : List (Nat × Nat)) (us : List Bool) (hev : SlK p2 2 w ev SS) (huv : SlK b1 1 w uv us) (hus : us.length = SS.length) (hrg : ∀ x ∈ SS, x.1 < n ∧ x.2 < n) (hn : n ≤ 12) (hv : v < n) (hSS : SS.length ≤ 1000000) :
    Calls Tryz.prog 71 #[.int .i64 (n : Nat), .int .i64 (v : Nat), ev, uv] w (Rets fun r w' => ∃ G l, r = .slice (some ⟨G, 0, none⟩) n n ∧ Blk w' G (bools l) 4 ∧ l.length = n ∧ Ext SS us (List.replicate n false) l ∧ Tr l v ∧ Lea SS us (List.replicate n false) l v ∧ w.heap.size ≤ G ∧ Below w.heap.size w w') := by
  obtain ⟨ea, b, o, ec, rfl, hie, hc, -, hcm⟩ := hev.open elemEnds
  obtain ⟨ua, b2, o2, uc, rfl, hiu, hd, -, hdm⟩ := huv.open elemB
  have hmk := mk_run (t := 102) elemB rfl n (by omega) (by unfold maxLen; omega)
  have HC := Lib.hid hc; have HD := Lib.hid hd; have HUS := Lib.hid hus; have HRG := Lib.hid hrg
  have HIE := Lib.hid hie; have HIU := Lib.hid hiu
  have h0e : 0 < SS.length → b < w.heap.size := hc.1
  have h0d : 0 < us.length → b2 < w.heap.size := hd.1
  obtain ⟨W1, hW1⟩ : ∃ W, w.alloc (.cells #[.slice ea SS.length ec] 54) = W := ⟨_, rfl⟩
  obtain ⟨W2, hW2⟩ : ∃ W, W1.alloc (.cells #[.slice ua us.length uc] 102) = W := ⟨_, rfl⟩
  obtain ⟨W3, hW3⟩ : ∃ W, W2.alloc (.cells (Array.replicate n (.bool false)) 4) = W := ⟨_, rfl⟩
  obtain ⟨W4, hW4⟩ : ∃ W, W3.alloc (.cells #[.slice (some ⟨w.heap.size + 1 + 1, 0, none⟩) n n] 102) = W := ⟨_, rfl⟩
  obtain ⟨W5, hW5⟩ : ∃ W, W4.alloc (.cells #[.func (.func 93) #[] #[.pointer (some ⟨w.heap.size + 1 + 1 + 1, 0, none⟩), .pointer (some ⟨w.heap.size, 0, none⟩), .pointer (some ⟨w.heap.size + 1, 0, none⟩), .pointer (some ⟨w.heap.size + 1 + 1 + 1 + 1, 0, none⟩)]] 154) = W := ⟨_, rfl⟩
  have z1 : W1.heap.size = w.heap.size + 1 := by rw [← hW1, World.size_alloc]
  have z2 : W2.heap.size = w.heap.size + 1 + 1 := by rw [← hW2, World.size_alloc, z1]
  have z3 : W3.heap.size = w.heap.size + 1 + 1 + 1 := by rw [← hW3, World.size_alloc, z2]
  have z4 : W4.heap.size = w.heap.size + 1 + 1 + 1 + 1 := by rw [← hW4, World.size_alloc, z3]
  have k1 : Blk W1 w.heap.size [.slice ea SS.length ec] 54 := by rw [← hW1]; exact Blk.new w _ _
  have k2 : Blk W2 (w.heap.size + 1) [.slice ua us.length uc] 102 := by rw [← hW2, ← z1]; exact Blk.new W1 _ _
  have k3 : Blk W3 (w.heap.size + 1 + 1) (bools (List.replicate n false)) 4 := by
    have := Blk.new W2 (bools (List.replicate n false)) 4
    rw [z2, show (bools (List.replicate n false)).toArray = Array.replicate n (Value.bool false) by simp [bools], hW3] at this
    exact this
  have k4 : Blk W4 (w.heap.size + 1 + 1 + 1) [.slice (some ⟨w.heap.size + 1 + 1, 0, none⟩) n n] 102 := by rw [← hW4, ← z3]; exact Blk.new W3 _ _
  have k5 : Blk W5 (w.heap.size + 1 + 1 + 1 + 1) [.func (.func 93) #[] #[.pointer (some ⟨w.heap.size + 1 + 1 + 1, 0, none⟩), .pointer (some ⟨w.heap.size, 0, none⟩), .pointer (some ⟨w.heap.size + 1, 0, none⟩), .pointer (some ⟨w.heap.size + 1 + 1 + 1 + 1, 0, none⟩)]] 154 := by rw [← hW5, ← z4]; exact Blk.new W4 _ _
  have hB5 : Below w.heap.size w W5 := by
    have q1 : Below w.heap.size w W1 := by rw [← hW1]; exact (Below.refl _ w).alloc (Nat.le_refl _) _
    have q2 : Below w.heap.size w W2 := by rw [← hW2]; exact q1.alloc q1.size _
    have q3 : Below w.heap.size w W3 := by rw [← hW3]; exact q2.alloc q2.size _
    have q4 : Below w.heap.size w W4 := by rw [← hW4]; exact q3.alloc q3.size _
    rw [← hW5]; exact q4.alloc q4.size _
  have a3 : Blk W5 (w.heap.size + 1 + 1) (bools (List.replicate n false)) 4 := by rw [← hW5, ← hW4]; exact (k3.alloc _).alloc _
  have RBW : RB W5 n (w.heap.size + 1 + 1 + 1) w.heap.size (w.heap.size + 1) (w.heap.size + 1 + 1 + 1 + 1) (w.heap.size + 1 + 1) b o b2 o2 ea ua ec uc SS us :=
    ⟨by rw [← hW5]; exact k4.alloc _, by rw [← hW5, ← hW4, ← hW3, ← hW2]; exact (((k1.alloc _).alloc _).alloc _).alloc _, by rw [← hW5, ← hW4, ← hW3]; exact ((k2.alloc _).alloc _).alloc _, k5, by omega, by omega, by omega, by omega,
      hc.below hB5 (Nat.le_refl _), hd.below hB5 (Nat.le_refl _), fun h => by have := h0e h; omega, fun h => by have := h0d h; omega⟩
  have CALL := Lib.hid (walk_ok n _ _ _ _ _ b o b2 o2 ea ua ec uc SS us hus hrg hn hSS hie hiu n W5 (List.replicate n false) v RBW a3 (by simp) (by simp [hv]) (by simp) (by simp))
  have HS5 := Lib.hid (show w.heap.size + 1 + 1 + 1 < W5.heap.size by rw [← hW5, World.size_alloc, z4]; omega)
  rw [← hW5, ← hW4, ← hW3, ← hW2, ← hW1] at CALL
  have HB5 := Lib.hid hB5; have HK4 := Lib.hid RBW.s
  rw [← hW5, ← hW4, ← hW3, ← hW2, ← hW1] at HB5 HK4
  clear RBW a3 k1 k2 k3 k4 k5 z1 z2 z3 z4 hB5 hW1 hW2 hW3 hW4 hW5 h0e h0d
  clear hev huv hc hd hus hrg hie hiu
  go_enter Tryz.func71, Tryz.ntmps71
  go_wp2_with (go_at_call 93; go_loud (with_reducible refine CALL.out.mono ?_); rintro e w2 ⟨v, rfl, rfl, l, hL, hE, hT, hA, hg⟩; have HA := Lib.hid hA; clear hA; have HL := Lib.hid hL; have HE := Lib.hid hE; have HT := Lib.hid hT; have HG := Lib.hid hg; have HK := HK4.out.grown hg (by simp); have g0 := HK.cell 0 _ rfl; have hkl := HK.lt; have HB6 := Lib.hid (HB5.out.grown hg HB5.out.size (fun g e => by simp at e; omega)); clear hL hE hT hg)
  have hll := HE.out.len
  rw [List.length_replicate] at hll
  go_ret
  exact ⟨_, rfl, _, l, rfl, HL.out, hll, HE.out, HT.out, HA.out, by omega, HB6.out⟩

/-- Do all arcs that are left begin at marked vertices? -/
def allTr (SS : List (Nat × Nat)) (us l : List Bool) : Prop := ∀ (i : Nat) (x : Nat × Nat), SS[i]? = some x → us[i]? = some false → Tr l x.1

/-- What connected answers. -/
def ConnP (n v : Nat) (SS : List (Nat × Nat)) (us : List Bool) (r : Value) (w w' : World) : Prop := ∃ t l, r = .bool t ∧ Ext SS us (List.replicate n false) l ∧ Tr l v ∧ Lea SS us (List.replicate n false) l v ∧ l.length = n ∧ (t = true ↔ allTr SS us l) ∧ Below w.heap.size w w'

set_option maxHeartbeats 4000000 in
theorem connected_ok (w : World) (n v : Nat) (ev uv : Value) (SS : List (Nat × Nat)) (us : List Bool) (hev : SlK p2 2 w ev SS) (huv : SlK b1 1 w uv us) (hus : us.length = SS.length) (hrg : ∀ x ∈ SS, x.1 < n ∧ x.2 < n) (hn : n ≤ 12) (hv : v < n) (hSS : SS.length ≤ 1000000) :
    Calls Tryz.prog 57 #[.int .i64 (n : Nat), .int .i64 (v : Nat), ev, uv] w (Rets fun r w' => ConnP n v SS us r w w') := by
  have HEV := Lib.hid hev; have HUV := Lib.hid huv
  obtain ⟨ea, b, o, ec, rfl, hie, hc, -, hcm⟩ := hev.open elemEnds
  obtain ⟨ua, b2, o2, uc, rfl, hiu, hd, -, hdm⟩ := huv.open elemB
  have HUS := Lib.hid hus; have HRG := Lib.hid hrg; have HC := Lib.hid hc; have HD := Lib.hid hd
  clear hev huv hc hd hus hrg
  go_enter Tryz.func57, Tryz.ntmps57
  go_wp2_with (go_at_call 71; (with_reducible refine (reached_ok w n v _ _ SS us HEV.out HUV.out HUS.out HRG.out hn hv hSS).mono ?_); rintro e w1 ⟨r, rfl, G, l, rfl, hL, hll, hE, hT, hA, hG, hb⟩; have HA := Lib.hid hA; clear hA; have HL := Lib.hid hL; have HE := Lib.hid hE; have HT := Lib.hid hT; have HB := Lib.hid hb; clear hL hE hT hb)
  have HB0 := Lib.hid HB.out
  have HLL := Lib.hid hll
  have HGL := Lib.hid (show w.heap.size ≤ G from hG)
  go_loopw [19] (fun i wr => ∃ k : Nat, k ≤ SS.length ∧ i = .int .i64 k ∧ Hid (∀ (i : Nat) (x : Nat × Nat), i < k → SS[i]? = some x → us[i]? = some false → Tr l x.1) ∧ Hid (Below w1.heap.size w1 wr)) (fun i _ => SS.length - (intOf i).toNat)
  case atStart => exact ⟨0, Nat.zero_le _, rfl, Lib.hid (fun i x h => absurd h (Nat.not_lt_zero _)), Lib.hid (Below.refl _ _)⟩
  case round =>
    obtain ⟨k, hk, rfl, hX, hB⟩ := hrel
    by_cases hkn : k < SS.length
    · obtain ⟨⟨p, q⟩, hx⟩ : ∃ x, SS[k] = x := ⟨_, rfl⟩
      have hrg := HRG.out _ (List.getElem_mem hkn)
      rw [hx] at hrg
      obtain ⟨r1, r2⟩ := hrg
      simp only at r1 r2
      have hqw := HB.out.trans (hB.out.mono HB.out.size)
      have hku : k < us.length := by rw [HUS.out]; exact hkn
      obtain ⟨uk, huk⟩ : ∃ x, us[k] = x := ⟨_, rfl⟩
      have hpl : p < l.length := by rw [hll]; exact r1
      obtain ⟨lp, hlp⟩ : ∃ x, l[p] = x := ⟨_, rfl⟩
      have a0 : wr.cell? ⟨b, o + k * 2, none⟩ = some (.int .i64 (p : Nat)) := HC.out.at hqw (Nat.le_refl _) k hkn 0 _ (by rw [hx]; rfl)
      have a1 : wr.cell? ⟨b, o + k * 2 + 1, none⟩ = some (.int .i64 (q : Nat)) := HC.out.at hqw (Nat.le_refl _) k hkn 1 _ (by rw [hx]; rfl)
      have u0 : wr.cell? ⟨b2, o2 + k, none⟩ = some (.bool uk) := by
        have := HD.out.at hqw (Nat.le_refl _) k hku 0 (.bool uk) (by rw [huk]; rfl)
        rwa [Nat.mul_one, Nat.add_zero] at this
      have hLr := HL.out.below hB.out (Nat.le_refl _)
      have c0 : wr.cell? ⟨G, p, none⟩ = some (.bool lp) := by rw [← hlp]; exact hLr.cell p _ (bools_at l p hpl)
      have hGl := hLr.lt
      have hbl := (HC.out.below hqw (Nat.le_refl _)).1 (by omega)
      have hb2l := (HD.out.below hqw (Nat.le_refl _)).1 (by omega)
      have p0 : (0 : Int) ≤ (p : Int) := by omega
      have p1 : (p : Int) < (n : Int) := by omega
      have k1 : (k : Int) < (us.length : Int) := by omega
      have HSK := Lib.hid (show SS[k]? = some (p, q) by rw [List.getElem?_eq_getElem hkn, hx])
      have HUK := Lib.hid (show us[k]? = some uk by rw [List.getElem?_eq_getElem hku, huk])
      have HLP := Lib.hid (show l[p]? = some lp by rw [List.getElem?_eq_getElem hpl, hlp])
      have HBR := Lib.hid hqw
      clear hx huk hlp hLr hqw
      cases uk
      · cases lp
        · have HFIN := Lib.hid (show (false = true ↔ allTr SS us l) from ⟨fun h => absurd h (by decide), fun h => absurd (h k (p, q) HSK.out HUK.out) (by unfold Tr; rw [HLP.out]; simp)⟩)
          go_wp2
          go_ret
          exact ⟨_, rfl, (⟨false, l, rfl, HE.out, HT.out, HA.out, HLL.out, HFIN.out, HBR.out.alloc HBR.out.size _⟩ : ConnP n v SS us _ w _)⟩
        · go_wp2
          go_roundw
          case rel => exact ⟨k + 1, by omega, by go_num, Lib.hid (fun i x hi h1 h2 => by
            by_cases e : i = k
            · subst e
              rw [HSK.out] at h1
              simp only [Option.some.injEq] at h1
              subst h1
              exact HLP.out
            · exact hX.out i x (by omega) h1 h2), Lib.hid (hB.out.alloc hB.out.size _)⟩
          case measure => simp [intOf]; omega
      · go_wp2
        go_roundw
        case rel => exact ⟨k + 1, by omega, by go_num, Lib.hid (fun i x hi h1 h2 => by
          by_cases e : i = k
          · subst e
            rw [HUK.out] at h2
            simp at h2
          · exact hX.out i x (by omega) h1 h2), Lib.hid (hB.out.alloc hB.out.size _)⟩
        case measure => simp [intOf]; omega
    · obtain rfl : k = SS.length := by omega
      have HFIN := Lib.hid (show (true = true ↔ allTr SS us l) from ⟨fun _ i x h1 h2 => hX.out i x (List.getElem?_eq_some_iff.1 h1).1 h1 h2, fun _ => rfl⟩)
      have HBR := Lib.hid (HB.out.trans (hB.out.mono HB.out.size))
      clear hX hB
      go_wp2
      go_ret
      exact ⟨_, rfl, (⟨true, l, rfl, HE.out, HT.out, HA.out, HLL.out, by simpa using HFIN.out, HBR.out⟩ : ConnP n v SS us _ w _)⟩
end Go.Proofs.YtlnhocgjgmhfgaaGreatDoor

namespace Go.Proofs.YtlnhocgjgmhfgaaGreatDoor
open Go.RowKit

/-- One pass over the arcs: the head of each arc that is left is marked, if its tail is. -/
def pass : List (Nat × Nat) → List Bool → List Bool → List Bool
  | x :: SS, u :: us, l => pass SS us (if u = false ∧ l[x.1]? = some true then l.set x.2 true else l)
  | _, _, l => l
theorem tr_mono_set {l : List Bool} {q j : Nat} (h : Tr l j) : Tr (l.set q true) j := by
  unfold Tr at h ⊢
  by_cases e : q = j
  · subst e
    have := (List.getElem?_eq_some_iff.1 h).1
    simp [this]
  · rw [List.getElem?_set_ne e]; exact h
theorem pass_len : ∀ (SS : List (Nat × Nat)) (us l : List Bool), (pass SS us l).length = l.length
  | [], _, _ => by simp [pass]
  | _ :: _, [], _ => by simp [pass]
  | x :: SS, u :: us, l => by
    rw [pass, pass_len]
    split
    · simp
    · rfl
theorem pass_mono : ∀ (SS : List (Nat × Nat)) (us l : List Bool) (j : Nat), Tr l j → Tr (pass SS us l) j
  | [], _, _, _, h => by simpa [pass] using h
  | _ :: _, [], _, _, h => by simpa [pass] using h
  | x :: SS, u :: us, l, j, h => by
    rw [pass]
    refine pass_mono SS us _ j ?_
    split
    · exact tr_mono_set h
    · exact h
theorem pass_done : ∀ (SS : List (Nat × Nat)) (us l : List Bool) (i : Nat) (x : Nat × Nat), SS[i]? = some x → us[i]? = some false → Tr l x.1 → x.2 < l.length → Tr (pass SS us l) x.2
  | [], _, _, _, _, h, _, _, _ => by simp at h
  | _ :: _, [], _, _, _, _, h, _, _ => by simp at h
  | y :: SS, u :: us, l, 0, x, h1, h2, h3, h4 => by
    simp only [List.getElem?_cons_zero, Option.some.injEq] at h1 h2
    subst h1; subst h2
    rw [pass, if_pos ⟨rfl, h3⟩]
    exact pass_mono SS us _ _ ((tr_set l y.2 y.2 h4).2 (.inl rfl))
  | y :: SS, u :: us, l, i + 1, x, h1, h2, h3, h4 => by
    simp only [List.getElem?_cons_succ] at h1 h2
    rw [pass]
    refine pass_done SS us _ i x h1 h2 ?_ ?_
    · split
      · exact tr_mono_set h3
      · exact h3
    · split
      · simpa using h4
      · exact h4
theorem pass_sound : ∀ (SS : List (Nat × Nat)) (us l : List Bool) (S : Nat → Prop), (∀ (i : Nat) (x : Nat × Nat), SS[i]? = some x → us[i]? = some false → S x.1 → S x.2) → (∀ j, Tr l j → S j) → ∀ j, Tr (pass SS us l) j → S j
  | [], _, _, _, _, h, j, hj => h j (by simpa [pass] using hj)
  | _ :: _, [], _, _, _, h, j, hj => h j (by simpa [pass] using hj)
  | y :: SS, u :: us, l, S, hS, h, j, hj => by
    rw [pass] at hj
    refine pass_sound SS us _ S (fun i x h1 h2 => hS (i + 1) x (by simpa using h1) (by simpa using h2)) (fun k hk => ?_) j hj
    split at hk
    · rename_i hc
      by_cases e : y.2 = k
      · subst e
        exact hS 0 y rfl (by rw [hc.1]; rfl) (h _ hc.2)
      · unfold Tr at hk
        rw [List.getElem?_set_ne e] at hk
        exact h k hk
    · exact h k hk
theorem pass_same : ∀ (SS : List (Nat × Nat)) (us l : List Bool), Clo SS us (Tr l) → pass SS us l = l
  | [], _, _, _ => by simp [pass]
  | _ :: _, [], _, _ => by simp [pass]
  | y :: SS, u :: us, l, h => by
    have e : (if u = false ∧ l[y.1]? = some true then l.set y.2 true else l) = l := by
      split
      · rename_i hc
        have ht : Tr l y.2 := h 0 y rfl (by rw [hc.1]; rfl) hc.2
        apply List.ext_getElem (by simp)
        intro i h1 h2
        rw [List.getElem_set]
        split
        · rename_i e2
          subst e2
          unfold Tr at ht
          rw [List.getElem?_eq_getElem h2] at ht
          exact (Option.some.inj ht).symm
        · rfl
      · rfl
    rw [pass, e]
    exact pass_same SS us l fun i x h1 h2 => h (i + 1) x (by simpa using h1) (by simpa using h2)
def passN (SS : List (Nat × Nat)) (us : List Bool) : Nat → List Bool → List Bool
  | 0, l => l
  | k + 1, l => passN SS us k (pass SS us l)
def rch (n v : Nat) (SS : List (Nat × Nat)) (us : List Bool) : List Bool := passN SS us n ((List.replicate n false).set v true)
theorem count_lessT : ∀ (l m : List Bool), l.length = m.length → (∀ j, Tr l j → Tr m j) → l.count true ≤ m.count true ∧ ((∃ j, ¬ Tr l j ∧ Tr m j) → l.count true < m.count true)
  | [], [], _, _ => ⟨Nat.le_refl _, fun ⟨j, _, h⟩ => by simp [Tr] at h⟩
  | x :: l, y :: m, hl, h => by
    obtain ⟨i1, i2⟩ := count_lessT l m (by simpa using hl) (fun j hj => h (j + 1) (by simpa [Tr] using hj))
    have h0 : x = true → y = true := fun e => by have := h 0 (by simp [Tr, e]); simpa [Tr] using this
    rw [List.count_cons, List.count_cons]
    refine ⟨?_, fun ⟨j, hj, hm⟩ => ?_⟩
    · cases x <;> cases y <;> simp_all
      all_goals omega
    · cases j with
      | zero => cases x <;> cases y <;> simp_all [Tr]
                all_goals omega
      | succ j =>
        have := i2 ⟨j, by simpa [Tr] using hj, by simpa [Tr] using hm⟩
        cases x <;> cases y <;> simp_all
        all_goals omega
theorem passN_all (SS : List (Nat × Nat)) (us : List Bool) (n : Nat) (hrg : ∀ x ∈ SS, x.1 < n ∧ x.2 < n) : ∀ (k : Nat) (l : List Bool), l.length = n → (Clo SS us (Tr l) ∨ n + 1 ≤ l.count true + k) →
    (passN SS us k l).length = n ∧ (∀ j, Tr l j → Tr (passN SS us k l) j) ∧ Clo SS us (Tr (passN SS us k l)) ∧ ∀ S, Clo SS us S → (∀ j, Tr l j → S j) → ∀ j, Tr (passN SS us k l) j → S j
  | 0, l, hl, h => by
    refine ⟨hl, fun j h => h, ?_, fun S _ h2 => h2⟩
    refine h.resolve_right fun h2 => ?_
    have := List.count_le_length (a := true) (l := l)
    omega
  | k + 1, l, hl, h => by
    have hl2 : (pass SS us l).length = n := by rw [pass_len]; exact hl
    have hstep : Clo SS us (Tr (pass SS us l)) ∨ n + 1 ≤ (pass SS us l).count true + k := by
      by_cases hc : Clo SS us (Tr l)
      · rw [pass_same SS us l hc]; exact .inl hc
      · have hk := h.resolve_left hc
        refine .inr ?_
        have h2 : ∃ j, ¬ Tr l j ∧ Tr (pass SS us l) j := by
          apply Classical.byContradiction
          intro hno
          apply hc
          intro i x h1 h2 h3
          apply Classical.byContradiction
          intro hnb
          exact hno ⟨x.2, hnb, pass_done SS us l i x h1 h2 h3 (by rw [hl]; exact (hrg x (List.mem_of_getElem? h1)).2)⟩
        have := (count_lessT l (pass SS us l) (by rw [pass_len]) (pass_mono SS us l)).2 h2
        omega
    obtain ⟨h1, h2, h3, h4⟩ := passN_all SS us n hrg k (pass SS us l) hl2 hstep
    exact ⟨h1, fun j hj => h2 j (pass_mono SS us l j hj), h3, fun S hS hj => h4 S hS (pass_sound SS us l S hS hj)⟩
theorem rch_iff {n v : Nat} {SS : List (Nat × Nat)} {us : List Bool} (hrg : ∀ x ∈ SS, x.1 < n ∧ x.2 < n) (hv : v < n) (j : Nat) : Tr (rch n v SS us) j ↔ ∀ S, Clo SS us S → S v → S j := by
  have hvl : v < (List.replicate n false).length := by simpa using hv
  have ht0 : Tr ((List.replicate n false).set v true) v := (tr_set _ v v hvl).2 (.inl rfl)
  obtain ⟨-, h2, h3, h4⟩ := passN_all SS us n hrg n ((List.replicate n false).set v true) (by simp) (.inr (by
    have : 0 < ((List.replicate n false).set v true).count true := List.count_pos_iff.2 (List.mem_of_getElem? ht0)
    omega))
  constructor
  · intro h S hS hSv
    refine h4 S hS (fun k hk => ?_) j h
    rcases (tr_set _ v k hvl).1 hk with rfl | hk
    · exact hSv
    · unfold Tr at hk
      rw [List.getElem?_replicate] at hk
      split at hk <;> simp at hk
  · intro h
    exact h _ h3 (h2 v ht0)
/-- What connected answers, computed. -/
def allB : List (Nat × Nat) → List Bool → List Bool → Bool
  | x :: SS, u :: us, l => (u || decide (l[x.1]? = some true)) && allB SS us l
  | _, _, _ => true
theorem allB_iff : ∀ (SS : List (Nat × Nat)) (us l : List Bool), allB SS us l = true ↔ allTr SS us l
  | [], _, _ => by simp [allB, allTr]
  | _ :: _, [], _ => by simp [allB, allTr]
  | x :: SS, u :: us, l => by
    have ih := allB_iff SS us l
    unfold allB
    rw [Bool.and_eq_true, ih]
    constructor
    · rintro ⟨h1, h2⟩ i y hy hu
      cases i with
      | zero =>
        simp only [List.getElem?_cons_zero, Option.some.injEq] at hy hu
        subst hy; subst hu
        simpa [Tr] using h1
      | succ i => exact h2 i y (by simpa using hy) (by simpa using hu)
    · intro h
      refine ⟨?_, fun i y hy hu => h (i + 1) y (by simpa using hy) (by simpa using hu)⟩
      cases u
      · have := h 0 x rfl rfl
        simpa [Tr] using this
      · rfl
def connB (n v : Nat) (SS : List (Nat × Nat)) (us : List Bool) : Bool := allB SS us (rch n v SS us)
theorem connB_ok {n v : Nat} {SS : List (Nat × Nat)} {us : List Bool} {r : Value} {w w' : World} (hrg : ∀ x ∈ SS, x.1 < n ∧ x.2 < n) (hv : v < n) (h : ConnP n v SS us r w w') : r = .bool (connB n v SS us) ∧ Below w.heap.size w w' := by
  obtain ⟨t, l, rfl, hE, hT, hA, hl, hiff, hb⟩ := h
  refine ⟨?_, hb⟩
  have hno : ∀ j, ¬ Tr (List.replicate n false) j := fun j hj => by
    unfold Tr at hj
    rw [List.getElem?_replicate] at hj
    split at hj <;> simp at hj
  have hl2 : ∀ j, Tr l j ↔ Tr (rch n v SS us) j := fun j => by
    rw [rch_iff hrg hv]
    constructor
    · intro h S hS hSv
      exact (hA S hS hSv j h).resolve_left (hno j)
    · intro h
      exact h (Tr l) (fun i x h1 h2 h3 => hE.clo i x h1 h2 h3 (hno _)) hT
  have h3 : allTr SS us l ↔ connB n v SS us = true := by
    unfold connB
    rw [allB_iff]
    exact ⟨fun h i x h1 h2 => (hl2 _).1 (h i x h1 h2), fun h i x h1 h2 => (hl2 _).2 (h i x h1 h2)⟩
  congr 1
  rw [Bool.eq_iff_iff, hiff, h3]
/-- The next arc of the tour: the first one out of a vertex that is left and after which the rest hangs together. -/
def nextA (n : Nat) (SS : List (Nat × Nat)) (us : List Bool) : List Nat → Option Nat
  | [] => none
  | i :: l => if us[i]? = some false ∧ connB n (SS.getD i (0, 0)).2 SS (us.set i true) = true then some i else nextA n SS us l
def tourF (n : Nat) (SS : List (Nat × Nat)) : Nat → Nat → List Nat → List Bool → Option (List Nat)
  | f, v, t, us => if SS.length ≤ t.length then some t else match f with
    | 0 => none
    | f + 1 => match nextA n SS us ((outs n SS).getD v []) with
      | none => none
      | some i => tourF n SS f (SS.getD i (0, 0)).2 (t ++ [i]) (us.set i true)
def tourS (n : Nat) (SS : List (Nat × Nat)) : Option (List Nat) := tourF n SS SS.length (SS.getD 0 (0, 0)).2 [0] ((List.replicate SS.length false).set 0 true)
theorem tour_ex1 : tourS 2 [(0, 1), (0, 1), (1, 0), (1, 0)] = some [0, 2, 1, 3] := by decide +kernel
theorem tour_ex2 : tourS 3 [(0, 1), (0, 2), (1, 0), (1, 2), (2, 0), (2, 1)] = some [0, 2, 1, 5, 3, 4] := by decide +kernel
end Go.Proofs.YtlnhocgjgmhfgaaGreatDoor

namespace Go.Proofs.YtlnhocgjgmhfgaaGreatDoor
open Go.RowKit
set_option maxRecDepth 100000

theorem i1_len (x : Nat) : (i1 x).length = 1 := rfl
/-- A block of numbers reads as a list. -/
theorem slk_blk {w : World} {A n : Nat} {l : List Nat} (h : Blk w A (ints l) 3) (hl : l.length = n) (hn : n ≤ maxLen) : SlK i1 1 w (.slice (some ⟨A, 0, none⟩) n n) l :=
  ⟨_, A, 0, n, by rw [hl], fun _ => rfl, by omega, hn, fun h => by simp at h, fun _ => h.lt, fun i hi j v hv => by
    have hj : j = 0 := by
      have := (List.getElem?_eq_some_iff.1 hv).1
      simp [i1] at this; omega
    subst hj
    rw [Nat.mul_one, Nat.zero_add, Nat.add_zero]
    refine h.cell i v ?_
    rw [ints_at _ _ hi]
    simpa [i1] using hv⟩
theorem take_succ_eq {α : Type} {xs ys : List α} {k : Nat} (h : xs.take k = ys.take k) (hx : k < xs.length) (hy : k < ys.length) (he : xs[k] = ys[k]) : xs.take (k + 1) = ys.take (k + 1) := by
  rw [List.take_succ_eq_append_getElem hx, List.take_succ_eq_append_getElem hy, h, he]

set_option maxHeartbeats 2000000 in
theorem EqualI_any (w : World) (v u : Value) (xs ys : List Nat) (hv : SlK i1 1 w v xs) (hu : SlK i1 1 w u ys) :
    Calls Tryz.prog 18 #[v, u] w (Rets fun r w' => r = .bool (decide (xs = ys)) ∧ Below w.heap.size w w') := by
  obtain ⟨a, b, o, c, rfl, hi, hp, hc, hm⟩ := hv.open elemI
  obtain ⟨a', b', o', c', rfl, hi', hp', hc', hm'⟩ := hu.open elemI
  clear hv hu
  unfold maxLen at hm hm'
  by_cases hl : xs.length = ys.length
  · have HL := Lib.hid hl
    have hle : ((xs.length : Int) == (ys.length : Int)) = true := by simp [hl]
    go_enter Tryz.func18, Tryz.ntmps18
    go_wp2
    go_loopw [13] (fun i wr => ∃ k : Nat, k ≤ xs.length ∧ i = .int .i64 k ∧ Hid (xs.take k = ys.take k) ∧ Below w.heap.size w wr) (fun i _ => xs.length - (intOf i).toNat)
    case atStart => exact ⟨0, Nat.zero_le _, rfl, Lib.hid rfl, Below.refl _ _⟩
    case round =>
      obtain ⟨k, hk, rfl, hT, hb⟩ := hrel
      by_cases hkn : k < xs.length
      · have hky : k < ys.length := by rw [← HL.out]; exact hkn
        have h1 : wr.cell? ⟨b, o + k, none⟩ = some (.int .i64 (xs[k] : Nat)) := by
          have := hp.at hb (Nat.le_refl _) k hkn 0 _ rfl
          rwa [Nat.mul_one, Nat.add_zero] at this
        have h2 : wr.cell? ⟨b', o' + k, none⟩ = some (.int .i64 (ys[k] : Nat)) := by
          have := hp'.at hb (Nat.le_refl _) k hky 0 _ rfl
          rwa [Nat.mul_one, Nat.add_zero] at this
        have q1 : (0 : Int) ≤ (k : Int) := by omega
        have q2 : (k : Int) < (xs.length : Int) := by omega
        have q3 : (k : Int) < (ys.length : Int) := by omega
        by_cases he : xs[k] = ys[k]
        · have HS := Lib.hid (take_succ_eq hT.out hkn hky he)
          have e1 : ((xs[k] : Int) == (ys[k] : Int)) = true := by simp [he]
          obtain ⟨x, hx⟩ : ∃ x, xs[k] = x := ⟨_, rfl⟩
          obtain ⟨y, hy⟩ : ∃ y, ys[k] = y := ⟨_, rfl⟩
          rw [hx] at h1 e1
          rw [hy] at h2 e1
          clear hx hy he
          go_wp2_with fail
          go_quiet (fail)
          have b3 := below_drewN hb nq
          go_wp2
          go_roundw
          case rel => exact ⟨k + 1, by omega, by go_num, HS, b3⟩
          case measure => simp [intOf]; omega
        · have HS := Lib.hid (show decide (xs = ys) = false by
            simp only [decide_eq_false_iff_not]
            intro e; subst e; exact he rfl)
          have e1 : ((xs[k] : Int) == (ys[k] : Int)) = false := by simp; omega
          obtain ⟨x, hx⟩ : ∃ x, xs[k] = x := ⟨_, rfl⟩
          obtain ⟨y, hy⟩ : ∃ y, ys[k] = y := ⟨_, rfl⟩
          rw [hx] at h1 e1
          rw [hy] at h2 e1
          clear hx hy he
          go_wp2_with fail
          go_quiet (fail)
          have b3 := below_drewN hb nq
          go_wp2
          go_ret
          exact ⟨_, rfl, by rw [HS.out]; rfl, b3⟩
      · obtain rfl : k = xs.length := by omega
        have HS := Lib.hid (show decide (xs = ys) = true by
          have h := hT.out
          rw [List.take_length, List.take_of_length_le (Nat.le_of_eq HL.out.symm)] at h
          simp [h])
        go_wp2
        go_ret
        exact ⟨_, rfl, by rw [HS.out]; rfl, hb⟩
  · have HS := Lib.hid (show decide (xs = ys) = false by
      simp only [decide_eq_false_iff_not]
      intro e; subst e; exact hl rfl)
    have hle : ((xs.length : Int) == (ys.length : Int)) = false := by simp; omega
    go_enter Tryz.func18, Tryz.ntmps18
    go_wp2
    go_ret
    exact ⟨_, rfl, by rw [HS.out]; rfl, Below.refl _ _⟩
end Go.Proofs.YtlnhocgjgmhfgaaGreatDoor

namespace Go.Proofs.YtlnhocgjgmhfgaaGreatDoor
open Go.RowKit
set_option maxRecDepth 100000

def ends1 (ns : List (Nat × Nat × Nat)) : List (Nat × Nat) := ns.map fun x => (x.1, x.2.1)
theorem ends1_take (ns : List (Nat × Nat × Nat)) (k : Nat) (h : k < ns.length) : ends1 (ns.take (k + 1)) = ends1 (ns.take k) ++ [(ns[k].1, ns[k].2.1)] := by
  unfold ends1; rw [List.take_succ_eq_append_getElem h, List.map_append]; simp
theorem ends1_len (ns : List (Nat × Nat × Nat)) : (ends1 ns).length = ns.length := by simp [ends1]
/-- What makes a digraph Eulerian. -/
def EulC (n : Nat) (ns : List (Nat × Nat × Nat)) : Prop := ns ≠ [] ∧ degAt (·.1) n ns ns.length = degAt (·.2.1) n ns ns.length ∧
    ∀ l, Ext (ends1 ns) (List.replicate ns.length false) (List.replicate n false) l → Tr l (ns.getD 0 (0, 0, 0)).1 → l.length = n → allTr (ends1 ns) (List.replicate ns.length false) l
/-- What eulerian answers. -/
def EulP (n : Nat) (ns : List (Nat × Nat × Nat)) (r : Value) (w w' : World) : Prop := ∃ t, r = .bool t ∧ Below w.heap.size w w' ∧ (t = true ↔ EulC n ns)
theorem tr_rep (n j : Nat) : ¬ Tr (List.replicate n false) j := by
  unfold Tr
  intro h
  have := List.getElem?_eq_some_iff.1 h
  simp at this
theorem allTr_any {n v : Nat} {SS : List (Nat × Nat)} {us l l' : List Bool} (hA : Lea SS us (List.replicate n false) l v) (hl : allTr SS us l) (hE : Ext SS us (List.replicate n false) l') (hT : Tr l' v) : allTr SS us l' := fun i x h1 h2 =>
  (hA (fun j => Tr l' j) (fun i x h1 h2 h3 => hE.clo i x h1 h2 h3 (tr_rep n _)) hT _ (hl i x h1 h2)).resolve_left (tr_rep n _)

theorem slk_bools {w : World} {A n : Nat} {l : List Bool} (h : Blk w A (bools l) 4) (hl : l.length = n) (hn : n ≤ maxLen) : SlK b1 1 w (.slice (some ⟨A, 0, none⟩) n n) l :=
  ⟨_, A, 0, n, by rw [hl], fun _ => rfl, by omega, hn, fun h => by simp at h, fun _ => h.lt, fun i hi j v hv => by
    have hj : j = 0 := by
      have := (List.getElem?_eq_some_iff.1 hv).1
      simp [b1] at this; omega
    subst hj
    rw [Nat.mul_one, Nat.zero_add, Nat.add_zero]
    refine h.cell i v ?_
    rw [bools_at _ _ hi]
    simpa [b1] using hv⟩

set_option maxHeartbeats 4000000 in
theorem eulerian_ok (w : World) (n : Nat) (v : Value) (ns : List (Nat × Nat × Nat)) (hR : RD n ns) (hv : SlK e3 3 w v (ns.map n3)) (hl : ns.length ≤ 1000) :
    Calls Tryz.prog 47 #[.agg #[.int .i64 (n : Nat), v]] w (Rets fun r w' => EulP n ns r w w') := by
  have HV := Lib.hid hv
  obtain ⟨ad, b, o, c, rfl, hi, hp, hc, hcm⟩ := hv.open elemArc
  have hnl : (ns.map n3).length = ns.length := List.length_map _
  rw [hnl] at hv hi hc HV ⊢
  unfold maxLen at hcm
  have n12 := hR.le
  have n1 := hR.pos
  have HR := Lib.hid hR; have HNL := Lib.hid hnl
  have HQ := Lib.hid ((Below.refl w.heap.size w).alloc (Nat.le_refl _) (.cells #[.int .i64 (n : Nat), .slice ad ns.length c] 28))
  have HG := Lib.hid (Blk.new w [.int .i64 (n : Nat), .slice ad ns.length c] 28)
  obtain ⟨W, hW⟩ : ∃ W, w.alloc (.cells #[.int .i64 (n : Nat), .slice ad ns.length c] 28) = W := ⟨_, rfl⟩
  have hWs : W.heap.size = w.heap.size + 1 := by rw [← hW]; simp
  rw [show [Value.int .i64 (n : Nat), .slice ad ns.length c].toArray = #[Value.int .i64 (n : Nat), .slice ad ns.length c] from rfl, hW] at HG
  rw [hW] at HQ
  have HW := Lib.hid hW; have HWS := Lib.hid hWs
  clear hW hv hnl hR hWs
  by_cases hn0 : ns.length = 0
  · have H0 := Lib.hid (List.length_eq_zero_iff.1 hn0)
    have e0 : ((ns.length : Int) == 0) = true := by rw [hn0]; rfl
    clear hn0
    go_enter Tryz.func47, Tryz.ntmps47
    go_wp2_with (go_at_call 53; rw [HW.out]; (with_reducible refine (degrees_ok W n _ ns HR.out (HV.out.below HQ.out (Nat.le_refl _)) hl).mono ?_); rintro e w1 ⟨v, rfl, A, B, rfl, hA, hB, hAs, hBs, hb⟩; have HB1 := Lib.hid hb; have g0 := (HG.out.below hb (Nat.le_refl _)).cell 0 _ rfl; have g1 := (HG.out.below hb (Nat.le_refl _)).cell 1 _ rfl; have hlg := (HG.out.below hb (Nat.le_refl _)).lt; clear hA hB hb)
    go_ret
    exact ⟨_, rfl, (⟨false, rfl, HQ.out.trans (HB1.out.mono HQ.out.size), ⟨fun h => absurd h (by decide), fun h => absurd H0.out h.1⟩⟩ : EulP n ns _ w _)⟩
  by_cases hdeg : degAt (·.1) n ns ns.length = degAt (·.2.1) n ns ns.length
  · have HD := Lib.hid hdeg
    have e0 : ((ns.length : Int) == 0) = false := by rw [beq_eq_false_iff_ne]; omega
    have HF := Lib.hid (show decide (degAt (·.1) n ns ns.length = degAt (·.2.1) n ns ns.length) = true by rw [decide_eq_true_iff]; exact hdeg)
    clear hdeg
    go_enter Tryz.func47, Tryz.ntmps47
    go_wp2_with (first
      | (go_at_call 53; rw [HW.out]; (with_reducible refine (degrees_ok W n _ ns HR.out (HV.out.below HQ.out (Nat.le_refl _)) hl).mono ?_); rintro e w1 ⟨v, rfl, A, B, rfl, hA, hB, hAs, hBs, hb⟩; have HA := Lib.hid hA; have HB := Lib.hid hB; have HB1 := Lib.hid hb; have g0 := (HG.out.below hb (Nat.le_refl _)).cell 0 _ rfl; have g1 := (HG.out.below hb (Nat.le_refl _)).cell 1 _ rfl; have hlg := (HG.out.below hb (Nat.le_refl _)).lt; clear hA hB hb)
      | (go_at_call 18; (with_reducible refine (EqualI_any _ _ _ _ _ (slk_blk HA.out (degAt_len _ _ _ _) (by unfold maxLen; omega)) (slk_blk HB.out (degAt_len _ _ _ _) (by unfold maxLen; omega))).mono ?_); rintro e w2 ⟨v, rfl, rfl, hb2⟩; rw [HF.out]; have HB2 := Lib.hid (HB1.out.trans (hb2.mono HB1.out.size)); clear g0 g1 hlg hb2; have g0 := (HG.out.below HB2.out (Nat.le_refl _)).cell 0 _ rfl; have g1 := (HG.out.below HB2.out (Nat.le_refl _)).cell 1 _ rfl; have hlg := (HG.out.below HB2.out (Nat.le_refl _)).lt))
    clear HA HB HB1 hAs hBs
    clear g0 g1
    have B0 := Lib.hid (Below.refl w2.heap.size w2)
    have O0 : Hid (w2.ownsRow w2.heap.size 60 2 (.slice none 0 0) (ends1 (ns.take 0)).length ((ends1 (ns.take 0)).flatMap p2)) := Lib.hid (World.ownsRow_nil _ _ _ _)
    go_loopw [5, 26] (fun out i wr => ∃ k : Nat, k ≤ ns.length ∧ i = .int .i64 k ∧ Hid (wr.ownsRow w2.heap.size 60 2 out (ends1 (ns.take k)).length ((ends1 (ns.take k)).flatMap p2)) ∧ Hid (Below w2.heap.size w2 wr)) (fun _ i _ => ns.length - (intOf i).toNat)
    case atStart => exact ⟨0, Nat.zero_le _, rfl, O0, B0⟩
    case round =>
      clear O0 B0 hlg
      obtain ⟨k, hk, rfl, hO, hB⟩ := hrel
      obtain ⟨ua, uc, rfl⟩ := own_formK hO.out
      have HQW := Lib.hid (HQ.out.trans ((HB2.out.trans (hB.out.mono HB2.out.size)).mono HQ.out.size))
      by_cases hkn : k < ns.length
      · have hkm : k < (ns.map n3).length := by rw [HNL.out]; exact hkn
        have HTK := Lib.hid (ends1_take ns k hkn)
        obtain ⟨⟨p, q, m⟩, hx⟩ : ∃ x, ns[k] = x := ⟨_, rfl⟩
        have hx3 : (ns.map n3)[k] = n3 (p, q, m) := by rw [List.getElem_map, hx]
        have a0 : wr.cell? ⟨b, o + k * 3, none⟩ = some (.int .i64 (p : Nat)) := hp.at HQW.out (Nat.le_refl _) k hkm 0 _ (by rw [hx3]; rfl)
        have a1 : wr.cell? ⟨b, o + k * 3 + 1, none⟩ = some (.int .i64 (q : Nat)) := hp.at HQW.out (Nat.le_refl _) k hkm 1 _ (by rw [hx3]; rfl)
        have a2 : wr.cell? ⟨b, o + k * 3 + 2, none⟩ = some (.int .i64 (m : Nat)) := hp.at HQW.out (Nat.le_refl _) k hkm 2 _ (by rw [hx3]; rfl)
        have hlb := (hp.below HQW.out (Nat.le_refl _)).1 (by omega)
        rw [hx] at HTK
        have hsl : (ends1 (ns.take k)).length ≤ ns.length := by rw [ends1_len, List.length_take]; omega
        obtain ⟨S, hS⟩ : ∃ S, ends1 (ns.take k) = S := ⟨_, rfl⟩
        rw [hS] at hO HTK hsl ⊢
        simp only at HTK
        have hbs := hB.out.size
        have HOA := Lib.hid (hO.out.alloc (.cells #[.int .i64 p, .int .i64 q, .int .i64 m] 83))
        have HBA := Lib.hid (hB.out.alloc hB.out.size (.cells #[.int .i64 p, .int .i64 q, .int .i64 m] 83))
        clear hx hx3 hS hkm hO hB
        go_wp2_with (at_builtin; go_loud (refine appM (w0 := wr.alloc (.cells #[.int .i64 p, .int .i64 q, .int .i64 m] 83)) (m := 1) (news := p2 (p, q)) (B := w2.heap.size) (W := w2) (base := w2.heap.size) elemEnds rfl (.tmp 30) (.tmp 36) rfl (by rfl) (by rw [World.size_alloc]; rfl) HOA.out HBA.out (Nat.le_refl _) HBA.out.size rfl (p2_one _) (by omega) (by unfold maxLen; omega) ?_); intro v' w5 hown' hb'; obtain ⟨va, vc, rfl⟩ := own_formK hown')
        go_roundw
        case rel => exact ⟨k + 1, by omega, by go_num, Lib.hid (by rw [HTK.out, List.length_append, flat_snoc]; exact hown'), Lib.hid hb'⟩
        case measure => simp [intOf]; omega
      · obtain rfl : k = ns.length := by omega
        rw [List.take_length] at hO ⊢
        have hel : (ends1 ns).length = ns.length := ends1_len ns
        have hES := SlK.ofOwns p2_len hO.out rfl
        have HES := Lib.hid hES
        obtain ⟨ea', b', o', ec', hform, hi', hp', hc', hcm'⟩ := hES.open elemEnds
        simp only [Value.slice.injEq, true_and] at hform
        obtain ⟨rfl, rfl⟩ := hform
        have h0 : 0 < ns.length := by omega
        obtain ⟨⟨p, q⟩, hx⟩ : ∃ x, (ends1 ns)[0]'(by omega) = x := ⟨_, rfl⟩
        have HP0 := Lib.hid (show (ns.getD 0 (0, 0, 0)).1 = p by
          simp only [ends1, List.getElem_map, Prod.mk.injEq] at hx
          simp [List.getD_eq_getElem?_getD, h0, hx.1])
        have HRG := Lib.hid (show ∀ x ∈ ends1 ns, x.1 < n ∧ x.2 < n from fun x hx => by
          simp only [ends1, List.mem_map] at hx
          obtain ⟨y, hy, rfl⟩ := hx
          have := HR.out.rng y hy
          exact ⟨this.1, this.2.1⟩)
        have hpn : p < n := by
          have := HRG.out _ (List.getElem_mem (show 0 < (ends1 ns).length by omega))
          rw [hx] at this; exact this.1
        have a0 : wr.cell? ⟨b', o', none⟩ = some (.int .i64 (p : Nat)) := by
          have := hp'.2 0 (by omega) 0 (.int .i64 (p : Nat)) (by rw [hx]; rfl)
          rwa [Nat.zero_mul, Nat.add_zero] at this
        have hbl := hp'.1 (by omega)
        have hqw := HB2.out.trans (hB.out.mono HB2.out.size)
        have hGr := HG.out.below hqw (Nat.le_refl _)
        have g0 := hGr.cell 0 _ rfl
        have hlg := hGr.lt
        have HQB := Lib.hid (HQ.out.trans (hqw.mono HQ.out.size))
        have hmk := mk_run (t := 102) elemB rfl (ends1 ns).length (by omega) (by unfold maxLen; omega)
        have z0 : (0 : Int) < ((ends1 ns).length : Int) := by omega
        have z1 : 0 < (ends1 ns).length := by omega
        have z2 : ¬ ends1 ns = [] := fun h => by rw [h] at z1; exact absurd z1 (by decide)
        have HEL := Lib.hid hel
        have S0 := (⟨g0, a0⟩ : wr.drew.cell? ⟨w.heap.size, 0, none⟩ = some (.int .i64 (n : Nat)) ∧ wr.drew.cell? ⟨b', o', none⟩ = some (.int .i64 (p : Nat)))
        have HS0 := Lib.hid S0
        have HS1 := Lib.hid (show ((wr.alloc (.cells (Array.replicate (ends1 ns).length (.bool false)) 4)).drew.cell? ⟨w.heap.size, 0, none⟩ = some (.int .i64 (n : Nat)) ∧ (wr.alloc (.cells (Array.replicate (ends1 ns).length (.bool false)) 4)).drew.cell? ⟨b', o', none⟩ = some (.int .i64 (p : Nat))) from
          ⟨(World.cell?_of_block (a := ⟨w.heap.size, 0, none⟩) (Below.heap_alloc wr _ _ hlg)).trans g0, (World.cell?_of_block (a := ⟨b', o', none⟩) (Below.heap_alloc wr _ _ hbl)).trans a0⟩)
        have HBA := Lib.hid (show Below wr.heap.size wr (wr.alloc (.cells (Array.replicate (ends1 ns).length (.bool false)) 4)).drew from ((Below.refl wr.heap.size wr).alloc (Nat.le_refl _) _).drew)
        have HNB := Lib.hid (show Blk (wr.alloc (.cells (Array.replicate (ends1 ns).length (.bool false)) 4)).drew wr.heap.size (bools (List.replicate (ends1 ns).length false)) 4 by
          have := Blk.new wr (bools (List.replicate (ends1 ns).length false)) 4
          rw [show (bools (List.replicate (ends1 ns).length false)).toArray = Array.replicate (ends1 ns).length (Value.bool false) by simp [bools]] at this
          exact this)
        have HLE := Lib.hid (show (ends1 ns).length ≤ 1000000 by omega)
        have HCON := Lib.hid (connected_ok (wr.alloc (.cells (Array.replicate (ends1 ns).length (.bool false)) 4)).drew n p (.slice ua (ends1 ns).length uc) (.slice (some ⟨wr.heap.size, 0, none⟩) (ends1 ns).length (ends1 ns).length) (ends1 ns) (List.replicate (ends1 ns).length false)
          (HES.out.below HBA.out (Nat.le_refl _)) (slk_bools HNB.out (by simp) (by unfold maxLen; omega)) (by simp) HRG.out n12 hpn HLE.out)
        clear hx hO hB hqw hGr hES hel S0
        go_wp2_with fail
        go_region_held3 (fun w' => w'.cell? ⟨w.heap.size, 0, none⟩ = some (.int .i64 (n : Nat)) ∧ w'.cell? ⟨b', o', none⟩ = some (.int .i64 (p : Nat)))
          ((first
            | with_reducible exact HS0.out
            | with_reducible exact HS1.out
            | with_reducible assumption))
          ((go_at_call 57; (with_reducible refine HCON.out.mono ?_); rintro e w3 ⟨v, rfl, t, l, rfl, hE, hT, hA, hll, ht, hb3⟩; have HA3 := Lib.hid hA; clear hA; have HE3 := Lib.hid hE; have HT3 := Lib.hid hT; have HTT := Lib.hid ht; have HB3 := Lib.hid hb3; have HS3 := (⟨(hb3.cell (p := ⟨w.heap.size, 0, none⟩) (Nat.lt_of_lt_of_le hlg HBA.out.size)).trans HS1.out.1, (hb3.cell (p := ⟨b', o', none⟩) (Nat.lt_of_lt_of_le hbl HBA.out.size)).trans HS1.out.2⟩ : w3.cell? ⟨w.heap.size, 0, none⟩ = some (.int .i64 (n : Nat)) ∧ w3.cell? ⟨b', o', none⟩ = some (.int .i64 (p : Nat))); clear hE hT ht hb3))
        all_goals
          clear HS3
          go_wp2
          have hfin : EulP n ns (.bool t) w w3 := by
            refine ⟨t, rfl, HQB.out.trans ((HBA.out.trans (HB3.out.mono HBA.out.size)).mono HQB.out.size), ?_⟩
            rw [HTT.out]
            have ha := HA3.out; have he := HE3.out; have ht := HT3.out
            rw [← HP0.out] at ha ht
            rw [HEL.out] at ha he ⊢
            exact ⟨fun h => ⟨fun e => by rw [e] at h0; simp at h0, of_decide_eq_true HF.out, fun l' h1 h2 _ => allTr_any ha h h1 h2⟩, fun h => h.2.2 l he ht hll⟩
          go_ret
          exact ⟨_, rfl, hfin⟩
  · have HD := Lib.hid hdeg
    have e0 : ((ns.length : Int) == 0) = false := by rw [beq_eq_false_iff_ne]; omega
    have HF := Lib.hid (show decide (degAt (·.1) n ns ns.length = degAt (·.2.1) n ns ns.length) = false by simp only [decide_eq_false_iff_not]; exact hdeg)
    clear hdeg
    go_enter Tryz.func47, Tryz.ntmps47
    go_wp2_with (first
      | (go_at_call 53; rw [HW.out]; (with_reducible refine (degrees_ok W n _ ns HR.out (HV.out.below HQ.out (Nat.le_refl _)) hl).mono ?_); rintro e w1 ⟨v, rfl, A, B, rfl, hA, hB, hAs, hBs, hb⟩; have HA := Lib.hid hA; have HB := Lib.hid hB; have HB1 := Lib.hid hb; have g0 := (HG.out.below hb (Nat.le_refl _)).cell 0 _ rfl; have g1 := (HG.out.below hb (Nat.le_refl _)).cell 1 _ rfl; have hlg := (HG.out.below hb (Nat.le_refl _)).lt; clear hA hB hb)
      | (go_at_call 18; (with_reducible refine (EqualI_any _ _ _ _ _ (slk_blk HA.out (degAt_len _ _ _ _) (by unfold maxLen; omega)) (slk_blk HB.out (degAt_len _ _ _ _) (by unfold maxLen; omega))).mono ?_); rintro e w2 ⟨v, rfl, rfl, hb2⟩; rw [HF.out]; have HB2 := Lib.hid hb2; clear hb2))
    go_ret
    exact ⟨_, rfl, (⟨false, rfl, HQ.out.trans ((HB1.out.trans (HB2.out.mono HB1.out.size)).mono HQ.out.size), ⟨fun h => absurd h (by decide), fun h => absurd h.2.1 HD.out⟩⟩ : EulP n ns _ w _)⟩
end Go.Proofs.YtlnhocgjgmhfgaaGreatDoor

namespace Go.Proofs.YtlnhocgjgmhfgaaGreatDoor
open Go.RowKit
set_option maxRecDepth 100000

theorem pass_snoc : ∀ (SS : List (Nat × Nat)) (us l : List Bool) (x : Nat × Nat) (u : Bool), us.length = SS.length →
    pass (SS ++ [x]) (us ++ [u]) l = if u = false ∧ (pass SS us l)[x.1]? = some true then (pass SS us l).set x.2 true else pass SS us l
  | [], [], l, x, u, _ => by simp [pass]; congr
  | [], _ :: _, _, _, _, h => by simp at h
  | _ :: _, [], _, _, _, h => by simp at h
  | y :: SS, v :: us, l, x, u, h => by
    rw [List.cons_append, List.cons_append, pass, pass, pass_snoc SS us _ x u (by simpa using h)]
theorem passN_snoc (SS : List (Nat × Nat)) (us : List Bool) : ∀ (k : Nat) (l : List Bool), passN SS us (k + 1) l = pass SS us (passN SS us k l)
  | 0, _ => rfl
  | k + 1, l => by rw [passN, passN_snoc SS us k, passN]
/-- The marks after the first i arcs of a pass. -/
def psK (ns : List (Nat × Nat × Nat)) (i : Nat) (l : List Bool) : List Bool := pass ((ends1 ns).take i) (List.replicate i false) l
theorem psK_zero (ns : List (Nat × Nat × Nat)) (l : List Bool) : psK ns 0 l = l := by simp [psK, pass]
theorem psK_succ (ns : List (Nat × Nat × Nat)) (i : Nat) (l : List Bool) (h : i < ns.length) : psK ns (i + 1) l = if (psK ns i l)[ns[i].1]? = some true then (psK ns i l).set ns[i].2.1 true else psK ns i l := by
  unfold psK
  have h2 : i < (ends1 ns).length := by rw [ends1_len]; exact h
  rw [List.take_succ_eq_append_getElem h2, List.replicate_succ', pass_snoc _ _ _ _ _ (by simp; omega)]
  simp [ends1]
  congr
theorem psK_all (ns : List (Nat × Nat × Nat)) (l : List Bool) : psK ns ns.length l = pass (ends1 ns) (List.replicate ns.length false) l := by
  unfold psK; rw [← ends1_len ns, List.take_length]
theorem psK_len (ns : List (Nat × Nat × Nat)) (i : Nat) (l : List Bool) : (psK ns i l).length = l.length := pass_len _ _ _
theorem passN_len (SS : List (Nat × Nat)) (us : List Bool) : ∀ (k : Nat) (l : List Bool), (passN SS us k l).length = l.length
  | 0, _ => rfl
  | k + 1, l => by rw [passN, passN_len SS us k, pass_len]

set_option maxHeartbeats 4000000 in
theorem rreached_any (w : World) (n v : Nat) (dv : Value) (ns : List (Nat × Nat × Nat)) (hR : RD n ns) (hv : SlK e3 3 w dv (ns.map n3)) (hvn : v < n) :
    Calls Tryz.prog 56 #[.agg #[.int .i64 (n : Nat), dv], .int .i64 (v : Nat)] w (Rets fun r w' => ∃ G, r = .slice (some ⟨G, 0, none⟩) n n ∧ Blk w' G (bools (rch n v (ends1 ns) (List.replicate ns.length false))) 4 ∧ w.heap.size ≤ G ∧ Below w.heap.size w w') := by
  obtain ⟨ad, b, o, c, rfl, hi, hp, hc, hcm⟩ := hv.open elemArc
  have hnl : (ns.map n3).length = ns.length := List.length_map _
  rw [hnl] at hv hi hc ⊢
  unfold maxLen at hcm
  have n12 := hR.le
  have n1 := hR.pos
  have HR := Lib.hid hR; have HNL := Lib.hid hnl
  have HQ := Lib.hid ((Below.refl w.heap.size w).alloc (Nat.le_refl _) (.cells #[.int .i64 (n : Nat), .slice ad ns.length c] 28))
  have HG := Lib.hid (Blk.new w [.int .i64 (n : Nat), .slice ad ns.length c] 28)
  obtain ⟨W, hW⟩ : ∃ W, w.alloc (.cells #[.int .i64 (n : Nat), .slice ad ns.length c] 28) = W := ⟨_, rfl⟩
  have hWs : W.heap.size = w.heap.size + 1 := by rw [← hW]; simp
  rw [show [Value.int .i64 (n : Nat), .slice ad ns.length c].toArray = #[Value.int .i64 (n : Nat), .slice ad ns.length c] from rfl, hW] at HG
  rw [hW] at HQ
  obtain ⟨W2, hW2⟩ : ∃ X, W.alloc (.cells (Array.replicate n (.bool false)) 4) = X := ⟨_, rfl⟩
  have HS2 := Lib.hid (show Blk W2 (w.heap.size + 1) (bools (List.replicate n false)) 4 by
    have := Blk.new W (bools (List.replicate n false)) 4
    rw [hWs, show (bools (List.replicate n false)).toArray = Array.replicate n (Value.bool false) by simp [bools], hW2] at this
    exact this)
  have HB2 := Lib.hid (show Below W.heap.size W W2 by rw [← hW2]; exact (Below.refl _ W).alloc (Nat.le_refl _) _)
  have HG2 := Lib.hid (HG.out.below HB2.out (Nat.le_refl _))
  have HW := Lib.hid hW; have HWS := Lib.hid hWs; have HW2 := Lib.hid hW2
  have g0 := HG.out.cell 0 _ rfl
  have hlg := HG.out.lt
  obtain ⟨A, hA⟩ : ∃ A, w.heap.size + 1 = A := ⟨_, rfl⟩
  rw [hA] at HS2
  have HAD := Lib.hid (show w.heap.size < A by omega)
  have HAW := Lib.hid (show W.heap.size ≤ A by omega)
  have HAE := Lib.hid (show W.heap.size = A by omega)
  have c0 := HS2.out.cell v (.bool false) (by rw [bools_at _ v (by rw [List.length_replicate]; exact hvn)]; simp)
  have f0 := HS2.out.free v
  have l0 := HS2.out.lt
  have p1 : (0 : Int) ≤ (v : Int) := by omega
  have p2 : (v : Int) < (n : Int) := by omega
  have hmk := mk_run (t := 102) elemB rfl n (by omega) (by unfold maxLen; omega)
  clear hW hv hnl hR hWs hW2
  go_enter Tryz.func56, Tryz.ntmps56
  go_wp2
  rw [HW.out]
  try rw [hA]
  have L0 : Hid (passN (ends1 ns) (List.replicate ns.length false) 0 ((List.replicate n false).set v true) = (List.replicate n false).set v true) := Lib.hid rfl
  have HS3 := Lib.hid (show Blk (W.alloc (.cells ((Array.replicate n (.bool false)).setIfInBounds v (.bool true)) 4)) A (bools (passN (ends1 ns) (List.replicate ns.length false) 0 ((List.replicate n false).set v true))) 4 by
    rw [L0.out]
    have := Blk.new W (bools ((List.replicate n false).set v true)) 4
    rw [HAE.out, show (bools ((List.replicate n false).set v true)).toArray = (Array.replicate n (.bool false)).setIfInBounds v (.bool true) by rw [bools, List.map_set, List.map_replicate, ← List.toArray_replicate, List.setIfInBounds_toArray]] at this
    exact this)
  have HB3 := Lib.hid ((Below.refl W.heap.size W).alloc (Nat.le_refl _) (.cells ((Array.replicate n (.bool false)).setIfInBounds v (.bool true)) 4))
  obtain ⟨L, hL⟩ : ∃ L, (List.replicate n false).set v true = L := ⟨_, rfl⟩
  rw [hL] at HS3
  have HLL := Lib.hid (show L.length = n by rw [← hL]; simp)
  have HLV := Lib.hid hL
  clear c0 f0 l0 hL g0 hlg HS2 HB2 HG2 L0
  go_loopw [6] (fun i wr => ∃ r : Nat, r ≤ n ∧ i = .int .i64 r ∧ Hid (Blk wr A (bools (passN (ends1 ns) (List.replicate ns.length false) r L)) 4) ∧ Hid (Below W.heap.size W wr)) (fun i _ => n - (intOf i).toNat)
  case atStart => exact ⟨0, Nat.zero_le _, rfl, HS3, HB3⟩
  case round =>
    clear HS3 HB3
    obtain ⟨r, hr, rfl, hS, hB⟩ := hrel
    have hgr := HG.out.below hB.out (Nat.le_refl _)
    have g0 := hgr.cell 0 _ rfl
    have hlg := hgr.lt
    clear hgr
    by_cases hrn : r < n
    · obtain ⟨M, hM⟩ : ∃ M, passN (ends1 ns) (List.replicate ns.length false) r L = M := ⟨_, rfl⟩
      have HNX := Lib.hid (show passN (ends1 ns) (List.replicate ns.length false) (r + 1) L = psK ns ns.length M by rw [passN_snoc, hM, psK_all])
      have HML := Lib.hid (show M.length = n by rw [← hM, passN_len]; exact HLL.out)
      rw [hM] at hS
      have HS0 : Hid (Blk wr A (bools (psK ns 0 M)) 4) := Lib.hid (by rw [psK_zero]; exact hS.out)
      clear hM hS
      go_wp2
      clear g0 hlg
      go_loopw [7] (fun i wr => ∃ k : Nat, k ≤ ns.length ∧ i = .int .i64 k ∧ Hid (Blk wr A (bools (psK ns k M)) 4) ∧ Hid (Below W.heap.size W wr)) (fun i _ => ns.length - (intOf i).toNat)
      case atStart => exact ⟨0, Nat.zero_le _, rfl, HS0, hB⟩
      case round =>
        clear HS0 hB
        obtain ⟨k, hk, rfl, hS, hB⟩ := hrel
        have hgr := HG.out.below hB.out (Nat.le_refl _)
        have g1 := hgr.cell 1 _ rfl
        have hlg := hgr.lt
        clear hgr
        by_cases hkn : k < ns.length
        · have hqw := HQ.out.trans (hB.out.mono HQ.out.size)
          have hkm : k < (ns.map n3).length := by rw [HNL.out]; exact hkn
          have hrg := HR.out.rng _ (List.getElem_mem hkn)
          have hst := psK_succ ns k M hkn
          have hln : (psK ns k M).length = n := by rw [psK_len]; exact HML.out
          obtain ⟨Z, hZ⟩ : ∃ Z, psK ns k M = Z := ⟨_, rfl⟩
          rw [hZ] at hst hln hS
          obtain ⟨⟨p, q, m⟩, hx⟩ : ∃ x, ns[k] = x := ⟨_, rfl⟩
          rw [hx] at hrg hst
          have hx3 : (ns.map n3)[k] = n3 (p, q, m) := by rw [List.getElem_map, hx]
          have a0 : wr.cell? ⟨b, o + k * 3, none⟩ = some (.int .i64 (p : Nat)) := hp.at hqw (Nat.le_refl _) k hkm 0 _ (by rw [hx3]; rfl)
          have a1 : wr.cell? ⟨b, o + k * 3 + 1, none⟩ = some (.int .i64 (q : Nat)) := hp.at hqw (Nat.le_refl _) k hkm 1 _ (by rw [hx3]; rfl)
          have hlb := (hp.below hqw (Nat.le_refl _)).1 (by omega)
          obtain ⟨r1, r2, -, -⟩ := hrg
          simp only at r1 r2 hst
          have hp0 : p < Z.length := by rw [hln]; exact r1
          have hq0 : q < Z.length := by rw [hln]; exact r2
          have p3 : (0 : Int) ≤ (p : Int) := by omega
          have p4 : (p : Int) < (n : Int) := by omega
          have p5 : (0 : Int) ≤ (q : Int) := by omega
          have p6 : (q : Int) < (n : Int) := by omega
          have p7 : (0 : Int) ≤ (k : Int) := by omega
          have p8 : (k : Int) < (ns.length : Int) := by omega
          have fq := hS.out.free q
          have hla := hS.out.lt
          have cq := hS.out.cell q _ (bools_at Z q hq0)
          cases hzp : Z[p]
          · have cp := hS.out.cell p (.bool false) (by rw [bools_at Z p hp0, hzp])
            have HST := Lib.hid (show psK ns (k + 1) M = Z by rw [hst, if_neg]; rw [List.getElem?_eq_getElem hp0, hzp]; simp)
            clear hst hZ hx hx3 hzp hqw
            go_wp2
            go_roundw
            case rel => exact ⟨k + 1, by omega, by go_num, Lib.hid (by rw [HST.out]; exact hS.out), hB⟩
            case measure => simp [intOf]; omega
          · have cp := hS.out.cell p (.bool true) (by rw [bools_at Z p hp0, hzp])
            have HST := Lib.hid (show psK ns (k + 1) M = Z.set q true by rw [hst, if_pos]; rw [List.getElem?_eq_getElem hp0, hzp])
            clear hst hZ hx hx3 hzp hqw
            go_wp2
            go_roundw
            case rel => exact ⟨k + 1, by omega, by go_num, Lib.hid (by rw [HST.out, ← bools_set]; exact hS.out.set q (.bool true)), Lib.hid (hB.out.setCell (p := ⟨A, q, none⟩) HAW.out (.bool true))⟩
            case measure => simp [intOf]; omega
        · obtain rfl : k = ns.length := by omega
          go_wp2
          go_roundw
          case rel => exact ⟨r + 1, by omega, by go_num, Lib.hid (by rw [HNX.out]; exact hS.out), hB⟩
          case measure => simp [intOf]; omega
    · obtain rfl : r = n := by omega
      go_wp2
      go_ret
      exact ⟨_, rfl, A, rfl, by unfold rch; rw [HLV.out]; exact hS.out, Nat.le_of_lt HAD.out, HQ.out.trans (hB.out.mono HQ.out.size)⟩
end Go.Proofs.YtlnhocgjgmhfgaaGreatDoor

namespace Go.Proofs.YtlnhocgjgmhfgaaGreatDoor
open Go.RowKit
set_option maxRecDepth 100000

/-- The set of the vertices to which one comes from v, as the reference marks it. -/
def rchD (n : Nat) (ns : List (Nat × Nat × Nat)) (v : Nat) : List Bool := rch n v (ends1 ns) (List.replicate ns.length false)
theorem rchD_len (n : Nat) (ns : List (Nat × Nat × Nat)) (v : Nat) : (rchD n ns v).length = n := by
  unfold rchD rch; rw [passN_len]; simp
/-- What the reference asks of one vertex. -/
def IsV (n : Nat) (F T : List Nat) (ns : List (Nat × Nat × Nat)) (v : Nat) : Prop :=
  F.getD v 0 = T.getD v 0 ∧ ∀ u, u < n → 0 < F.getD v 0 → 0 < F.getD u 0 → Tr (rchD n ns v) u
def IsP (n : Nat) (ns : List (Nat × Nat × Nat)) : Prop := ns ≠ [] ∧ ∀ v, v < n → IsV n (degAt (·.1) n ns ns.length) (degAt (·.2.1) n ns ns.length) ns v
def IsR (n : Nat) (ns : List (Nat × Nat × Nat)) (r : Value) (w w' : World) : Prop := ∃ t, r = .bool t ∧ Below w.heap.size w w' ∧ (t = true ↔ IsP n ns)

set_option maxHeartbeats 4000000 in
theorem rIs_any (w : World) (n : Nat) (dv : Value) (ns : List (Nat × Nat × Nat)) (hR : RD n ns) (hv : SlK e3 3 w dv (ns.map n3)) (hl : ns.length ≤ 1000) :
    Calls Tryz.prog 30 #[.agg #[.int .i64 (n : Nat), dv]] w (Rets fun r w' => IsR n ns r w w') := by
  have HV := Lib.hid hv
  obtain ⟨ad, c, rfl⟩ := hv.form
  rw [List.length_map] at HV ⊢
  have n12 := hR.le
  have HR := Lib.hid hR
  obtain ⟨D, hD⟩ : ∃ D, w.heap.size = D := ⟨_, rfl⟩
  obtain ⟨W, hW⟩ : ∃ W, w.alloc (.cells #[.int .i64 (n : Nat), .slice ad ns.length c] 28) = W := ⟨_, rfl⟩
  have hWs : W.heap.size = D + 1 := by rw [← hW, ← hD]; simp
  have HK0 := Lib.hid (show Blk W D [.int .i64 (n : Nat), .slice ad ns.length c] 28 by rw [← hW, ← hD]; exact Blk.new w _ _)
  have HB0 := Lib.hid (show Below D w W by rw [← hW, ← hD]; exact (Below.refl _ w).alloc (Nat.le_refl _) _)
  have HV0 := Lib.hid (HV.out.below HB0.out (Nat.le_of_eq hD))
  have HW := Lib.hid hW
  have k0 := HK0.out.cell 0 _ rfl; have k1 := HK0.out.cell 1 _ rfl; have kl := HK0.out.lt
  clear hv hR hW hWs
  go_enter Tryz.func30, Tryz.ntmps30
  by_cases hne : ns.length = 0
  · have hz : ((ns.length : Int) == 0) = true := by simp [hne]
    have HX := Lib.hid (show ¬ IsP n ns from fun h => h.1 (List.eq_nil_of_length_eq_zero hne))
    clear hne
    go_wp2_with (go_at_call 54; rw [HW.out]; (with_reducible refine (rCounted_any W n _ ns HR.out HV0.out hl).mono ?_); rintro e w1 ⟨v, rfl, A, B, rfl, hA, hB, hAD, hBD, hb⟩; have HB1 := Lib.hid (HB0.out.trans (hb.mono (by rw [← hD]; exact HB0.out.size))); have HK1 := Lib.hid (HK0.out.below hb (Nat.le_refl _)); have k0 := HK1.out.cell 0 _ rfl; have k1 := HK1.out.cell 1 _ rfl; have kl := HK1.out.lt; have hAL := hA.lt; have hBL := hB.lt; have HA := Lib.hid hA; have HB := Lib.hid hB; clear hA hB hAD hBD hb)
    go_ret
    exact ⟨_, rfl, false, rfl, by rw [hD]; exact HB1.out, by simp [HX.out]⟩
  have hz : ((ns.length : Int) == 0) = false := by simp [hne]
  have hz2 : (ns.length == 0) = false := by simp [hne]
  have HNE := Lib.hid (show ns ≠ [] from fun e => hne (by rw [e]; rfl))
  clear hne
  go_wp2_with (go_at_call 54; rw [HW.out]; (with_reducible refine (rCounted_any W n _ ns HR.out HV0.out hl).mono ?_); rintro e w1 ⟨v, rfl, A, B, rfl, hA, hB, hAD, hBD, hb⟩; have HB1 := Lib.hid (HB0.out.trans (hb.mono (by rw [← hD]; exact HB0.out.size))); have HK1 := Lib.hid (HK0.out.below hb (Nat.le_refl _)); have k0 := HK1.out.cell 0 _ rfl; have k1 := HK1.out.cell 1 _ rfl; have kl := HK1.out.lt; have hAL := hA.lt; have hBL := hB.lt; have HA := Lib.hid hA; have HB := Lib.hid hB; clear hA hB hAD hBD hb)
  have HFL := Lib.hid (degAt_len (·.1) n ns ns.length); have HTL := Lib.hid (degAt_len (·.2.1) n ns ns.length)
  have HIP := Lib.hid (show IsP n ns ↔ ∀ v, v < n → IsV n (degAt (·.1) n ns ns.length) (degAt (·.2.1) n ns ns.length) ns v from ⟨fun h => h.2, fun h => ⟨HNE.out, h⟩⟩)
  obtain ⟨F, hF⟩ : ∃ F, degAt (·.1) n ns ns.length = F := ⟨_, rfl⟩
  obtain ⟨T, hT⟩ : ∃ T, degAt (·.2.1) n ns ns.length = T := ⟨_, rfl⟩
  rw [hF] at HA HFL HIP
  rw [hT] at HB HTL HIP
  obtain ⟨E, hE⟩ : ∃ E, w1.heap.size = E := ⟨_, rfl⟩
  have HE := Lib.hid hE
  clear k0 k1 kl hAL hBL HK0 HB0 HV0 hF hT hE
  go_loopw [5, 6] (fun i q wr => ∃ k : Nat, k ≤ n ∧ i = .int .i64 k ∧ Hid (∀ v, v < k → IsV n F T ns v) ∧ Hid (Below E w1 wr)) (fun i _ _ => n - (intOf i).toNat)
  case atStart => exact ⟨0, Nat.zero_le _, rfl, Lib.hid (fun v hv => absurd hv (Nat.not_lt_zero _)), Lib.hid (Below.refl _ _)⟩
  case round =>
    obtain ⟨k, hk, rfl, hS, hB⟩ := hrel
    have hKr := HK1.out.below hB.out (Nat.le_of_eq HE.out)
    have g0 := hKr.cell 0 _ rfl; have g1 := hKr.cell 1 _ rfl; have gl := hKr.lt
    clear hKr
    by_cases hkn : k < n
    · have hAr := HA.out.below hB.out (Nat.le_of_eq HE.out)
      have hBr := HB.out.below hB.out (Nat.le_of_eq HE.out)
      have hkF : k < F.length := by rw [HFL.out]; exact hkn
      have hkT : k < T.length := by rw [HTL.out]; exact hkn
      obtain ⟨x, hx⟩ : ∃ x, F[k] = x := ⟨_, rfl⟩
      obtain ⟨y, hy⟩ : ∃ y, T[k] = y := ⟨_, rfl⟩
      have HX := Lib.hid (show F.getD k 0 = x by rw [← hx]; simp [List.getD_eq_getElem?_getD, hkF])
      have HY := Lib.hid (show T.getD k 0 = y by rw [← hy]; simp [List.getD_eq_getElem?_getD, hkT])
      have c0 : wr.cell? ⟨A, k, none⟩ = some (.int .i64 (x : Nat)) := hAr.cell k _ (by rw [ints_at _ _ hkF, hx])
      have c1 : wr.cell? ⟨B, k, none⟩ = some (.int .i64 (y : Nat)) := hBr.cell k _ (by rw [ints_at _ _ hkT, hy])
      have al := hAr.lt; have bl := hBr.lt
      have p1 : (0 : Int) ≤ (k : Int) := by omega
      have p2 : (k : Int) < (n : Int) := by omega
      have HAr := Lib.hid hAr
      clear hx hy hAr hBr
      by_cases hxy : x = y
      rotate_left
      · have e1 : ((x : Int) == (y : Int)) = false := by simp; omega
        have e2 : (x == y) = false := by simp [hxy]
        have e3 : ((x : Int) != (y : Int)) = true := by simp; omega
        have HN := Lib.hid (show ¬ IsP n ns from fun h => by
          have h2 := (HIP.out.1 h k hkn).1
          rw [HX.out, HY.out] at h2
          exact hxy h2)
        have HQ := Lib.hid (show Below D w wr from HB1.out.trans (hB.out.mono (by rw [← HE.out, ← hD]; exact HB1.out.size)))
        clear hxy hS hB
        go_wp2_with fail
        go_quiet (fail)
        have b3 := below_drewN HQ.out nq
        go_wp2
        go_ret
        exact ⟨_, rfl, false, rfl, by rw [hD]; exact b3, by simp [HN.out]⟩
      subst hxy
      have e3 : ((x : Int) != (x : Int)) = false := by simp
      go_wp2_with fail
      go_quiet (fail)
      clear c1 bl
      have b3 := below_drewN hB.out nq
      obtain ⟨wd, hwd⟩ : ∃ X, wr.drewN nq = X := ⟨_, rfl⟩
      rw [hwd] at b3 ⊢
      have HBd := Lib.hid b3
      have HQd := Lib.hid (show Below D w wd from HB1.out.trans (b3.mono (by rw [← HE.out, ← hD]; exact HB1.out.size)))
      have HVd := Lib.hid (HV.out.below HQd.out (Nat.le_of_eq hD))
      have HKd := Lib.hid (HK1.out.below b3 (Nat.le_of_eq HE.out))
      clear b3 hwd hB c0 al g0 g1 gl HAr
      have g0 := HKd.out.cell 0 _ rfl; have g1 := HKd.out.cell 1 _ rfl; have gl := HKd.out.lt
      go_wp2_with (go_at_call 56; (with_reducible refine (rreached_any wd n k _ ns HR.out HVd.out hkn).mono ?_); rintro e w2 ⟨v, rfl, G, rfl, hG, hEG, hb⟩; have HB2 := Lib.hid (HBd.out.trans (hb.mono (by rw [← HE.out]; exact HBd.out.size))); have HG := Lib.hid hG; clear hG hEG hb)
      clear g0 g1 gl HBd HQd HVd HKd
      have HL := Lib.hid (rchD_len n ns k)
      have HGG : Hid (Blk w2 G (bools (rchD n ns k)) 4) := Lib.hid HG.out
      have HIV := Lib.hid (show IsV n F T ns k ↔ ∀ u, u < n → 0 < x → 0 < F.getD u 0 → Tr (rchD n ns k) u by unfold IsV; rw [HX.out, HY.out]; exact ⟨fun h => h.2, fun h => ⟨rfl, h⟩⟩)
      obtain ⟨Z, hZ⟩ : ∃ Z, rchD n ns k = Z := ⟨_, rfl⟩
      rw [hZ] at HL HGG HIV
      clear HG hZ
      go_loopw [7] (fun i wr => ∃ u : Nat, u ≤ n ∧ i = .int .i64 u ∧ Hid (∀ j, j < u → 0 < x → 0 < F.getD j 0 → Tr Z j) ∧ wr = w2) (fun i _ => n - (intOf i).toNat)
      case atStart => exact ⟨0, Nat.zero_le _, rfl, Lib.hid (fun j hj => absurd hj (Nat.not_lt_zero _)), rfl⟩
      case round =>
        obtain ⟨u, hu, rfl, hC, hw⟩ := hrel
        subst hw
        have hKr := HK1.out.below HB2.out (Nat.le_of_eq HE.out)
        have g0 := hKr.cell 0 _ rfl; have gl := hKr.lt
        clear hKr
        by_cases hun : u < n
        · have hAr := HA.out.below HB2.out (Nat.le_of_eq HE.out)
          have huF : u < F.length := by rw [HFL.out]; exact hun
          have huZ : u < Z.length := by rw [HL.out]; exact hun
          obtain ⟨y, hy⟩ : ∃ y, F[u] = y := ⟨_, rfl⟩
          have HYU := Lib.hid (show F.getD u 0 = y by rw [← hy]; simp [List.getD_eq_getElem?_getD, huF])
          have c0 : wr.cell? ⟨A, k, none⟩ = some (.int .i64 (x : Nat)) := hAr.cell k _ (by rw [ints_at _ _ hkF]; have h3 : F[k] = x := (by have := HX.out; simpa [List.getD_eq_getElem?_getD, hkF] using this); rw [h3])
          have c1 : wr.cell? ⟨A, u, none⟩ = some (.int .i64 (y : Nat)) := hAr.cell u _ (by rw [ints_at _ _ huF, hy])
          have al := hAr.lt
          have cg := HGG.out.cell u _ (bools_at Z u huZ)
          have gg := HGG.out.lt
          have p3 : (0 : Int) ≤ (u : Int) := by omega
          have p4 : (u : Int) < (n : Int) := by omega
          have hnext : (0 < x → 0 < y → Tr Z u) → Hid (∀ j, j < u + 1 → 0 < x → 0 < F.getD j 0 → Tr Z j) := fun h => Lib.hid (fun j hj h1 h2 => by
            rcases Nat.lt_or_eq_of_le (Nat.lt_succ_iff.1 hj) with hj | rfl
            · exact hC.out j hj h1 h2
            · exact h h1 (by rw [← HYU.out]; exact h2))
          have HN := Lib.hid hnext
          clear hy hAr hnext
          by_cases hx0 : 0 < x
          rotate_left
          · have t1 : decide (0 < x) = false := by simp; omega
            have t2 : decide ((0 : Int) < (x : Int)) = false := by simp; omega
            have HC2 := HN.out (fun h => absurd h hx0)
            clear hx0
            go_wp2
            go_roundw
            case rel => exact ⟨u + 1, by omega, by go_num, HC2, trivial⟩
            case measure => simp [intOf]; omega
          have t1 : decide (0 < x) = true := by simp; omega
          have t2 : decide ((0 : Int) < (x : Int)) = true := by simp; omega
          have HX0 := Lib.hid hx0
          clear hx0
          by_cases hy0 : 0 < y
          rotate_left
          · have t3 : decide (0 < y) = false := by simp; omega
            have t4 : decide ((0 : Int) < (y : Int)) = false := by simp; omega
            have HC2 := HN.out (fun _ h => absurd h hy0)
            clear hy0
            go_wp2
            go_roundw
            case rel => exact ⟨u + 1, by omega, by go_num, HC2, trivial⟩
            case measure => simp [intOf]; omega
          have t3 : decide (0 < y) = true := by simp; omega
          have t4 : decide ((0 : Int) < (y : Int)) = true := by simp; omega
          have HY0 := Lib.hid hy0
          clear hy0
          cases hz1 : Z[u]
          · rw [hz1] at cg
            have HNO := Lib.hid (show ¬ IsP n ns from fun h => by
              have h2 := (HIV.out.1 (HIP.out.1 h k hkn)) u hun HX0.out (by rw [HYU.out]; exact HY0.out)
              unfold Tr at h2
              rw [List.getElem?_eq_getElem huZ, hz1] at h2
              simp at h2)
            have HQ := Lib.hid (show Below D w wr from HB1.out.trans (HB2.out.mono (by rw [← HE.out, ← hD]; exact HB1.out.size)))
            clear hz1
            go_wp2
            go_ret
            exact ⟨_, rfl, false, rfl, by rw [hD]; exact HQ.out, by simp [HNO.out]⟩
          · rw [hz1] at cg
            have HC2 := HN.out (fun _ _ => by unfold Tr; rw [List.getElem?_eq_getElem huZ, hz1])
            clear hz1
            go_wp2
            go_roundw
            case rel => exact ⟨u + 1, by omega, by go_num, HC2, trivial⟩
            case measure => simp [intOf]; omega
        · obtain rfl : u = n := by omega
          have HS2 := Lib.hid (show ∀ v, v < k + 1 → IsV u F T ns v from fun v hv => by
            rcases Nat.lt_or_eq_of_le (Nat.lt_succ_iff.1 hv) with hv | rfl
            · exact hS.out v hv
            · exact HIV.out.2 hC.out)
          go_wp2
          go_roundw
          case rel => exact ⟨k + 1, by omega, by go_num, HS2, HB2⟩
          case measure => simp [intOf]; omega
    · obtain rfl : k = n := by omega
      have HQ := Lib.hid (show Below D w wr from HB1.out.trans (hB.out.mono (by rw [← HE.out, ← hD]; exact HB1.out.size)))
      have HY := Lib.hid (HIP.out.2 hS.out)
      go_wp2
      go_ret
      exact ⟨_, rfl, true, rfl, by rw [hD]; exact HQ.out, by simp [HY.out]⟩
end Go.Proofs.YtlnhocgjgmhfgaaGreatDoor

namespace Go.Proofs.YtlnhocgjgmhfgaaGreatDoor

/-- k steps along pointers. -/
def it (p : List Nat) : Nat → Nat → Nat
  | 0, v => v
  | k + 1, v => p.getD (it p k v) 0
theorem it_add (p : List Nat) (a b v : Nat) : it p (a + b) v = it p a (it p b v) := by
  induction a with
  | zero => rw [Nat.zero_add]; rfl
  | succ a ih => rw [Nat.succ_add]; show p.getD (it p (a + b) v) 0 = p.getD (it p a (it p b v)) 0; rw [ih]
theorem it_lt {p : List Nat} {n : Nat} (hp : ∀ v, v < n → p.getD v 0 < n) (k v : Nat) (hv : v < n) : it p k v < n := by
  induction k with
  | zero => exact hv
  | succ k ih => exact hp _ ih
theorem pigeon : ∀ (n : Nat) (f : Nat → Nat), (∀ i, i ≤ n → f i < n) → ∃ i j, i < j ∧ j ≤ n ∧ f i = f j
  | 0, f, h => absurd (h 0 (Nat.le_refl _)) (Nat.not_lt_zero _)
  | n + 1, f, h => by
    by_cases hx : ∃ i, i ≤ n ∧ f i = f (n + 1)
    · obtain ⟨i, hi, he⟩ := hx
      exact ⟨i, n + 1, by omega, Nat.le_refl _, he⟩
    · have hne : ∀ i, i ≤ n → f i ≠ f (n + 1) := fun i hi he => hx ⟨i, hi, he⟩
      obtain ⟨i, j, hij, hj, he⟩ := pigeon n (fun i => if f i < f (n + 1) then f i else f i - 1) (fun i hi => by
        have h1 := h i (by omega)
        have h2 := h (n + 1) (Nat.le_refl _)
        have h3 := hne i hi
        split <;> omega)
      refine ⟨i, j, hij, by omega, ?_⟩
      have h3 := hne i (by omega)
      have h4 := hne j hj
      split at he <;> split at he <;> omega
/-- Behind n steps one is on a cycle of at most n steps. -/
theorem periodic {p : List Nat} {n : Nat} (hp : ∀ v, v < n → p.getD v 0 < n) (v : Nat) (hv : v < n) : ∃ d, 1 ≤ d ∧ d ≤ n ∧ it p d (it p n v) = it p n v := by
  obtain ⟨i, j, hij, hj, he⟩ := pigeon n (fun k => it p k v) (fun k _ => it_lt hp k v hv)
  refine ⟨j - i, by omega, by omega, ?_⟩
  rw [← it_add, show j - i + n = (n - i) + j by omega, it_add, ← he, ← it_add, show n - i + i = n by omega]
theorem it_mul {p : List Nat} {d c : Nat} (h : it p d c = c) (k : Nat) : it p (k * d) c = c := by
  induction k with
  | zero => rw [Nat.zero_mul]; rfl
  | succ k ih => rw [Nat.succ_mul, it_add, h, ih]
theorem it_mod {p : List Nat} {d c : Nat} (h : it p d c = c) (k : Nat) : it p (k % d) c = it p k c := by
  have h1 := Nat.div_add_mod k d
  rw [Nat.mul_comm] at h1
  conv => rhs; rw [← h1, Nat.add_comm, it_add, it_mul h]
/-- From where one comes one gets back. -/
theorem it_back {p : List Nat} {d c : Nat} (hd : 1 ≤ d) (h : it p d c = c) (k : Nat) : ∃ j, it p j (it p k c) = c :=
  ⟨d * k - k, by
    rw [← it_add]
    have : k ≤ d * k := Nat.le_mul_of_pos_left k hd
    rw [show d * k - k + k = k * d by rw [Nat.sub_add_cancel this, Nat.mul_comm]]
    exact it_mul h k⟩
theorem it_succ' (p : List Nat) (k v : Nat) : it p (k + 1) v = it p k (p.getD v 0) := by rw [it_add]; rfl
/-- How many steps it is to C (at most n). -/
def stepsTo (p : List Nat) (n C x : Nat) : Nat := (List.range (n + 1)).findIdx fun i => decide (it p i x = C)
theorem stepsTo_lt {p : List Nat} {n C x : Nat} (hx : x ≠ C) (h : ∃ i, i ≤ n ∧ it p i x = C) : stepsTo p n C (p.getD x 0) < stepsTo p n C x := by
  obtain ⟨i, hi, he⟩ := h
  have h1 : List.findIdx (fun i => decide (it p i x = C)) (List.range (n + 1)) < (List.range (n + 1)).length := List.findIdx_lt_length_of_exists ⟨i, by simp; omega, by simpa using he⟩
  have h2 := List.findIdx_getElem (w := h1)
  rw [List.getElem_range, decide_eq_true_iff] at h2
  rw [List.length_range] at h1
  obtain ⟨s, hs⟩ : ∃ s, stepsTo p n C x = s := ⟨_, rfl⟩
  have hs' : List.findIdx (fun i => decide (it p i x = C)) (List.range (n + 1)) = s := hs
  rw [hs'] at h1 h2
  rw [hs]
  cases s with
  | zero => exact absurd h2 hx
  | succ s =>
    rw [it_succ'] at h2
    refine Nat.lt_succ_of_le ?_
    refine Nat.le_of_not_lt fun hlt => ?_
    have := List.not_of_lt_findIdx hlt
    simp at this
    exact this h2
/-- m is the least vertex to which one comes from c. -/
def Lst (p : List Nat) (c m : Nat) : Prop := (∃ j, m = it p j c) ∧ ∀ j, m ≤ it p j c
theorem Lst.unique {p : List Nat} {c m m' : Nat} (h : Lst p c m) (h' : Lst p c m') : m = m' := by
  obtain ⟨⟨j, hj⟩, hl⟩ := h
  obtain ⟨⟨j', hj'⟩, hl'⟩ := h'
  have a := hl j'; rw [← hj'] at a
  have b := hl' j; rw [← hj] at b
  omega
/-- The keys: of each vertex the least on the cycle to which it leads. -/
def Keys (p : List Nat) (n : Nat) (ks : List Nat) : Prop := ks.length ≤ n ∧ ∀ v (h : v < ks.length), Lst p (it p n v) ks[v]
/-- One cycle, and at lies on it: all lead to at. -/
theorem uni_of {p : List Nat} {n at_ : Nat} (hp : ∀ v, v < n → p.getD v 0 < n) {ks : List Nat} (hk : Keys p n ks) (hn : ks.length = n) (hall : ∀ a ∈ ks, ∀ b ∈ ks, a = b) (hon : ∃ v, v < n ∧ ∃ i, i < n ∧ it p i (it p n v) = at_) : ∀ v, v < n → ∃ i, it p i v = at_ := by
  intro v hv
  obtain ⟨u, hu, i, -, hi⟩ := hon
  have hv' : v < ks.length := by rw [hn]; exact hv
  have hu' : u < ks.length := by rw [hn]; exact hu
  obtain ⟨⟨j, hj⟩, -⟩ := hk.2 v hv'
  obtain ⟨⟨j', hj'⟩, -⟩ := hk.2 u hu'
  have he := hall _ (List.getElem_mem hv') _ (List.getElem_mem hu')
  obtain ⟨d, hd, -, hper⟩ := periodic hp u hu
  obtain ⟨e, he2⟩ := it_back hd hper j'
  -- from c_v to the common least, on to c_u, on to at
  refine ⟨i + (e + (j + n)), ?_⟩
  rw [it_add, it_add, it_add, ← hj, he, hj', he2, hi]
/-- All lead to at: there is one cycle, and at lies on it. -/
theorem of_uni {p : List Nat} {n at_ : Nat} (hp : ∀ v, v < n → p.getD v 0 < n) (hat : ∀ v, v < n → ∃ i, it p i v = at_) {ks : List Nat} (hk : Keys p n ks) :
    (∀ a ∈ ks, ∀ b ∈ ks, a = b) ∧ ∀ v, v < n → ∃ i, i < n ∧ it p i (it p n v) = at_ := by
  have hon : ∀ v, v < n → ∃ i, i < n ∧ it p i (it p n v) = at_ := fun v hv => by
    obtain ⟨d, hd, hdn, hper⟩ := periodic hp v hv
    obtain ⟨i, hi⟩ := hat _ (it_lt hp n v hv)
    exact ⟨i % d, Nat.lt_of_lt_of_le (Nat.mod_lt _ hd) hdn, by rw [it_mod hper]; exact hi⟩
  refine ⟨fun a ha b hb => ?_, hon⟩
  obtain ⟨v, hv, rfl⟩ := List.mem_iff_getElem.1 ha
  obtain ⟨u, hu, rfl⟩ := List.mem_iff_getElem.1 hb
  have hvn : v < n := Nat.lt_of_lt_of_le hv hk.1
  have hun : u < n := Nat.lt_of_lt_of_le hu hk.1
  have key : ∀ x y (hx : x < ks.length) (hy : y < ks.length), x < n → y < n → ks[x] ≤ ks[y] := fun x y hx hy hxn hyn => by
    obtain ⟨-, hl⟩ := hk.2 x hx
    obtain ⟨⟨j, hj⟩, -⟩ := hk.2 y hy
    -- c_x leads to at, at leads (on y's cycle) to ks[y]
    obtain ⟨i, -, hi⟩ := hon x hxn
    obtain ⟨i', -, hi'⟩ := hon y hyn
    obtain ⟨d, hd, -, hper⟩ := periodic hp y hyn
    obtain ⟨e, he⟩ := it_back hd hper i'
    rw [hi'] at he
    have h1 := hl (j + (e + i))
    rw [it_add, it_add, hi, he, ← hj] at h1
    exact h1
  exact Nat.le_antisymm (key v u hv hu hvn hun) (key u v hu hv hun hvn)
end Go.Proofs.YtlnhocgjgmhfgaaGreatDoor
