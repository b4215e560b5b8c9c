/- The walks of integer's each, total.add and Sum. -/
import Derived.Test.YtcjcknncajinpaaDoorIW
namespace Go.Proofs.YtcjcknncajinpaaDoor
open Go.RowKit
set_option maxRecDepth 100000

/-- The sum's box g (two cells), the argument's box, all that lies below stays. -/
def AB (B : Nat) (w : World) (g : Nat) (s : Int) (h : Nat) (z : Int) (wr : World) : Prop := Below B w wr ∧ B ≤ g ∧ g ≠ h ∧ NBox wr g s ∧ NBox wr h z
theorem AB.keep {B : Nat} {w w1 w2 : World} {g h : Nat} {s z : Int} (H : AB B w g s h z w1) (hb : Below w1.heap.size w1 w2) (hB : B ≤ w.heap.size) : AB B w g s h z w2 :=
  ⟨H.1.trans (hb.mono (Nat.le_trans hB H.1.size)), H.2.1, H.2.2.1, H.2.2.2.1.below hb (Nat.le_refl _), H.2.2.2.2.below hb (Nat.le_refl _)⟩
theorem AB.drew {B : Nat} {w w1 : World} {g h : Nat} {s z : Int} (H : AB B w g s h z w1) : AB B w g s h z w1.drew :=
  ⟨H.1.drew, H.2.1, H.2.2.1, H.2.2.2.1.below (Below.refl _ _).drew (Nat.le_refl _), H.2.2.2.2.below (Below.refl _ _).drew (Nat.le_refl _)⟩
theorem AB.store {B : Nat} {w w1 : World} {g h : Nat} {s z t : Int} {m : Bool} {a : Option Addr} {n c : Nat} (H : AB B w g s h z w1) (hv : Num w1 (.agg #[.bool m, .slice a n c]) t) :
    NBox ((w1.setCell ⟨g, 0, none⟩ (.bool m)).setCell ⟨g, 1, none⟩ (.slice a n c)) g t ∧ Below B w ((w1.setCell ⟨g, 0, none⟩ (.bool m)).setCell ⟨g, 1, none⟩ (.slice a n c)) :=
  ⟨NBox.self H.2.2.2.1.bx hv, (H.1.setCell H.2.1 _).setCell H.2.1 _⟩
set_option maxHeartbeats 400000 in
theorem add_any (B : Nat) (w : World) (g : Nat) (x : Value) (s z : Int) (hB : B ≤ w.heap.size) (hg : B ≤ g) (h : NBox w g s) (hx : Num w x z) (hl : wl s ≤ 1000000000000) (hl' : wl z ≤ 1000000000000) :
    Calls Tryd.prog 50 #[.pointer (some ⟨g, 0, none⟩), x] w fun e w' => e = .returned (.tuple #[]) ∧ NBox w' g (s + z) ∧ Below B w w' := by
  obtain ⟨m, a, n, c, rfl, hm, hs⟩ := hx
  have hgl := h.lt
  have hAB : AB B w g s w.heap.size z (w.alloc (.cells #[.bool m, .slice a n c] 64)) :=
    ⟨(Below.refl _ w).alloc hB _, hg, by omega, h.alloc _, NBox.new ⟨_, _, _, _, rfl, hm, hs⟩⟩
  have HAB := Lib.hid hAB; have HL := Lib.hid hl; have HL' := Lib.hid hl'
  clear hm hs h hAB hl hl'
  go_enter Tryd.func50, Tryd.ntmps50
  go_wp2_with fail
  obtain ⟨m1, a1, n1, c1, x0, x1, x2, x3, -, x5⟩ := HAB.out.2.2.2.1.facts
  obtain ⟨m2, a2, n2, c2, y0, y1, y2, y3, -, y5⟩ := HAB.out.2.2.2.2.facts
  have X5 := Lib.hid x5; have Y5 := Lib.hid y5
  clear x5 y5
  go_region_with (go_at_call 52; (with_reducible refine (sum_any _ _ _ s z (X5.out.below (Below.refl _ _).drew (Nat.le_refl _)) (Y5.out.below (Below.refl _ _).drew (Nat.le_refl _)) HL.out HL'.out).mono ?_); rintro e w3 ⟨v, rfl, ⟨m3, a3, n3, c3, rfl, hm3, hs3⟩, hb3⟩; have HN3 := Lib.hid (show Num w3 (.agg #[.bool m3, .slice a3 n3 c3]) (s + z) from ⟨_, _, _, _, rfl, hm3, hs3⟩); clear hm3 hs3; have p3 := (HAB.out.drew).keep hb3 hB; obtain ⟨p, q, hk0, hk1, hf0, hf1⟩ := p3.2.2.2.1.bx.facts; have P4 := Lib.hid (p3.store HN3.out); clear p3)
  all_goals
    go_end0
    exact ⟨rfl, P4.out.1, P4.out.2⟩

/-- The sum of the integers in some texts; each text is good. -/
def Goods : List ByteArray → List Int → Prop
  | [], [] => True
  | s :: l, z :: m => Good s z ∧ Goods l m
  | _, _ => False
theorem Goods.of : ∀ (xs : List ByteArray), chks xs = 0 → ∃ zs, Goods xs zs
  | [], _ => ⟨[], trivial⟩
  | s :: l, h => by
    rw [chks] at h
    by_cases h0 : chk s.data.toList = 0
    · rw [if_pos h0] at h
      obtain ⟨z, hz⟩ := good_of h0
      obtain ⟨m, hm⟩ := Goods.of l h
      exact ⟨z :: m, hz, hm⟩
    · rw [if_neg h0] at h; exact absurd h h0
theorem Goods.len : ∀ {xs : List ByteArray} {zs : List Int}, Goods xs zs → zs.length = xs.length
  | [], [], _ => rfl
  | _ :: _, _ :: _, h => by simp [h.2.len]
theorem Goods.get : ∀ {xs : List ByteArray} {zs : List Int}, Goods xs zs → ∀ i (h : i < xs.length) (h' : i < zs.length), Good xs[i] zs[i]
  | s :: l, z :: m, h, i, h1, h2 => by
    cases i with
    | zero => exact h.1
    | succ i => simpa using h.2.get i (by simpa using h1) (by simpa using h2)
theorem sum_take (zs : List Int) (k : Nat) (h : k < zs.length) : (zs.take (k + 1)).sum = (zs.take k).sum + zs[k] := by
  rw [List.take_succ_eq_append_getElem h, List.sum_append, List.sum_cons, List.sum_nil, Int.add_zero]
/-- What the loop of each holds. -/
def EB (w0 : World) (g : Nat) (z : Int) (k : Nat) (wr : World) : Prop := Below w0.heap.size w0 wr ∧ w0.heap.size ≤ g ∧ NBox wr g z ∧ wl z ≤ 1024 + k
set_option maxHeartbeats 400000 in
theorem each_add (w0 w : World) (v : Value) (xs : List ByteArray) (zs : List Int) (g : Nat) (hv : Sl eS w0 v xs) (hz : Goods xs zs) (hl : xs.length ≤ 4096) (hb : EB w0 g 0 0 w) :
    Calls Tryd.prog 49 #[v, .func (.func 50) #[.pointer (some ⟨g, 0, none⟩)] #[]] w fun e w' => e = .returned (.tuple #[]) ∧ EB w0 g zs.sum xs.length w' := by
  obtain ⟨a, b, o, c, rfl, hi, hp, -, -⟩ := hv.open elemStr
  have HZ := Lib.hid hz; have HB := Lib.hid hb; have HL := Lib.hid hz.len
  clear hz hb hv
  go_enter Tryd.func49, Tryd.ntmps49
  go_wp2
  go_loopw [8] (fun i wr => ∃ k : Nat, k ≤ xs.length ∧ i = .int .i64 k ∧ Hid (EB w0 g (zs.take k).sum k wr)) (fun i _ => xs.length - (intOf i).toNat)
  case atStart => exact ⟨0, Nat.zero_le _, rfl, HB⟩
  case round =>
    obtain ⟨k, hk, rfl, hE⟩ := hrel
    by_cases hkn : k < xs.length
    · have h1 : wr.cell? ⟨b, o + k, none⟩ = some (.string xs[k]) := hp.at hE.out.1 (Nat.le_refl _) k hkn
      have hkz : k < zs.length := by rw [HL.out]; exact hkn
      have hg := HZ.out.get k hkn hkz
      have HG := Lib.hid hg
      clear hg
      go_wp2_with (first
        | (go_at_call 45; refine (read_any _ _ zs[k] HG.out.1 (by have := HG.out.size; omega)).mono ?_; rintro e w2 ⟨v, rfl, hn2, hb2⟩; have HN2 := Lib.hid hn2; clear hn2)
        | (go_at_call 50; refine (add_any w0.heap.size _ g _ (zs.take k).sum zs[k] (Nat.le_trans hE.out.1.size hb2.size) hE.out.2.1 (hE.out.2.2.1.below hb2 (Nat.le_refl _)) HN2.out (by have := hE.out.2.2.2; omega) (by have := HG.out.wl; omega)).mono ?_; rintro e w3 ⟨rfl, hn3, hb3⟩; have HN3 := Lib.hid hn3; clear hn3))
      go_roundw
      case rel =>
        refine ⟨k + 1, by omega, by go_num, Lib.hid ⟨(hE.out.1.trans (hb2.mono hE.out.1.size)).trans hb3, hE.out.2.1, ?_, ?_⟩⟩
        · rw [sum_take zs k hkz]; exact HN3.out
        · rw [sum_take zs k hkz]
          have h3 := wl_add (zs.take k).sum zs[k]
          have h4 := hE.out.2.2.2
          have h5 := HG.out.wl
          omega
      case measure => simp [intOf]; omega
    · obtain rfl : k = xs.length := by omega
      have e1 : zs.take xs.length = zs := by rw [← HL.out, List.take_length]
      have hE2 := hE.out
      rw [e1] at hE2
      have HE2 := Lib.hid hE2
      clear hE e1 hE2
      go_wp2
      go_end0
      exact ⟨rfl, HE2.out⟩

set_option maxHeartbeats 400000 in
theorem Sum_many (w : World) (v : Value) (xs : List ByteArray) (hv : Sl eS w v xs) (hl : 4096 < xs.length) :
    Calls Tryd.prog 20 #[v] w (Rets fun v w' => v = .tuple #[.string ⟨#[]⟩, .int .i64 5] ∧ w' = w) := by
  obtain ⟨a, b, o, c, rfl, hi, hp, hc, hm⟩ := hv.open elemStr
  unfold maxLen at hm
  clear hv
  go_enter Tryd.func20, Tryd.ntmps20
  go_wp2
  go_ret2
  exact ⟨_, rfl, rfl, rfl⟩
set_option maxHeartbeats 400000 in
theorem Sum_err (w : World) (v : Value) (xs : List ByteArray) (hv : Sl eS w v xs) (hl : xs.length ≤ 4096) (hsz : ∀ s ∈ xs, s.size ≤ 1000000) (h : chks xs ≠ 0) :
    Calls Tryd.prog 20 #[v] w (Rets fun v w' => v = .tuple #[.string ⟨#[]⟩, .int .i64 (chks xs)] ∧ Below w.heap.size w w') := by
  have HV := Lib.hid hv
  obtain ⟨a, b, o, c, rfl, hi, hp, -, -⟩ := hv.open elemStr
  have hne : (chks xs != 0) = true := by simp [h]
  have HSZ := Lib.hid hsz
  clear h hv hsz
  go_enter Tryd.func20, Tryd.ntmps20
  go_wp2_with (go_at_call 48; refine (checked_any _ _ _ HV.out HSZ.out (by omega)).mono ?_; rintro e w' ⟨v, rfl, rfl, hb⟩)
  go_ret2
  exact ⟨_, rfl, rfl, hb⟩
set_option maxHeartbeats 400000 in
theorem Sum_ok (w : World) (v : Value) (xs : List ByteArray) (zs : List Int) (hv : Sl eS w v xs) (hl : xs.length ≤ 4096) (hz : Goods xs zs) (h : chks xs = 0) (he : Env w) :
    Calls Tryd.prog 20 #[v] w (Rets fun v w' => v = resV zs.sum ∧ Below w.heap.size w w') := by
  have HV := Lib.hid hv
  obtain ⟨a, b, o, c, rfl, hi, hp, -, -⟩ := hv.open elemStr
  obtain ⟨tt, kk, hr, -, -⟩ := resV_cases zs.sum
  have HSZ : Hid (∀ s ∈ xs, s.size ≤ 1000000) := Lib.hid (fun s hs => by
    obtain ⟨i, hi, rfl⟩ := List.getElem_of_mem hs
    have := (hz.get i hi (by rw [hz.len]; exact hi)).size
    omega)
  have HZ := Lib.hid hz; have HR := Lib.hid hr; have H0 := Lib.hid h; have HE := Lib.hid he
  clear h hv hz hr he
  go_enter Tryd.func20, Tryd.ntmps20
  go_wp2_with (first
    | (go_at_call 48; refine (checked_any _ _ _ HV.out HSZ.out (by omega)).mono ?_; rintro e w1 ⟨v, rfl, rfl, hb1⟩; rw [H0.out])
    | (go_at_call 49; refine (each_add w _ _ xs zs w1.heap.size HV.out HZ.out hl ⟨hb1.trans (((Below.refl _ w1).alloc (Nat.le_refl _) _).mono hb1.size), hb1.size, NBox.new (Num.zero w1), by unfold wl; rw [show Int.natAbs 0 = 0 from rfl, digs_zero]; simp⟩).mono ?_; rintro e w2 ⟨rfl, hE⟩; obtain ⟨m2, a2, n2, c2, y0, y1, y2, y3, -, y5⟩ := hE.2.2.1.facts; have Y5 := Lib.hid y5; have HE2 := Lib.hid hE; clear y5 hE)
    | (go_at_call 46; refine (result_any _ _ zs.sum Y5.out (by have := HE2.out.2.2.2; omega) (HE.out.below HE2.out.1 (Nat.le_refl _))).mono ?_; rintro e w4 ⟨v, rfl, rfl, hb4⟩; rw [HR.out]))
  go_ret2
  exact ⟨_, rfl, by rw [HR.out]; rfl, HE2.out.1.trans (hb4.mono HE2.out.1.size)⟩
end Go.Proofs.YtcjcknncajinpaaDoor
