/- The walk of integer's common (the greatest common divisor). -/
import Derived.Test.YtcjcknncajinpaaGreatDoorIO
namespace Go.Proofs.YtcjcknncajinpaaGreatDoor
open Go.RowKit
set_option maxRecDepth 100000

theorem Sl.unique {w : World} {v : Value} {xs ys : List Nat} (h : Sl eU w v xs) (h' : Sl eU w v ys) : xs = ys := by
  obtain ⟨a, b, o, c, rfl, ha, -, -, -, hx⟩ := h
  obtain ⟨a', b', o', c', he, ha', -, -, -, hx'⟩ := h'
  injection he with e1 e2 e3
  refine List.ext_getElem e2 fun i h1 h2 => ?_
  have p1 := ha (by omega)
  have p2 := ha' (by omega)
  rw [← e1, p1] at p2
  injection p2 with p2
  injection p2 with q1 q2
  have c1 := hx.2 i h1
  have c2 := hx'.2 i h2
  rw [← q1, ← q2, c1] at c2
  simp [eU] at c2
  exact_mod_cast c2
open Classical in
/-- The natural number that a slice value reads as. -/
noncomputable def rdN (w : World) (v : Value) : Nat := if h : ∃ n, Sl eU w v (digs 1000000000 n) then Classical.choose h else 0
theorem rdN_eq {w : World} {v : Value} {n : Nat} (h : Sl eU w v (digs 1000000000 n)) : rdN w v = n := by
  have hex : ∃ n, Sl eU w v (digs 1000000000 n) := ⟨n, h⟩
  unfold rdN
  rw [dif_pos hex]
  have := (Classical.choose_spec hex).unique h
  have e := congrArg (val 1000000000) this
  rwa [val_digs _ _ (by omega), val_digs _ _ (by omega)] at e

set_option maxHeartbeats 1000000 in
theorem common_any (w : World) (x y : Value) (p q : Nat) (hx : Sl eU w x (digs 1000000000 p)) (hy : Sl eU w y (digs 1000000000 q)) (hl : (digs 1000000000 p).length ≤ 1000000000000) (hl' : (digs 1000000000 q).length ≤ 1000000000000) :
    Calls Tryz.prog 37 #[x, y] w (Rets fun v w' => Sl eU w' v (digs 1000000000 (Nat.gcd p q)) ∧ Below w.heap.size w w') := by
  have HX := Lib.hid hx; have HY := Lib.hid hy; have HL := Lib.hid hl; have HL' := Lib.hid hl'
  clear hx hy hl hl'
  go_enter Tryz.func37, Tryz.ntmps37
  go_wp2
  go_loopw [0, 1] (fun x y wr => ∃ m k : Nat, Hid (Sl eU wr x (digs 1000000000 m)) ∧ Hid (Sl eU wr y (digs 1000000000 k)) ∧ Hid (Nat.gcd m k = Nat.gcd p q) ∧ Hid ((digs 1000000000 m).length ≤ 1000000000000) ∧ Hid ((digs 1000000000 k).length ≤ 1000000000000) ∧ Below w.heap.size w wr) (fun _ y wr => rdN wr y)
  case atStart => exact ⟨p, q, HX, HY, Lib.hid rfl, HL, HL', Below.refl _ _⟩
  case round =>
    obtain ⟨m, k, hm, hk, hg, h1, h2, hb⟩ := hrel
    obtain ⟨ay, ny, cy, rfl⟩ := hk.out.shape
    have hny := digs_pos_len k
    rw [← hk.out.len.1] at hny
    by_cases h0 : ny = 0
    · subst h0
      have hk0 : k = 0 := by omega
      have hg2 := hg.out
      rw [hk0, Nat.gcd_zero_right] at hg2
      have hm2 := hm.out
      rw [hg2] at hm2
      have HM2 := Lib.hid hm2
      clear hm2 hg2 hny hk0
      go_wp2
      go_ret
      exact ⟨_, rfl, HM2.out, hb⟩
    · have hkp : 0 < k := by omega
      have hpos : 0 < ny := by omega
      clear hny
      go_wp2_with (go_at_call 59; refine (divided_any _ _ _ m k hm.out hk.out hkp h1.out h2.out).mono ?_; rintro e w1 ⟨v, rfl, ⟨aq, ar, rfl, hq, hr⟩, hb1⟩; have HR := Lib.hid hr; clear hr hq)
      go_roundw
      case rel =>
        exact ⟨k, m % k, Lib.hid (hk.out.below hb1 (Nat.le_refl _)), HR, Lib.hid (by rw [← hg.out, Nat.gcd_comm m k, Nat.gcd_rec k m, Nat.gcd_comm]), h2,
          Lib.hid (Nat.le_trans (digs_len_mono _ (by omega) (Nat.le_of_lt (Nat.mod_lt m hkp))) h2.out), hb.trans (hb1.mono hb.size)⟩
      case measure => rw [rdN_eq HR.out, rdN_eq hk.out]; exact Nat.mod_lt m hkp
end Go.Proofs.YtcjcknncajinpaaGreatDoor
