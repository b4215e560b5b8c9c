/- The walk of integer's text of a natural number. -/
import Derived.Test.YtcjcknncajinpaaGreatDoorEnv
import Derived.Test.YtcjcknncajinpaaGreatDoorIG0
namespace Go.Proofs.YtcjcknncajinpaaGreatDoor
open Go.RowKit
set_option maxRecDepth 100000

theorem str_size (l : List UInt8) : (⟨l.toArray⟩ : ByteArray).size = l.length := by simp [ByteArray.size]

set_option maxHeartbeats 1000000 in
theorem text_any (w : World) (x : Value) (n : Nat) (hx : Sl eU w x (digs 1000000000 n)) (hl : (digs 1000000000 n).length ≤ 1000000000000) (he : Env w) :
    Calls Tryz.prog 39 #[x] w (Rets fun v w' => v = .string ⟨(Lib.decDigits n).toArray⟩ ∧ Below w.heap.size w w') := by
  have bx := digs_lt 1000000000 n (by omega)
  have vx := val_digs 1000000000 n (by omega)
  have lx := digs_last 1000000000 n (by omega)
  have nx := @digs_nil 1000000000 n (by omega)
  generalize digs 1000000000 n = xs at *
  obtain ⟨a, bl, o, c, rfl, hi, hp, -, -⟩ := hx.open elemNat
  have BX := Lib.hid bx; have VX := Lib.hid vx; have LX := Lib.hid lx; have NX := Lib.hid nx
  clear bx vx lx nx hx
  by_cases h0 : xs.length = 0
  · have hb0 : ((xs.length : Int) == 0) = true := by simp [h0]
    have H0 := Lib.hid h0; clear h0
    go_enter Tryz.func39, Tryz.ntmps39
    go_wp2
    go_ret
    refine ⟨_, rfl, ?_, Below.refl _ _⟩
    obtain rfl : n = 0 := NX.out.1 (List.length_eq_zero_iff.1 H0.out)
    have e : Lib.decDigits 0 = [48] := by rw [Lib.decDigits_one (by omega)]; rfl
    rw [e]
    rfl
  · have hb0 : ((xs.length : Int) == 0) = false := by simp; intro h; exact h0 (by simp [h])
    go_enter Tryz.func39, Tryz.ntmps39
    go_wp2
    have hbl := Bld.fresh w
    go_loopw [4] (fun iv wr => ∃ (k : Nat) (l : List UInt8), k ≤ xs.length ∧ iv = .int .i64 ((k : Int) - 1) ∧ (k = xs.length → l = []) ∧ (k < xs.length → l = Lib.decDigits (val 1000000000 (xs.drop k))) ∧ l.length ≤ 9 * (xs.length - k) ∧
        Bld w.heap.size w.heap.size l wr ∧ Below w.heap.size w wr) (fun iv _ => (intOf iv + 1).toNat)
    case atStart => exact ⟨xs.length, [], Nat.le_refl _, rfl, fun _ => rfl, fun h => by omega, by simp, hbl, (Below.refl _ w).alloc (Nat.le_refl _) _⟩
    case round =>
      clear hbl
      obtain ⟨k, l, hk, rfl, hl1, hl2, hl3, hbl, hb⟩ := hrel
      have HL1 := Lib.hid hl1; have HL2 := Lib.hid hl2
      clear hl1 hl2
      rcases k with _ | k
      · have hfin : l = Lib.decDigits n := by rw [HL2.out (by omega), List.drop_zero, VX.out]
        have HF := Lib.hid hfin; clear hfin
        go_wp2_with fail
        refine (string_any _ _ l wr hbl).mono ?_
        rintro e w' ⟨v, rfl, rfl, hb'⟩
        go_wp2
        go_ret
        exact ⟨_, rfl, congrArg (fun l => Value.string ⟨List.toArray l⟩) HF.out, hb.trans hb'⟩
      · have hlt : k < xs.length := by omega
        obtain ⟨u, hu⟩ : ∃ u, u = xs[k] := ⟨_, rfl⟩
        have hbx : u < 1000000000 := by rw [hu]; exact BX.out xs[k] (List.getElem_mem hlt)
        have h1 : wr.cell? ⟨bl, o + k, none⟩ = some (.int .u32 (u : Nat)) := by rw [hu]; exact hp.at hb (Nat.le_refl _) k hlt
        have HU := Lib.hid hu; clear hu
        have ek : (((k + 1 : Nat) : Int) - 1) = (k : Int) := by omega
        rw [ek]
        clear ek
        have henv := he.below hb (Nat.le_refl _)
        go_wp2_with fail
        refine (itoa_any (u : Int) (by omega) (by omega) wr henv).mono ?_
        rintro e w1 ⟨v, rfl, rfl, hb1⟩
        obtain ⟨s, hs⟩ : ∃ s : ByteArray, s = ⟨(Lib.itoa (u : Int)).toArray⟩ := ⟨_, rfl⟩
        rw [← hs]
        have hsd : s.data.toList = Lib.decDigits u := by rw [hs]; simp [Lib.itoa_nonneg]
        have hsz : s.size = Lib.nDigits u := by rw [hs, str_size, Lib.itoa_nonneg, Lib.decDigits_length]
        have hs9 : s.size ≤ 9 := by rw [hsz]; exact nDigits_le (k := 8) (by simpa using hbx)
        have HSD := Lib.hid hsd; have HSZ := Lib.hid hsz
        clear hs hsd hsz h1 henv
        have hbl1 := hbl.below hb1 (Nat.le_refl _)
        have hbw1 := hb.trans (hb1.mono hb.size)
        clear hbl hb hb1
        by_cases hlast : k + 1 = xs.length
        · have hnl : ¬ ((k : Int) < (xs.length : Int) - 1) := by omega
          have hl0 := HL1.out hlast
          subst hl0
          have HLast := Lib.hid hlast; clear hlast
          go_wp2_with fail
          refine (write_any _ _ [] s w1 hbl1 (by simp; omega)).mono ?_
          rintro e w2 ⟨v, rfl, rfl, hbl2, hb2⟩
          have hval : val 1000000000 (xs.drop k) = u := by
            rw [drop_eq xs k hlt, show xs.drop (k + 1) = [] by rw [List.drop_of_length_le (by have := HLast.out; omega)], ← HU.out]; simp [val]
          have HVal := Lib.hid hval; clear hval
          go_wp2
          go_roundw
          case rel => exact ⟨k, [] ++ s.data.toList, by omega, rfl, fun h => by omega, fun _ => by rw [HVal.out, HSD.out]; rfl, by rw [HSD.out, List.nil_append, Lib.decDigits_length, ← HSZ.out]; omega, hbl2, hbw1.trans hb2⟩
          case measure => simp [intOf]
        · have hnl : (k : Int) < (xs.length : Int) - 1 := by omega
          have hl0 := HL2.out (by omega)
          have HL0 := Lib.hid hl0; clear hl0
          have hlk : k + 1 < xs.length := by omega
          clear hlast
          have hc9 : ((9 : Int) - (s.size : Int)) = ((9 - s.size : Nat) : Int) := by omega
          go_wp2_with fail
          refine (repeat_any ⟨#[48]⟩ (9 - s.size) w1 (by omega) (by show 1 * (9 - s.size) ≤ _; omega)).mono ?_
          rintro e w2 ⟨v, rfl, rfl, hb2⟩
          obtain ⟨z, hz⟩ : ∃ z : ByteArray, z = ⟨(Lib.repeatL (⟨#[48]⟩ : ByteArray).data.toList (9 - s.size)).toArray⟩ := ⟨_, rfl⟩
          rw [← hz]
          have hzd : z.data.toList = List.replicate (9 - s.size) 48 := by rw [hz]; have := Lib.repeatL_replicate 48 1 (9 - s.size); simpa using this
          have hzs : z.size = 9 - s.size := by rw [hz, str_size, Lib.repeatL_length]; exact Nat.mul_one _
          have hzl : z.size ≤ 9 := by omega
          have HZD := Lib.hid hzd; have HZS := Lib.hid hzs
          clear hz hzd hzs hc9
          have hbl2 := hbl1.below hb2 (Nat.le_refl _)
          have hbw2 := hbw1.trans (hb2.mono hbw1.size)
          clear hbl1 hbw1 hb2
          go_wp2_with fail
          refine (write_any _ _ l z w2 hbl2 (by omega)).mono ?_
          rintro e w3 ⟨v, rfl, rfl, hbl3, hb3⟩
          go_wp2_with fail
          refine (write_any _ _ _ s w3 hbl3 (by rw [List.length_append, Array.length_toList]; show l.length + z.size + s.size ≤ _; omega)).mono ?_
          rintro e w4 ⟨v, rfl, rfl, hbl4, hb4⟩
          have hval : (l ++ z.data.toList) ++ s.data.toList = Lib.decDigits (val 1000000000 (xs.drop k)) := by
            rw [drop_eq xs k hlt, ← HU.out, val, dec_words u _ hbx (val_drop_pos _ xs (k + 1) hlk LX.out (by omega)), HL0.out, HZD.out, HSD.out, HSZ.out, Lib.decDigits_length, List.append_assoc]
          have HVal := Lib.hid hval
          have hlen : ((l ++ z.data.toList) ++ s.data.toList).length ≤ 9 * (xs.length - k) := by
            rw [List.length_append, List.length_append, Array.length_toList, Array.length_toList]
            show l.length + z.size + s.size ≤ _
            have := HZS.out
            omega
          have HLen := Lib.hid hlen
          clear hval hlen
          go_wp2
          go_roundw
          case rel => exact ⟨k, _, by omega, rfl, fun h => by omega, fun _ => HVal.out, HLen.out, hbl4, (hbw2.trans hb3).trans hb4⟩
          case measure => simp [intOf]
end Go.Proofs.YtcjcknncajinpaaGreatDoor
