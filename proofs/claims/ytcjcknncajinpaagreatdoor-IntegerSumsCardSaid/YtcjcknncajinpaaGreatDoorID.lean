/- The walk of integer's comparison of natural numbers, and of the quotient by one word. -/
import Derived.Test.YtcjcknncajinpaaGreatDoorIA
namespace Go.Proofs.YtcjcknncajinpaaGreatDoor
open Go.RowKit
set_option maxRecDepth 100000

theorem val_split (B : Nat) (l : List Nat) (i : Nat) (h : i < l.length) : val B l = val B (l.take i) + B ^ i * l[i] + B ^ (i + 1) * val B (l.drop (i + 1)) := by
  conv => lhs; rw [← List.take_append_drop (i + 1) l]
  rw [val_append, take_snoc l i h, val_snoc]
  simp only [List.length_append, List.length_take, List.length_cons, List.length_nil, Nat.zero_add, Nat.min_eq_left (Nat.le_of_lt h)]
theorem lt_of_digit (B : Nat) (xs ys : List Nat) (i : Nat) (h : i < xs.length) (h' : i < ys.length) (bx : ∀ a ∈ xs, a < B) (hd : xs.drop (i + 1) = ys.drop (i + 1)) (hlt : xs[i] < ys[i]) : val B xs < val B ys := by
  rw [val_split B xs i h, val_split B ys i h', hd]
  have h1 := val_lt B (xs.take i) (mem_take bx)
  rw [List.length_take_of_le (by omega)] at h1
  have h2 := Nat.mul_le_mul_left (B ^ i) (show xs[i] + 1 ≤ ys[i] from hlt)
  rw [Nat.mul_add, Nat.mul_one] at h2
  omega
theorem lt_of_len (B a b : Nat) (hB : 2 ≤ B) (h : (digs B a).length < (digs B b).length) : a < b := by
  rcases Nat.lt_or_ge a b with h1 | h1
  · exact h1
  · have := digs_len_mono B hB h1; omega
theorem drop_eq {α : Type} (l : List α) (i : Nat) (h : i < l.length) : l.drop i = l[i] :: l.drop (i + 1) := List.drop_eq_getElem_cons h

set_option maxHeartbeats 1000000 in
theorem compare_any (w : World) (x y : Value) (a b : Nat) (hx : Sl eU w x (digs 1000000000 a)) (hy : Sl eU w y (digs 1000000000 b)) 
    (hl : (digs 1000000000 a).length ≤ 1099511627776) (hl' : (digs 1000000000 b).length ≤ 1099511627776) :
    Calls Tryz.prog 69 #[x, y] w (Rets fun v w' => (∃ r : Int, v = .int .i64 r ∧ (r < 0 ↔ a < b) ∧ (r = 0 ↔ a = b)) ∧ Below w.heap.size w w') := by
  have hla : ∀ m, (digs 1000000000 m).length < (digs 1000000000 a).length → m < a := fun m h => lt_of_len _ _ _ (by omega) h
  have hlb : (digs 1000000000 a).length < (digs 1000000000 b).length → a < b := fun h => lt_of_len _ _ _ (by omega) h
  have ba := digs_lt 1000000000 a (by omega)
  have bb := digs_lt 1000000000 b (by omega)
  have va := val_digs 1000000000 a (by omega)
  have vb := val_digs 1000000000 b (by omega)
  generalize digs 1000000000 a = xs at *
  replace hla := hla b
  generalize digs 1000000000 b = ys at *
  obtain ⟨ad, bl, o, c, rfl, hi, hp, -, -⟩ := hx.open elemNat
  obtain ⟨a', b', o', c', rfl, hi', hq, -, -⟩ := hy.open elemNat
  have HLA := Lib.hid hla; clear hla
  have HLB := Lib.hid hlb; clear hlb
  have BX := Lib.hid ba; clear ba hx
  have BY := Lib.hid bb; clear bb hy
  have VA := Lib.hid va; clear va
  have VB := Lib.hid vb; clear vb
  by_cases hlen : xs.length = ys.length
  · have hne : ((xs.length : Int) != (ys.length : Int)) = false := by simp [hlen]
    have HLen := Lib.hid hlen; clear hlen
    go_enter Tryz.func69, Tryz.ntmps69
    go_wp2
    go_loopw [5] (fun i wr => ∃ k : Nat, k ≤ xs.length ∧ i = .int .i64 ((k : Int) - 1) ∧ xs.drop k = ys.drop k ∧ Below w.heap.size w wr) (fun i _ => (intOf i + 1).toNat)
    case atStart => exact ⟨xs.length, Nat.le_refl _, rfl, by rw [List.drop_of_length_le (Nat.le_refl _), HLen.out, List.drop_of_length_le (Nat.le_refl _)], Below.refl _ _⟩
    case round =>
      obtain ⟨k, hk, rfl, hd, hb⟩ := hrel
      have HD := Lib.hid hd; clear hd
      rcases k with _ | k
      · have heq : a = b := by
          have := HD.out
          simp only [List.drop_zero] at this
          rw [← VA.out, ← VB.out, this]
        have HE := Lib.hid heq; clear heq
        go_wp2
        go_ret
        exact ⟨_, rfl, ⟨_, rfl, by have := HE.out; omega, by have := HE.out; omega⟩, hb⟩
      · have hk2 : k < ys.length := by rw [← HLen.out]; omega
        have h1 : wr.cell? ⟨bl, o + k, none⟩ = some (.int .u32 (xs[k] : Nat)) := hp.at hb (Nat.le_refl _) k (by omega)
        have h2 : wr.cell? ⟨b', o' + k, none⟩ = some (.int .u32 (ys[k] : Nat)) := hq.at hb (Nat.le_refl _) k hk2
        have hbx := BX.out xs[k] (List.getElem_mem (by omega))
        have hby := BY.out ys[k] (List.getElem_mem hk2)
        have ek : (((k + 1 : Nat) : Int) - 1) = (k : Int) := by omega
        by_cases he : xs[k] = ys[k]
        · have hb1 : ((xs[k] : Int) != (ys[k] : Int)) = false := by simp [he]
          have HEK := Lib.hid he; clear he
          rw [ek]
          clear ek
          go_wp2
          go_quiet (fail)
          go_wp2
          go_roundw
          case rel => exact ⟨k, by omega, rfl, by rw [drop_eq xs k (by omega), drop_eq ys k hk2, HD.out, HEK.out], below_drewN hb _⟩
          case measure => simp [intOf]
        · have hb1 : ((xs[k] : Int) != (ys[k] : Int)) = true := by simp; omega
          have hfin : (xs[k] < ys[k] → a < b) ∧ (ys[k] < xs[k] → b < a) := by
            rw [← VA.out, ← VB.out]
            exact ⟨fun h => lt_of_digit _ xs ys k (by omega) hk2 BX.out HD.out h, fun h => lt_of_digit _ ys xs k hk2 (by omega) BY.out HD.out.symm h⟩
          have HF := Lib.hid hfin; clear hfin
          rw [ek]
          clear ek
          go_wp2
          go_quiet (fail)
          go_wp2
          go_quiet (fail)
          go_wp2
          go_ret
          exact ⟨_, rfl, ⟨_, rfl, by have := HF.out; omega, by have := HF.out; omega⟩, below_drewN (below_drewN hb _) _⟩
  · have hne : ((xs.length : Int) != (ys.length : Int)) = true := by simp; omega
    go_enter Tryz.func69, Tryz.ntmps69
    go_wp2
    go_ret
    refine ⟨_, rfl, ⟨_, rfl, ?_, ?_⟩, Below.refl _ _⟩
    · have := HLA.out; have := HLB.out; omega
    · have := HLA.out; have := HLB.out; omega

/-- One step of the quotient by a word. -/
theorem short_step (B : Nat) (xs os : List Nat) (k d r : Nat) (hk : k < xs.length) (ho : val B (xs.drop (k + 1)) = d * val B os + r) :
    val B (xs.drop k) = d * val B ((r * B + xs[k]) / d :: os) + (r * B + xs[k]) % d := by
  rw [drop_eq xs k hk, val, val, ho]
  have h1 := Nat.div_add_mod (r * B + xs[k]) d
  have h2 : d * ((r * B + xs[k]) / d + B * val B os) = d * ((r * B + xs[k]) / d) + B * (d * val B os) := by
    rw [Nat.mul_add]; congr 1; rw [← Nat.mul_assoc, ← Nat.mul_assoc, Nat.mul_comm d B]
  rw [h2, Nat.mul_add, Nat.mul_comm B r]
  omega
theorem short_lt (B d r x : Nat) (hr : r < d) (hx : x < B) : (r * B + x) / d < B := by
  rw [Nat.div_lt_iff_lt_mul (by omega)]
  have := Nat.mul_le_mul_right B (show r + 1 ≤ d from hr)
  rw [Nat.add_mul] at this
  rw [Nat.mul_comm B d]
  omega
theorem fill_down {α : Type} (os : List α) (k : Nat) (z d : α) : (List.replicate (k + 1) z ++ os).set k d = List.replicate k z ++ (d :: os) := by
  rw [List.replicate_succ', List.append_assoc, List.set_append_right _ _ (by simp)]
  simp

set_option maxHeartbeats 1000000 in
theorem short_any (w : World) (x : Value) (xs : List Nat) (d : Nat) (hx : Sl eU w x xs) (bx : ∀ a ∈ xs, a < 1000000000) (hd : 0 < d) (hd' : d < 1000000000)
    (hl : xs.length ≤ 1099511627776) :
    Calls Tryz.prog 79 #[x, .int .u32 d] w (Rets fun v w' => (∃ q r, v = .tuple #[q, r] ∧ Sl eU w' q (digs 1000000000 (val 1000000000 xs / d)) ∧ Sl eU w' r (digs 1000000000 (val 1000000000 xs % d))) ∧ Below w.heap.size w w') := by
  obtain ⟨ad, bl, o, c, rfl, hi, hp, -, -⟩ := hx.open elemNat
  have BX := Lib.hid bx; clear bx hx
  go_enter Tryz.func79, Tryz.ntmps79
  go_wp2_with (at_make; refine mkN elemNat rfl _ _ rfl xs.length rfl rfl rfl rfl (by omega) (by unfold maxLen; omega) (Below.refl _ _) (Nat.le_refl _) rfl ?_; intro w1 hown hb hb2; clear hb2)
  have hown := ownsRow_cast hown rfl (show List.replicate xs.length (Value.int .u32 0) = (List.replicate xs.length 0 ++ ([] : List Nat)).map eU by simp [eU])
  go_loopw [7, 8] (fun rest i wr => ∃ (k r : Nat) (os : List Nat), k ≤ xs.length ∧ i = .int .i64 ((k : Int) - 1) ∧ rest = .int .u64 r ∧ r < d ∧ os.length = xs.length - k ∧ (∀ a ∈ os, a < 1000000000) ∧ val 1000000000 (xs.drop k) = d * val 1000000000 os + r ∧
      wr.ownsRow w.heap.size 75 1 (.slice (some ⟨w.heap.size, 0, none⟩) xs.length xs.length) xs.length ((List.replicate k 0 ++ os).map eU) ∧ Below w.heap.size w wr) (fun _ i _ => (intOf i + 1).toNat)
  case atStart => exact ⟨xs.length, 0, [], Nat.le_refl _, rfl, rfl, hd, by simp, by simp, by simp [val], hown, hb⟩
  case round =>
    clear hown hb
    obtain ⟨k, r, os, hk, rfl, rfl, hr, hol, hos, hv, hown, hb⟩ := hrel
    have HOL := Lib.hid hol; clear hol
    have HOS := Lib.hid hos; clear hos
    have HV := Lib.hid hv; clear hv
    rcases k with _ | k
    · have hsl : Sl eU wr (.slice (some ⟨w.heap.size, 0, none⟩) xs.length xs.length) os := Sl.ofOwns (n := xs.length) (by simpa using hown)
      have hv := HV.out
      simp only [List.drop_zero] at hv
      have hq : val 1000000000 os = val 1000000000 xs / d := by rw [hv, Nat.mul_add_div hd, Nat.div_eq_of_lt hr, Nat.add_zero]
      have hr' : r = val 1000000000 xs % d := by rw [hv, Nat.mul_add_mod, Nat.mod_eq_of_lt hr]
      have HQ := Lib.hid hq; clear hq hv
      have HR := Lib.hid hr'; clear hr'
      go_wp2_with fail
      refine (trimmed_any _ _ _ hsl).mono ?_
      rintro e w' ⟨v3, rfl, hs3, rfl⟩
      go_wp2_with fail
      have hsl2 : Sl eU (wr.alloc (.cells #[.int .u32 (r : Int)] 75)) (.slice (some ⟨wr.heap.size, 0, none⟩) 1 1) [r] := Sl.ofOwns (n := 1) (base := 0) (e := 75) ⟨rfl, .inr ⟨wr.heap.size, 1, #[.int .u32 r], rfl, by omega, heap_alloc_new wr _, by omega, by simp [maxLen], rfl, rfl⟩⟩
      refine (trimmed_any _ _ _ hsl2).mono ?_
      rintro e w' ⟨v4, rfl, hs4, rfl⟩
      go_wp2
      go_ret2
      refine ⟨_, rfl, ⟨_, _, rfl, ?_, ?_⟩, hb.alloc hb.size _⟩
      · rw [← trim_of 1000000000 os _ (by omega) HOS.out HQ.out]
        exact hs3.below ((Below.refl _ wr).alloc (Nat.le_refl _) _) (Nat.le_refl _)
      · rw [← trim_of 1000000000 [r] _ (by omega) (fun a ha => by rw [List.mem_singleton.1 ha]; omega) (by have := HR.out; show r + 1000000000 * 0 = _; omega)]
        exact hs4
    · have hlt : k < xs.length := by omega
      have hbx := BX.out xs[k] (List.getElem_mem hlt)
      have h1 : wr.cell? ⟨bl, o + k, none⟩ = some (.int .u32 (xs[k] : Nat)) := hp.at hb (Nat.le_refl _) k hlt
      have hik : k < (List.replicate (k + 1) 0 ++ os).length := by simp; omega
      have hcu : wr.cell? ⟨w.heap.size, k, none⟩ = some (.int .u32 ((List.replicate (k + 1) 0 ++ os)[k] : Nat)) := (own_get hown hik).1
      have hfu := (own_get hown hik).2
      have ek : (((k + 1 : Nat) : Int) - 1) = (k : Int) := by omega
      have hstep := short_step 1000000000 xs os k d r hlt HV.out
      have HS := Lib.hid hstep; clear hstep
      have hqn := short_lt 1000000000 d r xs[k] hr hbx
      have hrn := Nat.mod_lt (r * 1000000000 + xs[k]) hd
      have hq1 : ((r : Int) * 1000000000 + (xs[k] : Int)) / (d : Int) < 1000000000 := Int.ofNat_lt.2 hqn
      have hq0 : 0 ≤ ((r : Int) * 1000000000 + (xs[k] : Int)) / (d : Int) := Int.ediv_nonneg (by omega) (by omega)
      rw [ek]
      clear ek
      go_wp2
      go_roundw
      case rel =>
        have R := fun (u : Value) (hu : u = eU _) => own_put hown hb (Nat.le_refl _) k ((r * 1000000000 + xs[k]) / d) u hu
        rw [fill_down] at R
        exact ⟨k, (r * 1000000000 + xs[k]) % d, ((r * 1000000000 + xs[k]) / d) :: os, by omega, rfl, congrArg (Value.int .u64) (by simp), hrn, by have := HOL.out; simp; omega,
          fun a ha => by rcases List.mem_cons.1 ha with h | h; exact h ▸ hqn; exact HOS.out a h, HS.out, (R _ (congrArg (Value.int .u32) (by simp))).1, (R _ (congrArg (Value.int .u32) (by simp))).2⟩
      case measure => simp [intOf]
end Go.Proofs.YtcjcknncajinpaaGreatDoor
