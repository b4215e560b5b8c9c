/- The public functions at short numbers. -/
import Derived.Test.YtcjcknncajinpaaGreatDoorR8
import Derived.Test.YtcjcknncajinpaaGreatDoorIT
import Derived.Test.YtcjcknncajinpaaGreatDoorIU
namespace Go.Proofs.YtcjcknncajinpaaGreatDoor
open Go.RowKit
set_option maxRecDepth 100000

/-- The text is the numeral of an integer of at most so many digits. -/
structure Sm (s : ByteArray) (z : Int) (k : Nat) : Prop where
  good : Good s z
  le : dn z ≤ k
theorem big_dn {z : Int} (h : dn z ≤ 1024) : big z = false := by
  rw [big_digs, decide_eq_false_iff_not]; unfold dn at h; omega
theorem sm_of {s : ByteArray} (h1 : s.size ≤ 60) (h : chk s.data.toList = 0) : ∃ z, Sm s z 60 := by
  obtain ⟨z, hz⟩ := good_of h
  refine ⟨z, hz, ?_⟩
  have h2 := digs10_len z.natAbs
  have h3 : (Lib.decDigits z.natAbs).length ≤ (Lib.itoa z).length := by rw [itoa_cases]; split <;> simp
  have h4 : (Lib.itoa z).length = s.size := by rw [← hz.1, Lib.size_eq]
  unfold dn; omega
theorem dn_le {x y : Int} (h : x.natAbs ≤ y.natAbs) : dn x ≤ dn y := by unfold dn; exact digs_len_mono 10 (by omega) h
theorem dn_fdiv (x y : Int) (h : y ≠ 0) : dn (Int.fdiv x y) ≤ dn x + dn y + 1 := by
  have := digs_len_add 10 x.natAbs y.natAbs (by omega)
  have h2 := digs_len_mono 10 (by omega) (fdiv_abs x y h)
  unfold dn; omega
theorem dn_fmod (x y : Int) (h : y ≠ 0) : dn (Int.fmod x y) ≤ dn y := by
  have h2 := digs_len_mono 10 (by omega) (Nat.le_of_lt (fmod_abs x y h))
  unfold dn; omega

theorem add_sm (w : World) (s t : ByteArray) (x y : Int) (k l : Nat) (hx : Sm s x k) (hy : Sm t y l) (hk : k + l + 1 ≤ 1000) (he : Env w) :
    Calls Tryz.prog 13 #[.string s, .string t] w (Rets fun v w' => v = .tuple #[.string (txt (x + y)), .int .i64 0] ∧ Below w.heap.size w w' ∧ Sm (txt (x + y)) (x + y) (k + l + 1)) := by
  have hd : dn (x + y) ≤ k + l + 1 := by have := dn_add x y; have := hx.le; have := hy.le; omega
  have hb : big (x + y) = false := big_dn (by omega)
  refine (Add_ok w s t x y hx.good hy.good he).mono ?_
  rintro e w' ⟨v, rfl, rfl, hbl⟩
  exact ⟨_, rfl, by rw [resV_eq, resT_ok hb, resK_ok hb], hbl, ⟨rfl, hb⟩, hd⟩

theorem sub_sm (w : World) (s t : ByteArray) (x y : Int) (k l : Nat) (hx : Sm s x k) (hy : Sm t y l) (hk : k + l + 1 ≤ 1000) (he : Env w) :
    Calls Tryz.prog 15 #[.string s, .string t] w (Rets fun v w' => v = .tuple #[.string (txt (x - y)), .int .i64 0] ∧ Below w.heap.size w w' ∧ Sm (txt (x - y)) (x - y) (k + l + 1)) := by
  have hd : dn (x - y) ≤ k + l + 1 := by have := dn_sub x y; have := hx.le; have := hy.le; omega
  have hb : big (x - y) = false := big_dn (by omega)
  refine (Sub_ok w s t x y hx.good hy.good he).mono ?_
  rintro e w' ⟨v, rfl, rfl, hbl⟩
  exact ⟨_, rfl, by rw [resV_eq, resT_ok hb, resK_ok hb], hbl, ⟨rfl, hb⟩, hd⟩

theorem quo_sm (w : World) (s t : ByteArray) (x y : Int) (k l : Nat) (hx : Sm s x k) (hy : Sm t y l) (h0 : y ≠ 0) (hk : k + l + 1 ≤ 1000) (he : Env w) :
    Calls Tryz.prog 7 #[.string s, .string t] w (Rets fun v w' => v = .tuple #[.string (txt (Int.fdiv x y)), .int .i64 0] ∧ Below w.heap.size w w' ∧ Sm (txt (Int.fdiv x y)) (Int.fdiv x y) (k + l + 1)) := by
  have hd : dn (Int.fdiv x y) ≤ k + l + 1 := by have := dn_fdiv x y h0; have := hx.le; have := hy.le; omega
  have hb : big (Int.fdiv x y) = false := big_dn (by omega)
  refine (Quo_ok w s t x y hx.good hy.good h0 he).mono ?_
  rintro e w' ⟨v, rfl, rfl, hbl⟩
  exact ⟨_, rfl, by rw [resV_eq, resT_ok hb, resK_ok hb], hbl, ⟨rfl, hb⟩, hd⟩

theorem rem_sm (w : World) (s t : ByteArray) (x y : Int) (k l : Nat) (hx : Sm s x k) (hy : Sm t y l) (h0 : y ≠ 0) (hk : l ≤ 1000) (he : Env w) :
    Calls Tryz.prog 8 #[.string s, .string t] w (Rets fun v w' => v = .tuple #[.string (txt (Int.fmod x y)), .int .i64 0] ∧ Below w.heap.size w w' ∧ Sm (txt (Int.fmod x y)) (Int.fmod x y) (l)) := by
  have hd : dn (Int.fmod x y) ≤ l := by have := dn_fmod x y h0; have := hy.le; omega
  have hb : big (Int.fmod x y) = false := big_dn (by omega)
  refine (Rem_ok w s t x y hx.good hy.good h0 he).mono ?_
  rintro e w' ⟨v, rfl, rfl, hbl⟩
  exact ⟨_, rfl, by rw [resV_eq, resT_ok hb, resK_ok hb], hbl, ⟨rfl, hb⟩, hd⟩

theorem gcd_dn (x y : Int) {k l : Nat} (hx : dn x ≤ k) (hy : dn y ≤ l) : dn ((Nat.gcd x.natAbs y.natAbs : Nat) : Int) ≤ k + l := by
  rcases Nat.eq_zero_or_pos x.natAbs with h | h
  · rw [h, Nat.gcd_zero_left]
    have : dn ((y.natAbs : Nat) : Int) = dn y := by unfold dn; rw [Int.natAbs_natCast]
    omega
  · have h2 : Nat.gcd x.natAbs y.natAbs ≤ x.natAbs := Nat.le_of_dvd h (Nat.gcd_dvd_left _ _)
    have := dn_le (x := ((Nat.gcd x.natAbs y.natAbs : Nat) : Int)) (y := x) (by rw [Int.natAbs_natCast]; exact h2)
    omega
theorem gcd_sm (w : World) (s t : ByteArray) (x y : Int) (k l : Nat) (hx : Sm s x k) (hy : Sm t y l) (hk : k + l ≤ 1000) (he : Env w) :
    Calls Tryz.prog 10 #[.string s, .string t] w (Rets fun v w' => v = .tuple #[.string (txt (((Nat.gcd x.natAbs y.natAbs : Nat) : Int))), .int .i64 0] ∧ Below w.heap.size w w' ∧ Sm (txt (((Nat.gcd x.natAbs y.natAbs : Nat) : Int))) (((Nat.gcd x.natAbs y.natAbs : Nat) : Int)) (k + l)) := by
  have hd : dn (((Nat.gcd x.natAbs y.natAbs : Nat) : Int)) ≤ k + l := gcd_dn x y hx.le hy.le
  have hb : big (((Nat.gcd x.natAbs y.natAbs : Nat) : Int)) = false := big_dn (by omega)
  refine (Gcd_ok w s t x y hx.good hy.good he).mono ?_
  rintro e w' ⟨v, rfl, rfl, hbl⟩
  exact ⟨_, rfl, by rw [resV_eq, resT_ok hb, resK_ok hb], hbl, ⟨rfl, hb⟩, hd⟩

theorem neg_sm (w : World) (s : ByteArray) (x : Int) (k : Nat) (hx : Sm s x k) (hk : k ≤ 1000) (he : Env w) :
    Calls Tryz.prog 19 #[.string s] w (Rets fun v w' => v = .tuple #[.string (txt (-x)), .int .i64 0] ∧ Below w.heap.size w w' ∧ Sm (txt (-x)) (-x) k) := by
  have hd : dn (-x) ≤ k := by rw [dn_neg]; exact hx.le
  have hb : big (-x) = false := big_dn (by omega)
  refine (Neg_ok w s x hx.good he).mono ?_
  rintro e w' ⟨v, rfl, rfl, hbl⟩
  exact ⟨_, rfl, by rw [resV_eq, resT_ok hb, resK_ok hb], hbl, ⟨rfl, hb⟩, hd⟩

theorem abs_sm (w : World) (s : ByteArray) (x : Int) (k : Nat) (hx : Sm s x k) (hk : k ≤ 1000) (he : Env w) :
    Calls Tryz.prog 20 #[.string s] w (Rets fun v w' => v = .tuple #[.string (txt ((x.natAbs : Int))), .int .i64 0] ∧ Below w.heap.size w w' ∧ Sm (txt ((x.natAbs : Int))) ((x.natAbs : Int)) k) := by
  have hd : dn ((x.natAbs : Int)) ≤ k := by have := hx.le; unfold dn at *; rw [Int.natAbs_natCast]; exact this
  have hb : big ((x.natAbs : Int)) = false := big_dn (by omega)
  refine (Abs_ok w s x hx.good he).mono ?_
  rintro e w' ⟨v, rfl, rfl, hbl⟩
  exact ⟨_, rfl, by rw [resV_eq, resT_ok hb, resK_ok hb], hbl, ⟨rfl, hb⟩, hd⟩

theorem cmp_sm (w : World) (s t : ByteArray) (x y : Int) (k l : Nat) (hx : Sm s x k) (hy : Sm t y l) :
    Calls Tryz.prog 17 #[.string s, .string t] w (Rets fun v w' => v = .tuple #[.int .i64 (x - y).sign, .int .i64 0] ∧ Below w.heap.size w w') := Compare_ok w s t x y hx.good hy.good
theorem Sm.txt {s : ByteArray} {z : Int} {k : Nat} (h : Sm s z k) : s = txt z := h.good.eq
theorem sl3 (w : World) (s t u : ByteArray) (e : TypeId) : Sl eS (w.alloc (.cells #[.string s, .string t, .string u] e)) (.slice (some ⟨w.heap.size, 0, none⟩) 3 3) [s, t, u] :=
  Sl.ofOwns (n := 3) (base := 0) (e := e) ⟨rfl, .inr ⟨w.heap.size, 3, #[.string s, .string t, .string u], rfl, by omega, heap_alloc_new w _, by omega, by simp [maxLen], rfl, rfl⟩⟩
end Go.Proofs.YtcjcknncajinpaaGreatDoor
