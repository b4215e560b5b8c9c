/- Plain law: the coefficients of the greatest common divisor, by Euclid's divisions. -/
import Derived.Test.YtcjcknncajinpaaGreatDoorIW
namespace Go.Proofs.YtcjcknncajinpaaGreatDoor

/-- x is the least coefficient, not negative, of a. -/
def IsCo (a b x : Int) : Prop := 0 ≤ x ∧ x * (Int.gcd a b : Int) < b.natAbs ∧ ∃ k, a * x - (Int.gcd a b : Int) = b * k
theorem co_unique {a b x y : Int} (hb : b ≠ 0) (hx : IsCo a b x) (hy : IsCo a b y) : x = y := by
  obtain ⟨hx0, hx1, k, hk⟩ := hx
  obtain ⟨hy0, hy1, l, hl⟩ := hy
  have hg : 0 < Int.gcd a b := Int.gcd_pos_of_ne_zero_right _ hb
  obtain ⟨a', ha⟩ : (Int.gcd a b : Int) ∣ a := Int.gcd_dvd_left ..
  obtain ⟨b', hb'⟩ : (Int.gcd a b : Int) ∣ b := Int.gcd_dvd_right ..
  have hco : Int.gcd a' b' = 1 := by
    have h := Int.gcd_mul_left (Int.gcd a b : Int) a' b'
    rw [← ha, ← hb'] at h
    simp only [Int.natAbs_natCast] at h
    have : Int.gcd a b * 1 = Int.gcd a b * Int.gcd a' b' := by rw [Nat.mul_one]; exact h
    exact (Nat.eq_of_mul_eq_mul_left hg this).symm
  generalize hgg : (Int.gcd a b : Int) = g at *
  have hgp : 0 < g := by omega
  have h1 : a' * (x - y) = b' * (k - l) := by
    have : g * (a' * (x - y)) = g * (b' * (k - l)) := by
      have e1 : g * (a' * (x - y)) = a * x - a * y := by rw [← Int.mul_assoc, ← ha, Int.mul_sub]
      have e2 : g * (b' * (k - l)) = b * k - b * l := by rw [← Int.mul_assoc, ← hb', Int.mul_sub]
      rw [e1, e2]; omega
    exact Int.eq_of_mul_eq_mul_left (by omega) this
  have h2 : b' ∣ (x - y) := by
    have h3 : b'.natAbs ∣ a'.natAbs * (x - y).natAbs := by rw [← Int.natAbs_mul, Int.natAbs_dvd_natAbs]; exact ⟨k - l, h1⟩
    refine Int.natAbs_dvd_natAbs.1 (Nat.Coprime.dvd_of_dvd_mul_left (k := b'.natAbs) (m := a'.natAbs) ?_ h3)
    rw [Nat.coprime_comm]; exact hco
  obtain ⟨m, hm⟩ := h2
  have h3 : (x - y) * g = b * m := by rw [hm, hb']; grind
  have h4 : ((x - y) * g).natAbs < b.natAbs := by
    have : (x - y) * g = x * g - y * g := Int.sub_mul ..
    have h5 : 0 ≤ x * g := Int.mul_nonneg hx0 (by omega)
    have h6 : 0 ≤ y * g := Int.mul_nonneg hy0 (by omega)
    omega
  rw [h3, Int.natAbs_mul] at h4
  have hm0 : m = 0 := by
    rcases Nat.eq_zero_or_pos m.natAbs with h | h
    · omega
    · have := Nat.le_mul_of_pos_right b.natAbs h; omega
  rw [hm0] at hm
  omega

/-- What the divisions keep. -/
structure CoInv (a M r rest s nx : Int) : Prop where
  pos : 0 < M
  r0 : 0 ≤ r
  rM : r ≤ M
  e0 : 0 ≤ rest
  eM : rest ≤ M
  g : Int.gcd r rest = Int.gcd a M
  co : ∃ k, a * s - r = M * k
  no : ∃ k, a * nx - rest = M * k
  sz : (s.natAbs : Int) * rest + (nx.natAbs : Int) * r ≤ M
  sM : (s.natAbs : Int) ≤ M
  nM : (nx.natAbs : Int) ≤ M
theorem gcd_fmod (a m : Int) : Int.gcd (Int.fmod a m) m = Int.gcd a m := by
  have h := Int.fmod_add_mul_fdiv a m
  have : Int.gcd (Int.fmod a m + m * Int.fdiv a m) m = Int.gcd (Int.fmod a m) m := by
    rw [Int.gcd_comm, Int.gcd_add_mul_left_right, Int.gcd_comm]
  rw [← this, h]
theorem fmod_bd (x y : Int) (h : 0 < y) : 0 ≤ Int.fmod x y ∧ Int.fmod x y < y := ⟨Int.fmod_nonneg_of_pos _ h, Int.fmod_lt_of_pos _ h⟩
theorem CoInv.start (a M : Int) (h : 0 < M) : CoInv a M (Int.fmod a M) M 1 0 := by
  have h1 := fmod_bd a M h
  refine ⟨h, h1.1, by omega, by omega, by omega, gcd_fmod a M, ⟨Int.fdiv a M, ?_⟩, ⟨-1, by simp⟩, by simp, by simp; omega, by simp; omega⟩
  have := Int.fmod_add_mul_fdiv a M; omega
theorem CoInv.step {a M r rest s nx : Int} (h : CoInv a M r rest s nx) (hr : rest ≠ 0) : CoInv a M rest (Int.fmod r rest) nx (s - Int.fdiv r rest * nx) := by
  obtain ⟨pos, r0, rM, e0, eM, g, ⟨k, co⟩, ⟨l, no⟩, sz, sM, nM⟩ := h
  have hp : 0 < rest := by omega
  have h1 := fmod_bd r rest hp
  have h2 := Int.fmod_add_mul_fdiv r rest
  have hq : 0 ≤ Int.fdiv r rest := Int.fdiv_nonneg r0 e0
  generalize Int.fmod r rest = m at *
  generalize Int.fdiv r rest = q at *
  have habs : ((s - q * nx).natAbs : Int) ≤ s.natAbs + q * nx.natAbs := by
    have : ((q * nx).natAbs : Int) = q * nx.natAbs := by rw [Int.natAbs_mul, Int.natCast_mul, Int.natAbs_of_nonneg hq]
    omega
  have hsz : (nx.natAbs : Int) * m + ((s - q * nx).natAbs : Int) * rest ≤ M := by
    have e1 : ((s - q * nx).natAbs : Int) * rest ≤ (s.natAbs + q * nx.natAbs) * rest := Int.mul_le_mul_of_nonneg_right habs e0
    have e2 : m = r - rest * q := by omega
    have e3 : (nx.natAbs : Int) * m + (s.natAbs + q * nx.natAbs) * rest = s.natAbs * rest + nx.natAbs * r := by rw [e2]; grind
    omega
  refine ⟨pos, e0, eM, h1.1, by omega, ?_, ⟨l, no⟩, ⟨k - q * l, ?_⟩, hsz, nM, ?_⟩
  · rw [← g]
    have h3 : Int.gcd r rest = Int.gcd (m + rest * q) rest := by rw [h2]
    rw [h3, Int.gcd_comm (m + rest * q), Int.gcd_add_mul_left_right]
  · have e : a * (s - q * nx) - m = (a * s - r) - q * (a * nx - rest) := by
      have : m = r - rest * q := by omega
      rw [this]; grind
    rw [e, co, no]; grind
  · have e1 : 0 ≤ (nx.natAbs : Int) * m := Int.mul_nonneg (by omega) h1.1
    have e2 : ((s - q * nx).natAbs : Int) * 1 ≤ ((s - q * nx).natAbs : Int) * rest := Int.mul_le_mul_of_nonneg_left (by omega) (by omega)
    omega
theorem CoInv.stop {a M r s nx : Int} (h : CoInv a M r 0 s nx) : r = Int.gcd a M ∧ 0 < r ∧ 0 < Int.fdiv M r ∧ Int.fdiv M r * r = M ∧
    (0 ≤ Int.fmod s (Int.fdiv M r) ∧ Int.fmod s (Int.fdiv M r) * r < M ∧ ∃ k, a * Int.fmod s (Int.fdiv M r) - r = M * k) := by
  obtain ⟨pos, r0, rM, e0, eM, g, ⟨k, co⟩, -, sz, sM, nM⟩ := h
  have hr : r = Int.gcd a M := by
    rw [← g, Int.gcd_zero_right]; omega
  have hgp : 0 < Int.gcd a M := Int.gcd_pos_of_ne_zero_right _ (by omega)
  have hrp : 0 < r := by omega
  obtain ⟨a', ha⟩ : r ∣ a := by rw [hr]; exact Int.gcd_dvd_left ..
  obtain ⟨m', hm'⟩ : r ∣ M := by rw [hr]; exact Int.gcd_dvd_right ..
  have hd : Int.fdiv M r = m' := by rw [hm', Int.mul_fdiv_cancel_left _ (by omega)]
  have hmp : 0 < m' := by
    rcases Int.lt_or_le 0 m' with h | h
    · exact h
    · have := Int.mul_le_mul_of_nonneg_left h (show 0 ≤ r by omega); rw [← hm', Int.mul_zero] at this; omega
  have h1 := fmod_bd s m' hmp
  have h2 := Int.fmod_add_mul_fdiv s m'
  rw [hd]
  generalize Int.fmod s m' = x at *
  generalize Int.fdiv s m' = t at *
  refine ⟨hr, hrp, hmp, by rw [hm', Int.mul_comm], h1.1, ?_, ⟨k - a' * t, ?_⟩⟩
  · rw [hm', Int.mul_comm r]; exact Int.mul_lt_mul_of_pos_right h1.2 hrp
  · have e : x = s - m' * t := by omega
    have e2 : a * x - r = (a * s - r) - a * m' * t := by rw [e]; grind
    rw [e2, co, ha]
    have e3 : r * a' * m' * t = M * (a' * t) := by rw [hm']; grind
    rw [e3, Int.mul_sub]
theorem CoInv.isCo {a b x : Int} (h : 0 ≤ x ∧ x * (Int.gcd a b.natAbs : Int) < (b.natAbs : Int) ∧ ∃ k, a * x - (Int.gcd a b.natAbs : Int) = (b.natAbs : Int) * k) : IsCo a b x := by
  obtain ⟨h0, h1, k, hk⟩ := h
  have e : Int.gcd a (b.natAbs : Int) = Int.gcd a b := by simp [Int.gcd]
  rw [e] at h1 hk
  refine ⟨h0, h1, ?_⟩
  rcases Int.lt_or_le b 0 with hb | hb
  · exact ⟨-k, by rw [hk, Int.ofNat_natAbs_of_nonpos (by omega)]; grind⟩
  · exact ⟨k, by rw [hk, Int.natAbs_of_nonneg hb]⟩
open Classical in
/-- The coefficient of a that Bezout returns. -/
noncomputable def cox (a b : Int) : Int := if h : ∃ x, IsCo a b x then Classical.choose h else 0
theorem cox_eq {a b x : Int} (hb : b ≠ 0) (h : IsCo a b x) : cox a b = x := by
  have hex : ∃ x, IsCo a b x := ⟨x, h⟩
  unfold cox
  rw [dif_pos hex]
  exact co_unique hb (Classical.choose_spec hex) h
end Go.Proofs.YtcjcknncajinpaaGreatDoor
