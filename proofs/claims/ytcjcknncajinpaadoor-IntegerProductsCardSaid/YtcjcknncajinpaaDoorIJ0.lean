/- The walk of integer's quotient, rounded down, and remainder. -/
import Derived.Test.YtcjcknncajinpaaDoorII
namespace Go.Proofs.YtcjcknncajinpaaDoor
open Go.RowKit
set_option maxRecDepth 100000

theorem floor_of (s t q r : Int) (ht : t ≠ 0) (h : r + t * q = s) (hr : (0 ≤ r ∧ r < t) ∨ (t < r ∧ r ≤ 0)) : q = Int.fdiv s t ∧ r = Int.fmod s t := by
  rcases Int.lt_or_gt_of_ne ht with h0 | h0
  · have := (Int.fdiv_fmod_unique' (a := s) (b := t) (r := r) (q := q) h0).2 ⟨h, by omega, by omega⟩
    exact ⟨this.1.symm, this.2.symm⟩
  · have := (Int.fdiv_fmod_unique (a := s) (b := t) (r := r) (q := q) h0).2 ⟨h, by omega, by omega⟩
    exact ⟨this.1.symm, this.2.symm⟩
theorem down_exact (s t : Int) (ht : t ≠ 0) (h : decide (s < 0) = decide (t < 0) ∨ s.natAbs % t.natAbs = 0) :
    sg (decide (s < 0) != decide (t < 0)) (s.natAbs / t.natAbs) = Int.fdiv s t ∧ sg (decide (t < 0)) (s.natAbs % t.natAbs) = Int.fmod s t := by
  have hm := Nat.div_add_mod s.natAbs t.natAbs
  have hl := Nat.mod_lt s.natAbs (show 0 < t.natAbs by omega)
  generalize s.natAbs / t.natAbs = q at *
  generalize s.natAbs % t.natAbs = r at *
  have key : (s.natAbs : Int) = (t.natAbs : Int) * q + r := by rw [← hm]; simp
  refine floor_of s t _ _ ht ?_ ?_
  · rcases Int.lt_or_le s 0 with hs | hs <;> rcases Int.lt_or_le t 0 with h2 | h2
    · rw [Int.ofNat_natAbs_of_nonpos (by omega), Int.ofNat_natAbs_of_nonpos (by omega), Int.neg_mul] at key
      simp [sg, hs, h2]; omega
    · rw [Int.ofNat_natAbs_of_nonpos (by omega), Int.natAbs_of_nonneg h2] at key
      have hr : r = 0 := by rcases h with h | h; simp [hs, show ¬ t < 0 by omega] at h; exact h
      simp [sg, hs, show ¬ t < 0 by omega, hr, Int.mul_neg] at key ⊢; omega
    · rw [Int.ofNat_natAbs_of_nonpos (show t ≤ 0 by omega), Int.natAbs_of_nonneg hs, Int.neg_mul] at key
      have hr : r = 0 := by rcases h with h | h; simp [h2, show ¬ s < 0 by omega] at h; exact h
      simp [sg, h2, show ¬ s < 0 by omega, hr, Int.mul_neg] at key ⊢; omega
    · rw [Int.natAbs_of_nonneg hs, Int.natAbs_of_nonneg h2] at key
      simp [sg, show ¬ s < 0 by omega, show ¬ t < 0 by omega]; omega
  · by_cases h2 : t < 0 <;> simp [sg, h2] <;> omega
theorem down_rest (s t : Int) (ht : t ≠ 0) (h : decide (s < 0) ≠ decide (t < 0)) (hr : s.natAbs % t.natAbs ≠ 0) :
    sg true (s.natAbs / t.natAbs + 1) = Int.fdiv s t ∧ sg (decide (t < 0)) (t.natAbs - s.natAbs % t.natAbs) = Int.fmod s t := by
  have hm := Nat.div_add_mod s.natAbs t.natAbs
  have hl := Nat.mod_lt s.natAbs (show 0 < t.natAbs by omega)
  generalize s.natAbs / t.natAbs = q at *
  generalize s.natAbs % t.natAbs = r at *
  have key : (s.natAbs : Int) = (t.natAbs : Int) * q + r := by rw [← hm]; simp
  have e1 : sg true (q + 1) = -((q : Int) + 1) := by simp [sg]
  rw [e1]
  refine floor_of s t _ _ ht ?_ ?_
  · rcases Int.lt_or_le s 0 with hs | hs <;> rcases Int.lt_or_le t 0 with h2 | h2
    · simp [hs, h2] at h
    · rw [Int.ofNat_natAbs_of_nonpos (by omega), Int.natAbs_of_nonneg h2] at key
      have e2 : sg (decide (t < 0)) (t.natAbs - r) = t - r := by simp [sg, show ¬ t < 0 by omega]; omega
      rw [e2, Int.mul_neg, Int.mul_add, Int.mul_one]; omega
    · rw [Int.ofNat_natAbs_of_nonpos (show t ≤ 0 by omega), Int.natAbs_of_nonneg hs, Int.neg_mul] at key
      have e2 : sg (decide (t < 0)) (t.natAbs - r) = t + r := by simp [sg, h2]; omega
      rw [e2, Int.mul_neg, Int.mul_add, Int.mul_one]; omega
    · simp [show ¬ s < 0 by omega, show ¬ t < 0 by omega] at h
  · by_cases h2 : t < 0 <;> simp [sg, h2] <;> omega

/-- A box that holds a number, whichever. -/
def Bx (w : World) (g : Nat) : Prop := ∃ p q, Blk w g [p, q] 64 ∧ (∀ n, p ≠ eU n) ∧ (∀ n, q ≠ eU n)
theorem Bx.below {w w' : World} {g B : Nat} (h : Bx w g) (hb : Below B w w') (hB : w.heap.size ≤ B) : Bx w' g := by
  obtain ⟨p, q, h, hp, hq⟩ := h; exact ⟨p, q, h.below hb hB, hp, hq⟩
theorem Bx.facts {w : World} {g : Nat} (h : Bx w g) : ∃ p q, w.cell? ⟨g, 0, none⟩ = some p ∧ w.cell? ⟨g, 1, none⟩ = some q ∧ w.frozen? ⟨g, 0, none⟩ = false ∧ w.frozen? ⟨g, 1, none⟩ = false := by
  obtain ⟨p, q, h, hp, hq⟩ := h; exact ⟨p, q, h.cell 0 _ rfl, h.cell 1 _ rfl, h.free 0, h.free 1⟩
theorem Bx.self {w : World} {g : Nat} (h : Bx w g) (b : Bool) (v : Option Addr) (k l : Nat) : Bx ((w.setCell ⟨g, 0, none⟩ (.bool b)).setCell ⟨g, 1, none⟩ (.slice v k l)) g := by
  obtain ⟨p, q, h, hp, hq⟩ := h; exact ⟨_, _, (h.set 0 _).set 1 _, by simp [eU], by simp [eU]⟩
theorem Bx.other {w : World} {g g' : Nat} (h : Bx w g) (hne : g ≠ g') (b : Bool) (v : Option Addr) (k l : Nat) : Bx ((w.setCell ⟨g', 0, none⟩ (.bool b)).setCell ⟨g', 1, none⟩ (.slice v k l)) g := by
  obtain ⟨p, q, h, hp, hq⟩ := h; exact ⟨p, q, (h.setCell hne _).setCell hne _, hp, hq⟩
theorem Bx.sl {w : World} {g : Nat} {x : Value} {xs : List Nat} (h : Bx w g) (hs : Sl eU w x xs) (b : Bool) (v : Option Addr) (k l : Nat) : Sl eU ((w.setCell ⟨g, 0, none⟩ (.bool b)).setCell ⟨g, 1, none⟩ (.slice v k l)) x xs := by
  obtain ⟨p, q, h, hp, hq⟩ := h
  have h1 := h.set 0 (.bool b)
  refine (hs.set_other h ?_ _).set_other h1 ?_ _
  · intro x hx; simp at hx; rcases hx with rfl | rfl; exact hp; exact hq
  · intro x hx n; simp at hx; rcases hx with rfl | rfl; simp [eU]; exact hq n
theorem Bx.read {w : World} {g : Nat} (h : Bx w g) (b : Bool) (v : Option Addr) (k l : Nat) : ((w.setCell ⟨g, 0, none⟩ (.bool b)).setCell ⟨g, 1, none⟩ (.slice v k l)).cell? ⟨g, 0, none⟩ = some (.bool b) ∧ ((w.setCell ⟨g, 0, none⟩ (.bool b)).setCell ⟨g, 1, none⟩ (.slice v k l)).cell? ⟨g, 1, none⟩ = some (.slice v k l) := by
  obtain ⟨p, q, h, hp, hq⟩ := h
  have h2 := (h.set 0 (.bool b)).set 1 (.slice v k l)
  exact ⟨h2.cell 0 _ rfl, h2.cell 1 _ rfl⟩

/-- The divisor in its box, two boxes for the results, and what is read. -/
structure DB (w : World) (m : Bool) (a : Option Addr) (n c : Nat) (m' : Bool) (a' : Option Addr) (n' c' : Nat) (T : Nat) (q : Value) (Q : Nat) (r : Value) (R : Nat) (w' : World) : Prop where
  below : Below w.heap.size w w'
  bx : Blk w' w.heap.size [.bool m, .slice a n c] 64
  bt : Blk w' (w.heap.size + 1) [.bool m', .slice a' n' c'] 64
  b1 : Bx w' (w.heap.size + 1 + 1)
  b2 : Bx w' (w.heap.size + 1 + 1 + 1)
  st : Sl eU w' (.slice a' n' c') (digs 1000000000 T)
  sq : Sl eU w' q (digs 1000000000 Q)
  sr : Sl eU w' r (digs 1000000000 R)
section
variable {w w1 w2 : World} {m : Bool} {a : Option Addr} {n c : Nat} {m' : Bool} {a' : Option Addr} {n' c' : Nat} {T : Nat} {q : Value} {Q : Nat} {r : Value} {R : Nat}
theorem DB.keep (h : DB w m a n c m' a' n' c' T q Q r R w1) (hb : Below w1.heap.size w1 w2) : DB w m a n c m' a' n' c' T q Q r R w2 :=
  have l := Nat.le_refl w1.heap.size
  ⟨h.below.trans (hb.mono h.below.size), h.bx.below hb l, h.bt.below hb l, h.b1.below hb l, h.b2.below hb l, h.st.below hb l, h.sq.below hb l, h.sr.below hb l⟩
theorem DB.drew (h : DB w m a n c m' a' n' c' T q Q r R w1) : DB w m a n c m' a' n' c' T q Q r R w1.drew := h.keep (Below.refl _ _).drew
theorem DB.alloc (h : DB w m a n c m' a' n' c' T q Q r R w1) (o : Obj) : DB w m a n c m' a' n' c' T q Q r R (w1.alloc o) := h.keep ((Below.refl _ _).alloc (Nat.le_refl _) _)
theorem DB.store1 (h : DB w m a n c m' a' n' c' T q Q r R w1) (b : Bool) (v : Option Addr) (k l : Nat) : DB w m a n c m' a' n' c' T q Q r R ((w1.setCell ⟨w.heap.size + 1 + 1, 0, none⟩ (.bool b)).setCell ⟨w.heap.size + 1 + 1, 1, none⟩ (.slice v k l)) :=
  ⟨(h.below.setCell (by simp; omega) _).setCell (by simp; omega) _, (h.bx.setCell (by omega) _).setCell (by omega) _, (h.bt.setCell (by omega) _).setCell (by omega) _, h.b1.self _ _ _ _, h.b2.other (by omega) _ _ _ _, h.b1.sl h.st _ _ _ _, h.b1.sl h.sq _ _ _ _, h.b1.sl h.sr _ _ _ _⟩
theorem DB.store2 (h : DB w m a n c m' a' n' c' T q Q r R w1) (b : Bool) (v : Option Addr) (k l : Nat) : DB w m a n c m' a' n' c' T q Q r R ((w1.setCell ⟨w.heap.size + 1 + 1 + 1, 0, none⟩ (.bool b)).setCell ⟨w.heap.size + 1 + 1 + 1, 1, none⟩ (.slice v k l)) :=
  ⟨(h.below.setCell (by simp; omega) _).setCell (by simp; omega) _, (h.bx.setCell (by omega) _).setCell (by omega) _, (h.bt.setCell (by omega) _).setCell (by omega) _, h.b1.other (by omega) _ _ _ _, h.b2.self _ _ _ _, h.b2.sl h.st _ _ _ _, h.b2.sl h.sq _ _ _ _, h.b2.sl h.sr _ _ _ _⟩
theorem DB.facts (h : DB w m a n c m' a' n' c' T q Q r R w1) : w1.cell? ⟨w.heap.size, 0, none⟩ = some (.bool m) ∧ w1.cell? ⟨w.heap.size, 1, none⟩ = some (.slice a n c) ∧ w1.cell? ⟨w.heap.size + 1, 0, none⟩ = some (.bool m') ∧ w1.cell? ⟨w.heap.size + 1, 1, none⟩ = some (.slice a' n' c') :=
  ⟨h.bx.cell 0 _ rfl, h.bx.cell 1 _ rfl, h.bt.cell 0 _ rfl, h.bt.cell 1 _ rfl⟩
theorem DB.both (h : DB w m a n c m' a' n' c' T q Q r R w1) : DB w m a n c m' a' n' c' T q Q r R w1 ∧ (w1.cell? ⟨w.heap.size, 0, none⟩ = some (.bool m) ∧ w1.cell? ⟨w.heap.size, 1, none⟩ = some (.slice a n c) ∧ w1.cell? ⟨w.heap.size + 1, 0, none⟩ = some (.bool m') ∧ w1.cell? ⟨w.heap.size + 1, 1, none⟩ = some (.slice a' n' c')) := ⟨h, h.facts⟩
theorem DB.store (h : DB w m a n c m' a' n' c' T q Q r R w1) (g : Nat) (hg : g = w.heap.size + 1 + 1 ∨ g = w.heap.size + 1 + 1 + 1) (b : Bool) (v : Option Addr) (k l : Nat) : DB w m a n c m' a' n' c' T q Q r R ((w1.setCell ⟨g, 0, none⟩ (.bool b)).setCell ⟨g, 1, none⟩ (.slice v k l)) := by
  rcases hg with rfl | rfl
  · exact h.store1 _ _ _ _
  · exact h.store2 _ _ _ _
/-- Behind both stores: the results, and what they read. -/
theorem DB.stored (h : DB w m a n c m' a' n' c' T q Q r R w1) (b1 : Bool) (v1 : Option Addr) (k1 l1 : Nat) (b2 : Bool) (v2 : Option Addr) (k2 l2 : Nat) {w2 : World}
    (e : w2 = ((((w1.setCell ⟨w.heap.size + 1 + 1, 0, none⟩ (.bool b1)).setCell ⟨w.heap.size + 1 + 1, 1, none⟩ (.slice v1 k1 l1)).setCell ⟨w.heap.size + 1 + 1 + 1, 0, none⟩ (.bool b2)).setCell ⟨w.heap.size + 1 + 1 + 1, 1, none⟩ (.slice v2 k2 l2))) :
    w2.cell? ⟨w.heap.size + 1 + 1, 0, none⟩ = some (.bool b1) ∧ w2.cell? ⟨w.heap.size + 1 + 1, 1, none⟩ = some (.slice v1 k1 l1) ∧ w2.cell? ⟨w.heap.size + 1 + 1 + 1, 0, none⟩ = some (.bool b2) ∧ w2.cell? ⟨w.heap.size + 1 + 1 + 1, 1, none⟩ = some (.slice v2 k2 l2) ∧
    Below w.heap.size w w2 ∧ ∀ x xs, Sl eU w1 x xs → Sl eU w2 x xs := by
  subst e
  have h1 := h.store1 b1 v1 k1 l1
  have h2 := h1.store2 b2 v2 k2 l2
  refine ⟨?_, ?_, ?_, ?_, h2.below, fun x xs hx => h1.b2.sl (h.b1.sl hx _ _ _ _) _ _ _ _⟩
  · obtain ⟨p, q, hb, -, -⟩ := h.b1
    exact (((hb.set 0 (.bool b1)).set 1 (.slice v1 k1 l1)).setCell (by omega) _ |>.setCell (by omega) _).cell 0 _ rfl
  · obtain ⟨p, q, hb, -, -⟩ := h.b1
    exact (((hb.set 0 (.bool b1)).set 1 (.slice v1 k1 l1)).setCell (by omega) _ |>.setCell (by omega) _).cell 1 _ rfl
  · exact (h1.b2.read b2 v2 k2 l2).1
  · exact (h1.b2.read b2 v2 k2 l2).2
end

def DownOf (s t : Int) (v : Value) (w' : World) : Prop := ∃ q r, v = .tuple #[q, r] ∧ Num w' q (Int.fdiv s t) ∧ Num w' r (Int.fmod s t)

end Go.Proofs.YtcjcknncajinpaaDoor
