/- The walk of integer's quotient, rounded down, and remainder. The walk of integer's number.down. -/
import Derived.Test.YtlnhocgjgmhfgaaGreatDoorPk21
namespace Go.Proofs.YtlnhocgjgmhfgaaGreatDoor
open Go.RowKit
set_option maxRecDepth 100000

theorem floor_of (s t q r : Int) (ht : t ≠ 0) (h : r + t * q = s) (hr : (0 ≤ r ∧ r < t) ∨ (t < r ∧ r ≤ 0)) : q = Int.fdiv s t ∧ r = Int.fmod s t := by
  rcases Int.lt_or_gt_of_ne ht with h0 | h0
  · have := (Int.fdiv_fmod_unique' (a := s) (b := t) (r := r) (q := q) h0).2 ⟨h, by omega, by omega⟩
    exact ⟨this.1.symm, this.2.symm⟩
  · have := (Int.fdiv_fmod_unique (a := s) (b := t) (r := r) (q := q) h0).2 ⟨h, by omega, by omega⟩
    exact ⟨this.1.symm, this.2.symm⟩
theorem down_exact (s t : Int) (ht : t ≠ 0) (h : decide (s < 0) = decide (t < 0) ∨ s.natAbs % t.natAbs = 0) :
    sg (decide (s < 0) != decide (t < 0)) (s.natAbs / t.natAbs) = Int.fdiv s t ∧ sg (decide (t < 0)) (s.natAbs % t.natAbs) = Int.fmod s t := by
  have hm := Nat.div_add_mod s.natAbs t.natAbs
  have hl := Nat.mod_lt s.natAbs (show 0 < t.natAbs by omega)
  generalize s.natAbs / t.natAbs = q at *
  generalize s.natAbs % t.natAbs = r at *
  have key : (s.natAbs : Int) = (t.natAbs : Int) * q + r := by rw [← hm]; simp
  refine floor_of s t _ _ ht ?_ ?_
  · rcases Int.lt_or_le s 0 with hs | hs <;> rcases Int.lt_or_le t 0 with h2 | h2
    · rw [Int.ofNat_natAbs_of_nonpos (by omega), Int.ofNat_natAbs_of_nonpos (by omega), Int.neg_mul] at key
      simp [sg, hs, h2]; omega
    · rw [Int.ofNat_natAbs_of_nonpos (by omega), Int.natAbs_of_nonneg h2] at key
      have hr : r = 0 := by rcases h with h | h; simp [hs, show ¬ t < 0 by omega] at h; exact h
      simp [sg, hs, show ¬ t < 0 by omega, hr, Int.mul_neg] at key ⊢; omega
    · rw [Int.ofNat_natAbs_of_nonpos (show t ≤ 0 by omega), Int.natAbs_of_nonneg hs, Int.neg_mul] at key
      have hr : r = 0 := by rcases h with h | h; simp [h2, show ¬ s < 0 by omega] at h; exact h
      simp [sg, h2, show ¬ s < 0 by omega, hr, Int.mul_neg] at key ⊢; omega
    · rw [Int.natAbs_of_nonneg hs, Int.natAbs_of_nonneg h2] at key
      simp [sg, show ¬ s < 0 by omega, show ¬ t < 0 by omega]; omega
  · by_cases h2 : t < 0 <;> simp [sg, h2] <;> omega
theorem down_rest (s t : Int) (ht : t ≠ 0) (h : decide (s < 0) ≠ decide (t < 0)) (hr : s.natAbs % t.natAbs ≠ 0) :
    sg true (s.natAbs / t.natAbs + 1) = Int.fdiv s t ∧ sg (decide (t < 0)) (t.natAbs - s.natAbs % t.natAbs) = Int.fmod s t := by
  have hm := Nat.div_add_mod s.natAbs t.natAbs
  have hl := Nat.mod_lt s.natAbs (show 0 < t.natAbs by omega)
  generalize s.natAbs / t.natAbs = q at *
  generalize s.natAbs % t.natAbs = r at *
  have key : (s.natAbs : Int) = (t.natAbs : Int) * q + r := by rw [← hm]; simp
  have e1 : sg true (q + 1) = -((q : Int) + 1) := by simp [sg]
  rw [e1]
  refine floor_of s t _ _ ht ?_ ?_
  · rcases Int.lt_or_le s 0 with hs | hs <;> rcases Int.lt_or_le t 0 with h2 | h2
    · simp [hs, h2] at h
    · rw [Int.ofNat_natAbs_of_nonpos (by omega), Int.natAbs_of_nonneg h2] at key
      have e2 : sg (decide (t < 0)) (t.natAbs - r) = t - r := by simp [sg, show ¬ t < 0 by omega]; omega
      rw [e2, Int.mul_neg, Int.mul_add, Int.mul_one]; omega
    · rw [Int.ofNat_natAbs_of_nonpos (show t ≤ 0 by omega), Int.natAbs_of_nonneg hs, Int.neg_mul] at key
      have e2 : sg (decide (t < 0)) (t.natAbs - r) = t + r := by simp [sg, h2]; omega
      rw [e2, Int.mul_neg, Int.mul_add, Int.mul_one]; omega
    · simp [show ¬ s < 0 by omega, show ¬ t < 0 by omega] at h
  · by_cases h2 : t < 0 <;> simp [sg, h2] <;> omega

/-- A box that holds a number, whichever. -/
def Bx (w : World) (g : Nat) : Prop := ∃ p q, Blk w g [p, q] 138 ∧ (∀ n, p ≠ eU n) ∧ (∀ n, q ≠ eU n)
theorem Bx.below {w w' : World} {g B : Nat} (h : Bx w g) (hb : Below B w w') (hB : w.heap.size ≤ B) : Bx w' g := by
  obtain ⟨p, q, h, hp, hq⟩ := h; exact ⟨p, q, h.below hb hB, hp, hq⟩
theorem Bx.facts {w : World} {g : Nat} (h : Bx w g) : ∃ p q, w.cell? ⟨g, 0, none⟩ = some p ∧ w.cell? ⟨g, 1, none⟩ = some q ∧ w.frozen? ⟨g, 0, none⟩ = false ∧ w.frozen? ⟨g, 1, none⟩ = false := by
  obtain ⟨p, q, h, hp, hq⟩ := h; exact ⟨p, q, h.cell 0 _ rfl, h.cell 1 _ rfl, h.free 0, h.free 1⟩
theorem Bx.self {w : World} {g : Nat} (h : Bx w g) (b : Bool) (v : Option Addr) (k l : Nat) : Bx ((w.setCell ⟨g, 0, none⟩ (.bool b)).setCell ⟨g, 1, none⟩ (.slice v k l)) g := by
  obtain ⟨p, q, h, hp, hq⟩ := h; exact ⟨_, _, (h.set 0 _).set 1 _, by simp [eU], by simp [eU]⟩
theorem Bx.other {w : World} {g g' : Nat} (h : Bx w g) (hne : g ≠ g') (b : Bool) (v : Option Addr) (k l : Nat) : Bx ((w.setCell ⟨g', 0, none⟩ (.bool b)).setCell ⟨g', 1, none⟩ (.slice v k l)) g := by
  obtain ⟨p, q, h, hp, hq⟩ := h; exact ⟨p, q, (h.setCell hne _).setCell hne _, hp, hq⟩
theorem Bx.sl {w : World} {g : Nat} {x : Value} {xs : List Nat} (h : Bx w g) (hs : Sl eU w x xs) (b : Bool) (v : Option Addr) (k l : Nat) : Sl eU ((w.setCell ⟨g, 0, none⟩ (.bool b)).setCell ⟨g, 1, none⟩ (.slice v k l)) x xs := by
  obtain ⟨p, q, h, hp, hq⟩ := h
  have h1 := h.set 0 (.bool b)
  refine (hs.set_other h ?_ _).set_other h1 ?_ _
  · intro x hx; simp at hx; rcases hx with rfl | rfl; exact hp; exact hq
  · intro x hx n; simp at hx; rcases hx with rfl | rfl; simp [eU]; exact hq n
theorem Bx.read {w : World} {g : Nat} (h : Bx w g) (b : Bool) (v : Option Addr) (k l : Nat) : ((w.setCell ⟨g, 0, none⟩ (.bool b)).setCell ⟨g, 1, none⟩ (.slice v k l)).cell? ⟨g, 0, none⟩ = some (.bool b) ∧ ((w.setCell ⟨g, 0, none⟩ (.bool b)).setCell ⟨g, 1, none⟩ (.slice v k l)).cell? ⟨g, 1, none⟩ = some (.slice v k l) := by
  obtain ⟨p, q, h, hp, hq⟩ := h
  have h2 := (h.set 0 (.bool b)).set 1 (.slice v k l)
  exact ⟨h2.cell 0 _ rfl, h2.cell 1 _ rfl⟩

/-- The divisor in its box, two boxes for the results, and what is read. -/
structure DB (w : World) (m : Bool) (a : Option Addr) (n c : Nat) (m' : Bool) (a' : Option Addr) (n' c' : Nat) (T : Nat) (q : Value) (Q : Nat) (r : Value) (R : Nat) (w' : World) : Prop where
  below : Below w.heap.size w w'
  bx : Blk w' w.heap.size [.bool m, .slice a n c] 138
  bt : Blk w' (w.heap.size + 1) [.bool m', .slice a' n' c'] 138
  b1 : Bx w' (w.heap.size + 1 + 1)
  b2 : Bx w' (w.heap.size + 1 + 1 + 1)
  st : Sl eU w' (.slice a' n' c') (digs 1000000000 T)
  sq : Sl eU w' q (digs 1000000000 Q)
  sr : Sl eU w' r (digs 1000000000 R)
section
variable {w w1 w2 : World} {m : Bool} {a : Option Addr} {n c : Nat} {m' : Bool} {a' : Option Addr} {n' c' : Nat} {T : Nat} {q : Value} {Q : Nat} {r : Value} {R : Nat}
theorem DB.keep (h : DB w m a n c m' a' n' c' T q Q r R w1) (hb : Below w1.heap.size w1 w2) : DB w m a n c m' a' n' c' T q Q r R w2 :=
  have l := Nat.le_refl w1.heap.size
  ⟨h.below.trans (hb.mono h.below.size), h.bx.below hb l, h.bt.below hb l, h.b1.below hb l, h.b2.below hb l, h.st.below hb l, h.sq.below hb l, h.sr.below hb l⟩
theorem DB.drew (h : DB w m a n c m' a' n' c' T q Q r R w1) : DB w m a n c m' a' n' c' T q Q r R w1.drew := h.keep (Below.refl _ _).drew
theorem DB.alloc (h : DB w m a n c m' a' n' c' T q Q r R w1) (o : Obj) : DB w m a n c m' a' n' c' T q Q r R (w1.alloc o) := h.keep ((Below.refl _ _).alloc (Nat.le_refl _) _)
theorem DB.store1 (h : DB w m a n c m' a' n' c' T q Q r R w1) (b : Bool) (v : Option Addr) (k l : Nat) : DB w m a n c m' a' n' c' T q Q r R ((w1.setCell ⟨w.heap.size + 1 + 1, 0, none⟩ (.bool b)).setCell ⟨w.heap.size + 1 + 1, 1, none⟩ (.slice v k l)) :=
  ⟨(h.below.setCell (by simp; omega) _).setCell (by simp; omega) _, (h.bx.setCell (by omega) _).setCell (by omega) _, (h.bt.setCell (by omega) _).setCell (by omega) _, h.b1.self _ _ _ _, h.b2.other (by omega) _ _ _ _, h.b1.sl h.st _ _ _ _, h.b1.sl h.sq _ _ _ _, h.b1.sl h.sr _ _ _ _⟩
theorem DB.store2 (h : DB w m a n c m' a' n' c' T q Q r R w1) (b : Bool) (v : Option Addr) (k l : Nat) : DB w m a n c m' a' n' c' T q Q r R ((w1.setCell ⟨w.heap.size + 1 + 1 + 1, 0, none⟩ (.bool b)).setCell ⟨w.heap.size + 1 + 1 + 1, 1, none⟩ (.slice v k l)) :=
  ⟨(h.below.setCell (by simp; omega) _).setCell (by simp; omega) _, (h.bx.setCell (by omega) _).setCell (by omega) _, (h.bt.setCell (by omega) _).setCell (by omega) _, h.b1.other (by omega) _ _ _ _, h.b2.self _ _ _ _, h.b2.sl h.st _ _ _ _, h.b2.sl h.sq _ _ _ _, h.b2.sl h.sr _ _ _ _⟩
theorem DB.facts (h : DB w m a n c m' a' n' c' T q Q r R w1) : w1.cell? ⟨w.heap.size, 0, none⟩ = some (.bool m) ∧ w1.cell? ⟨w.heap.size, 1, none⟩ = some (.slice a n c) ∧ w1.cell? ⟨w.heap.size + 1, 0, none⟩ = some (.bool m') ∧ w1.cell? ⟨w.heap.size + 1, 1, none⟩ = some (.slice a' n' c') :=
  ⟨h.bx.cell 0 _ rfl, h.bx.cell 1 _ rfl, h.bt.cell 0 _ rfl, h.bt.cell 1 _ rfl⟩
theorem DB.both (h : DB w m a n c m' a' n' c' T q Q r R w1) : DB w m a n c m' a' n' c' T q Q r R w1 ∧ (w1.cell? ⟨w.heap.size, 0, none⟩ = some (.bool m) ∧ w1.cell? ⟨w.heap.size, 1, none⟩ = some (.slice a n c) ∧ w1.cell? ⟨w.heap.size + 1, 0, none⟩ = some (.bool m') ∧ w1.cell? ⟨w.heap.size + 1, 1, none⟩ = some (.slice a' n' c')) := ⟨h, h.facts⟩
theorem DB.store (h : DB w m a n c m' a' n' c' T q Q r R w1) (g : Nat) (hg : g = w.heap.size + 1 + 1 ∨ g = w.heap.size + 1 + 1 + 1) (b : Bool) (v : Option Addr) (k l : Nat) : DB w m a n c m' a' n' c' T q Q r R ((w1.setCell ⟨g, 0, none⟩ (.bool b)).setCell ⟨g, 1, none⟩ (.slice v k l)) := by
  rcases hg with rfl | rfl
  · exact h.store1 _ _ _ _
  · exact h.store2 _ _ _ _
/-- Behind both stores: the results, and what they read. -/
theorem DB.stored (h : DB w m a n c m' a' n' c' T q Q r R w1) (b1 : Bool) (v1 : Option Addr) (k1 l1 : Nat) (b2 : Bool) (v2 : Option Addr) (k2 l2 : Nat) {w2 : World}
    (e : w2 = ((((w1.setCell ⟨w.heap.size + 1 + 1, 0, none⟩ (.bool b1)).setCell ⟨w.heap.size + 1 + 1, 1, none⟩ (.slice v1 k1 l1)).setCell ⟨w.heap.size + 1 + 1 + 1, 0, none⟩ (.bool b2)).setCell ⟨w.heap.size + 1 + 1 + 1, 1, none⟩ (.slice v2 k2 l2))) :
    w2.cell? ⟨w.heap.size + 1 + 1, 0, none⟩ = some (.bool b1) ∧ w2.cell? ⟨w.heap.size + 1 + 1, 1, none⟩ = some (.slice v1 k1 l1) ∧ w2.cell? ⟨w.heap.size + 1 + 1 + 1, 0, none⟩ = some (.bool b2) ∧ w2.cell? ⟨w.heap.size + 1 + 1 + 1, 1, none⟩ = some (.slice v2 k2 l2) ∧
    Below w.heap.size w w2 ∧ ∀ x xs, Sl eU w1 x xs → Sl eU w2 x xs := by
  subst e
  have h1 := h.store1 b1 v1 k1 l1
  have h2 := h1.store2 b2 v2 k2 l2
  refine ⟨?_, ?_, ?_, ?_, h2.below, fun x xs hx => h1.b2.sl (h.b1.sl hx _ _ _ _) _ _ _ _⟩
  · obtain ⟨p, q, hb, -, -⟩ := h.b1
    exact (((hb.set 0 (.bool b1)).set 1 (.slice v1 k1 l1)).setCell (by omega) _ |>.setCell (by omega) _).cell 0 _ rfl
  · obtain ⟨p, q, hb, -, -⟩ := h.b1
    exact (((hb.set 0 (.bool b1)).set 1 (.slice v1 k1 l1)).setCell (by omega) _ |>.setCell (by omega) _).cell 1 _ rfl
  · exact (h1.b2.read b2 v2 k2 l2).1
  · exact (h1.b2.read b2 v2 k2 l2).2
end

def DownOf (s t : Int) (v : Value) (w' : World) : Prop := ∃ q r, v = .tuple #[q, r] ∧ Num w' q (Int.fdiv s t) ∧ Num w' r (Int.fmod s t)

end Go.Proofs.YtlnhocgjgmhfgaaGreatDoor
namespace Go.Proofs.YtlnhocgjgmhfgaaGreatDoor
open Go.RowKit
set_option maxRecDepth 100000
set_option maxHeartbeats 1000000 in
theorem down_any (w : World) (x y : Value) (s t : Int) (hx : Num w x s) (hy : Num w y t) (ht : t ≠ 0) (hl : wl s ≤ 1000000000000) (hl' : wl t ≤ 1000000000000) :
    Calls Tryz.prog 153 #[x, y] w (Rets fun v w' => DownOf s t v w' ∧ Below w.heap.size w w') := by
  obtain ⟨m, a, n, c, rfl, hm, hs⟩ := hx
  obtain ⟨m', a', n', c', rfl, hm', hs'⟩ := hy
  have HX := Lib.hid hs; have HY := Lib.hid hs'; have HM := Lib.hid hm; have HM' := Lib.hid hm'
  clear hs hs' hm hm'
  unfold wl at hl hl'
  have htn : 0 < t.natAbs := by omega
  go_enter Tryz.func153, Tryz.ntmps153
  go_wp2_with fail
  have hb0 : Below w.heap.size w ((((w.alloc (.cells #[.bool m, .slice a n c] 138)).alloc (.cells #[.bool m', .slice a' n' c'] 138)).alloc (.cells #[.bool false, .slice none 0 0] 138)).alloc (.cells #[.bool false, .slice none 0 0] 138)) :=
    ((((Below.refl _ w).alloc (Nat.le_refl _) _).alloc (by simp) _).alloc (by simp; omega) _).alloc (by simp; omega) _
  refine (divided_any _ _ _ s.natAbs t.natAbs (HX.out.below hb0 (Nat.le_refl _)) (HY.out.below hb0 (Nat.le_refl _)) htn hl hl').mono ?_
  rintro e w1 ⟨v, rfl, ⟨q, r, rfl, hq, hr⟩, hb1⟩
  obtain ⟨aq, nq, cq, rfl⟩ := hq.shape
  obtain ⟨ar, nr, cr, rfl⟩ := hr.shape
  have hnr := hr.len.1
  have hnr0 : nr = 0 ↔ s.natAbs % t.natAbs = 0 := by
    have := digs_pos_len (s.natAbs % t.natAbs)
    rw [← hnr] at this; omega
  have hDB : DB w m a n c m' a' n' c' t.natAbs (.slice aq nq cq) (s.natAbs / t.natAbs) (.slice ar nr cr) (s.natAbs % t.natAbs) w1 := by
    have h1 := Blk.new w [.bool m, .slice a n c] 138
    have h2 := Blk.new (w.alloc (.cells #[.bool m, .slice a n c] 138)) [.bool m', .slice a' n' c'] 138
    have h3 := Blk.new ((w.alloc (.cells #[.bool m, .slice a n c] 138)).alloc (.cells #[.bool m', .slice a' n' c'] 138)) [.bool false, .slice none 0 0] 138
    have h4 := Blk.new (((w.alloc (.cells #[.bool m, .slice a n c] 138)).alloc (.cells #[.bool m', .slice a' n' c'] 138)).alloc (.cells #[.bool false, .slice none 0 0] 138)) [.bool false, .slice none 0 0] 138
    rw [World.size_alloc] at h2
    rw [World.size_alloc, World.size_alloc] at h3
    rw [World.size_alloc, World.size_alloc, World.size_alloc] at h4
    have l := Nat.le_refl
    exact ⟨hb0.trans (hb1.mono (by simp; omega)), (((h1.alloc _).alloc _).alloc _).below hb1 (l _), ((h2.alloc _).alloc _).below hb1 (l _), ⟨_, _, (h3.alloc _).below hb1 (l _), by simp [eU], by simp [eU]⟩, ⟨_, _, h4.below hb1 (l _), by simp [eU], by simp [eU]⟩,
      (HY.out.below hb0 (l _)).below hb1 (l _), hq, hr⟩
  have fx := hDB.facts
  have f1 := fx.1
  have f2 := fx.2.1
  have f3 := fx.2.2.1
  have f4 := fx.2.2.2
  have HDB := Lib.hid hDB
  have HNR := Lib.hid hnr0
  clear hDB hq hr hnr hnr0 hb1 hb0 fx
  by_cases hmm : m = m'
  · subst hmm
    have e2 := (down_exact s t ht (.inl (by rw [← HM.out, ← HM'.out])))
    rw [← HM.out, ← HM'.out] at e2
    rw [show (m != m) = false by cases m <;> rfl] at e2
    have E2 := Lib.hid e2; clear e2
    go_wp2_with fail
    go_region_held3 (fun w' => DB w m a n c m a' n' c' t.natAbs (.slice aq nq cq) (s.natAbs / t.natAbs) (.slice ar nr cr) (s.natAbs % t.natAbs) w' ∧ (w'.cell? ⟨w.heap.size, 0, none⟩ = some (.bool m) ∧ w'.cell? ⟨w.heap.size, 1, none⟩ = some (.slice a n c) ∧ w'.cell? ⟨w.heap.size + 1, 0, none⟩ = some (.bool m) ∧ w'.cell? ⟨w.heap.size + 1, 1, none⟩ = some (.slice a' n' c')))
      (((with_reducible refine DB.both ?_); first
        | with_reducible exact HDB.out.drew
        | with_reducible refine DB.drew (DB.alloc HDB.out _)
        | with_reducible refine DB.store (And.left (by assumption)) _ (by omega) _ _ _ _
        | with_reducible refine DB.keep (And.left (by assumption)) (by assumption)
        | with_reducible refine DB.alloc (And.left (by assumption)) _))
      (first
        | (go_at_call_of 104 (Value.slice aq nq cq); (with_reducible refine (signed_any _ _ (.slice aq nq cq) _ (DB.sq (And.left (by assumption)))).mono ?_); rintro e w' ⟨v, rfl, ⟨mA, aA, nA, cA, rfl, hmA, hsA⟩, hbA⟩; have HMA := Lib.hid hmA; clear hmA)
        | (go_at_call_of 104 (Value.slice ar nr cr); (with_reducible refine (signed_any _ _ (.slice ar nr cr) _ (DB.sr (And.left (by assumption)))).mono ?_); rintro e w'' ⟨v, rfl, ⟨mB, aB, nB, cB, rfl, hmB, hsB⟩, hbB⟩; have HMB := Lib.hid hmB; clear hmB; have hk := DB.keep (And.left (by assumption)) hbB; obtain ⟨p1, q1, x1, x2, x3, x4⟩ := hk.b1.facts; obtain ⟨p2, q2, y1, y2, y3, y4⟩ := hk.b2.facts))
    all_goals
      obtain ⟨r0, r1, r2, r3, hb, hst⟩ := hk.stored mA aA nA cA mB aB nB cB rfl
      have hsA' := hsA.below hbB (Nat.le_refl _)
      rw [E2.out.1] at hsA' HMA
      rw [E2.out.2] at hsB HMB
      have GA := Lib.hid (hst _ _ hsA'); have GB := Lib.hid (hst _ _ hsB); have HB := Lib.hid hb
      clear hst hsA hsA' hsB hb
      go_wp2
      refine bodyPost_ret (v := .tuple #[.agg #[.bool mA, .slice aA nA cA], .agg #[.bool mB, .slice aB nB cB]]) (by simp [results, Tryz.results153, go_sem, r0, r1, r2, r3]) rfl ?_
      exact ⟨_, rfl, ⟨_, _, rfl, ⟨_, _, _, _, rfl, HMA.out, GA.out⟩, ⟨_, _, _, _, rfl, HMB.out, GB.out⟩⟩, HB.out⟩
  obtain rfl : m' = !m := by cases m <;> cases m' <;> simp_all
  have hne : (m == !m) = false := by cases m <;> rfl
  have hne' : (m != !m) = true := by cases m <;> rfl
  clear hmm
  have hst0 : decide (s < 0) ≠ decide (t < 0) := by rw [← HM.out, ← HM'.out]; cases m <;> simp
  by_cases hz : nr = 0
  · have e2 := (down_exact s t ht (.inr (HNR.out.1 hz)))
    rw [← HM.out, ← HM'.out, hne'] at e2
    have E2 := Lib.hid e2; clear e2 hst0 HNR
    subst hz
    go_wp2_with fail
    go_region_held3 (fun w' => DB w m a n c (!m) a' n' c' t.natAbs (.slice aq nq cq) (s.natAbs / t.natAbs) (.slice ar 0 cr) (s.natAbs % t.natAbs) w' ∧ (w'.cell? ⟨w.heap.size, 0, none⟩ = some (.bool m) ∧ w'.cell? ⟨w.heap.size, 1, none⟩ = some (.slice a n c) ∧ w'.cell? ⟨w.heap.size + 1, 0, none⟩ = some (.bool (!m)) ∧ w'.cell? ⟨w.heap.size + 1, 1, none⟩ = some (.slice a' n' c')))
      (((with_reducible refine DB.both ?_); first
        | with_reducible exact HDB.out.drew
        | with_reducible refine DB.drew (DB.alloc HDB.out _)
        | with_reducible refine DB.store (And.left (by assumption)) _ (by omega) _ _ _ _
        | with_reducible refine DB.keep (And.left (by assumption)) (by assumption)
        | with_reducible refine DB.alloc (And.left (by assumption)) _))
      (first
        | (go_at_call_of 104 (Value.slice aq nq cq); (with_reducible refine (signed_any _ _ (.slice aq nq cq) _ (DB.sq (And.left (by assumption)))).mono ?_); rintro e w' ⟨v, rfl, ⟨mA, aA, nA, cA, rfl, hmA, hsA⟩, hbA⟩; have HMA := Lib.hid hmA; clear hmA)
        | (go_at_call_of 104 (Value.slice ar 0 cr); (with_reducible refine (signed_any _ _ (.slice ar 0 cr) _ (DB.sr (And.left (by assumption)))).mono ?_); rintro e w'' ⟨v, rfl, ⟨mB, aB, nB, cB, rfl, hmB, hsB⟩, hbB⟩; have HMB := Lib.hid hmB; clear hmB; have hk := DB.keep (And.left (by assumption)) hbB; obtain ⟨p1, q1, x1, x2, x3, x4⟩ := hk.b1.facts; obtain ⟨p2, q2, y1, y2, y3, y4⟩ := hk.b2.facts))
    all_goals
      obtain ⟨r0, r1, r2, r3, hb, hst⟩ := hk.stored mA aA nA cA mB aB nB cB rfl
      have hsA' := hsA.below hbB (Nat.le_refl _)
      rw [E2.out.1] at hsA' HMA
      rw [E2.out.2] at hsB HMB
      have GA := Lib.hid (hst _ _ hsA'); have GB := Lib.hid (hst _ _ hsB); have HB := Lib.hid hb
      clear hst hsA hsA' hsB hb
      go_wp2
      refine bodyPost_ret (v := .tuple #[.agg #[.bool mA, .slice aA nA cA], .agg #[.bool mB, .slice aB nB cB]]) (by simp [results, Tryz.results153, go_sem, r0, r1, r2, r3]) rfl ?_
      exact ⟨_, rfl, ⟨_, _, rfl, ⟨_, _, _, _, rfl, HMA.out, GA.out⟩, ⟨_, _, _, _, rfl, HMB.out, GB.out⟩⟩, HB.out⟩
  · have e2 := (down_rest s t ht hst0 (fun h => hz (HNR.out.2 h)))
    rw [← HM'.out] at e2
    have E2 := Lib.hid e2; clear e2 hst0 HNR
    have hlq : (digs 1000000000 (s.natAbs / t.natAbs)).length ≤ (digs 1000000000 s.natAbs).length := digs_len_mono _ (by omega) (Nat.div_le_self _ _)
    have hlr : (digs 1000000000 (s.natAbs % t.natAbs)).length ≤ (digs 1000000000 t.natAbs).length := digs_len_mono _ (by omega) (Nat.le_of_lt (Nat.mod_lt _ htn))
    have hvr : val 1000000000 (digs 1000000000 (s.natAbs % t.natAbs)) ≤ val 1000000000 (digs 1000000000 t.natAbs) := by rw [val_digs _ _ (by omega), val_digs _ _ (by omega)]; exact Nat.le_of_lt (Nat.mod_lt _ htn)
    have e1 : val 1000000000 (digs 1000000000 (s.natAbs / t.natAbs)) + val 1000000000 [1] = s.natAbs / t.natAbs + 1 := by rw [val_digs _ _ (by omega)]; rfl
    have e3 : val 1000000000 (digs 1000000000 t.natAbs) - val 1000000000 (digs 1000000000 (s.natAbs % t.natAbs)) = t.natAbs - s.natAbs % t.natAbs := by rw [val_digs _ _ (by omega), val_digs _ _ (by omega)]
    have HLQ := Lib.hid hlq; have HLR := Lib.hid hlr; have HVR := Lib.hid hvr; have E1 := Lib.hid e1; have E3 := Lib.hid e3
    clear hlq hlr hvr e1 e3
    go_wp2_with fail
    go_region_held3 (fun w' => DB w m a n c (!m) a' n' c' t.natAbs (.slice aq nq cq) (s.natAbs / t.natAbs) (.slice ar nr cr) (s.natAbs % t.natAbs) w' ∧ (w'.cell? ⟨w.heap.size, 0, none⟩ = some (.bool m) ∧ w'.cell? ⟨w.heap.size, 1, none⟩ = some (.slice a n c) ∧ w'.cell? ⟨w.heap.size + 1, 0, none⟩ = some (.bool (!m)) ∧ w'.cell? ⟨w.heap.size + 1, 1, none⟩ = some (.slice a' n' c')))
      (((with_reducible refine DB.both ?_); first
        | with_reducible exact HDB.out.drew
        | with_reducible refine DB.drew (DB.alloc HDB.out _)
        | with_reducible refine DB.store (And.left (by assumption)) _ (by omega) _ _ _ _
        | with_reducible refine DB.keep (And.left (by assumption)) (by assumption)
        | with_reducible refine DB.alloc (And.left (by assumption)) _))
      (first
        | (go_at_call 167; (with_reducible refine (plus_any _ _ _ _ [1] (DB.sq (And.left (by assumption))) ?hone (digs_lt _ _ (by omega)) (by simp) (Nat.le_trans HLQ.out (by omega)) (by simp)).mono ?_); (case hone => exact (Sl.single (enc := eU) _ 1 _ rfl _).below (Below.refl _ _).drew (Nat.le_refl _)); rintro e wP ⟨v, rfl, hvP, hbP⟩; rw [E1.out] at hvP; obtain ⟨ap, np, cp, rfl⟩ := hvP.shape)
        | (go_at_call 169; (with_reducible refine (less_any _ _ _ _ _ (DB.st (And.left (by assumption))) (DB.sr (And.left (by assumption))) (digs_lt _ _ (by omega)) (digs_lt _ _ (by omega)) (by omega) HLR.out HVR.out).mono ?_); rintro e wL ⟨v, rfl, hvL, hbL⟩; rw [E3.out] at hvL; obtain ⟨al, nl, cl, rfl⟩ := hvL.shape)
        | (go_at_call_of 104 (Value.slice al nl cl); (with_reducible refine (signed_any _ _ (.slice al nl cl) _ hvL).mono ?_); rintro e w'' ⟨v, rfl, ⟨mB, aB, nB, cB, rfl, hmB, hsB⟩, hbB⟩; have HMB := Lib.hid hmB; clear hmB; have hk := DB.keep (And.left (by assumption)) hbB; obtain ⟨p1, q1, x1, x2, x3, x4⟩ := hk.b1.facts; obtain ⟨p2, q2, y1, y2, y3, y4⟩ := hk.b2.facts)
        | (go_at_call_of 104 (Value.slice ap np cp); (with_reducible refine (signed_any _ _ (.slice ap np cp) _ hvP).mono ?_); rintro e w' ⟨v, rfl, ⟨mA, aA, nA, cA, rfl, hmA, hsA⟩, hbA⟩; have HMA := Lib.hid hmA; clear hmA))
    all_goals
      obtain ⟨r0, r1, r2, r3, hb, hst⟩ := hk.stored mA aA nA cA mB aB nB cB rfl
      have hsA' := (hsA.below hbL (Nat.le_refl _)).below hbB (Nat.le_refl _)
      rw [E2.out.1] at hsA' HMA
      rw [E2.out.2] at hsB HMB
      have GA := Lib.hid (hst _ _ hsA'); have GB := Lib.hid (hst _ _ hsB); have HB := Lib.hid hb
      clear hst hsA hsA' hsB hb
      go_wp2
      refine bodyPost_ret (v := .tuple #[.agg #[.bool mA, .slice aA nA cA], .agg #[.bool mB, .slice aB nB cB]]) (by simp [results, Tryz.results153, go_sem, r0, r1, r2, r3]) rfl ?_
      exact ⟨_, rfl, ⟨_, _, rfl, ⟨_, _, _, _, rfl, HMA.out, GA.out⟩, ⟨_, _, _, _, rfl, HMB.out, GB.out⟩⟩, HB.out⟩
end Go.Proofs.YtlnhocgjgmhfgaaGreatDoor
