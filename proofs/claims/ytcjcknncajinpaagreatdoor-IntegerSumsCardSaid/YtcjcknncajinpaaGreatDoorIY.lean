/- The walk of integer's coefficient. -/
import Derived.Test.YtcjcknncajinpaaGreatDoorIY0
import Derived.Test.YtcjcknncajinpaaGreatDoorJ
namespace Go.Proofs.YtcjcknncajinpaaGreatDoor
open Go.RowKit
set_option maxRecDepth 100000

theorem Bq.other {w : World} {g g' : Nat} (h : Bq w g) (hne : g ≠ g') (u v : Value) : Bq ((w.setCell ⟨g', 0, none⟩ u).setCell ⟨g', 1, none⟩ v) g := by
  obtain ⟨p, q, T, hk, hp, hq⟩ := h; exact ⟨p, q, T, (hk.setCell hne _).setCell hne _, hp, hq⟩
theorem Bq.self {w : World} {g : Nat} (h : Bq w g) (m : Bool) (a : Option Addr) (n c : Nat) : Bq ((w.setCell ⟨g, 0, none⟩ (.bool m)).setCell ⟨g, 1, none⟩ (.slice a n c)) g := by
  obtain ⟨p, q, T, hk, hp, hq⟩ := h; exact ⟨_, _, T, (hk.set 0 (.bool m)).set 1 (.slice a n c), by simp [eU], by simp [eU]⟩
theorem Bq.new (w : World) (m : Bool) (a : Option Addr) (n c : Nat) (T : TypeId) : Bq (w.alloc (.cells #[.bool m, .slice a n c] T)) w.heap.size := ⟨_, _, T, Blk.new w [.bool m, .slice a n c] T, by simp [eU], by simp [eU]⟩
theorem Bq.alloc {w : World} {g : Nat} (h : Bq w g) (o : Obj) : Bq (w.alloc o) g := h.below ((Below.refl _ w).alloc (Nat.le_refl _) o) (Nat.le_refl _)

theorem Num.setBx {w : World} {g : Nat} {v : Value} {z : Int} (h : Num w v z) (hk : Bq w g) (m : Bool) (a : Option Addr) (n c : Nat) : Num ((w.setCell ⟨g, 0, none⟩ (.bool m)).setCell ⟨g, 1, none⟩ (.slice a n c)) v z := by
  obtain ⟨m1, a1, n1, c1, rfl, hm, hs⟩ := h
  exact ⟨m1, a1, n1, c1, rfl, hm, hs.setBx hk m a n c⟩
theorem NBox.new' {w : World} {z : Int} {m : Bool} {a : Option Addr} {n c : Nat} {T : TypeId} {g : Nat} (hg : g = w.heap.size) (hv : Num w (.agg #[.bool m, .slice a n c]) z) : NBox (w.alloc (.cells #[.bool m, .slice a n c] T)) g z := by subst hg; exact NBox.new hv
theorem Blk.new' {w : World} {m : Bool} {a : Option Addr} {n c : Nat} {T : TypeId} {g : Nat} (hg : g = w.heap.size) : Blk (w.alloc (.cells #[.bool m, .slice a n c] T)) g [.bool m, .slice a n c] T := by subst hg; exact Blk.new w [.bool m, .slice a n c] T
theorem NBox.of {w : World} {z : Int} {m : Bool} {a : Option Addr} {n c : Nat} {T : TypeId} {g : Nat} (hk : Blk w g [.bool m, .slice a n c] T) (hv : Num w (.agg #[.bool m, .slice a n c]) z) : NBox w g z := by
  obtain ⟨m1, a1, n1, c1, he, hm, hs⟩ := hv
  cases he
  exact ⟨m, a, n, c, T, hk, hm, hs⟩
theorem Num.one' (w : World) (e : TypeId) {g : Nat} (hg : g = w.heap.size) : Num (w.alloc (.cells #[.int .u32 1] e)) (.agg #[.bool false, .slice (some ⟨g, 0, none⟩) 1 1]) 1 := by subst hg; exact Num.one w e
theorem NBox.drew {w : World} {g : Nat} {z : Int} (h : NBox w g z) : NBox w.drew g z := h.below (Below.refl _ _).drew (Nat.le_refl _)
theorem Bq.drew {w : World} {g : Nat} (h : Bq w g) : Bq w.drew g := h.below (Below.refl _ _).drew (Nat.le_refl _)
theorem Below.allocs {w w' : World} {B : Nat} (h : Below B w w' ∧ B ≤ w'.heap.size) (o : Obj) : Below B w (w'.alloc o) ∧ B ≤ (w'.alloc o).heap.size := ⟨h.1.alloc h.2 o, by have := h.2; simp; omega⟩

/-- Where the boxes lie. -/
def Geo (B g4 g5 g6 g8 g9 g10 g11 : Nat) : Prop := B ≤ g4 ∧ g4 < g5 ∧ g5 < g6 ∧ g6 < g8 ∧ g8 < g9 ∧ g8 < g10 ∧ g8 < g11 ∧ g9 ≠ g10 ∧ g9 ≠ g11 ∧ g10 ≠ g11
/-- The boxes of coefficient. -/
structure CB (w : World) (g4 g5 g6 g8 g9 g10 g11 : Nat) (M r s rest nx : Int) (wr : World) : Prop where
  bel : Below w.heap.size w wr
  geo : Geo w.heap.size g4 g5 g6 g8 g9 g10 g11
  q4 : Bq wr g4
  q5 : Bq wr g5
  n6 : NBox wr g6 M
  n8 : NBox wr g8 r
  n9 : NBox wr g9 s
  n10 : NBox wr g10 rest
  n11 : NBox wr g11 nx
section
variable {w wr wr' : World} {g4 g5 g6 g8 g9 g10 g11 : Nat} {M r s rest nx z : Int} {m : Bool} {a : Option Addr} {n c : Nat}
theorem CB.keep (h : CB w g4 g5 g6 g8 g9 g10 g11 M r s rest nx wr) (hb : Below wr.heap.size wr wr') : CB w g4 g5 g6 g8 g9 g10 g11 M r s rest nx wr' :=
  have l := Nat.le_refl wr.heap.size
  ⟨h.bel.trans (hb.mono h.bel.size), h.geo, h.q4.below hb l, h.q5.below hb l, h.n6.below hb l, h.n8.below hb l, h.n9.below hb l, h.n10.below hb l, h.n11.below hb l⟩
theorem CB.alloc (h : CB w g4 g5 g6 g8 g9 g10 g11 M r s rest nx wr) (o : Obj) : CB w g4 g5 g6 g8 g9 g10 g11 M r s rest nx (wr.alloc o) := h.keep ((Below.refl _ wr).alloc (Nat.le_refl _) o)
theorem CB.drew (h : CB w g4 g5 g6 g8 g9 g10 g11 M r s rest nx wr) : CB w g4 g5 g6 g8 g9 g10 g11 M r s rest nx wr.drew := h.keep (Below.refl _ wr).drew
theorem CB.st8 (h : CB w g4 g5 g6 g8 g9 g10 g11 M r s rest nx wr) (hv : Num wr (.agg #[.bool m, .slice a n c]) z) :
    CB w g4 g5 g6 g8 g9 g10 g11 M z s rest nx ((wr.setCell ⟨g8, 0, none⟩ (.bool m)).setCell ⟨g8, 1, none⟩ (.slice a n c)) := by
  obtain ⟨l1, l2, l3, l4, l5, l6, l7, l8, l9, l10⟩ := h.geo
  have hq := h.n8.bx
  exact ⟨(h.bel.setCell (by simp; omega) _).setCell (by simp; omega) _, h.geo, h.q4.other (by omega) _ _, h.q5.other (by omega) _ _, h.n6.other hq (by omega) m a n c, NBox.self hq hv, h.n9.other hq (by omega) m a n c, h.n10.other hq (by omega) m a n c, h.n11.other hq (by omega) m a n c⟩
theorem CB.st9 (h : CB w g4 g5 g6 g8 g9 g10 g11 M r s rest nx wr) (hv : Num wr (.agg #[.bool m, .slice a n c]) z) :
    CB w g4 g5 g6 g8 g9 g10 g11 M r z rest nx ((wr.setCell ⟨g9, 0, none⟩ (.bool m)).setCell ⟨g9, 1, none⟩ (.slice a n c)) := by
  obtain ⟨l1, l2, l3, l4, l5, l6, l7, l8, l9, l10⟩ := h.geo
  have hq := h.n9.bx
  exact ⟨(h.bel.setCell (by simp; omega) _).setCell (by simp; omega) _, h.geo, h.q4.other (by omega) _ _, h.q5.other (by omega) _ _, h.n6.other hq (by omega) m a n c, h.n8.other hq (by omega) m a n c, NBox.self hq hv, h.n10.other hq (by omega) m a n c, h.n11.other hq (by omega) m a n c⟩
theorem CB.st10 (h : CB w g4 g5 g6 g8 g9 g10 g11 M r s rest nx wr) (hv : Num wr (.agg #[.bool m, .slice a n c]) z) :
    CB w g4 g5 g6 g8 g9 g10 g11 M r s z nx ((wr.setCell ⟨g10, 0, none⟩ (.bool m)).setCell ⟨g10, 1, none⟩ (.slice a n c)) := by
  obtain ⟨l1, l2, l3, l4, l5, l6, l7, l8, l9, l10⟩ := h.geo
  have hq := h.n10.bx
  exact ⟨(h.bel.setCell (by simp; omega) _).setCell (by simp; omega) _, h.geo, h.q4.other (by omega) _ _, h.q5.other (by omega) _ _, h.n6.other hq (by omega) m a n c, h.n8.other hq (by omega) m a n c, h.n9.other hq (by omega) m a n c, NBox.self hq hv, h.n11.other hq (by omega) m a n c⟩
theorem CB.st11 (h : CB w g4 g5 g6 g8 g9 g10 g11 M r s rest nx wr) (hv : Num wr (.agg #[.bool m, .slice a n c]) z) :
    CB w g4 g5 g6 g8 g9 g10 g11 M r s rest z ((wr.setCell ⟨g11, 0, none⟩ (.bool m)).setCell ⟨g11, 1, none⟩ (.slice a n c)) := by
  obtain ⟨l1, l2, l3, l4, l5, l6, l7, l8, l9, l10⟩ := h.geo
  have hq := h.n11.bx
  exact ⟨(h.bel.setCell (by simp; omega) _).setCell (by simp; omega) _, h.geo, h.q4.other (by omega) _ _, h.q5.other (by omega) _ _, h.n6.other hq (by omega) m a n c, h.n8.other hq (by omega) m a n c, h.n9.other hq (by omega) m a n c, h.n10.other hq (by omega) m a n c, NBox.self hq hv⟩
/-- The results. -/
theorem CB.fin (h : CB w g4 g5 g6 g8 g9 g10 g11 M r s rest nx wr) {z' : Int} {m' : Bool} {a' : Option Addr} {n' c' : Nat} (hv : Num wr (.agg #[.bool m, .slice a n c]) z) (hv' : Num wr (.agg #[.bool m', .slice a' n' c']) z') :
    ((((wr.setCell ⟨g4, 0, none⟩ (.bool m)).setCell ⟨g4, 1, none⟩ (.slice a n c)).setCell ⟨g5, 0, none⟩ (.bool m')).setCell ⟨g5, 1, none⟩ (.slice a' n' c')).cell? ⟨g4, 0, none⟩ = some (.bool m) ∧
    ((((wr.setCell ⟨g4, 0, none⟩ (.bool m)).setCell ⟨g4, 1, none⟩ (.slice a n c)).setCell ⟨g5, 0, none⟩ (.bool m')).setCell ⟨g5, 1, none⟩ (.slice a' n' c')).cell? ⟨g4, 1, none⟩ = some (.slice a n c) ∧
    ((((wr.setCell ⟨g4, 0, none⟩ (.bool m)).setCell ⟨g4, 1, none⟩ (.slice a n c)).setCell ⟨g5, 0, none⟩ (.bool m')).setCell ⟨g5, 1, none⟩ (.slice a' n' c')).cell? ⟨g5, 0, none⟩ = some (.bool m') ∧
    ((((wr.setCell ⟨g4, 0, none⟩ (.bool m)).setCell ⟨g4, 1, none⟩ (.slice a n c)).setCell ⟨g5, 0, none⟩ (.bool m')).setCell ⟨g5, 1, none⟩ (.slice a' n' c')).cell? ⟨g5, 1, none⟩ = some (.slice a' n' c') ∧
    Num ((((wr.setCell ⟨g4, 0, none⟩ (.bool m)).setCell ⟨g4, 1, none⟩ (.slice a n c)).setCell ⟨g5, 0, none⟩ (.bool m')).setCell ⟨g5, 1, none⟩ (.slice a' n' c')) (.agg #[.bool m, .slice a n c]) z ∧
    Num ((((wr.setCell ⟨g4, 0, none⟩ (.bool m)).setCell ⟨g4, 1, none⟩ (.slice a n c)).setCell ⟨g5, 0, none⟩ (.bool m')).setCell ⟨g5, 1, none⟩ (.slice a' n' c')) (.agg #[.bool m', .slice a' n' c']) z' ∧
    Below w.heap.size w ((((wr.setCell ⟨g4, 0, none⟩ (.bool m)).setCell ⟨g4, 1, none⟩ (.slice a n c)).setCell ⟨g5, 0, none⟩ (.bool m')).setCell ⟨g5, 1, none⟩ (.slice a' n' c')) := by
  obtain ⟨l1, l2, l3, l4, l5, l6, l7, l8, l9, l10⟩ := h.geo
  have q5 := h.q5.other (g' := g4) (by omega) (.bool m) (.slice a n c)
  have v1 := (hv.setBx h.q4 m a n c).setBx q5 m' a' n' c'
  have v2 := (hv'.setBx h.q4 m a n c).setBx q5 m' a' n' c'
  obtain ⟨p, q, T, hk, hp, hq⟩ := h.q4
  obtain ⟨p5, q5', T5, hk5, hp5, hq5⟩ := q5
  have k4 := (((hk.set 0 (.bool m)).set 1 (.slice a n c)).setCell (j := 0) (show g4 ≠ g5 by omega) (.bool m')).setCell (j := 1) (show g4 ≠ g5 by omega) (.slice a' n' c')
  have k5 := (hk5.set 0 (.bool m')).set 1 (.slice a' n' c')
  exact ⟨k4.cell 0 _ rfl, k4.cell 1 _ rfl, k5.cell 0 _ rfl, k5.cell 1 _ rfl, v1, v2, (((h.bel.setCell (by simp; omega) _).setCell (by simp; omega) _).setCell (by simp; omega) _).setCell (by simp; omega) _⟩
/-- The remainders move on. -/
theorem CB.move (h : CB w g4 g5 g6 g8 g9 g10 g11 M r s rest nx wr) {left q : Int} {m' : Bool} {a' : Option Addr} {n' c' g : Nat} (hg : g10 < g ∧ g8 < g) (hv : Num wr (.agg #[.bool m, .slice a n c]) rest) (hv' : Num wr (.agg #[.bool m', .slice a' n' c']) left) (hq : NBox wr g q) :
    CB w g4 g5 g6 g8 g9 g10 g11 M rest s left nx ((((wr.setCell ⟨g8, 0, none⟩ (.bool m)).setCell ⟨g8, 1, none⟩ (.slice a n c)).setCell ⟨g10, 0, none⟩ (.bool m')).setCell ⟨g10, 1, none⟩ (.slice a' n' c')) ∧
    NBox ((((wr.setCell ⟨g8, 0, none⟩ (.bool m)).setCell ⟨g8, 1, none⟩ (.slice a n c)).setCell ⟨g10, 0, none⟩ (.bool m')).setCell ⟨g10, 1, none⟩ (.slice a' n' c')) g q := by
  have h1 := h.st8 hv
  have h2 := hv'.setBx h.n8.bx m a n c
  exact ⟨h1.st10 h2, (hq.other h.n8.bx (by omega) m a n c).other h1.n10.bx (by omega) m' a' n' c'⟩
/-- The coefficients move on. -/
theorem CB.turn (h : CB w g4 g5 g6 g8 g9 g10 g11 M r s rest nx wr) {z : Int} {m' : Bool} {a' : Option Addr} {n' c' : Nat} (hv : Num wr (.agg #[.bool m, .slice a n c]) nx) (hv' : Num wr (.agg #[.bool m', .slice a' n' c']) z) :
    CB w g4 g5 g6 g8 g9 g10 g11 M r nx rest z ((((wr.setCell ⟨g9, 0, none⟩ (.bool m)).setCell ⟨g9, 1, none⟩ (.slice a n c)).setCell ⟨g11, 0, none⟩ (.bool m')).setCell ⟨g11, 1, none⟩ (.slice a' n' c')) := by
  have h1 := h.st9 hv
  exact h1.st11 (hv'.setBx h.n9.bx m a n c)
end

/-- What the two cells of a box hold. -/
def C2 (w : World) (g : Nat) (u v : Value) : Prop := w.cell? ⟨g, 0, none⟩ = some u ∧ w.cell? ⟨g, 1, none⟩ = some v ∧ w.frozen? ⟨g, 0, none⟩ = false ∧ w.frozen? ⟨g, 1, none⟩ = false
theorem C2.below {w w1 : World} {g : Nat} {u v : Value} (h : C2 w g u v) {B : Nat} (hb : Below B w.drew w1) (hg : g < B) : w1.cell? ⟨g, 0, none⟩ = some u ∧ w1.cell? ⟨g, 1, none⟩ = some v ∧ w1.frozen? ⟨g, 0, none⟩ = false ∧ w1.frozen? ⟨g, 1, none⟩ = false :=
  ⟨(hb.cell (p := ⟨g, 0, none⟩) hg).trans h.1, (hb.cell (p := ⟨g, 1, none⟩) hg).trans h.2.1, (hb.frozen (p := ⟨g, 0, none⟩) hg).trans h.2.2.1, (hb.frozen (p := ⟨g, 1, none⟩) hg).trans h.2.2.2⟩
theorem C2.six {w w1 : World} {g g' g'' : Nat} {u v u' v' u'' v'' : Value} (h : C2 w g u v) (h' : C2 w g' u' v') (h'' : C2 w g'' u'' v'') {B : Nat} (hb : Below B w.drew w1) (hg : g < B) (hg' : g' < B) (hg'' : g'' < B) :
    w1.cell? ⟨g, 0, none⟩ = some u ∧ w1.cell? ⟨g, 1, none⟩ = some v ∧ w1.cell? ⟨g', 0, none⟩ = some u' ∧ w1.cell? ⟨g', 1, none⟩ = some v' ∧ w1.cell? ⟨g'', 0, none⟩ = some u'' ∧ w1.cell? ⟨g'', 1, none⟩ = some v'' :=
  ⟨(h.below hb hg).1, (h.below hb hg).2.1, (h'.below hb hg').1, (h'.below hb hg').2.1, (h''.below hb hg'').1, (h''.below hb hg'').2.1⟩
theorem wl_le {x M : Int} {K : Nat} (h : (x.natAbs : Int) ≤ M) (hl : wl M ≤ K) : wl x ≤ K := by
  have := digs_len_mono 1000000000 (by omega) (show x.natAbs ≤ M.natAbs by omega)
  unfold wl at *; omega
theorem Blk.drew {w : World} {g : Nat} {cs : List Value} {T : TypeId} (h : Blk w g cs T) : Blk w.drew g cs T := h
theorem Blk.held {w : World} {g : Nat} {u v : Value} {T : TypeId} (h : Blk w g [u, v] T) : Blk w g [u, v] T ∧ w.cell? ⟨g, 0, none⟩ = some u ∧ w.cell? ⟨g, 1, none⟩ = some v := ⟨h, h.cell 0 _ rfl, h.cell 1 _ rfl⟩

set_option maxHeartbeats 2000000 in
theorem coefficient_any (w : World) (x y : Value) (a b : Int) (hx : Num w x a) (hy : Num w y b) (hb0 : b ≠ 0) (hl : wl a ≤ 100000000000) (hl' : wl b ≤ 100000000000) :
    Calls Tryz.prog 41 #[x, y] w (Rets fun v w' => (∃ p q, v = .tuple #[p, q] ∧ Num w' p (Int.gcd a b : Int) ∧ Num w' q (cox a b)) ∧ Below w.heap.size w w') := by
  obtain ⟨m1, a1, n1, c1, rfl, hm1, hs1⟩ := hx
  obtain ⟨m2, a2, n2, c2, rfl, hm2, hs2⟩ := hy
  have HM1 := Lib.hid hm1; have HS1 := Lib.hid hs1; have HM2 := Lib.hid hm2; have HS2 := Lib.hid hs2; have HB0 := Lib.hid hb0; have HL := Lib.hid hl; have HL' := Lib.hid hl'
  clear hm1 hs1 hm2 hs2 hb0 hl hl'
  go_enter Tryz.func41, Tryz.ntmps41
  go_wp2_with fail
  have hb0 : Below w.heap.size w ((((w.alloc (.cells #[.bool m1, .slice a1 n1 c1] 52)).alloc (.cells #[.bool m2, .slice a2 n2 c2] 52)).alloc (.cells #[.bool false, .slice none 0 0] 52)).alloc (.cells #[.bool false, .slice none 0 0] 52)) :=
    ((((Below.refl _ w).alloc (Nat.le_refl _) _).alloc (by simp) _).alloc (by simp; omega) _).alloc (by simp; omega) _
  have k2 := ((NBox.new (w := w) (T := 52) ⟨_, _, _, _, rfl, HM1.out, HS1.out⟩).alloc (.cells #[.bool m2, .slice a2 n2 c2] 52)).alloc (.cells #[.bool false, .slice none 0 0] 52)
  have k2 := k2.alloc (.cells #[.bool false, .slice none 0 0] 52)
  have k4 := (Bq.new ((w.alloc (.cells #[.bool m1, .slice a1 n1 c1] 52)).alloc (.cells #[.bool m2, .slice a2 n2 c2] 52)) false none 0 0 52).alloc (.cells #[.bool false, .slice none 0 0] 52)
  have k5 := Bq.new (((w.alloc (.cells #[.bool m1, .slice a1 n1 c1] 52)).alloc (.cells #[.bool m2, .slice a2 n2 c2] 52)).alloc (.cells #[.bool false, .slice none 0 0] 52)) false none 0 0 52
  rw [World.size_alloc, World.size_alloc] at k4
  rw [World.size_alloc, World.size_alloc, World.size_alloc] at k5
  refine (signed_any _ _ _ b.natAbs (HS2.out.below hb0 (Nat.le_refl _))).mono ?_
  rintro e w1 ⟨v, rfl, hn1, hb1⟩
  rw [show sg false b.natAbs = (b.natAbs : Int) from rfl] at hn1
  obtain ⟨m3, a3, n3, c3, rfl, hm3, hs3⟩ := hn1
  have hn3 : Num w1 (.agg #[.bool m3, .slice a3 n3 c3]) (b.natAbs : Int) := ⟨_, _, _, _, rfl, hm3, hs3⟩
  have b1 := hb0.trans (hb1.mono (by simp; omega))
  have k2 := (k2.below hb1 (Nat.le_refl _)).alloc (.cells #[.bool m3, .slice a3 n3 c3] 52)
  have k4 := (k4.below hb1 (Nat.le_refl _)).alloc (.cells #[.bool m3, .slice a3 n3 c3] 52)
  have k5 := (k5.below hb1 (Nat.le_refl _)).alloc (.cells #[.bool m3, .slice a3 n3 c3] 52)
  have k6 := NBox.new (T := 52) hn3
  have b1 := b1.trans (((Below.refl _ w1).alloc (Nat.le_refl _) (.cells #[.bool m3, .slice a3 n3 c3] 52)).mono b1.size)
  have hsz1 : w.heap.size + 4 ≤ w1.heap.size := by have := hb1.size; simp at this; omega
  obtain ⟨m2', a2', n2', c2', x0, x1, x2, x3, -, x5⟩ := k2.facts
  obtain ⟨m6, a6, n6, c6, y0, y1, y2, y3, -, y5⟩ := k6.facts
  have X5 := Lib.hid x5; have Y5 := Lib.hid y5; have K4 := Lib.hid k4; have K5 := Lib.hid k5; have K6 := Lib.hid k6; have B1 := Lib.hid b1
  clear hm3 hs3 hn3 hb0 hb1 k2 k4 k5 k6 x5 y5 b1
  have hM0 : (b.natAbs : Int) ≠ 0 := by have := HB0.out; omega
  have hlM : wl (b.natAbs : Int) ≤ 100000000000 := by have := HL'.out; unfold wl at *; rw [Int.natAbs_natCast]; exact this
  have HM0 := Lib.hid hM0; have HLM := Lib.hid hlM
  clear hM0 hlM
  go_wp2_with fail
  refine (down_any _ _ _ a (b.natAbs : Int) X5.out Y5.out HM0.out (by have := HL.out; omega) (by have := HLM.out; omega)).mono ?_
  rintro e w2 ⟨v, rfl, ⟨_, _, rfl, ⟨m7, a7, n7, c7, rfl, hm7, hs7⟩, ⟨m8, a8, n8, c8, rfl, hm8, hs8⟩⟩, hb2⟩
  have H7 := Lib.hid (show Num w2 (.agg #[.bool m7, .slice a7 n7 c7]) (Int.fdiv a b.natAbs) from ⟨_, _, _, _, rfl, hm7, hs7⟩)
  have H8 := Lib.hid (show Num w2 (.agg #[.bool m8, .slice a8 n8 c8]) (Int.fmod a b.natAbs) from ⟨_, _, _, _, rfl, hm8, hs8⟩)
  have k6 := K6.out.below hb2 (Nat.le_refl _)
  have K6' := Lib.hid k6; have HB2 := Lib.hid hb2
  obtain ⟨m6', a6', n6', c6', T6, hk6, hm6, hs6⟩ := k6
  have Z6 := Lib.hid hk6
  have Z5 : Hid (Num w2 (.agg #[.bool m6', .slice a6' n6' c6']) b.natAbs) := Lib.hid ⟨_, _, _, _, rfl, hm6, hs6⟩
  have hlt : w1.heap.size < w2.heap.size := by have := hb2.size; simp at this; omega
  clear hm7 hs7 hm8 hs8 x0 x1 x2 x3 y0 y1 y2 y3 hb2 hk6 hm6 hs6
  go_wp2
  go_cut [9, 10, 11] (fun p9 p10 p11 wx => ∃ g9 g10 g11, p9 = .pointer (some ⟨g9, 0, none⟩) ∧ p10 = .pointer (some ⟨g10, 0, none⟩) ∧ p11 = .pointer (some ⟨g11, 0, none⟩) ∧
    CB w (w.heap.size + 1 + 1) (w.heap.size + 1 + 1 + 1) w1.heap.size (w2.heap.size + 1) g9 g10 g11 b.natAbs (Int.fmod a b.natAbs) 1 b.natAbs 0 wx)
  case first =>
    have Q4 := Lib.hid (K4.out.below HB2.out (Nat.le_refl _)); have Q5 := Lib.hid (K5.out.below HB2.out (Nat.le_refl _))
    have BW : Hid (Below w.heap.size w w2) := Lib.hid (B1.out.trans (HB2.out.mono B1.out.size))
    clear k2 k4 k5 X5 Y5 HM1 HS1 HM2 HS2
    go_region_held3 (fun w' => Blk w' w1.heap.size [.bool m6', .slice a6' n6' c6'] T6 ∧ w'.cell? ⟨w1.heap.size, 0, none⟩ = some (.bool m6') ∧ w'.cell? ⟨w1.heap.size, 1, none⟩ = some (.slice a6' n6' c6'))
      (((with_reducible refine Blk.held ?_); (try with_reducible refine Blk.drew ?_); (repeat with_reducible refine Blk.alloc ?_ _); with_reducible exact Z6.out))
      (fail)
    all_goals
      go_wp2_with fail
      go_meet
      refine ⟨_, _, _, rfl, rfl, rfl, ?_⟩
      refine CB.mk ?_ ?_ ?_ ?_ ?_ ?_ ?_ ?_ ?_
      · refine Below.drew ?_
        repeat refine Below.alloc ?_ (by first | omega | (simp; omega)) _
        exact BW.out
      · unfold Geo; omega
      · refine Bq.drew ?_
        repeat (first | with_reducible exact Q4.out | with_reducible refine Bq.alloc ?_ _)
      · refine Bq.drew ?_
        repeat (first | with_reducible exact Q5.out | with_reducible refine Bq.alloc ?_ _)
      · refine NBox.drew ?_
        repeat (first | with_reducible exact K6'.out | with_reducible refine NBox.alloc ?_ _)
      all_goals
        refine NBox.drew ?_
        apply NBox.of
        focus (repeat (first | ((with_reducible apply Blk.new'); (simp; done)) | with_reducible apply Blk.alloc))
        repeat (first | with_reducible exact H8.out | with_reducible exact Z5.out | with_reducible exact Num.zero _ | ((with_reducible refine Num.one' _ _ ?_); (simp; done)) | with_reducible refine Num.alloc ?_ _)
  case rest =>
    obtain ⟨g9, g10, g11, rfl, rfl, rfl, hC⟩ := hcut
    have HC := Lib.hid hC
    have HI := Lib.hid (CoInv.start a b.natAbs (by have := HM0.out; omega))
    clear hC
    go_wp2
    go_loopg [12] b.natAbs (fun k _ wr => ∃ r rest s nx : Int, k = rest.natAbs ∧ Hid (CoInv a b.natAbs r rest s nx) ∧ Hid (CB w (w.heap.size + 1 + 1) (w.heap.size + 1 + 1 + 1) w1.heap.size (w2.heap.size + 1) g9 g10 g11 b.natAbs r s rest nx wr))
    case atStart => exact ⟨_, _, _, _, by simp, HI, HC⟩
    case round =>
      obtain ⟨r, rest, s, nx, hk, hI, hC⟩ := hrel
      have HK := Lib.hid hk
      obtain ⟨m10, a10, n10, c10, x0, x1, -, -, -, x5⟩ := hC.out.n10.facts
      have X5' := Lib.hid x5
      clear hk x5
      by_cases h0 : rest = 0
      · subst h0
        have hne : (Int.sign 0 != 0) = false := by simp
        have hst := hI.out.stop
        have hHM : wl r ≤ 100000000000 := by
          have h1 := hI.out.r0; have h2 := hI.out.rM; have h3 := HLM.out
          exact wl_le (by omega) h3
        have HST := Lib.hid hst; have HRM := Lib.hid hHM
        have hls : wl s ≤ 100000000000 := wl_le hI.out.sM HLM.out
        have hlp : wl (Int.fdiv b.natAbs r) ≤ 300000000000 := by have := wl_fdiv b.natAbs r (by have := hst.2.1; omega); have := HLM.out; omega
        have HLS := Lib.hid hls; have HLP := Lib.hid hlp
        clear hst hHM hls hlp
        go_wp2_with (go_at_call 38; refine (sign_any _ _ 0 X5'.out).mono ?_; rintro e w3 ⟨v, rfl, rfl, hb3⟩; have hc3 := hC.out.keep hb3; obtain ⟨m6', a6', n6', c6', y0, y1, -, -, -, y5⟩ := hc3.n6.facts; obtain ⟨m8', a8', n8', c8', z0, z1, -, -, -, z5⟩ := hc3.n8.facts; have Y6 := Lib.hid y5; have Z8 := Lib.hid z5; have HC3 := Lib.hid hc3; clear y5 z5 hc3)
        refine (down_any _ _ _ b.natAbs r Y6.out Z8.out (by have := HST.out.2.1; omega) (by have := HLM.out; omega) (by have := HRM.out; omega)).mono ?_
        rintro e w4 ⟨v, rfl, ⟨_, _, rfl, ⟨mq, aq, nq, cq, rfl, hmq, hsq⟩, ⟨ml, al, nl, cl, rfl, hml, hsl⟩⟩, hb4⟩
        have hc4 := ((HC3.out.keep hb4).alloc (.cells #[.bool mq, .slice aq nq cq] 52)).alloc (.cells #[.bool ml, .slice al nl cl] 52)
        have HQ := Lib.hid (((show Num w4 (.agg #[.bool mq, .slice aq nq cq]) (Int.fdiv b.natAbs r) from ⟨_, _, _, _, rfl, hmq, hsq⟩).alloc (.cells #[.bool mq, .slice aq nq cq] 52)).alloc (.cells #[.bool ml, .slice al nl cl] 52))
        obtain ⟨m9, a9, n9, c9, u0, u1, -, -, -, u5⟩ := hc4.n9.facts
        have U9 := Lib.hid u5; have HC4 := Lib.hid hc4
        clear hc4 hmq hsq hml hsl u5
        go_wp2_with fail
        refine (down_any _ _ _ s (Int.fdiv b.natAbs r) U9.out HQ.out (by have := HST.out.2.2.1; omega) (by have := HLS.out; omega) (by have := HLP.out; omega)).mono ?_
        rintro e w5 ⟨v, rfl, ⟨_, _, rfl, ⟨mp, ap, np, cp, rfl, hmp, hsp⟩, ⟨mx, ax, nx', cx, rfl, hmx, hsx⟩⟩, hb5⟩
        have hc5 := ((HC4.out.keep hb5).alloc (.cells #[.bool mp, .slice ap np cp] 52)).alloc (.cells #[.bool mx, .slice ax nx' cx] 52)
        have hx5 := ((show Num w5 (.agg #[.bool mx, .slice ax nx' cx]) (Int.fmod s (Int.fdiv b.natAbs r)) from ⟨_, _, _, _, rfl, hmx, hsx⟩).alloc (.cells #[.bool mp, .slice ap np cp] 52)).alloc (.cells #[.bool mx, .slice ax nx' cx] 52)
        obtain ⟨mA, aA, nA, cA, f0, f1, -, -, -, f5⟩ := hc5.n8.facts
        obtain ⟨pB, qB, g0, g1, g2, g3⟩ := hc5.q4.facts
        obtain ⟨pC, qC, i0, i1, i2, i3⟩ := hc5.q5.facts
        have HF := Lib.hid (hc5.fin f5 hx5)
        have hgne : w.heap.size + 1 + 1 ≠ w.heap.size + 1 + 1 + 1 := by omega
        have hl5 : w.heap.size + 1 + 1 + 1 < w5.heap.size := by have := (HC4.out.keep hb5).q5; obtain ⟨p, q, T, hk, -, -⟩ := this; exact hk.lt
        have hn1 : w5.heap.size + 1 ≠ w.heap.size + 1 + 1 := by omega
        have hn2 : w.heap.size + 1 + 1 ≠ w5.heap.size + 1 := by omega
        clear f5 hc5 hx5 hmp hsp hmx hsx
        go_wp2_with fail
        go_region
        obtain ⟨r0, r1, r2, r3, v1, v2, hbf⟩ := HF.out
        have V1 := Lib.hid v1; have V2 := Lib.hid v2; have HBF := Lib.hid hbf
        clear v1 v2 hbf
        go_wp2_with fail
        refine bodyPost_ret (v := .tuple #[.agg #[.bool mA, .slice aA nA cA], .agg #[.bool mx, .slice ax nx' cx]]) (by simp [results, Tryz.results41, go_sem, r0, r1, r2, r3]) rfl ?_
        have hco := CoInv.isCo (a := a) (b := b) (x := Int.fmod s (Int.fdiv b.natAbs r)) (by have h := HST.out; rw [← h.1]; exact h.2.2.2.2)
        have hg : r = (Int.gcd a b : Int) := by have h := HST.out.1; rw [h]; simp [Int.gcd]
        refine ⟨_, rfl, ⟨_, _, rfl, ?_, ?_⟩, HBF.out.drew⟩
        · rw [← hg]; exact V1.out.below (Below.refl _ _).drew (Nat.le_refl _)
        · rw [cox_eq HB0.out hco]; exact V2.out.below (Below.refl _ _).drew (Nat.le_refl _)
      · have hne : (rest.sign != 0) = true := by simp [Int.sign_eq_zero_iff_zero, h0]
        have H0 := Lib.hid h0
        have hrM : wl r ≤ 100000000000 := by
          have h1 := hI.out.r0; have h2 := hI.out.rM; have h3 := HLM.out
          have := digs_len_mono 1000000000 (by omega) (show r.natAbs ≤ (b.natAbs : Int).natAbs by omega)
          unfold wl at *; omega
        have heM : wl rest ≤ 100000000000 := by
          have h1 := hI.out.e0; have h2 := hI.out.eM; have h3 := HLM.out
          have := digs_len_mono 1000000000 (by omega) (show rest.natAbs ≤ (b.natAbs : Int).natAbs by omega)
          unfold wl at *; omega
        have HRM := Lib.hid hrM; have HEM := Lib.hid heM
        clear h0 hrM heM
        go_wp2_with (first
          | (go_at_call 38; refine (sign_any _ _ rest X5'.out).mono ?_; rintro e w3 ⟨v, rfl, rfl, hb3⟩; have hc3 := hC.out.keep hb3; obtain ⟨m8', a8', n8', c8', y0, y1, -, -, -, y5⟩ := hc3.n8.facts; obtain ⟨m10', a10', n10', c10', z0, z1, -, -, -, z5⟩ := hc3.n10.facts; have Y8 := Lib.hid y5; have Z10 := Lib.hid z5; have HC3 := Lib.hid hc3; clear y5 z5 hc3)
          | (go_at_call 29; refine (down_any _ _ _ r rest Y8.out Z10.out H0.out (by have := HRM.out; omega) (by have := HEM.out; omega)).mono ?_; rintro e w4 ⟨v, rfl, ⟨_, _, rfl, ⟨mq, aq, nq, cq, rfl, hmq, hsq⟩, ⟨ml, al, nl, cl, rfl, hml, hsl⟩⟩, hb4⟩; have hc4 := HC3.out.keep hb4; have HQ := Lib.hid (show Num w4 (.agg #[.bool mq, .slice aq nq cq]) (Int.fdiv r rest) from ⟨_, _, _, _, rfl, hmq, hsq⟩); have HLf := Lib.hid (show Num w4 (.agg #[.bool ml, .slice al nl cl]) (Int.fmod r rest) from ⟨_, _, _, _, rfl, hml, hsl⟩); have HC4 := Lib.hid hc4; clear hc4 hmq hsq hml hsl))
        have hc5 := (HC4.out.alloc (.cells #[.bool mq, .slice aq nq cq] 52)).alloc (.cells #[.bool ml, .slice al nl cl] 52)
        have k12 := (NBox.new (T := 52) HQ.out).alloc (.cells #[.bool ml, .slice al nl cl] 52)
        have hl5 := (HLf.out.alloc (.cells #[.bool mq, .slice aq nq cq] 52)).alloc (.cells #[.bool ml, .slice al nl cl] 52)
        have hg12 : g10 < w4.heap.size ∧ w2.heap.size + 1 < w4.heap.size := ⟨HC4.out.n10.lt, HC4.out.n8.lt⟩
        have hg12' : g9 < w4.heap.size ∧ g11 < w4.heap.size := ⟨HC4.out.n9.lt, HC4.out.n11.lt⟩
        obtain ⟨mA, aA, nA, cA, u0, u1, u2, u3, -, -⟩ := hc5.n8.facts
        obtain ⟨mB, aB, nB, cB, v0, v1, v2, v3, -, v5⟩ := hc5.n10.facts
        have hmv := hc5.move hg12 v5 hl5 k12
        have HMV := Lib.hid hmv; have HG12 := Lib.hid (And.intro hg12 hg12'); have HG5 := Lib.hid hc5.geo
        have hgne : w2.heap.size + 1 ≠ g10 := by have := hc5.geo; unfold Geo at this; omega
        clear hmv hc5 k12 hl5 v5
        go_cut [12] (fun p12 wx => p12 = .pointer (some ⟨w4.heap.size, 0, none⟩) ∧ Hid (CB w (w.heap.size + 1 + 1) (w.heap.size + 1 + 1 + 1) w1.heap.size (w2.heap.size + 1) g9 g10 g11 b.natAbs rest s (Int.fmod r rest) nx wx) ∧ Hid (NBox wx w4.heap.size (Int.fdiv r rest)))
        case first =>
          go_region
          go_wp2_with fail
          go_meet
          exact ⟨rfl, Lib.hid HMV.out.1.drew, Lib.hid HMV.out.2.drew⟩
        case rest =>
          obtain ⟨rfl, hC6, hQ6⟩ := hcut
          obtain ⟨m9, a9, n9, c9, u0, u1, u2, u3, -, u5⟩ := hC6.out.n9.facts
          obtain ⟨m11, a11, n11, c11, v0, v1, v2, v3, -, v5⟩ := hC6.out.n11.facts
          obtain ⟨m12, a12, n12, c12, t0, t1, t2, t3, -, t5⟩ := hQ6.out.facts
          have C9 : Hid (C2 wc g9 (.bool m9) (.slice a9 n9 c9)) := Lib.hid ⟨u0, u1, u2, u3⟩
          have C11 : Hid (C2 wc g11 (.bool m11) (.slice a11 n11 c11)) := Lib.hid ⟨v0, v1, v2, v3⟩
          have C12 : Hid (C2 wc w4.heap.size (.bool m12) (.slice a12 n12 c12)) := Lib.hid ⟨t0, t1, t2, t3⟩
          have L12 : Hid (w4.heap.size < wc.drew.heap.size) := Lib.hid hQ6.out.lt
          have L9 : Hid (g9 < wc.drew.heap.size) := Lib.hid hC6.out.n9.lt
          have L11 : Hid (g11 < wc.drew.heap.size) := Lib.hid hC6.out.n11.lt
          have N9 := Lib.hid u5; have N11 := Lib.hid v5; have N12 := Lib.hid t5
          have hne911 : g9 ≠ g11 := by have := HG5.out; unfold Geo at this; omega
          have hls : wl s ≤ 100000000000 := wl_le hI.out.sM HLM.out
          have hln : wl nx ≤ 100000000000 := wl_le hI.out.nM HLM.out
          have hlq : wl (Int.fdiv r rest) ≤ 300000000000 := by have := wl_fdiv r rest H0.out; have := HRM.out; have := HEM.out; omega
          have hlp : wl (-(Int.fdiv r rest * nx)) ≤ 400000000000 := by rw [wl_neg]; have := wl_mul (Int.fdiv r rest) nx; omega
          have HLS := Lib.hid hls; have HLN := Lib.hid hln; have HLQ := Lib.hid hlq; have HLP := Lib.hid hlp
          clear u2 u3 u5 v2 v3 v5 t2 t3 t5 hls hln hlq hlp
          go_wp2_with fail
          have hSd : wc.drew.cell? ⟨g9, 0, none⟩ = some (.bool m9) ∧ wc.drew.cell? ⟨g9, 1, none⟩ = some (.slice a9 n9 c9) ∧ wc.drew.cell? ⟨g11, 0, none⟩ = some (.bool m11) ∧ wc.drew.cell? ⟨g11, 1, none⟩ = some (.slice a11 n11 c11) ∧ wc.drew.cell? ⟨w4.heap.size, 0, none⟩ = some (.bool m12) ∧ wc.drew.cell? ⟨w4.heap.size, 1, none⟩ = some (.slice a12 n12 c12) := ⟨u0, u1, v0, v1, t0, t1⟩
          refine wp_regionJ (S := fun w' => w'.cell? ⟨g9, 0, none⟩ = some (.bool m9) ∧ w'.cell? ⟨g9, 1, none⟩ = some (.slice a9 n9 c9) ∧ w'.cell? ⟨g11, 0, none⟩ = some (.bool m11) ∧ w'.cell? ⟨g11, 1, none⟩ = some (.slice a11 n11 c11) ∧ w'.cell? ⟨w4.heap.size, 0, none⟩ = some (.bool m12) ∧ w'.cell? ⟨w4.heap.size, 1, none⟩ = some (.slice a12 n12 c12)) (A := fun i => decide (i < 7)) (by kernel_rfl) ?_
          refine wpAnyJ_take (i := 0) (oi := { dst := some 42, op := .load 52 (.tmp 11), type := _, pos := _, after := _, guard := _ }) (v := ?_) rfl (by kernel_rfl) (by kernel_rfl) (by kernel_rfl) (by kernel_rfl) (fun _ _ _ h => h) (Or.inl ⟨by rfl, ?_⟩) hSd ?_
          rotate_left
          · intro wl hSw
            obtain ⟨s0, s1, s2, s3, s4, s5⟩ := hSw
            go_simp
            with_reducible rfl
          simp only [Act.put, List.setIfInBounds_toArray, List.set_cons_zero, List.set_cons_succ]
          refine wpAnyJ_take (i := 1) (oi := { dst := some 43, op := .load 52 (.tmp 9), type := _, pos := _, after := _, guard := _ }) (v := ?_) rfl (by kernel_rfl) (by kernel_rfl) (by kernel_rfl) (by kernel_rfl) (fun _ _ _ h => h) (Or.inl ⟨by rfl, ?_⟩) hSd ?_
          rotate_left
          · intro wl hSw
            obtain ⟨s0, s1, s2, s3, s4, s5⟩ := hSw
            go_simp
            with_reducible rfl
          simp only [Act.put, List.setIfInBounds_toArray, List.set_cons_zero, List.set_cons_succ]
          refine wpAnyJ_take (i := 2) (oi := { dst := some 44, op := .load 52 (.tmp 12), type := _, pos := _, after := _, guard := _ }) (v := ?_) rfl (by kernel_rfl) (by kernel_rfl) (by kernel_rfl) (by kernel_rfl) (fun _ _ _ h => h) (Or.inl ⟨by rfl, ?_⟩) hSd ?_
          rotate_left
          · intro wl hSw
            obtain ⟨s0, s1, s2, s3, s4, s5⟩ := hSw
            go_simp
            with_reducible rfl
          simp only [Act.put, List.setIfInBounds_toArray, List.set_cons_zero, List.set_cons_succ]
          refine wpAnyJ_take (i := 3) (oi := { dst := some 45, op := .load 52 (.tmp 11), type := _, pos := _, after := _, guard := _ }) (v := ?_) rfl (by kernel_rfl) (by kernel_rfl) (by kernel_rfl) (by kernel_rfl) (fun _ _ _ h => h) (Or.inl ⟨by rfl, ?_⟩) hSd ?_
          rotate_left
          · intro wl hSw
            obtain ⟨s0, s1, s2, s3, s4, s5⟩ := hSw
            go_simp
            with_reducible rfl
          simp only [Act.put, List.setIfInBounds_toArray, List.set_cons_zero, List.set_cons_succ]
          refine wpAnyJ_only (i := 4) (o := { dst := some 46, op := .call { callee := .value (.func 43), args := #[.tmp 44, .tmp 45], argTypes := #[52, 52] }, type := _, pos := _, after := _, guard := _ }) (by kernel_rfl) rfl (fun K hK => ?_)
          go_simp
          refine (product_any _ _ _ (Int.fdiv r rest) nx (N12.out.below (Below.refl _ _).drew (Nat.le_refl _)) (N11.out.below (Below.refl _ _).drew (Nat.le_refl _)) (by have := HLQ.out; have := HLN.out; omega)).mono ?_
          rintro e w5 ⟨v, rfl, hp, hb5⟩
          have HP := Lib.hid hp; clear hp
          refine hK.out _ _ (fun _ => C9.out.six C11.out C12.out hb5 L9.out L11.out L12.out) ?_
          try simp only [Act.put, List.setIfInBounds_toArray, List.set_cons_zero, List.set_cons_succ]
          clear hK K
          refine wpAnyJ_only (i := 5) (o := { dst := some 47, op := .call { callee := .value (.func 44), args := #[.tmp 46], argTypes := #[52] }, type := _, pos := _, after := _, guard := _ }) (by kernel_rfl) rfl (fun K hK => ?_)
          go_simp
          refine (neg_any _ _ _ HP.out).mono ?_
          rintro e w6 ⟨v, rfl, hn, hb6⟩
          have hb56 := hb5.trans (hb6.mono hb5.size)
          have HN := Lib.hid hn; clear hn
          refine hK.out _ _ (fun _ => C9.out.six C11.out C12.out hb56 L9.out L11.out L12.out) ?_
          try simp only [Act.put, List.setIfInBounds_toArray, List.set_cons_zero, List.set_cons_succ]
          clear hK K
          refine wpAnyJ_only (i := 6) (o := { dst := some 48, op := .call { callee := .value (.func 42), args := #[.tmp 43, .tmp 47], argTypes := #[52, 52] }, type := _, pos := _, after := _, guard := _ }) (by kernel_rfl) rfl (fun K hK => ?_)
          go_simp
          refine (sum_any _ _ _ s (-(Int.fdiv r rest * nx)) (N9.out.below ((Below.refl _ _).drew.trans hb56) (Nat.le_refl _)) HN.out (by have := HLS.out; omega) (by have := HLP.out; omega)).mono ?_
          rintro e w7 ⟨v, rfl, ⟨mS, aS, nS, cS, rfl, hms, hss⟩, hb7⟩
          have hb57 := hb56.trans (hb7.mono hb56.size)
          have HS := Lib.hid (show Num w7 (.agg #[.bool mS, .slice aS nS cS]) (s - Int.fdiv r rest * nx) from ⟨_, _, _, _, rfl, by rw [Int.sub_eq_add_neg]; exact hms, by rw [Int.sub_eq_add_neg]; exact hss⟩)
          clear hms hss
          refine hK.out _ _ (fun _ => C9.out.six C11.out C12.out hb57 L9.out L11.out L12.out) ?_
          try simp only [Act.put, List.setIfInBounds_toArray, List.set_cons_zero, List.set_cons_succ]
          clear hK K
          have HT := Lib.hid ((hC6.out.drew.keep hb57).turn (N11.out.below ((Below.refl _ _).drew.trans hb57) (Nat.le_refl _)) HS.out)
          obtain ⟨p0, p1, p2, p3⟩ := C9.out.below hb57 L9.out
          obtain ⟨q0, q1, q2, q3⟩ := C11.out.below hb57 L11.out
          refine wpAnyJ_only (i := 7) (o := { dst := none, op := .store 52 (.tmp 9) (.tmp 42), type := _, pos := _, after := _, guard := _ }) (by kernel_rfl) rfl (fun K hK => ?_)
          go_simp
          refine hK.out _ _ (fun h => absurd h (by decide)) ?_
          try simp only [Act.put, List.setIfInBounds_toArray, List.set_cons_zero, List.set_cons_succ]
          clear hK K
          refine wpAnyJ_only (i := 8) (o := { dst := none, op := .store 52 (.tmp 11) (.tmp 48), type := _, pos := _, after := _, guard := _ }) (by kernel_rfl) rfl (fun K hK => ?_)
          go_simp
          refine hK.out _ _ (fun h => absurd h (by decide)) ?_
          try simp only [Act.put, List.setIfInBounds_toArray, List.set_cons_zero, List.set_cons_succ]
          clear hK K
          refine wpAnyJ_done (by kernel_rfl) ?_ _
          go_wp2_with fail
          go_roundg (Int.fmod r rest).natAbs
          case measure => have := HK.out; have := fmod_bd r rest (by have := hI.out.e0; have := H0.out; omega); omega
          case rel => exact ⟨_, _, _, _, rfl, Lib.hid (hI.out.step H0.out), HT⟩
end Go.Proofs.YtcjcknncajinpaaGreatDoor
