/- The walk of matrix's filled, for each of the closures that it is handed. Plain law: determinants by expansion along the first row; the alternating multilinear function of the rows is unique; the transposed matrix; products. Plain law: elimination without fractions keeps determinants as entries. Plain law: rank by elimination is the size of the greatest minor that is not 0; sizes of determinants; expansion along any row. Matrices of integers as rows of texts; the walks of the reference's Without, Turned, Of and One. The Laplacian in plain words: a sum over the edges that are no loops; what the reference says of its entries. Images of scripts in plain words: sums over the edges that are no loops; as products with the Laplacian; linear, of degree 0. -/
import Derived.Test.YtlnhocgjgmhfgaaGreatDoorPk26
import Derived.Test.YtlnhocgjgmhfgaaGreatDoorPk1
import Derived.Test.YtlnhocgjgmhfgaaGreatDoorPk14
namespace Go.Proofs.YtlnhocgjgmhfgaaGreatDoor
open Go.RowKit
set_option maxRecDepth 100000

section
variable {P : Program} {t e : TypeId} {z : Value} {size bytes : Nat} {ops : Array Oper} {o : Oper} {a : Act} {Q : Exit → Act → World → Prop} {K : Act → World → Prop} {E : Prop}
/-- 'append(out, x)' as one operation of a region: out nil or the call's own, x just laid in a new block. -/
theorem app1Q (hE : ElemOk P t e z size bytes) (s x : Operand) (ho : o.op = .call { callee := .builtin .append, args := #[s, x], argTypes := #[t, t] })
    {v : Value} {n c base B : Nat} {xs news : List Value} {w0 W : World} (hs : a.eval s = v) (hx : a.eval x = .slice (some ⟨w0.heap.size, 0, none⟩) 1 c)
    (hown : w0.ownsRow base e size v n xs) (hb : Below B W w0) (hB : B ≤ base) (hbase : base ≤ w0.heap.size) (hl : news.length = size) (h1 : ∀ u ∈ news, u.oneCell' = true)
    (hn : (n + 1) * bytes ≤ 140737488355328) (hn' : n + 1 ≤ maxLen)
    (h : ∀ v' w', w'.ownsRow base e size v' (n + 1) (xs ++ news) → Below B W w' → K (a.put o.dst v') w') :
    Oper.wp P o a (w0.alloc (.cells news.toArray e)) K Q := by
  obtain ⟨i, hi, hz, hsz, hby⟩ := hE.info
  refine wp_append_own _ s x t ho base e i z size bytes hE.und hi hz hsz hby hE.cells hE.pos v n xs hs (hown.alloc _) ⟨w0.heap.size, 0, none⟩ 1 c news hx (by simp [hl]) ?_ h1 hn' hn (by simp; omega) ?_
  · intro j u hj
    rw [addr0]
    rw [cell_of_row _ w0.heap.size j news.toArray e (0, 0) (heap_alloc_new w0 _)]
    simpa using hj
  · intro v' w' ho' hg _
    exact h v' w' ho' ((hb.alloc (by omega) _).grown hg (by simp; omega) (fun j hj => by have := (hown.lt j hj).1; omega))
theorem app1R (hE : ElemOk P t e z size bytes) (hgd : o.guard = none) (s x : Operand) (ho : o.op = .call { callee := .builtin .append, args := #[s, x], argTypes := #[t, t] })
    {v : Value} {n c base B : Nat} {xs news : List Value} {w0 W : World} (hs : a.eval s = v) (hx : a.eval x = .slice (some ⟨w0.heap.size, 0, none⟩) 1 c)
    (hown : w0.ownsRow base e size v n xs) (hb : Below B W w0) (hB : B ≤ base) (hbase : base ≤ w0.heap.size) (hl : news.length = size) (h1 : ∀ u ∈ news, u.oneCell' = true)
    (hn : (n + 1) * bytes ≤ 140737488355328) (hn' : n + 1 ≤ maxLen)
    (h : ∀ v' w', w'.ownsRow base e size v' (n + 1) (xs ++ news) → Below B W w' → K (a.put o.dst v') w') :
    if Region.wanted o (yielded ops a.tmps) = true then Oper.wp P o a (w0.alloc (.cells news.toArray e)) K Q else E := by
  rw [if_pos (by simp [Region.wanted, hgd])]
  exact app1Q hE s x ho hs hx hown hb hB hbase hl h1 hn hn' h
end
/-- Three cells of a block are written. -/
theorem store3 {w : World} {g : Nat} {a b c x y z : Value} {T : TypeId} (h : Blk w g [a, b, c] T) : Blk (((w.setCell ⟨g, 0, none⟩ x).setCell ⟨g, 1, none⟩ y).setCell ⟨g, 2, none⟩ z) g [x, y, z] T := by
  have := ((h.set 0 x).set 1 y).set 2 z
  simpa using this
/-- What the maker of a matrix holds: the result's cell h, the matrix in the making at h + 1; below h all is as it was. -/
structure FB (w : World) (h : Nat) (wr : World) (R C : Int) (v : Value) (os : List ByteArray) : Prop where
  sz : w.heap.size = h
  res : Blk wr h [.int .i64 0, .int .i64 0, .slice none 0 0] 128
  box : Blk wr (h + 1) [.int .i64 R, .int .i64 C, v] 128
  row : wr.ownsRow (h + 2) 74 1 v os.length (os.map eS)
  bel : Below h w wr
theorem FB.lt {w wr : World} {h : Nat} {R C : Int} {v : Value} {os : List ByteArray} (H : FB w h wr R C v os) : h + 1 < wr.heap.size := H.box.lt
theorem FB.keep {w wr w' : World} {h : Nat} {R C : Int} {v : Value} {os : List ByteArray} (H : FB w h wr R C v os) (hb : Below wr.heap.size wr w') : FB w h w' R C v os :=
  ⟨H.sz, H.res.below hb (Nat.le_refl _), H.box.below hb (Nat.le_refl _), own_below H.row hb (Nat.le_refl _), H.bel.trans (hb.mono (by have := H.lt; omega))⟩
theorem FB.drew {w wr : World} {h : Nat} {R C : Int} {v : Value} {os : List ByteArray} (H : FB w h wr R C v os) : FB w h wr.drew R C v os := H.keep (Below.refl _ _).drew
theorem FB.start (w : World) (R C : Int) : FB w w.heap.size ((w.alloc (.cells #[.int .i64 0, .int .i64 0, .slice none 0 0] 128)).alloc (.cells #[.int .i64 R, .int .i64 C, .slice none 0 0] 128)) R C (.slice none 0 0) [] := by
  refine ⟨rfl, (Blk.new w [.int .i64 0, .int .i64 0, .slice none 0 0] 128).alloc _, ?_, World.ownsRow_nil _ _ _ _, ((Below.refl _ _).alloc (Nat.le_refl _) _).alloc (by simp) _⟩
  have := Blk.new (w.alloc (.cells #[.int .i64 0, .int .i64 0, .slice none 0 0] 128)) [.int .i64 R, .int .i64 C, .slice none 0 0] 128
  rwa [World.size_alloc] at this
theorem FB.push {w w1 w2 : World} {h : Nat} {R C : Int} {v v' : Value} {os : List ByteArray} {s : ByteArray} (H : FB w h w1 R C v os) (hb : Below (h + 2) w1 w2) (ho : w2.ownsRow (h + 2) 74 1 v' (os.length + 1) (os.map eS ++ [.string s])) :
    FB w h (w2.setCell ⟨h + 1, 2, none⟩ v') R C v' (os ++ [s]) := by
  have r2 : Blk w2 h [.int .i64 0, .int .i64 0, .slice none 0 0] 128 := (hb.block _ (by omega)).trans H.res
  have b2 : Blk w2 (h + 1) [.int .i64 R, .int .i64 C, v] 128 := (hb.block _ (by omega)).trans H.box
  refine ⟨H.sz, r2.setCell (by omega) _, ?_, ?_, (H.bel.trans (hb.mono (by omega))).setCell (by simp) _⟩
  · have := b2.set 2 v'
    simpa using this
  · refine ownsRow_cast (n := os.length + 1) (ys := os.map eS ++ [.string s]) ?_ (by simp) (by simp [eS])
    exact ⟨ho.1, ho.2.imp_right fun ⟨g', cap, cur, h1, h2, h3, r⟩ => ⟨g', cap, cur, h1, h2, (Below.heap_setCell _ _ _ _ (show g' ≠ h + 1 by omega)).trans h3, r⟩⟩
theorem own_off {w : World} {b e s n g j : Nat} {u v : Value} {ys : List Value} (h : w.ownsRow b e s v n ys) (hg : g < b) : (w.setCell ⟨g, j, none⟩ u).ownsRow b e s v n ys :=
  ⟨h.1, h.2.imp_right fun ⟨g', cap, cur, h1, h2, h3, r⟩ => ⟨g', cap, cur, h1, h2, (Below.heap_setCell _ _ _ _ (show g' ≠ g by omega)).trans h3, r⟩⟩
/-- The result's cell takes what was made. -/
theorem FB.done {w wr : World} {h : Nat} {R C : Int} {v : Value} {os : List ByteArray} (H : FB w h wr R C v os) :
    Blk (((wr.setCell ⟨h, 0, none⟩ (.int .i64 R)).setCell ⟨h, 1, none⟩ (.int .i64 C)).setCell ⟨h, 2, none⟩ v) h [.int .i64 R, .int .i64 C, v] 128 ∧
    Sl eS (((wr.setCell ⟨h, 0, none⟩ (.int .i64 R)).setCell ⟨h, 1, none⟩ (.int .i64 C)).setCell ⟨h, 2, none⟩ v) v os ∧
    Below w.heap.size w (((wr.setCell ⟨h, 0, none⟩ (.int .i64 R)).setCell ⟨h, 1, none⟩ (.int .i64 C)).setCell ⟨h, 2, none⟩ v) :=
  ⟨store3 H.res, Sl.ofOwns (own_off (own_off (own_off H.row (by omega)) (by omega)) (by omega)), by rw [H.sz]; exact ((H.bel.setCell (Nat.le_refl _) _).setCell (Nat.le_refl _) _).setCell (Nat.le_refl _) _⟩
theorem FB.box6 {w w1 w2 : World} {h : Nat} {R C : Int} {v : Value} {os : List ByteArray} (H : FB w h w1 R C v os) (hb : Below (h + 2) w1 w2) : Blk w2 (h + 1) [.int .i64 R, .int .i64 C, v] 128 := (hb.block _ (by omega)).trans H.box
theorem own_form {w : World} {b e s n : Nat} {v : Value} {ys : List Value} (h : w.ownsRow b e s v n ys) : ∃ a c, v = .slice a n c := by
  rcases h.2 with ⟨rfl, rfl⟩ | ⟨g, cap, cur, rfl, -⟩
  · exact ⟨none, 0, rfl⟩
  · exact ⟨_, _, rfl⟩
theorem mul_lt {i k r c : Nat} (hi : i < r) (hk : k < c) : i * c + k < r * c := by
  calc i * c + k < i * c + c := by omega
    _ = (i + 1) * c := by rw [Nat.add_mul, Nat.one_mul]
    _ ≤ r * c := Nat.mul_le_mul_right _ hi

set_option maxHeartbeats 2000000 in
theorem filled_make (w : World) (r c : Nat) (q0 q1 : Value) (ss : List ByteArray) (hl : ss.length = r * c) (hr : r ≤ 16) (hc : c ≤ 16)
    (hF : ∀ i k (h : i * c + k < ss.length) w', i < r → k < c → Below w.heap.size w w' → Calls Tryz.prog 97 #[.int .i64 i, .int .i64 k, q0, q1] w' (Rets fun v w'' => v = .tuple #[.string ss[i * c + k], .int .i64 0] ∧ Below w'.heap.size w' w'')) :
    Calls Tryz.prog 96 #[.int .i64 r, .int .i64 c, .func (.func 97) #[] #[q0, q1]] w (Rets fun v' w' => ∃ u, v' = .tuple #[.agg #[.int .i64 r, .int .i64 c, u], .int .i64 0] ∧ Sl eS w' u ss ∧ Below w.heap.size w w') := by
  have HF := Lib.hid hF; have HL := Lib.hid hl
  clear hF hl
  go_enter Tryz.func96, Tryz.ntmps96
  go_wp2
  have hB0 : FB w w.heap.size _ r c _ (ss.take 0) := FB.start w r c
  have HB0 := Lib.hid hB0
  have hrc : r * c ≤ 256 := Nat.mul_le_mul hr hc
  clear hB0
  go_loopw [17] (fun i wr => ∃ k : Nat, k ≤ r ∧ i = .int .i64 k ∧ ∃ v, Hid (FB w w.heap.size wr r c v (ss.take (k * c)))) (fun i _ => r - (intOf i).toNat)
  case atStart => exact ⟨0, Nat.zero_le _, rfl, _, Lib.hid (by rw [Nat.zero_mul]; exact HB0.out)⟩
  case round =>
    clear HB0
    obtain ⟨k, hk, rfl, v, hB⟩ := hrel
    by_cases hkr : k < r
    · obtain ⟨WA, rfl⟩ : ∃ W, W = wr := ⟨_, rfl⟩
      go_wp2
      go_loopw [21] (fun j wr => ∃ m : Nat, m ≤ c ∧ j = .int .i64 m ∧ ∃ v, Hid (FB w w.heap.size wr r c v (ss.take (k * c + m)))) (fun j _ => c - (intOf j).toNat)
      case atStart => exact ⟨0, Nat.zero_le _, rfl, _, hB⟩
      case round =>
        clear hB
        obtain ⟨m, hm, rfl, v, hB⟩ := hrel
        by_cases hmc : m < c
        · have hidx : k * c + m < ss.length := by rw [HL.out]; exact mul_lt hkr hmc
          have hC := HF.out k m hidx wr hkr hmc hB.out.bel
          have hT : ss.take (k * c + m + 1) = ss.take (k * c + m) ++ [ss[k * c + m]] := List.take_succ_eq_append_getElem hidx
          obtain ⟨s, hs⟩ : ∃ s, ss[k * c + m] = s := ⟨_, rfl⟩
          rw [hs] at hC hT
          obtain ⟨T, hTT⟩ : ∃ T, ss.take (k * c + m) = T := ⟨_, rfl⟩
          rw [hTT] at hB hT
          have HC := Lib.hid hC; have HT := Lib.hid hT
          have HTL := Lib.hid (show T.length ≤ 256 by rw [← hTT, List.length_take]; have := HL.out; omega)
          clear hC hT hs hTT
          go_wp2_with (first
            | ((with_reducible refine HC.out.mono ?_); rintro e w2 ⟨u, rfl, rfl, hb2⟩; have H2 := Lib.hid (hB.out.keep hb2); have k2 := H2.out.box.cell 2 _ rfl)
            | (at_builtin; refine app1 (news := [.string s]) elemStr rfl _ _ rfl rfl rfl H2.out.row (Below.refl _ _) (Nat.le_refl _) (by have := H2.out.box.lt; omega) rfl (by simp [Value.oneCell']) (by have := HTL.out; omega) (by unfold maxLen; have := HTL.out; omega) ?_; intro v6 w6 hown6 hb6; obtain ⟨g6, cap6, rfl⟩ := ownsRow_succ hown6; have H6 := Lib.hid (H2.out.push hb6 hown6); have B6 := H2.out.box6 hb6; have j2 := B6.cell 2 _ rfl; have f2 := B6.free 2; clear hown6 B6))
          go_roundw
          case rel => exact ⟨m + 1, by omega, by go_num, _, Lib.hid (by rw [show k * c + (m + 1) = k * c + m + 1 from rfl, HT.out]; exact H6.out)⟩
          case measure => simp [intOf]; omega
        · obtain rfl : m = c := by omega
          go_wp2
          go_roundw
          case rel => exact ⟨k + 1, by omega, by go_num, v, Lib.hid (by rw [Nat.add_mul, Nat.one_mul]; exact hB.out)⟩
          case measure => simp [intOf]; omega
    · obtain rfl : k = r := by omega
      have H := Lib.hid (show FB w w.heap.size wr k c v ss by have := hB.out; rwa [← HL.out, List.take_length] at this)
      clear hB
      obtain ⟨va, vc, rfl⟩ := own_form H.out.row
      have k0 := H.out.box.cell 0 _ rfl; have k1 := H.out.box.cell 1 _ rfl; have k2 := H.out.box.cell 2 _ rfl
      have r0 := H.out.res.cell 0 _ rfl; have r1 := H.out.res.cell 1 _ rfl; have r2 := H.out.res.cell 2 _ rfl
      have f0 := H.out.res.free 0; have f1 := H.out.res.free 1; have f2 := H.out.res.free 2
      go_wp2
      obtain ⟨hR, hS, hW⟩ := H.out.done
      have q0 := hR.cell 0 _ rfl; have q1 := hR.cell 1 _ rfl; have q2 := hR.cell 2 _ rfl
      exact bodyPost_ret (v := .tuple #[.agg #[.int .i64 k, .int .i64 c, .slice va ss.length vc], .int .i64 0]) (by simp [results, Tryz.results96, go_sem, q0, q1, q2]) rfl ⟨_, rfl, _, rfl, hS, hW⟩
end Go.Proofs.YtlnhocgjgmhfgaaGreatDoor

namespace Go.Proofs.YtlnhocgjgmhfgaaGreatDoor
set_option maxRecDepth 100000

abbrev Mat := Nat → Nat → Int
/-- The sum of the first n values. -/
def sm : Nat → (Nat → Int) → Int
  | 0, _ => 0
  | n + 1, f => sm n f + f n
theorem sm_congr {n : Nat} {f g : Nat → Int} (h : ∀ k, k < n → f k = g k) : sm n f = sm n g := by
  induction n with
  | zero => rfl
  | succ n ih => rw [sm, sm, ih fun k hk => h k (by omega), h n (by omega)]
theorem sm_zero (n : Nat) : sm n (fun _ => 0) = 0 := by
  induction n with
  | zero => rfl
  | succ n ih => rw [sm, ih]; rfl
theorem sm_add (n : Nat) (f g : Nat → Int) : sm n (fun k => f k + g k) = sm n f + sm n g := by
  induction n with
  | zero => rfl
  | succ n ih => rw [sm, sm, sm, ih]; omega
theorem sm_mul (n : Nat) (a : Int) (f : Nat → Int) : sm n (fun k => a * f k) = a * sm n f := by
  induction n with
  | zero => simp [sm]
  | succ n ih => rw [sm, sm, ih, Int.mul_add]
theorem sm_neg (n : Nat) (f : Nat → Int) : sm n (fun k => -f k) = -sm n f := by
  induction n with
  | zero => rfl
  | succ n ih => rw [sm, sm, ih]; omega
theorem sm_one {n : Nat} (f : Nat → Int) (k : Nat) (hk : k < n) (h : ∀ j, j < n → j ≠ k → f j = 0) : sm n f = f k := by
  induction n with
  | zero => omega
  | succ n ih =>
    rw [sm]
    by_cases e : k = n
    · subst e
      rw [sm_congr (g := fun _ => 0) fun j hj => h j (by omega) (by omega), sm_zero]; omega
    · rw [ih (by omega) fun j hj hn => h j (by omega) hn, h n (by omega) (by omega)]; omega
theorem sm_comm (m n : Nat) (f : Nat → Nat → Int) : sm m (fun i => sm n (fun j => f i j)) = sm n (fun j => sm m (fun i => f i j)) := by
  induction m with
  | zero => simp only [sm]; rw [sm_zero]
  | succ m ih => simp only [sm]; rw [ih, sm_add]
/-- Two neighbours exchanged. -/
def sw (c j : Nat) : Nat := if j = c then c + 1 else if j = c + 1 then c else j
theorem sw_lt {c j n : Nat} (hc : c + 1 < n) (hj : j < n) : sw c j < n := by unfold sw; split <;> (try split) <;> omega
theorem sm_sw {n c : Nat} (hc : c + 1 < n) (f : Nat → Int) : sm n (fun k => f (sw c k)) = sm n f := by
  induction n with
  | zero => omega
  | succ n ih =>
    by_cases e : c + 1 < n
    · rw [sm, sm, ih e]
      have : sw c n = n := by unfold sw; rw [if_neg (by omega), if_neg (by omega)]
      rw [this]
    · obtain rfl : n = c + 1 := by omega
      rw [sm, sm, sm, sm]
      have h1 : sw c c = c + 1 := by simp [sw]
      have h2 : sw c (c + 1) = c := by simp [sw]
      rw [h1, h2, sm_congr (g := f) fun k hk => by unfold sw; rw [if_neg (by omega), if_neg (by omega)]]
      omega

/-- The k-th of the numbers but r. -/
def sk (r i : Nat) : Nat := if i < r then i else i + 1
theorem sk_lt {r i n : Nat} (hi : i < n) : sk r i < n + 1 := by unfold sk; split <;> omega
theorem sk_ne (r i : Nat) : sk r i ≠ r := by unfold sk; split <;> omega
def usk (r j : Nat) : Nat := if j < r then j else j - 1
theorem usk_sk (r i : Nat) : usk r (sk r i) = i := by unfold usk sk; grind
theorem sk_usk {r j : Nat} (h : j ≠ r) : sk r (usk r j) = j := by unfold usk sk; grind
theorem usk_lt {r j n : Nat} (h : j ≠ r) (hj : j < n + 1) (hr : r < n + 1) : usk r j < n := by unfold usk; split <;> omega
theorem sk_inj {r i j : Nat} (h : sk r i = sk r j) : i = j := by have := congrArg (usk r) h; rwa [usk_sk, usk_sk] at this
def mnr (A : Mat) (r c : Nat) : Mat := fun i j => A (sk r i) (sk c j)
def sgn (k : Nat) : Int := if k % 2 = 0 then 1 else -1
theorem sgn_succ (k : Nat) : sgn (k + 1) = -sgn k := by unfold sgn; split <;> split <;> omega
theorem sgn_zero : sgn 0 = 1 := rfl
theorem sgn_sq (k : Nat) : sgn k * sgn k = 1 := by unfold sgn; split <;> rfl
theorem sgn_add (i k : Nat) : sgn (i + k) = sgn i * sgn k := by
  induction k with
  | zero => rw [sgn_zero, Int.mul_one]; rfl
  | succ k ih => rw [← Nat.add_assoc, sgn_succ, ih, sgn_succ, Int.mul_neg]
/-- The determinant, by expansion along the first row. -/
def det : Nat → Mat → Int
  | 0, _ => 1
  | n + 1, A => sm (n + 1) (fun k => sgn k * A 0 k * det n (mnr A 0 k))
theorem det_congr : ∀ {n : Nat} {A B : Mat}, (∀ i j, i < n → j < n → A i j = B i j) → det n A = det n B
  | 0, _, _, _ => rfl
  | n + 1, A, B, h => by
    rw [det, det]
    refine sm_congr fun k hk => ?_
    rw [h 0 k (by omega) hk, det_congr (n := n) (A := mnr A 0 k) (B := mnr B 0 k) fun i j hi hj => h _ _ (sk_lt hi) (sk_lt hj)]

def setc (A : Mat) (c : Nat) (v : Nat → Int) : Mat := fun i j => if j = c then v i else A i j
def setr (A : Mat) (r : Nat) (v : Nat → Int) : Mat := fun i j => if i = r then v j else A i j
theorem mnr_setc_same (A : Mat) (c : Nat) (v : Nat → Int) : mnr (setc A c v) 0 c = mnr A 0 c := by
  funext i j
  simp only [mnr, setc]
  rw [if_neg (sk_ne c j)]
theorem mnr_setc (A : Mat) (k c : Nat) (v : Nat → Int) (h : k ≠ c) : mnr (setc A c v) 0 k = setc (mnr A 0 k) (usk k c) (fun i => v (i + 1)) := by
  funext i j
  simp only [mnr, setc]
  by_cases e : sk k j = c
  · rw [if_pos e, if_pos (by rw [← e, usk_sk])]; simp [sk]
  · rw [if_neg e, if_neg (fun e2 => e (by rw [e2, sk_usk (Ne.symm h)]))]
theorem setc_at (A : Mat) (c : Nat) (v : Nat → Int) (i : Nat) : setc A c v i c = v i := by simp [setc]
theorem setc_ne (A : Mat) {c j : Nat} (v : Nat → Int) (i : Nat) (h : j ≠ c) : setc A c v i j = A i j := by simp [setc, h]
theorem det_col : ∀ (n : Nat) (A : Mat) (c : Nat), c < n → ∀ (a b : Int) (u v : Nat → Int), det n (setc A c (fun i => a * u i + b * v i)) = a * det n (setc A c u) + b * det n (setc A c v)
  | 0, _, _, h, _, _, _, _ => by omega
  | n + 1, A, c, h, a, b, u, v => by
    rw [det, det, det, ← sm_mul, ← sm_mul, ← sm_add]
    refine sm_congr fun k hk => ?_
    by_cases e : k = c
    · subst e
      simp only [setc_at, mnr_setc_same]
      grind
    · simp only [setc_ne _ _ _ e]
      rw [mnr_setc _ _ _ _ e, mnr_setc _ _ _ _ e, mnr_setc _ _ _ _ e, det_col n (mnr A 0 k) (usk k c) (usk_lt (Ne.symm e) h hk) a b (fun i => u (i + 1)) (fun i => v (i + 1))]
      grind
/-- Two neighbouring columns exchanged. -/
theorem det_swc : ∀ (n : Nat) (A : Mat) (c : Nat), c + 1 < n → det n (fun i j => A i (sw c j)) = -det n A
  | 0, _, _, h => by omega
  | n + 1, A, c, h => by
    rw [det, det, ← sm_neg, ← sm_sw h (fun k => -(sgn k * A 0 k * det n (mnr A 0 k)))]
    refine sm_congr fun k hk => ?_
    by_cases e1 : k = c
    · subst e1
      have h1 : sw k k = k + 1 := by simp [sw]
      have h2 : mnr (fun i j => A i (sw k j)) 0 k = mnr A 0 (k + 1) := by
        funext i j; simp only [mnr]; congr 1; unfold sk sw; grind
      rw [h1, h2, sgn_succ]; grind
    · by_cases e2 : k = c + 1
      · subst e2
        have h1 : sw c (c + 1) = c := by simp [sw]
        have h2 : mnr (fun i j => A i (sw c j)) 0 (c + 1) = mnr A 0 c := by
          funext i j; simp only [mnr]; congr 1; unfold sk sw; grind
        rw [h1, h2, sgn_succ]; grind
      · have h1 : sw c k = k := by unfold sw; rw [if_neg e1, if_neg e2]
        have h2 : mnr (fun i j => A i (sw c j)) 0 k = fun i j => mnr A 0 k i (sw (if c < k then c else c - 1) j) := by
          funext i j; simp only [mnr]; congr 1
          by_cases hck : c < k
          · rw [if_pos hck]; unfold sk sw; grind
          · rw [if_neg hck]; unfold sk sw; grind
        rw [h1, h2, det_swc n (mnr A 0 k) _ (by split <;> omega)]; grind
theorem det_col_adj {n : Nat} {A : Mat} {c : Nat} (hc : c + 1 < n) (h : ∀ i, i < n → A i c = A i (c + 1)) : det n A = 0 := by
  have h1 := det_swc n A c hc
  rw [det_congr (B := A) fun i j hi hj => ?_] at h1
  · omega
  · show A i (sw c j) = A i j
    unfold sw
    by_cases e : j = c
    · rw [if_pos e, e, h i hi]
    · rw [if_neg e]
      by_cases e2 : j = c + 1
      · rw [if_pos e2, e2, h i hi]
      · rw [if_neg e2]
/-- Two equal columns. -/
theorem det_col_eq : ∀ (d : Nat) {n : Nat} {A : Mat} {c : Nat}, c + 1 + d < n → (∀ i, i < n → A i c = A i (c + 1 + d)) → det n A = 0
  | 0, n, A, c, hc, h => det_col_adj hc h
  | d + 1, n, A, c, hc, h => by
    have h1 := det_swc n A (c + 1 + d) (by omega)
    have h2 : det n (fun i j => A i (sw (c + 1 + d) j)) = 0 := det_col_eq d (c := c) (by omega) fun i hi => by
      have e1 : sw (c + 1 + d) c = c := by unfold sw; rw [if_neg (by omega), if_neg (by omega)]
      have e2 : sw (c + 1 + d) (c + 1 + d) = c + 1 + (d + 1) := by unfold sw; rw [if_pos rfl]; omega
      rw [e1, e2, h i hi]
    omega

/-- An alternating multilinear function of the n rows. -/
structure Alt (n : Nat) (f : Mat → Int) : Prop where
  congr : ∀ A B : Mat, (∀ i j, i < n → j < n → A i j = B i j) → f A = f B
  lin : ∀ (A : Mat) (r : Nat), r < n → ∀ (a b : Int) (u v : Nat → Int), f (setr A r (fun j => a * u j + b * v j)) = a * f (setr A r u) + b * f (setr A r v)
  alt : ∀ (A : Mat) (r s : Nat), r < s → s < n → (∀ j, j < n → A r j = A s j) → f A = 0
theorem setr_self (A : Mat) (r : Nat) : setr A r (A r) = A := by
  funext i j; unfold setr; by_cases e : i = r
  · rw [if_pos e, e]
  · rw [if_neg e]
theorem Alt.zero {n : Nat} {f : Mat → Int} (h : Alt n f) (A : Mat) (r : Nat) (hr : r < n) : f (setr A r (fun _ => 0)) = 0 := by
  have := h.lin A r hr 0 0 (A r) (A r)
  simp only [Int.zero_mul, Int.add_zero] at this
  exact this
theorem Alt.sum {n : Nat} {f : Mat → Int} (h : Alt n f) (A : Mat) (r : Nat) (hr : r < n) (a : Nat → Int) (u : Nat → Nat → Int) : ∀ m, f (setr A r (fun j => sm m (fun k => a k * u k j))) = sm m (fun k => a k * f (setr A r (u k)))
  | 0 => by simp only [sm]; exact h.zero A r hr
  | m + 1 => by
    have := h.lin A r hr 1 (a m) (fun j => sm m (fun k => a k * u k j)) (u m)
    simp only [Int.one_mul] at this
    simp only [sm]
    rw [this, h.sum A r hr a u m]
theorem Alt.eqrows {n : Nat} {f : Mat → Int} (h : Alt n f) (A : Mat) (r s : Nat) (hne : r ≠ s) (hr : r < n) (hs : s < n) (he : ∀ j, j < n → A r j = A s j) : f A = 0 := by
  rcases Nat.lt_or_gt_of_ne hne with h1 | h1
  · exact h.alt A r s h1 hs he
  · exact h.alt A s r h1 hr fun j hj => (he j hj).symm
/-- A multiple of another row added. -/
theorem Alt.addrow {n : Nat} {f : Mat → Int} (h : Alt n f) (A : Mat) (r s : Nat) (hne : r ≠ s) (hr : r < n) (hs : s < n) (c : Int) : f (setr A r (fun j => A r j + c * A s j)) = f A := by
  have h1 := h.lin A r hr 1 c (A r) (A s)
  simp only [Int.one_mul] at h1
  rw [h1, setr_self, h.eqrows (setr A r (A s)) r s hne hr hs fun j _ => by simp [setr, Ne.symm hne]]
  omega
theorem Alt.scale {n : Nat} {f : Mat → Int} (h : Alt n f) (A : Mat) (r : Nat) (hr : r < n) (c : Int) : f (setr A r (fun j => c * A r j)) = c * f A := by
  have h1 := h.lin A r hr c 0 (A r) (A r)
  simp only [Int.zero_mul, Int.add_zero] at h1
  rw [h1, setr_self]
/-- Two rows exchanged. -/
def swr (A : Mat) (r s : Nat) : Mat := fun i j => if i = r then A s j else if i = s then A r j else A i j
theorem Alt.swap {n : Nat} {f : Mat → Int} (h : Alt n f) (A : Mat) (r s : Nat) (hne : r ≠ s) (hr : r < n) (hs : s < n) : f (swr A r s) = -f A := by
  -- rows (u, v) -> (u + v, v) -> (u + v, -u) -> (v, -u) -> (v, u)
  let B := setr A r (fun j => A r j + 1 * A s j)
  let C := setr B s (fun j => B s j + (-1) * B r j)
  let D := setr C r (fun j => C r j + 1 * C s j)
  have h1 : f B = f A := h.addrow A r s hne hr hs 1
  have h2 : f C = f B := h.addrow B s r (Ne.symm hne) hs hr (-1)
  have h3 : f D = f C := h.addrow C r s hne hr hs 1
  have h4 : f (setr D s (fun j => (-1) * D s j)) = (-1) * f D := h.scale D s hs (-1)
  have h5 : setr D s (fun j => (-1) * D s j) = swr A r s := by
    funext i j
    simp only [D, C, B, setr, swr]
    by_cases e1 : i = r
    · subst e1; simp [hne, Ne.symm hne]; omega
    · by_cases e2 : i = s
      · subst e2; simp [Ne.symm hne]; omega
      · simp [e1, e2]
  rw [← h5, h4, h3, h2, h1]; omega

/-- The unit matrix. -/
def one : Mat := fun i j => if i = j then 1 else 0
/-- The matrix with the first row the k-th unit row, B elsewhere. -/
def emb (k : Nat) (B : Mat) : Mat := fun i j => if i = 0 then (if j = k then 1 else 0) else if j = k then 0 else B (i - 1) (usk k j)
theorem clear_col {n : Nat} {f : Mat → Int} (h : Alt (n + 1) f) (A : Mat) (k : Nat) (h0 : ∀ j, A 0 j = if j = k then 1 else 0) : ∀ m, m ≤ n → f (fun i j => if 0 < i ∧ i ≤ m then A i j - A i k * A 0 j else A i j) = f A
  | 0, _ => by congr 1; funext i j; rw [if_neg (by omega)]
  | m + 1, hm => by
    rw [← clear_col h A k h0 m (by omega)]
    have := h.addrow (fun i j => if 0 < i ∧ i ≤ m then A i j - A i k * A 0 j else A i j) (m + 1) 0 (by omega) (by omega) (by omega) (-A (m + 1) k)
    rw [← this]
    congr 1
    funext i j
    simp only [setr]
    by_cases e : i = m + 1
    · subst e
      rw [if_pos ⟨by omega, by omega⟩, if_pos rfl, if_neg (by omega), if_neg (by omega)]
      rw [Int.neg_mul]; omega
    · rw [if_neg e]
      by_cases e2 : 0 < i ∧ i ≤ m
      · rw [if_pos e2, if_pos ⟨e2.1, by omega⟩]
      · rw [if_neg e2, if_neg (by omega)]
theorem emb_alt {n : Nat} {f : Mat → Int} (h : Alt (n + 1) f) (k : Nat) (hk : k < n + 1) : Alt n (fun B => f (emb k B)) where
  congr A B hAB := h.congr _ _ fun i j hi hj => by
    unfold emb
    by_cases e : i = 0
    · rw [if_pos e, if_pos e]
    · rw [if_neg e, if_neg e]
      by_cases e2 : j = k
      · rw [if_pos e2, if_pos e2]
      · rw [if_neg e2, if_neg e2]; exact hAB _ _ (by omega) (usk_lt e2 hj hk)
  lin A r hr a b u v := by
    have e : ∀ w : Nat → Int, emb k (setr A r w) = setr (emb k A) (r + 1) (fun j => if j = k then 0 else w (usk k j)) := by
      intro w; funext i j
      unfold emb setr
      grind
    show f (emb k _) = _ * f (emb k _) + _ * f (emb k _)
    rw [e, e, e, ← h.lin (emb k A) (r + 1) (by omega) a b]
    congr 2
    funext j
    split
    · simp
    · rfl
  alt A r s hrs hs he := h.alt _ (r + 1) (s + 1) (by omega) (by omega) fun j hj => by
    have := fun e2 : j ≠ k => he _ (usk_lt e2 hj hk)
    unfold emb
    grind
theorem emb_one {n : Nat} {f : Mat → Int} (h : Alt (n + 1) f) : ∀ k, k < n + 1 → f (emb k one) = sgn k * f one
  | 0, _ => by
    rw [sgn_zero, Int.one_mul]
    congr 1; funext i j; unfold emb one usk
    grind
  | k + 1, hk => by
    have h1 := emb_one h k (by omega)
    have h2 := h.swap (emb k one) 0 (k + 1) (by omega) (by omega) hk
    rw [sgn_succ, Int.neg_mul, ← h1, ← h2]
    refine h.congr _ _ fun i j hi hj => ?_
    unfold emb swr one usk
    grind
/-- The alternating multilinear function is unique, but for its value at the unit matrix. -/
theorem Alt.uniq : ∀ {n : Nat} {f : Mat → Int}, Alt n f → ∀ A, f A = f one * det n A
  | 0, f, h, A => by rw [det, Int.mul_one]; exact h.congr _ _ fun i j hi => by omega
  | n + 1, f, h, A => by
    have e1 : f A = sm (n + 1) (fun k => A 0 k * f (setr A 0 (fun j => if j = k then 1 else 0))) := by
      rw [← h.sum A 0 (by omega) (A 0) (fun k j => if j = k then 1 else 0) (n + 1)]
      refine h.congr _ _ fun i j hi hj => ?_
      unfold setr
      by_cases e : i = 0
      · rw [if_pos e]
        show A i j = sm (n + 1) (fun k => A 0 k * if j = k then 1 else 0)
        rw [sm_one _ j hj fun k _ hk => by rw [if_neg (Ne.symm hk), Int.mul_zero], if_pos rfl, Int.mul_one, e]
      · rw [if_neg e]
    rw [e1, det, ← sm_mul]
    refine sm_congr fun k hk => ?_
    have e2 : f (setr A 0 (fun j => if j = k then 1 else 0)) = f (emb k (mnr A 0 k)) := by
      rw [← clear_col h (setr A 0 (fun j => if j = k then 1 else 0)) k (fun j => by simp [setr]) n (Nat.le_refl _)]
      refine h.congr _ _ fun i j hi hj => ?_
      unfold emb
      by_cases e : i = 0
      · subst e; rw [if_neg (by omega), if_pos rfl]; simp [setr]
      · rw [if_pos ⟨by omega, by omega⟩, if_neg e]
        simp only [setr, if_neg e, if_pos]
        by_cases e3 : j = k
        · rw [if_pos e3, if_pos e3, e3]; omega
        · rw [if_neg e3, if_neg e3, Int.mul_zero, Int.sub_zero]
          unfold mnr
          rw [sk_usk e3]
          congr 1
          unfold sk; rw [if_neg (by omega)]; omega
    rw [e2, (emb_alt h k hk).uniq (mnr A 0 k), emb_one h k hk]
    grind
theorem det_one : ∀ n, det n one = 1
  | 0 => rfl
  | n + 1 => by
    rw [det, sm_one _ 0 (by omega) fun k hk hk0 => by simp [one, Ne.symm hk0], sgn_zero]
    rw [det_congr (B := one) fun i j _ _ => by simp only [mnr, one, sk]; simp, det_one n]
    rfl
/-- The transposed matrix. -/
def tr (A : Mat) : Mat := fun i j => A j i
theorem tr_alt (n : Nat) : Alt n (fun A => det n (tr A)) where
  congr A B h := det_congr fun i j hi hj => h j i hj hi
  lin A r hr a b u v := by
    have e : ∀ w : Nat → Int, tr (setr A r w) = setc (tr A) r w := fun w => rfl
    show det n (tr _) = _ * det n (tr _) + _ * det n (tr _)
    rw [e, e, e]
    exact det_col n (tr A) r hr a b u v
  alt A r s hrs hs he := by
    obtain ⟨d, rfl⟩ : ∃ d, s = r + 1 + d := ⟨s - r - 1, by omega⟩
    exact det_col_eq d hs fun i hi => he i hi
theorem det_tr (n : Nat) (A : Mat) : det n (tr A) = det n A := by
  have := (tr_alt n).uniq A
  rw [this]
  show det n (tr one) * _ = _
  rw [show tr one = one by funext i j; simp [tr, one, eq_comm], det_one, Int.one_mul]
theorem det_alt (n : Nat) : Alt n (det n) := by
  have h := tr_alt n
  have e : (fun A => det n (tr A)) = det n := funext fun A => det_tr n A
  rwa [e] at h
/-- The product. -/
def mulM (n : Nat) (A B : Mat) : Mat := fun i j => sm n (fun k => A i k * B k j)
theorem det_mul (n : Nat) (A B : Mat) : det n (mulM n A B) = det n A * det n B := by
  have h : Alt n (fun A => det n (mulM n A B)) := {
    congr := fun A A' hA => det_congr fun i j hi hj => sm_congr fun k hk => by rw [hA i k hi hk]
    lin := fun A r hr a b u v => by
      have e : ∀ w : Nat → Int, mulM n (setr A r w) B = setr (mulM n A B) r (fun j => sm n (fun k => w k * B k j)) := by
        intro w; funext i j
        simp only [mulM, setr]
        by_cases e : i = r
        · simp only [if_pos e]
        · simp only [if_neg e]
      show det n (mulM n _ B) = _ * det n (mulM n _ B) + _ * det n (mulM n _ B)
      rw [e, e, e, ← (det_alt n).lin (mulM n A B) r hr a b]
      congr 2
      funext j
      rw [← sm_mul, ← sm_mul, ← sm_add]
      exact sm_congr fun k _ => by grind
    alt := fun A r s hrs hs he => (det_alt n).alt _ r s hrs hs fun j _ => sm_congr fun k hk => by rw [he k hk] }
  have h2 := h.uniq A
  rw [h2]
  show det n (mulM n one B) * _ = _
  rw [det_congr (B := B) fun i j hi hj => ?_]
  · exact Int.mul_comm _ _
  · show sm n _ = _
    rw [sm_one _ i hi fun k _ hk => by simp [one, Ne.symm hk]]
    simp [one]
end Go.Proofs.YtlnhocgjgmhfgaaGreatDoor

namespace Go.Proofs.YtlnhocgjgmhfgaaGreatDoor
set_option maxRecDepth 100000

theorem det_zrow {n : Nat} {A : Mat} (r : Nat) (hr : r < n) (h : ∀ j, j < n → A r j = 0) : det n A = 0 := by
  have := (det_alt n).zero A r hr
  rw [← this]
  refine det_congr fun i j hi hj => ?_
  unfold setr
  by_cases e : i = r
  · rw [if_pos e, e, h j hj]
  · rw [if_neg e]
/-- The last row is 0 but for its last entry. -/
theorem det_last : ∀ (n : Nat) (A : Mat), (∀ j, j < n → A n j = 0) → det (n + 1) A = A n n * det n A
  | 0, A, _ => by simp [det, sm, sgn]
  | n + 1, A, h => by
    rw [det, sm]
    have h1 : det (n + 1) (mnr A 0 (n + 1)) = 0 := det_zrow n (by omega) fun j hj => by
      have : mnr A 0 (n + 1) n j = A (n + 1) j := by unfold mnr sk; rw [if_neg (by omega), if_pos (by omega)]
      rw [this, h j (by omega)]
    rw [h1, Int.mul_zero, Int.add_zero, det, ← sm_mul]
    refine sm_congr fun k hk => ?_
    have h2 := det_last n (mnr A 0 k) fun j hj => by
      unfold mnr
      rw [show sk 0 n = n + 1 by simp [sk]]
      exact h _ (sk_lt hj)
    have h3 : mnr A 0 k n n = A (n + 1) (n + 1) := by unfold mnr sk; rw [if_neg (by omega), if_neg (by omega)]
    rw [h2, h3, Int.mul_left_comm]
/-- The last two rows are 0 but for their last two entries. -/
theorem det_two (r : Nat) (A : Mat) (h1 : ∀ j, j < r → A r j = 0) (h2 : ∀ j, j < r → A (r + 1) j = 0) :
    det (r + 2) A = det r A * (A r r * A (r + 1) (r + 1) - A r (r + 1) * A (r + 1) r) := by
  have hl := (det_alt (r + 2)).lin A (r + 1) (by omega) (A (r + 1) r) (A (r + 1) (r + 1)) (fun j => if j = r then 1 else 0) (fun j => if j = r + 1 then 1 else 0)
  have e0 : det (r + 2) (setr A (r + 1) (fun j => A (r + 1) r * (if j = r then 1 else 0) + A (r + 1) (r + 1) * (if j = r + 1 then 1 else 0))) = det (r + 2) A := by
    refine det_congr fun i j hi hj => ?_
    unfold setr
    by_cases e : i = r + 1
    · rw [if_pos e, e]
      by_cases e1 : j = r
      · subst e1; simp
      · by_cases e2 : j = r + 1
        · subst e2; simp
        · simp only [if_neg e1, if_neg e2]; rw [h2 j (by omega)]; simp
    · rw [if_neg e]
  rw [← e0, hl]
  have e2 : det (r + 2) (setr A (r + 1) (fun j => if j = r + 1 then 1 else 0)) = A r r * det r A := by
    rw [det_last (r + 1) _ fun j hj => by simp [setr]; omega]
    rw [show setr A (r + 1) (fun j => if j = r + 1 then (1 : Int) else 0) (r + 1) (r + 1) = 1 by simp [setr], Int.one_mul]
    rw [det_congr (B := A) fun i j hi hj => by unfold setr; rw [if_neg (by omega)]]
    exact det_last r A h1
  have e3 : det (r + 2) (setr A (r + 1) (fun j => if j = r then 1 else 0)) = -(A r (r + 1) * det r A) := by
    have hs := det_swc (r + 2) (setr A (r + 1) (fun j => if j = r then 1 else 0)) r (by omega)
    have e4 : det (r + 2) (fun i j => setr A (r + 1) (fun j => if j = r then 1 else 0) i (sw r j)) = A r (r + 1) * det r A := by
      rw [det_last (r + 1) _ fun j hj => by unfold setr sw; grind]
      have : setr A (r + 1) (fun j => if j = r then (1 : Int) else 0) (r + 1) (sw r (r + 1)) = 1 := by simp [setr, sw]
      rw [this, Int.one_mul, det_last r _ fun j hj => by
        simp only [setr, sw]; rw [if_neg (by omega), if_neg (by omega), if_neg (by omega)]; exact h1 j hj]
      have : setr A (r + 1) (fun j => if j = r then (1 : Int) else 0) r (sw r r) = A r (r + 1) := by simp [setr, sw]
      rw [this]
      congr 1
      refine det_congr fun i j hi hj => ?_
      simp only [setr, sw]; rw [if_neg (by omega), if_neg (by omega), if_neg (by omega)]
    omega
  rw [e2, e3]
  grind
/-- A row, times a number, and multiples of the m rows above. -/
theorem Alt.addrows {n : Nat} {f : Mat → Int} (h : Alt n f) (A : Mat) (r m : Nat) (hr : r < n) (hm : m ≤ r) (c : Int) (w : Nat → Int) :
    f (setr A r (fun j => c * A r j + sm m (fun t => w t * A t j))) = c * f A := by
  have h1 := h.lin A r hr c 1 (A r) (fun j => sm m (fun t => w t * A t j))
  simp only [Int.one_mul] at h1
  rw [h1, setr_self, h.sum A r hr w (fun t j => A t j) m, sm_congr (g := fun _ => 0) fun k hk => ?_, sm_zero, Int.add_zero]
  rw [h.eqrows (setr A r (A k)) r k (by omega) hr (by omega) fun j _ => by unfold setr; grind, Int.mul_zero]

/-- The rows above r and row i, the columns c and column j. -/
def bord (A : Mat) (c : Nat → Nat) (r i j : Nat) : Mat := fun s t => A (if s < r then s else i) (if t < r then c t else j)
/-- What elimination has reached: r pivots in the first k columns c; A is the matrix but for the order of its rows, M what is left. -/
structure Inv (m n k r : Nat) (A M : Mat) (c : Nat → Nat) (d : Int) : Prop where
  rk : r ≤ m
  kn : k ≤ n
  ck : ∀ t, t < r → c t < k
  mono : ∀ s t, s < t → t < r → c s < c t
  d0 : d ≠ 0
  lead : d = det r (fun i j => A i (c j))
  zero : ∀ i, r ≤ i → i < m → ∀ j, j < k → M i j = 0
  rel : ∀ i, r ≤ i → i < m → ∃ (q : Int) (w : Nat → Int), q ≠ 0 ∧ ∀ j, j < n → q * M i j = q * d * A i j + sm r (fun t => w t * A t j)
theorem Inv.start (m n : Nat) (A : Mat) : Inv m n 0 0 A A id 1 :=
  ⟨by omega, by omega, fun t h => by omega, fun s t _ h => by omega, by omega, rfl, fun _ _ _ _ h => by omega, fun i _ _ => ⟨1, fun _ => 0, by omega, fun j _ => by simp [sm]⟩⟩
theorem Inv.minor {m n k r : Nat} {A M : Mat} {c : Nat → Nat} {d : Int} (h : Inv m n k r A M c d) {i j : Nat} (hi : r ≤ i) (him : i < m) (hj : j < n) : M i j = det (r + 1) (bord A c r i j) := by
  obtain ⟨q, w, hq, hrel⟩ := h.rel i hi him
  have h1 := (det_alt (r + 1)).addrows (bord A c r i j) r r (by omega) (Nat.le_refl _) (q * d) w
  have h2 : det (r + 1) (setr (bord A c r i j) r (fun t => q * d * bord A c r i j r t + sm r (fun s => w s * bord A c r i j s t))) = q * M i j * d := by
    have e : ∀ t, t < r + 1 → q * d * bord A c r i j r t + sm r (fun s => w s * bord A c r i j s t) = q * M i (if t < r then c t else j) := by
      intro t ht
      rw [hrel _ (by split; exact Nat.lt_of_lt_of_le (h.ck t (by omega)) h.kn; exact hj)]
      unfold bord
      rw [if_neg (Nat.lt_irrefl r)]
      congr 1
      exact sm_congr fun s hs => by rw [if_pos hs]
    rw [det_last r _ fun t ht => by
      simp only [setr, if_pos]
      rw [e t (by omega), if_pos ht, h.zero i hi him _ (h.ck t ht), Int.mul_zero]]
    have e1 : setr (bord A c r i j) r (fun t => q * d * bord A c r i j r t + sm r (fun s => w s * bord A c r i j s t)) r r = q * M i j := by
      simp only [setr, if_pos]
      rw [e r (by omega), if_neg (Nat.lt_irrefl r)]
    rw [e1]
    congr 1
    rw [h.lead]
    refine det_congr fun s t hs ht => ?_
    unfold setr bord
    rw [if_neg (by omega), if_pos hs, if_pos ht]
  rw [h2] at h1
  have hqd : q * d ≠ 0 := Int.mul_ne_zero hq h.d0
  refine Int.eq_of_mul_eq_mul_left hqd ?_
  rw [← h1]; grind
/-- The numerator is divisible. -/
theorem Inv.exact {m n k r : Nat} {A M : Mat} {c : Nat → Nat} {d : Int} (h : Inv m n k r A M c d) {i j : Nat} (hi : r < i) (him : i < m) (hk : k < n) (hj : j < n) :
    ∃ D, M i j * M r k - M i k * M r j = d * D := by
  obtain ⟨q, w, hq, hrel⟩ := h.rel i (by omega) him
  obtain ⟨p, u, hp, hrel'⟩ := h.rel r (Nat.le_refl _) (by omega)
  let X : Mat := fun s t => A (if s < r then s else if s = r then r else i) (if t < r then c t else if t = r then k else j)
  let Y : Mat := setr X (r + 1) (fun t => q * d * X (r + 1) t + sm r (fun s => w s * X s t))
  let Z : Mat := setr Y r (fun t => p * d * Y r t + sm r (fun s => u s * Y s t))
  have h1 : det (r + 2) Y = q * d * det (r + 2) X := (det_alt (r + 2)).addrows X (r + 1) r (by omega) (by omega) (q * d) w
  have h2 : det (r + 2) Z = p * d * det (r + 2) Y := (det_alt (r + 2)).addrows Y r r (by omega) (by omega) (p * d) u
  have col : ∀ t, t < r + 2 → (if t < r then c t else if t = r then k else j) < n := fun t ht => by
    split
    · exact Nat.lt_of_lt_of_le (h.ck t ‹_›) h.kn
    · split <;> assumption
  have eY : ∀ t, t < r + 2 → Y (r + 1) t = q * M i (if t < r then c t else if t = r then k else j) := by
    intro t ht
    rw [hrel _ (col t ht)]
    simp only [Y, X, setr, if_pos]
    rw [if_neg (by omega), if_neg (by omega)]
    congr 1
    exact sm_congr fun s hs => by rw [if_pos hs]
  have eZ : ∀ t, t < r + 2 → Z r t = p * M r (if t < r then c t else if t = r then k else j) := by
    intro t ht
    rw [hrel' _ (col t ht)]
    simp only [Z, Y, X, setr, if_pos]
    rw [if_neg (by omega), if_neg (by omega)]
    congr 1
    exact sm_congr fun s hs => by rw [if_neg (by omega), if_pos hs]
  have eZ1 : ∀ t, Z (r + 1) t = Y (r + 1) t := fun t => by simp only [Z, setr]; rw [if_neg (by omega)]
  have h3 := det_two r Z (fun t ht => by rw [eZ t (by omega), if_pos ht, h.zero r (Nat.le_refl _) (by omega) _ (h.ck t ht), Int.mul_zero])
    (fun t ht => by rw [eZ1, eY t (by omega), if_pos ht, h.zero i (by omega) him _ (h.ck t ht), Int.mul_zero])
  rw [eZ r (by omega), eZ (r + 1) (by omega), eZ1, eZ1, eY r (by omega), eY (r + 1) (by omega)] at h3
  rw [if_neg (Nat.lt_irrefl r), if_pos rfl, if_neg (show ¬ r + 1 < r by omega), if_neg (show ¬ r + 1 = r by omega)] at h3
  have h4 : det r Z = d := by
    rw [h.lead]
    refine det_congr fun s t hs ht => ?_
    simp only [Z, Y, X, setr]
    rw [if_neg (by omega), if_neg (by omega), if_pos hs, if_pos ht]
  rw [h4, h2, h1] at h3
  refine ⟨det (r + 2) X, ?_⟩
  have hne : q * p * d ≠ 0 := Int.mul_ne_zero (Int.mul_ne_zero hq hp) h.d0
  refine Int.eq_of_mul_eq_mul_left hne ?_
  grind
/-- One step of elimination below row r. -/
def below (r k : Nat) (d : Int) (M : Mat) : Mat := fun i j => if r < i then Int.fdiv (M i j * M r k - M i k * M r j) d else M i j
theorem Inv.below_mul {m n k r : Nat} {A M : Mat} {c : Nat → Nat} {d : Int} (h : Inv m n k r A M c d) {i j : Nat} (hi : r < i) (him : i < m) (hk : k < n) (hj : j < n) :
    d * below r k d M i j = M i j * M r k - M i k * M r j := by
  obtain ⟨D, hD⟩ := h.exact hi him hk hj
  unfold below
  rw [if_pos hi, hD, Int.mul_fdiv_cancel_left _ h.d0]
theorem Inv.elim {m n k r : Nat} {A M : Mat} {c : Nat → Nat} {d : Int} (h : Inv m n k r A M c d) (hr : r < m) (hk : k < n) (hp : M r k ≠ 0) :
    Inv m n (k + 1) (r + 1) A (below r k d M) (fun t => if t < r then c t else k) (M r k) where
  rk := by omega
  kn := by omega
  ck t ht := by
    show (if t < r then c t else k) < k + 1
    split
    · have := h.ck t ‹_›; omega
    · omega
  mono s t hst ht := by
    show (if s < r then c s else k) < (if t < r then c t else k)
    rw [if_pos (by omega)]
    split
    · exact h.mono s t hst ‹_›
    · exact h.ck s (by omega)
  d0 := hp
  lead := by
    rw [h.minor (Nat.le_refl _) hr hk]
    refine det_congr fun s t hs ht => ?_
    unfold bord
    by_cases e : s < r
    · rw [if_pos e]
    · rw [if_neg e, show s = r by omega]
  zero i hi him j hj := by
    have := h.below_mul (i := i) (j := j) hi him hk (by omega)
    have e : M i j * M r k - M i k * M r j = 0 := by
      by_cases e : j < k
      · rw [h.zero i (by omega) him j e, h.zero r (Nat.le_refl _) hr j e]; simp
      · obtain rfl : j = k := by omega
        rw [Int.mul_comm]; omega
    rw [e] at this
    exact (Int.mul_eq_zero.1 this).resolve_left h.d0
  rel i hi him := by
    obtain ⟨q, w, hq, hrel⟩ := h.rel i (by omega) him
    obtain ⟨p, u, hp', hrel'⟩ := h.rel r (Nat.le_refl _) hr
    refine ⟨q * p * d, fun t => if t < r then p * M r k * w t - q * M i k * u t else -(q * p * d * M i k), Int.mul_ne_zero (Int.mul_ne_zero hq hp') h.d0, fun j hj => ?_⟩
    have hb := h.below_mul (i := i) (j := j) hi him hk hj
    have h1 := hrel j hj
    have h2 := hrel' j hj
    rw [sm]
    simp only [if_neg (Nat.lt_irrefl r)]
    have e : sm r (fun t => (if t < r then p * M r k * w t - q * M i k * u t else -(q * p * d * M i k)) * A t j) = p * M r k * sm r (fun t => w t * A t j) + -(q * M i k) * sm r (fun t => u t * A t j) := by
      rw [← sm_mul, ← sm_mul, ← sm_add]
      exact sm_congr fun t ht => by rw [if_pos ht]; grind
    rw [e]
    generalize sm r (fun t => w t * A t j) = S1 at *
    generalize sm r (fun t => u t * A t j) = S2 at *
    grind
theorem Inv.skip {m n k r : Nat} {A M : Mat} {c : Nat → Nat} {d : Int} (h : Inv m n k r A M c d) (hk : k < n) (hz : ∀ i, r ≤ i → i < m → M i k = 0) : Inv m n (k + 1) r A M c d :=
  ⟨h.rk, hk, fun t ht => by have := h.ck t ht; omega, h.mono, h.d0, h.lead, fun i hi him j hj => by
    by_cases e : j < k
    · exact h.zero i hi him j e
    · rw [show j = k by omega]; exact hz i hi him, h.rel⟩
theorem Inv.swap {m n k r : Nat} {A M : Mat} {c : Nat → Nat} {d : Int} (h : Inv m n k r A M c d) {t : Nat} (ht : r ≤ t) (htm : t < m) : Inv m n k r (swr A t r) (swr M t r) c d where
  rk := h.rk
  kn := h.kn
  ck := h.ck
  mono := h.mono
  d0 := h.d0
  lead := by
    rw [h.lead]
    refine det_congr fun i j hi hj => ?_
    unfold swr; rw [if_neg (by omega), if_neg (by omega)]
  zero i hi him j hj := by
    unfold swr
    by_cases e1 : i = t
    · rw [if_pos e1]; exact h.zero r (Nat.le_refl _) (by omega) j hj
    · rw [if_neg e1]; by_cases e2 : i = r
      · rw [if_pos e2]; exact h.zero t ht htm j hj
      · rw [if_neg e2]; exact h.zero i hi him j hj
  rel i hi him := by
    have key : ∀ s, r ≤ s → s < m → (∀ j, swr A t r i j = A s j) → (∀ j, swr M t r i j = M s j) → ∃ (q : Int) (w : Nat → Int), q ≠ 0 ∧ ∀ j, j < n → q * swr M t r i j = q * d * swr A t r i j + sm r (fun t_1 => w t_1 * swr A t r t_1 j) := by
      intro s hs hsm e1 e2
      obtain ⟨q, w, hq, hrel⟩ := h.rel s hs hsm
      refine ⟨q, w, hq, fun j hj => ?_⟩
      rw [e1, e2, hrel j hj]
      congr 1
      refine sm_congr fun x hx => ?_
      unfold swr; rw [if_neg (by omega), if_neg (by omega)]
    by_cases e1 : i = t
    · exact key r (Nat.le_refl _) (by omega) (fun j => by unfold swr; rw [if_pos e1]) (fun j => by unfold swr; rw [if_pos e1])
    · by_cases e2 : i = r
      · exact key t ht htm (fun j => by unfold swr; rw [if_neg e1, if_pos e2]) (fun j => by unfold swr; rw [if_neg e1, if_pos e2])
      · exact key i hi him (fun j => by unfold swr; rw [if_neg e1, if_neg e2]) (fun j => by unfold swr; rw [if_neg e1, if_neg e2])

/-- The first row from r on with a number other than 0 in column k, or m. -/
def ftop (M : Mat) (k m r : Nat) : Nat := if r < m then (if M r k = 0 then ftop M k m (r + 1) else r) else m
termination_by m - r
theorem ftop_spec (M : Mat) (k m : Nat) : ∀ (d r : Nat), r + d = m → r ≤ ftop M k m r ∧ ftop M k m r ≤ m ∧ (∀ i, r ≤ i → i < ftop M k m r → M i k = 0) ∧ (ftop M k m r < m → M (ftop M k m r) k ≠ 0)
  | 0, r, h => by rw [ftop, if_neg (by omega)]; exact ⟨by omega, by omega, fun i h1 h2 => by omega, fun h => by omega⟩
  | d + 1, r, h => by
    rw [ftop, if_pos (by omega)]
    by_cases e : M r k = 0
    · rw [if_pos e]
      obtain ⟨h1, h2, h3, h4⟩ := ftop_spec M k m d (r + 1) (by omega)
      refine ⟨by omega, h2, fun i hi hlt => ?_, h4⟩
      by_cases e2 : i = r
      · rw [e2, e]
      · exact h3 i (by omega) hlt
    · rw [if_neg e]
      exact ⟨by omega, by omega, fun i h1 h2 => by omega, fun _ => e⟩
structure Est where
  M : Mat
  last : Int
  neg : Bool
  rank : Nat
def Est.col (m k : Nat) (s : Est) : Est :=
  let t := ftop s.M k m s.rank
  if t = m then s else
    { M := below s.rank k s.last (swr s.M t s.rank), last := swr s.M t s.rank s.rank k, neg := if t = s.rank then s.neg else !s.neg, rank := s.rank + 1 }
def Est.cols (m : Nat) : Nat → Est → Est
  | 0, s => s
  | k + 1, s => (Est.cols m k s).col m k
def Est.start (A : Mat) : Est := ⟨A, 1, false, 0⟩
def sgB (b : Bool) : Int := if b then -1 else 1
/-- What elimination keeps. -/
structure Kept (m n k : Nat) (A : Mat) (s : Est) : Prop where
  ex : ∃ (B : Mat) (c : Nat → Nat), Inv m n k s.rank B s.M c s.last ∧ (∀ f, Alt m f → f B = sgB s.neg * f A) ∧ ∃ σ : Nat → Nat, (∀ i, i < m → σ i < m ∧ ∀ j, B i j = A (σ i) j) ∧ ∀ i, i < m → ∃ i', i' < m ∧ σ i' = i
theorem swr_self (A : Mat) (r : Nat) : swr A r r = A := by
  funext i j; unfold swr; by_cases e : i = r
  · rw [if_pos e, e]
  · rw [if_neg e, if_neg e]
theorem Kept.start (m n : Nat) (A : Mat) : Kept m n 0 A (Est.start A) :=
  ⟨A, id, Inv.start m n A, fun f _ => by simp [sgB, Est.start], id, fun i hi => ⟨hi, fun _ => rfl⟩, fun i hi => ⟨i, hi, rfl⟩⟩
theorem Kept.col {m n k : Nat} {A : Mat} {s : Est} (h : Kept m n k A s) (hk : k < n) : Kept m n (k + 1) A (s.col m k) := by
  obtain ⟨B, c, hI, hf, σ, hσ, hσ2⟩ := h.ex
  obtain ⟨t1, t2, t3, t4⟩ := ftop_spec s.M k m (m - s.rank) s.rank (by have := hI.rk; omega)
  unfold Est.col
  by_cases e : ftop s.M k m s.rank = m
  · simp only [e, if_true]
    exact ⟨B, c, hI.skip hk fun i h1 h2 => t3 i h1 (by omega), hf, σ, hσ, hσ2⟩
  · simp only [if_neg e]
    obtain ⟨t, ht⟩ : ∃ t, ftop s.M k m s.rank = t := ⟨_, rfl⟩
    rw [ht] at t1 t2 t3 t4 e ⊢
    have htm : t < m := by omega
    have hS := hI.swap t1 htm
    have hp : swr s.M t s.rank s.rank k = s.M t k := by
      unfold swr; by_cases e1 : s.rank = t
      · rw [if_pos e1, ← e1]
      · rw [if_neg e1, if_pos rfl]
    have hE := hS.elim (by omega) hk (by rw [hp]; exact t4 htm)
    refine ⟨swr B t s.rank, _, hE, fun f hF => ?_, fun i => if i = t then σ s.rank else if i = s.rank then σ t else σ i, fun i hi => ?_, fun i hi => ?_⟩
    · by_cases e1 : t = s.rank
      · rw [if_pos e1, e1, swr_self]; exact hf f hF
      · rw [if_neg e1, hF.swap B t s.rank e1 htm (by omega), hf f hF]
        cases s.neg <;> simp [sgB]
    · have := hσ i hi
      have := hσ t htm
      have := hσ s.rank (by omega)
      unfold swr
      grind
    · obtain ⟨i', h1, h2⟩ := hσ2 i hi
      by_cases e1 : i' = t
      · refine ⟨s.rank, by omega, ?_⟩
        show (if s.rank = t then σ s.rank else if s.rank = s.rank then σ t else σ s.rank) = i
        grind
      · by_cases e2 : i' = s.rank
        · refine ⟨t, htm, ?_⟩
          show (if t = t then σ s.rank else _) = i
          grind
        · refine ⟨i', h1, ?_⟩
          show (if i' = t then σ s.rank else if i' = s.rank then σ t else σ i') = i
          grind
theorem Kept.cols {m n : Nat} (A : Mat) : ∀ k, k ≤ n → Kept m n k A ((Est.start A).cols m k)
  | 0, _ => Kept.start m n A
  | k + 1, hk => (Kept.cols A k (by omega)).col (by omega)
theorem mono_id {c : Nat → Nat} {n : Nat} (hm : ∀ s t, s < t → t < n → c s < c t) (hl : ∀ t, t < n → c t < n) : ∀ t, t < n → c t = t := by
  have h1 : ∀ t, t < n → t ≤ c t := by
    intro t
    induction t with
    | zero => intro _; omega
    | succ t ih => intro ht; have := ih (by omega); have := hm t (t + 1) (by omega) ht; omega
  have h2 : ∀ d t, t + d + 1 = n → c t ≤ t := by
    intro d
    induction d with
    | zero => intro t ht; have := hl t (by omega); omega
    | succ d ih => intro t ht; have := ih (t + 1) (by omega); have := hm t (t + 1) (by omega) (by omega); omega
  intro t ht
  have := h1 t ht
  have := h2 (n - 1 - t) t (by omega)
  omega
/-- The determinant by elimination. -/
theorem elim_det {n : Nat} (A : Mat) {s : Est} (h : Kept n n n A s) : det n A = if s.rank < n then 0 else sgB s.neg * s.last := by
  obtain ⟨B, c, hI, hf, -⟩ := h.ex
  have hd := hf (det n) (det_alt n)
  have hs : sgB s.neg * sgB s.neg = 1 := by cases s.neg <;> rfl
  have hA : det n A = sgB s.neg * det n B := by rw [hd, ← Int.mul_assoc, hs, Int.one_mul]
  by_cases e : s.rank < n
  · rw [if_pos e, hA]
    obtain ⟨q, w, hq, hrel⟩ := hI.rel s.rank (Nat.le_refl _) e
    have h1 := (det_alt n).addrows B s.rank s.rank e (Nat.le_refl _) (q * s.last) w
    rw [det_zrow s.rank e fun j hj => by
      simp only [setr, if_pos]
      rw [← hrel j hj, hI.zero _ (Nat.le_refl _) e j hj, Int.mul_zero]] at h1
    have : det n B = 0 := (Int.mul_eq_zero.1 h1.symm).resolve_left (Int.mul_ne_zero hq hI.d0)
    rw [this, Int.mul_zero]
  · have er : s.rank = n := by have := hI.rk; omega
    rw [if_neg e, hA, hI.lead]
    congr 1
    rw [er]
    refine det_congr fun i j hi hj => ?_
    have := mono_id (fun s t h1 h2 => hI.mono s t h1 (by omega)) (fun t ht => hI.ck t (by omega)) j hj
    rw [this]
end Go.Proofs.YtlnhocgjgmhfgaaGreatDoor

namespace Go.Proofs.YtlnhocgjgmhfgaaGreatDoor
set_option maxRecDepth 100000

theorem sm_ext {r k : Nat} (f : Nat → Int) (h : r ≤ k) (h0 : ∀ t, r ≤ t → t < k → f t = 0) : sm k f = sm r f := by
  induction k with
  | zero => rw [show r = 0 by omega]
  | succ k ih =>
    by_cases e : r = k + 1
    · rw [e]
    · rw [sm, ih (by omega) fun t h1 h2 => h0 t h1 (by omega), h0 k (by omega) (by omega)]; omega
def diag (q : Nat → Int) : Mat := fun i j => if i = j then q i else 0
theorem det_diag (q : Nat → Int) : ∀ k, (∀ i, i < k → q i ≠ 0) → det k (diag q) ≠ 0
  | 0, _ => by simp [det]
  | k + 1, h => by
    rw [det_last k (diag q) fun j hj => by simp [diag]; omega]
    refine Int.mul_ne_zero (by simp [diag]; exact h k (by omega)) (det_diag q k fun i hi => h i (by omega))
/-- Rows that are combinations of fewer rows have the determinant 0. -/
theorem det_comb {r k : Nat} (hrk : r < k) (X Y : Mat) (q : Nat → Int) (w : Nat → Nat → Int) (hq : ∀ i, i < k → q i ≠ 0) (h : ∀ i j, i < k → j < k → q i * X i j = sm r (fun t => w i t * Y t j)) : det k X = 0 := by
  have h1 := det_mul k (diag q) X
  have h2 : det k (mulM k (diag q) X) = det k (mulM k (fun i t => if t < r then w i t else 0) Y) := by
    refine det_congr fun i j hi hj => ?_
    simp only [mulM]
    rw [sm_one _ i hi fun t _ ht => by simp [diag, Ne.symm ht]]
    rw [sm_ext (r := r) _ (Nat.le_of_lt hrk) fun t h1 _ => by simp only [if_neg (Nat.not_lt.2 h1), Int.zero_mul]]
    rw [show diag q i i = q i by simp [diag], h i j hi hj]
    exact sm_congr fun t ht => by simp only [if_pos ht]
  have h3 := det_mul k (fun i t => if t < r then w i t else 0) Y
  have h4 : det k (fun i t => if t < r then w i t else 0) = 0 := by
    rw [← det_tr]
    exact det_zrow r hrk fun j _ => by simp [tr]
  rw [h2, h3, h4, Int.zero_mul] at h1
  exact (Int.mul_eq_zero.1 h1.symm).resolve_left (det_diag q k hq)
/-- The rows R, in this order, and columns that a function picks. -/
def subR (A : Mat) (R : List Nat) (c : Nat → Nat) : Mat := fun i j => A (R.getD i 0) (c j)
theorem perm_det {R R' : List Nat} (h : R.Perm R') (A : Mat) : ∃ e : Int, e * e = 1 ∧ ∀ c, det R.length (subR A R c) = e * det R'.length (subR A R' c) := by
  induction h with
  | nil => exact ⟨1, rfl, fun c => by simp⟩
  | @cons x l l' hp ih =>
    obtain ⟨e, he, h⟩ := ih
    refine ⟨e, he, fun c => ?_⟩
    rw [List.length_cons, List.length_cons, det, det, ← hp.length_eq, ← sm_mul]
    refine sm_congr fun k hk => ?_
    have e1 : ∀ l : List Nat, mnr (subR A (x :: l) c) 0 k = subR A l (fun j => c (sk k j)) := fun l => by
      funext i j
      simp [mnr, subR, sk]
    rw [e1, e1, h, hp.length_eq]
    simp only [subR, List.getD_cons_zero]
    grind
  | swap x y l =>
    refine ⟨-1, rfl, fun c => ?_⟩
    have := (det_alt (l.length + 1 + 1)).swap (subR A (x :: y :: l) c) 0 1 (by omega) (by omega) (by omega)
    rw [List.length_cons, List.length_cons, List.length_cons, List.length_cons, Int.neg_mul, Int.one_mul, ← this]
    refine det_congr fun i j _ _ => ?_
    unfold swr subR
    match i with
    | 0 => simp
    | 1 => simp
    | i + 2 => simp
  | trans _ _ ih1 ih2 =>
    obtain ⟨e1, h1, g1⟩ := ih1
    obtain ⟨e2, h2, g2⟩ := ih2
    refine ⟨e1 * e2, by grind, fun c => ?_⟩
    rw [g1, g2, Int.mul_assoc]
theorem perm_filter {R : List Nat} {m : Nat} (hn : R.Nodup) (hm : ∀ a ∈ R, a < m) : R.Perm ((List.range m).filter fun a => decide (a ∈ R)) := by
  rw [List.perm_iff_count]
  intro a
  have h2 : ((List.range m).filter fun a => decide (a ∈ R)).Nodup := List.Nodup.sublist List.filter_sublist List.nodup_range
  by_cases ha : a ∈ R
  · rw [List.Nodup.count hn, List.Nodup.count h2, if_pos ha, if_pos (by simp [ha, hm a ha])]
  · rw [List.Nodup.count hn, List.Nodup.count h2, if_neg ha, if_neg (by simp [ha])]
/-- Ascending numbers below m. -/
def Asc (m : Nat) (R : List Nat) : Prop := R.Pairwise (· < ·) ∧ ∀ a ∈ R, a < m
theorem asc_filter (m : Nat) (p : Nat → Bool) : Asc m ((List.range m).filter p) :=
  ⟨List.Pairwise.filter _ List.pairwise_lt_range, fun a h => by simpa using (List.mem_filter.1 h).1⟩
theorem det_dup {n : Nat} (A : Mat) (R : List Nat) (c : Nat → Nat) (hR : R.length = n) (h : det n (subR A R c) ≠ 0) : R.Nodup := by
  rw [List.nodup_iff_pairwise_ne, List.pairwise_iff_getElem]
  intro i j hi hj hij e
  apply h
  refine (det_alt n).alt _ i j hij (by omega) fun t _ => ?_
  unfold subR
  rw [List.getD_eq_getElem?_getD, List.getD_eq_getElem?_getD, List.getElem?_eq_getElem hi, List.getElem?_eq_getElem hj]
  simp [e]
/-- Rank by elimination: some minor of that size is not 0, and all greater ones are. -/
theorem rank_spec {m n : Nat} {A : Mat} {s : Est} (h : Kept m n n A s) :
    (∃ R C : List Nat, R.length = s.rank ∧ C.length = s.rank ∧ Asc m R ∧ Asc n C ∧ det s.rank (fun i j => A (R.getD i 0) (C.getD j 0)) ≠ 0) ∧
    (∀ (k : Nat) (ρ γ : Nat → Nat), s.rank < k → (∀ i, i < k → ρ i < m) → (∀ j, j < k → γ j < n) → det k (fun i j => A (ρ i) (γ j)) = 0) := by
  obtain ⟨B, c, hI, -, σ, hσ, hσ2⟩ := h.ex
  have hr := hI.rk
  refine ⟨?_, fun k ρ γ hk hρ hγ => ?_⟩
  · have hlead : det s.rank (subR A ((List.range s.rank).map σ) c) = s.last := by
      rw [hI.lead]
      refine det_congr fun i j hi hj => ?_
      unfold subR
      have := (hσ i (by omega)).2 (c j)
      rw [this, List.getD_eq_getElem?_getD, List.getElem?_map, List.getElem?_range hi]
      rfl
    have hne : det s.rank (subR A ((List.range s.rank).map σ) c) ≠ 0 := by rw [hlead]; exact hI.d0
    have hnd := det_dup A _ c (by simp) hne
    have hp := perm_filter (m := m) hnd fun a ha => by
      obtain ⟨i, hi, rfl⟩ := List.mem_map.1 ha
      exact (hσ i (by have : i < s.rank := by simpa using hi
                      omega)).1
    obtain ⟨e, he, hd⟩ := perm_det hp A
    have hl : ((List.range m).filter fun a => decide (a ∈ (List.range s.rank).map σ)).length = s.rank := by rw [← hp.length_eq]; simp
    refine ⟨_, (List.range s.rank).map c, hl, by simp, asc_filter m _, ⟨?_, fun a ha => ?_⟩, ?_⟩
    · rw [List.pairwise_iff_getElem]
      intro i j hi hj hij
      simp at hi hj
      simp only [List.getElem_map, List.getElem_range]
      exact hI.mono i j hij hj
    · obtain ⟨i, hi, rfl⟩ := List.mem_map.1 ha
      have hi : i < s.rank := by simpa using hi
      have := hI.ck i hi
      exact this
    · have h1 := hd c
      rw [hl] at h1
      simp only [List.length_map, List.length_range] at h1
      intro h0
      apply hne
      rw [h1]
      have : det s.rank (subR A ((List.range m).filter fun a => decide (a ∈ (List.range s.rank).map σ)) c) = 0 := by
        rw [← h0]
        refine det_congr fun i j hi hj => ?_
        unfold subR
        congr 1
        rw [List.getD_eq_getElem?_getD, List.getElem?_map, List.getElem?_range hj]
        rfl
      rw [this, Int.mul_zero]
  · have H : ∀ i, i < k → ∃ (Q : Int) (w : Nat → Int), Q ≠ 0 ∧ ∀ j, j < n → Q * A (ρ i) j = sm s.rank (fun t => w t * B t j) := by
      intro i hi
      obtain ⟨i', hi', he⟩ := hσ2 (ρ i) (hρ i hi)
      have hB : ∀ j, A (ρ i) j = B i' j := fun j => by rw [(hσ i' hi').2 j, he]
      by_cases hlt : i' < s.rank
      · refine ⟨1, fun t => if t = i' then 1 else 0, by omega, fun j _ => ?_⟩
        rw [sm_one _ i' hlt fun t _ ht => by simp [ht], hB]; simp
      · obtain ⟨q, w, hq, hrel⟩ := hI.rel i' (by omega) hi'
        refine ⟨q * s.last, fun t => -w t, Int.mul_ne_zero hq hI.d0, fun j hj => ?_⟩
        have h1 := hrel j hj
        rw [hI.zero i' (by omega) hi' j hj, Int.mul_zero] at h1
        rw [hB]
        have : sm s.rank (fun t => -w t * B t j) = -sm s.rank (fun t => w t * B t j) := by
          rw [← sm_neg]; exact sm_congr fun t _ => by rw [Int.neg_mul]
        rw [this]; omega
    refine det_comb hk _ (fun t j => B t (γ j)) (fun i => if h : i < k then (H i h).choose else 1) (fun i => if h : i < k then (H i h).choose_spec.choose else fun _ => 0) (fun i hi => ?_) (fun i j hi hj => ?_)
    · simp only [dif_pos hi]; exact (H i hi).choose_spec.choose_spec.1
    · simp only [dif_pos hi]; exact (H i hi).choose_spec.choose_spec.2 (γ j) (hγ j hj)

/-- Factorials. -/
def fct : Nat → Nat
  | 0 => 1
  | n + 1 => (n + 1) * fct n
theorem sm_abs (n M : Nat) (f : Nat → Int) (h : ∀ k, k < n → (f k).natAbs ≤ M) : (sm n f).natAbs ≤ n * M := by
  induction n with
  | zero => simp [sm]
  | succ n ih =>
    rw [sm, Nat.add_mul, Nat.one_mul]
    have h1 := ih fun k hk => h k (by omega)
    have h2 := h n (by omega)
    omega
theorem det_abs (b : Nat) : ∀ (n : Nat) (A : Mat), (∀ i j, i < n → j < n → (A i j).natAbs ≤ b) → (det n A).natAbs ≤ fct n * b ^ n
  | 0, A, _ => by simp [det, fct]
  | n + 1, A, h => by
    rw [det, fct, Nat.mul_assoc]
    refine sm_abs _ _ _ fun k hk => ?_
    have h1 := det_abs b n (mnr A 0 k) fun i j hi hj => h _ _ (sk_lt hi) (sk_lt hj)
    have h2 := h 0 k (by omega) hk
    rw [Int.natAbs_mul, Int.natAbs_mul]
    have h3 : (sgn k).natAbs = 1 := by unfold sgn; split <;> rfl
    rw [h3, Nat.one_mul, Nat.pow_succ]
    calc (A 0 k).natAbs * (det n (mnr A 0 k)).natAbs ≤ b * (fct n * b ^ n) := Nat.mul_le_mul h2 h1
      _ = fct n * (b ^ n * b) := by rw [Nat.mul_comm b, Nat.mul_assoc]
/-- Expansion along any row. -/
theorem det_row : ∀ (i n : Nat) (A : Mat), i < n + 1 → det (n + 1) A = sm (n + 1) (fun k => sgn (i + k) * A i k * det n (mnr A i k))
  | 0, n, A, _ => by rw [det]; exact sm_congr fun k _ => by rw [Nat.zero_add]
  | i + 1, n, A, hi => by
    have h1 := (det_alt (n + 1)).swap A i (i + 1) (by omega) (by omega) hi
    have h2 := det_row i n (swr A i (i + 1)) (by omega)
    rw [h1] at h2
    have h3 : det (n + 1) A = -sm (n + 1) (fun k => sgn (i + k) * swr A i (i + 1) i k * det n (mnr (swr A i (i + 1)) i k)) := by omega
    rw [h3, ← sm_neg]
    refine sm_congr fun k hk => ?_
    have h4 : swr A i (i + 1) i k = A (i + 1) k := by simp [swr]
    have h5 : det n (mnr (swr A i (i + 1)) i k) = det n (mnr A (i + 1) k) := by
      refine det_congr fun s t _ _ => ?_
      unfold mnr swr sk
      grind
    rw [h4, h5, show i + 1 + k = (i + k) + 1 by omega, sgn_succ]
    grind
/-- A row, with the cofactors of another one, gives 0. -/
theorem det_alien (i j n : Nat) (A : Mat) (hi : i < n + 1) (hj : j < n + 1) (hne : i ≠ j) : sm (n + 1) (fun k => A i k * (sgn (j + k) * det n (mnr A j k))) = 0 := by
  have h1 := det_row j n (setr A j (A i)) hj
  have h2 : det (n + 1) (setr A j (A i)) = 0 := (det_alt (n + 1)).eqrows _ i j hne hi hj fun t _ => by simp [setr, hne]
  rw [h2] at h1
  rw [h1]
  refine sm_congr fun k hk => ?_
  have h3 : det n (mnr (setr A j (A i)) j k) = det n (mnr A j k) := det_congr fun s t _ _ => by
    unfold mnr setr
    rw [if_neg (sk_ne j s)]
  have h4 : setr A j (A i) j k = A i k := by simp [setr]
  rw [h3, h4]; grind
end Go.Proofs.YtlnhocgjgmhfgaaGreatDoor

namespace Go.Proofs.YtlnhocgjgmhfgaaGreatDoor
open Go.RowKit
set_option maxRecDepth 100000

/-- The cells of an r × c matrix, row by row. -/
def cellsF (r c : Nat) (A : Mat) : List ByteArray := (List.range (r * c)).map fun t => txt (A (t / c) (t % c))
theorem cellsF_len (r c : Nat) (A : Mat) : (cellsF r c A).length = r * c := by simp [cellsF]
theorem cellsF_get {r c i k : Nat} (A : Mat) (hk : k < c) (h : i * c + k < (cellsF r c A).length) : (cellsF r c A)[i * c + k] = txt (A i k) := by
  have h1 : (i * c + k) / c = i := by rw [Nat.mul_comm, Nat.mul_add_div (by omega), Nat.div_eq_of_lt hk, Nat.add_zero]
  have h2 : (i * c + k) % c = k := by rw [Nat.mul_comm, Nat.mul_add_mod, Nat.mod_eq_of_lt hk]
  simp [cellsF, h1, h2]
theorem cellsF_get? {r c i k : Nat} (A : Mat) (hi : i < r) (hk : k < c) : (cellsF r c A)[i * c + k]? = some (txt (A i k)) := by
  have h : i * c + k < (cellsF r c A).length := by rw [cellsF_len]; exact mul_lt hi hk
  rw [List.getElem?_eq_getElem h, cellsF_get A hk h]
theorem cellsF_congr {r c : Nat} {A B : Mat} (h : ∀ i k, i < r → k < c → A i k = B i k) : cellsF r c A = cellsF r c B := by
  unfold cellsF
  refine List.map_congr_left fun t ht => ?_
  have ht' : t < r * c := by simpa using ht
  have hc : 0 < c := by rcases Nat.eq_zero_or_pos c with e | e; · simp [e] at ht'
                        · exact e
  rw [h _ _ (Nat.div_lt_of_lt_mul (by rw [Nat.mul_comm]; exact ht')) (Nat.mod_lt _ hc)]
/-- The matrix that some cells hold. -/
def matF (c : Nat) (xs : List ByteArray) : Mat := fun i k => num (xs.getD (i * c + k) ⟨#[]⟩)
theorem chks_good {xs : List ByteArray} (h : chks xs = 0) (i : Nat) (hi : i < xs.length) : Good xs[i] (num xs[i]) := by
  obtain ⟨zs, hz⟩ := Goods.of xs h
  have := hz.get i hi (by rw [hz.len]; exact hi)
  rw [this.num]; exact this
theorem RM.good {R C : Int} {xs : List ByteArray} {r c i k : Nat} (h : RM R C xs r c) (hi : i < r) (hk : k < c) : Good (xs[i * c + k]'(h.place hi hk)) (matF c xs i k) := by
  unfold matF
  rw [List.getD_eq_getElem?_getD, List.getElem?_eq_getElem (h.place hi hk)]
  exact chks_good h.chk _ _
theorem RM.cells {R C : Int} {xs : List ByteArray} {r c : Nat} (h : RM R C xs r c) : xs = cellsF r c (matF c xs) := by
  refine List.ext_getElem (by rw [cellsF_len, h.len]) fun t h1 h2 => ?_
  have ht : t < r * c := by rw [← h.len]; exact h1
  have hc : 0 < c := by rcases Nat.eq_zero_or_pos c with e | e; · simp [e] at ht
                        · exact e
  have e := Nat.div_add_mod t c
  have hk := Nat.mod_lt t hc
  have hi : t / c < r := Nat.div_lt_of_lt_mul (by rw [Nat.mul_comm]; exact ht)
  have e2 : t / c * c + t % c = t := by rw [Nat.mul_comm]; exact e
  have g := h.good hi hk
  have g2 := g.eq
  have e3 : xs[t / c * c + t % c]'(h.place hi hk) = xs[t] := by simp only [e2]
  have e4 := cellsF_get (r := r) (matF c xs) hk (i := t / c) (by rw [cellsF_len]; exact mul_lt hi hk)
  have e5 : (cellsF r c (matF c xs))[t / c * c + t % c]'(by rw [cellsF_len]; exact mul_lt hi hk) = (cellsF r c (matF c xs))[t] := by simp only [e2]
  rw [← e3, ← e5, e4]; exact g2
theorem rm_cellsF {r c : Nat} {A : Mat} (hr : r ≤ 16) (hc : c ≤ 16) (h : ∀ i k, i < r → k < c → big (A i k) = false) : RM r c (cellsF r c A) r c := by
  refine ⟨rfl, rfl, hr, hc, cellsF_len _ _ _, chksA _ fun j hj => ?_⟩
  have hj' : j < r * c := by rwa [cellsF_len] at hj
  have hc0 : 0 < c := by rcases Nat.eq_zero_or_pos c with e | e; · simp [e] at hj'
                         · exact e
  simp only [cellsF, List.getElem_map, List.getElem_range]
  exact (Good.of (h _ _ (Nat.div_lt_of_lt_mul (by rw [Nat.mul_comm]; exact hj')) (Nat.mod_lt _ hc0))).chk
/-- How many cells without row r0 and column k0 stand ahead of the place i, k. -/
def wcnt (c r0 k0 i k : Nat) : Nat := (if i ≤ r0 then i else i - 1) * (c - 1) + if i = r0 then 0 else if k ≤ k0 then k else k - 1
theorem wcnt_row {c r0 k0 i : Nat} (hk0 : k0 < c) : wcnt c r0 k0 i c = wcnt c r0 k0 (i + 1) 0 := by
  unfold wcnt
  have e : (if c ≤ k0 then c else c - 1) = c - 1 := if_neg (by omega)
  have e0 : (if 0 ≤ k0 then 0 else 0 - 1) = 0 := if_pos (Nat.zero_le _)
  have e3 : (if i + 1 = r0 then 0 else 0) = 0 := by split <;> rfl
  rw [e, e0, e3, Nat.add_zero]
  by_cases h : i = r0
  · subst h
    have e4 : (if i + 1 ≤ i then i + 1 else i + 1 - 1) = i := if_neg (by omega)
    rw [e4, if_pos (Nat.le_refl i), if_pos rfl, Nat.add_zero]
  · rw [if_neg h]
    by_cases h2 : i ≤ r0
    · have e4 : (if i + 1 ≤ r0 then i + 1 else i + 1 - 1) = i + 1 := if_pos (by omega)
      rw [e4, if_pos h2, Nat.add_mul, Nat.one_mul]
    · have e4 : (if i + 1 ≤ r0 then i + 1 else i + 1 - 1) = i := if_neg (by omega)
      rw [e4, if_neg h2]
      obtain ⟨j, rfl⟩ : ∃ j, i = j + 1 := ⟨i - 1, by omega⟩
      rw [Nat.add_sub_cancel, Nat.add_mul, Nat.one_mul]
theorem wcnt_skip {c r0 k0 i k : Nat} (h : i = r0 ∨ k = k0) : wcnt c r0 k0 i (k + 1) = wcnt c r0 k0 i k := by
  unfold wcnt
  by_cases hi : i = r0
  · rw [if_pos hi, if_pos hi]
  · rcases h with h | rfl
    · exact absurd h hi
    · have e1 : (if k + 1 ≤ k then k + 1 else k + 1 - 1) = k := if_neg (by omega)
      have e2 : (if k ≤ k then k else k - 1) = k := if_pos (Nat.le_refl _)
      rw [if_neg hi, if_neg hi, e1, e2]
theorem wcnt_take {c r0 k0 i k : Nat} (hi : i ≠ r0) (hk : k ≠ k0) : wcnt c r0 k0 i (k + 1) = wcnt c r0 k0 i k + 1 ∧ wcnt c r0 k0 i k = usk r0 i * (c - 1) + usk k0 k := by
  unfold wcnt usk
  rw [if_neg hi, if_neg hi]
  have e1 : (if i ≤ r0 then i else i - 1) = if i < r0 then i else i - 1 := by
    by_cases h : i < r0
    · rw [if_pos (Nat.le_of_lt h), if_pos h]
    · rw [if_neg (by omega), if_neg h]
  have e2 : (if k ≤ k0 then k else k - 1) = if k < k0 then k else k - 1 := by
    by_cases h : k < k0
    · rw [if_pos (Nat.le_of_lt h), if_pos h]
    · rw [if_neg (by omega), if_neg h]
  have e3 : (if k + 1 ≤ k0 then k + 1 else k + 1 - 1) = (if k ≤ k0 then k else k - 1) + 1 := by
    by_cases h : k ≤ k0
    · rw [if_pos (by omega), if_pos h]
    · rw [if_neg (by omega), if_neg h]; omega
  refine ⟨?_, ?_⟩
  · rw [e3]; omega
  · rw [e1, e2]
theorem wcnt_end {r c r0 k0 : Nat} (hr : r0 < r) : wcnt c r0 k0 r 0 = (r - 1) * (c - 1) := by
  unfold wcnt; rw [if_neg (by omega), if_neg (by omega)]; simp
theorem without_next {r c r0 k0 i k : Nat} (A : Mat) (hr0 : r0 < r) (hk0 : k0 < c) (hi : i < r) (hk : k < c) (h1 : i ≠ r0) (h2 : k ≠ k0) :
    (cellsF (r - 1) (c - 1) (mnr A r0 k0)).take (wcnt c r0 k0 i (k + 1)) = (cellsF (r - 1) (c - 1) (mnr A r0 k0)).take (wcnt c r0 k0 i k) ++ [txt (A i k)] := by
  obtain ⟨e1, e2⟩ := wcnt_take (c := c) h1 h2
  have u1 : usk r0 i < r - 1 := usk_lt h1 (by omega) (by omega)
  have u2 : usk k0 k < c - 1 := usk_lt h2 (by omega) (by omega)
  have hl : wcnt c r0 k0 i k < (cellsF (r - 1) (c - 1) (mnr A r0 k0)).length := by rw [cellsF_len, e2]; exact mul_lt u1 u2
  rw [e1, List.take_succ_eq_append_getElem hl]
  congr 2
  have := cellsF_get (r := r - 1) (mnr A r0 k0) u2 (i := usk r0 i) (by rw [← e2]; exact hl)
  simp only [e2]
  rw [this, mnr, sk_usk h1, sk_usk h2]
end Go.Proofs.YtlnhocgjgmhfgaaGreatDoor

namespace Go.Proofs.YtlnhocgjgmhfgaaGreatDoor
open Go.RowKit
set_option maxRecDepth 100000

/-- An entry more. -/
def addM (A : Mat) (r c : Nat) (d : Int) : Mat := fun i k => A i k + if i = r ∧ k = c then d else 0
/-- The cells of a square table. -/
def gridL (n : Nat) (A : Mat) : List Int := (List.range (n * n)).map fun t => A (t / n) (t % n)
theorem gridL_len (n : Nat) (A : Mat) : (gridL n A).length = n * n := by simp [gridL]
theorem gridL_zero (n : Nat) : gridL n (fun _ _ => 0) = List.replicate (n * n) 0 := by
  apply List.ext_getElem (by simp [gridL])
  intro i h1 h2
  simp [gridL]
theorem place_lt {n r c : Nat} (hr : r < n) (hc : c < n) : r * n + c < n * n := by
  calc r * n + c < r * n + n := by omega
    _ = (r + 1) * n := by rw [Nat.add_mul, Nat.one_mul]
    _ ≤ n * n := Nat.mul_le_mul_right _ hr
theorem place_div {n r c : Nat} (hc : c < n) : (r * n + c) / n = r ∧ (r * n + c) % n = c := by
  have hn : 0 < n := by omega
  constructor
  · rw [Nat.add_comm, Nat.add_mul_div_right _ _ hn, Nat.div_eq_of_lt hc, Nat.zero_add]
  · rw [Nat.add_comm, Nat.add_mul_mod_self_right, Nat.mod_eq_of_lt hc]
theorem gridL_get {n r c : Nat} (A : Mat) (hc : c < n) (h : r * n + c < (gridL n A).length) : (gridL n A)[r * n + c] = A r c := by
  simp only [gridL, List.getElem_map, List.getElem_range]
  rw [(place_div hc).1, (place_div hc).2]
theorem gridL_add {n r c : Nat} (A : Mat) (d : Int) (hc : c < n) (_ : r * n + c < (gridL n A).length) : (gridL n A).set (r * n + c) (A r c + d) = gridL n (addM A r c d) := by
  apply List.ext_getElem (by simp [gridL])
  intro t h1 h2
  have ht : t < n * n := by simpa [gridL] using h2
  by_cases e : r * n + c = t
  · subst e
    rw [List.getElem_set_self]
    simp only [gridL, addM, List.getElem_map, List.getElem_range]
    rw [(place_div hc).1, (place_div hc).2]
    simp
  · rw [List.getElem_set_ne e]
    simp only [gridL, addM, List.getElem_map, List.getElem_range]
    have hne : ¬ (t / n = r ∧ t % n = c) := fun ⟨h3, h4⟩ => e (by rw [← h3, ← h4, Nat.mul_comm]; exact Nat.div_add_mod t n)
    rw [if_neg hne, Int.add_zero]
/-- One edge's share. -/
def lap1 (x : Nat × Nat × Nat) : Mat := fun i k => if x.1 = x.2.1 then 0 else (if i = x.1 ∧ k = x.1 then (x.2.2 : Int) else 0) + (if i = x.2.1 ∧ k = x.2.1 then (x.2.2 : Int) else 0) + (if i = x.1 ∧ k = x.2.1 then -(x.2.2 : Int) else 0) + (if i = x.2.1 ∧ k = x.1 then -(x.2.2 : Int) else 0)
/-- The Laplacian. -/
def lap (ns : List (Nat × Nat × Nat)) : Mat := fun i k => (ns.map fun x => lap1 x i k).sum
theorem lap_nil : lap [] = fun _ _ => 0 := rfl
theorem lap_take {ns : List (Nat × Nat × Nat)} {j : Nat} (h : j < ns.length) : lap (ns.take (j + 1)) = fun i k => lap (ns.take j) i k + lap1 ns[j] i k := by
  funext i k
  unfold lap
  rw [List.take_succ_eq_append_getElem h, List.map_append, List.sum_append]
  simp
theorem lap_loop {ns : List (Nat × Nat × Nat)} {j a m : Nat} (h : j < ns.length) (e : ns[j] = (a, a, m)) : lap (ns.take (j + 1)) = lap (ns.take j) := by
  rw [lap_take h]
  funext i k
  simp [lap1, e]
theorem lap_link {ns : List (Nat × Nat × Nat)} {j a b m : Nat} (h : j < ns.length) (e : ns[j] = (a, b, m)) (hab : a ≠ b) :
    lap (ns.take (j + 1)) = addM (addM (addM (addM (lap (ns.take j)) a a m) b b m) a b (-(m : Int))) b a (-(m : Int)) := by
  rw [lap_take h]
  funext i k
  simp only [lap1, e, hab, if_false, addM]
  omega
/-- The reference's entry. -/
def ent (n : Nat) (ns : List (Nat × Nat × Nat)) (i k : Nat) : Int := if i = k then (valK i ns n : Int) else -(btw i k ns : Int)
theorem valK_nil (v : Nat) : ∀ k, valK v [] k = 0
  | 0 => rfl
  | k + 1 => by unfold valK; rw [valK_nil v k]; simp [btw]
theorem ent_lap {n : Nat} : ∀ {ns : List (Nat × Nat × Nat)}, (∀ x ∈ ns, x.1 < n ∧ x.2.1 < n ∧ x.1 ≤ x.2.1) → (ns.Pairwise fun x y => x.1 < y.1 ∨ (x.1 = y.1 ∧ x.2.1 < y.2.1)) → ∀ i k, i < n → k < n → ent n ns i k = lap ns i k
  | [], _, _, i, k, _, _ => by simp [ent, valK_nil, btw, lap]
  | x :: l, hr, ha, i, k, hi, hk => by
    obtain ⟨h1, h2⟩ := List.pairwise_cons.1 ha
    have ih := ent_lap (fun y hy => hr y (by simp [hy])) h2 i k hi hk
    obtain ⟨r1, r2, r3⟩ := hr x (by simp)
    have e : lap (x :: l) i k = lap1 x i k + lap l i k := by simp [lap]
    rw [e, ← ih]
    unfold ent lap1
    rw [valK_cons h1, btw_cons h1, oneK_eq i x r3]
    obtain ⟨a, b, m⟩ := x
    simp only at r1 r2 r3 ⊢
    simp only [isB, decide_eq_true_eq]
    repeat' split
    all_goals omega
/-- Entries are small. -/
theorem lap1_le (x : Nat × Nat × Nat) (i k : Nat) : -(x.2.2 : Int) * 2 ≤ lap1 x i k ∧ lap1 x i k ≤ (x.2.2 : Int) * 2 := by
  obtain ⟨a, b, m⟩ := x
  unfold lap1
  simp only
  repeat' split
  all_goals omega
theorem lap_le : ∀ (ns : List (Nat × Nat × Nat)) (i k : Nat), -((sgl ns).length : Int) * 2 ≤ lap ns i k ∧ lap ns i k ≤ ((sgl ns).length : Int) * 2
  | [], i, k => by simp [lap, sgl]
  | x :: l, i, k => by
    have h1 := lap1_le x i k
    have h2 := lap_le l i k
    have e : lap (x :: l) i k = lap1 x i k + lap l i k := by simp [lap]
    have e2 : (sgl (x :: l)).length = x.2.2 + (sgl l).length := by simp [sgl]
    rw [e, e2]
    omega
end Go.Proofs.YtlnhocgjgmhfgaaGreatDoor

namespace Go.Proofs.YtlnhocgjgmhfgaaGreatDoor
open Go.RowKit
set_option maxRecDepth 100000

/-- A sum over the numbers below n. -/
def sK (f : Nat → Int) : Nat → Int
  | 0 => 0
  | k + 1 => sK f k + f k
theorem sK_add (f g : Nat → Int) : ∀ n, sK (fun k => f k + g k) n = sK f n + sK g n
  | 0 => rfl
  | n + 1 => by simp only [sK]; rw [sK_add f g n]; omega
theorem sK_zero : ∀ n, sK (fun _ => 0) n = 0
  | 0 => rfl
  | n + 1 => by simp only [sK]; rw [sK_zero n]; rfl
theorem sK_congr {f g : Nat → Int} : ∀ {n}, (∀ k, k < n → f k = g k) → sK f n = sK g n
  | 0, _ => rfl
  | n + 1, h => by simp only [sK]; rw [sK_congr fun k hk => h k (by omega), h n (by omega)]
theorem sK_one (q : Nat) (d : Int) : ∀ n, sK (fun k => if k = q then d else 0) n = if q < n then d else 0
  | 0 => by simp [sK]
  | n + 1 => by
    simp only [sK]
    rw [sK_one q d n]
    repeat' split
    all_goals omega
/-- One edge's share of an image. -/
def im1 (s : Nat → Int) (x : Nat × Nat × Nat) (i : Nat) : Int := if x.1 = x.2.1 then 0 else (if i = x.1 then (x.2.2 : Int) * (s x.1 - s x.2.1) else 0) + (if i = x.2.1 then -((x.2.2 : Int) * (s x.1 - s x.2.1)) else 0)
def img (ns : List (Nat × Nat × Nat)) (s : Nat → Int) (i : Nat) : Int := (ns.map fun x => im1 s x i).sum
theorem img_cons (x : Nat × Nat × Nat) (l : List (Nat × Nat × Nat)) (s : Nat → Int) (i : Nat) : img (x :: l) s i = im1 s x i + img l s i := by simp [img]
theorem img_take {ns : List (Nat × Nat × Nat)} {j : Nat} (h : j < ns.length) (s : Nat → Int) (i : Nat) : img (ns.take (j + 1)) s i = img (ns.take j) s i + im1 s ns[j] i := by
  unfold img
  rw [List.take_succ_eq_append_getElem h, List.map_append, List.sum_append]
  simp
theorem lap1_img (n : Nat) (s : Nat → Int) (x : Nat × Nat × Nat) (i : Nat) (h1 : x.1 < n) (h2 : x.2.1 < n) : sK (fun k => lap1 x i k * s k) n = im1 s x i := by
  obtain ⟨a, b, m⟩ := x
  simp only at h1 h2
  by_cases hab : a = b
  · have : (fun k => lap1 (a, b, m) i k * s k) = fun _ => 0 := by funext k; simp [lap1, hab]
    rw [this, sK_zero]
    simp [im1, hab]
  · have e : (fun k => lap1 (a, b, m) i k * s k) = fun k => ((if k = a then (if i = a then (m : Int) * s a else 0) else 0) + (if k = b then (if i = b then (m : Int) * s b else 0) else 0)) + ((if k = b then (if i = a then -((m : Int) * s b) else 0) else 0) + (if k = a then (if i = b then -((m : Int) * s a) else 0) else 0)) := by
      funext k
      unfold lap1
      simp only [hab, if_false]
      by_cases ka : k = a
      · subst ka
        have hba : ¬ k = b := hab
        by_cases ia : i = k
        · subst ia; simp [hba]
        · by_cases ib : i = b
          · subst ib; simp [hba, ia, Int.neg_mul]
          · simp [hba, ia, ib]
      · by_cases kb : k = b
        · subst kb
          by_cases ia : i = a
          · subst ia; simp [ka, hab, Int.neg_mul]
          · by_cases ib : i = k
            · subst ib; simp [ka]
            · simp [ka, ia, ib]
        · simp [ka, kb]
    rw [e, sK_add, sK_add, sK_add, sK_one, sK_one, sK_one, sK_one, if_pos h1, if_pos h2, if_pos h2, if_pos h1]
    unfold im1
    simp only [hab, if_false]
    by_cases ia : i = a
    · subst ia
      simp [hab, Int.mul_sub]; omega
    · by_cases ib : i = b
      · subst ib
        simp [ia, Int.mul_sub]; omega
      · simp [ia, ib]
theorem lap_img (n : Nat) (s : Nat → Int) (i : Nat) : ∀ {ns : List (Nat × Nat × Nat)}, (∀ x ∈ ns, x.1 < n ∧ x.2.1 < n ∧ x.1 ≤ x.2.1) → sK (fun k => lap ns i k * s k) n = img ns s i
  | [], _ => by
    have : (fun k => lap [] i k * s k) = fun _ => 0 := by funext k; simp [lap]
    rw [this, sK_zero]; rfl
  | x :: l, h => by
    have ih := lap_img n s i (ns := l) fun y hy => h y (by simp [hy])
    obtain ⟨h1, h2, -⟩ := h x (by simp)
    have e : (fun k => lap (x :: l) i k * s k) = fun k => lap1 x i k * s k + lap l i k * s k := by funext k; simp [lap, Int.add_mul]
    rw [e, sK_add, lap1_img n s x i h1 h2, ih, img_cons]
theorem im1_add (s t : Nat → Int) (x : Nat × Nat × Nat) (i : Nat) : im1 (fun k => s k + t k) x i = im1 s x i + im1 t x i := by
  obtain ⟨a, b, m⟩ := x
  have e : (m : Int) * (s a + t a - (s b + t b)) = (m : Int) * (s a - s b) + (m : Int) * (t a - t b) := by rw [← Int.mul_add]; congr 1; omega
  unfold im1
  simp only [e]
  repeat' split
  all_goals omega
theorem img_add (s t : Nat → Int) (i : Nat) : ∀ ns : List (Nat × Nat × Nat), img ns (fun k => s k + t k) i = img ns s i + img ns t i
  | [] => rfl
  | x :: l => by rw [img_cons, img_cons, img_cons, im1_add, img_add s t i l]; omega
theorem img_flat (z : Int) (i : Nat) : ∀ ns : List (Nat × Nat × Nat), img ns (fun _ => z) i = 0
  | [] => rfl
  | x :: l => by rw [img_cons, img_flat z i l]; simp [im1]
theorem im1_sum (n : Nat) (s : Nat → Int) (x : Nat × Nat × Nat) (h1 : x.1 < n) (h2 : x.2.1 < n) : sK (im1 s x) n = 0 := by
  obtain ⟨a, b, m⟩ := x
  simp only at h1 h2
  by_cases hab : a = b
  · have : im1 s (a, b, m) = fun _ => 0 := by funext k; simp [im1, hab]
    rw [this, sK_zero]
  · have : im1 s (a, b, m) = fun i => (if i = a then (m : Int) * (s a - s b) else 0) + (if i = b then -((m : Int) * (s a - s b)) else 0) := by funext k; simp [im1, hab]
    rw [this, sK_add, sK_one, sK_one, if_pos h1, if_pos h2]; omega
theorem img_degree (n : Nat) (s : Nat → Int) : ∀ {ns : List (Nat × Nat × Nat)}, (∀ x ∈ ns, x.1 < n ∧ x.2.1 < n ∧ x.1 ≤ x.2.1) → sK (img ns s) n = 0
  | [], _ => by
    have : img [] s = fun _ => 0 := by funext i; rfl
    rw [this, sK_zero]
  | x :: l, h => by
    obtain ⟨h1, h2, -⟩ := h x (by simp)
    have e : img (x :: l) s = fun i => im1 s x i + img l s i := by funext i; exact img_cons x l s i
    rw [e, sK_add, im1_sum n s x h1 h2, img_degree n s fun y hy => h y (by simp [hy])]; rfl
/-- The numbers stay small. -/
theorem im1_le (s : Nat → Int) (x : Nat × Nat × Nat) (i : Nat) (B : Int) (hB : ∀ k, -B ≤ s k ∧ s k ≤ B) : -((x.2.2 : Int) * (2 * B)) ≤ im1 s x i ∧ im1 s x i ≤ (x.2.2 : Int) * (2 * B) := by
  obtain ⟨a, b, m⟩ := x
  have ha := hB a; have hb := hB b
  have h1 : (m : Int) * (s a - s b) ≤ (m : Int) * (2 * B) := Int.mul_le_mul_of_nonneg_left (by omega) (by omega)
  have h2 : (m : Int) * (-(2 * B)) ≤ (m : Int) * (s a - s b) := Int.mul_le_mul_of_nonneg_left (by omega) (by omega)
  rw [Int.mul_neg] at h2
  have h3 : 0 ≤ (m : Int) * (2 * B) := Int.mul_nonneg (by omega) (by omega)
  unfold im1
  simp only
  by_cases hab : a = b
  · simp [hab]; omega
  · by_cases ia : i = a
    · subst ia; simp [hab]; omega
    · by_cases ib : i = b
      · subst ib; simp [ia, hab]; omega
      · simp [ia, ib]; omega
theorem img_le (s : Nat → Int) (i : Nat) (B : Int) (hB : ∀ k, -B ≤ s k ∧ s k ≤ B) : ∀ ns : List (Nat × Nat × Nat), -(((sgl ns).length : Int) * (2 * B)) ≤ img ns s i ∧ img ns s i ≤ ((sgl ns).length : Int) * (2 * B)
  | [] => by simp [img, sgl]
  | x :: l => by
    have h1 := im1_le s x i B hB
    have h2 := img_le s i B hB l
    have e2 : (sgl (x :: l)).length = x.2.2 + (sgl l).length := by simp [sgl]
    have e3 : (((sgl (x :: l)).length : Nat) : Int) * (2 * B) = (x.2.2 : Int) * (2 * B) + ((sgl l).length : Int) * (2 * B) := by
      rw [e2, ← Int.add_mul]; simp
    rw [img_cons, e3]
    omega
end Go.Proofs.YtlnhocgjgmhfgaaGreatDoor
