/- The walks of matrix's rows and eliminate. A region inside a round of a range over a function, by the plain calculus of regions that draw their order. A range over a function whose round begins with memory of its own (the variable of the round is captured): the rule of XQ1 with assignment and body in one premise. The walk of laplacian's iterator over the edges that are no loops. The walk of laplacian's full. The walk of laplacian's full: the loop. The walks of laplacian's Full and minor. The walk of matrix's column. The walks of matrix's Add, Product and Apply. The walks of matrix's eliminate, Determinant and Rank. -/
import Derived.Test.YtkkklfikdoibcaaGreatDoorPk7
import Derived.Test.YtkkklfikdoibcaaGreatDoorPk6
import Derived.OrdersIn
import Derived.Test.YtkkklfikdoibcaaGreatDoorPk5
import Derived.Test.YtkkklfikdoibcaaGreatDoorPk1
import Derived.BigRegion
namespace Go.Proofs.YtkkklfikdoibcaaGreatDoor
open Go.RowKit Go.Shelf
set_option maxRecDepth 100000

attribute [local go_sem] Oper.semAt_some

theorem grown_below {w w' : World} (h : Below w.heap.size w w') : w.grownBy w' none := ⟨h.1, h.2, h.3, h.4, fun k hk _ => h.5 k hk⟩
/-- The rows that an iterator has handed out: each its own block. -/
structure RowsAt (base : Nat) (c : Nat) (A : Mat) (bs : List (Nat × Nat)) (W : World) : Prop where
  row : ∀ i (h : i < bs.length), W.ownsRow base 48 1 (rowV c bs[i]) c (rowL c A i)
  nod : (bs.map Prod.fst).Nodup
  lt : ∀ b ∈ bs.map Prod.fst, b < W.heap.size
theorem RowsAt.nil (base c : Nat) (A : Mat) (W : World) : RowsAt base c A [] W := ⟨fun i h => by simp at h, by simp, fun b h => by simp at h⟩
theorem RowsAt.kp {base c B : Nat} {A : Mat} {bs : List (Nat × Nat)} {W W' : World} (h : RowsAt base c A bs W) (hk : KpR B W W') (hs : W.heap.size ≤ W'.heap.size) : RowsAt base c A bs W' :=
  ⟨fun i hi => hk.own (h.row i hi), h.nod, fun b hb => Nat.lt_of_lt_of_le (h.lt b hb) hs⟩
theorem RowsAt.snoc {base c g cap : Nat} {A : Mat} {bs : List (Nat × Nat)} {W W1 : World} (h : RowsAt base c A bs W) (hb : Below W.heap.size W W1) (hB : base ≤ W.heap.size) (hr : W1.ownsRow W.heap.size 48 1 (rowV c (g, cap)) c (rowL c A bs.length)) (hg : W.heap.size ≤ g) (hg2 : g < W1.heap.size) : RowsAt base c A (bs ++ [(g, cap)]) W1 := by
  refine ⟨fun i hi => ?_, ?_, fun b hm => ?_⟩
  · by_cases e : i < bs.length
    · rw [List.getElem_append_left e]
      exact own_below (h.row i e) hb (Nat.le_refl _)
    · obtain rfl : i = bs.length := by simp at hi; omega
      simp only [List.getElem_append_right (Nat.le_refl _), Nat.sub_self, List.getElem_cons_zero]
      exact own_low hr hB
  · rw [List.map_append, List.nodup_append]
    refine ⟨h.nod, by simp, fun a ha b hb e => ?_⟩
    have h1 := h.lt a ha
    simp at hb
    omega
  · rw [List.map_append, List.mem_append] at hm
    rcases hm with hm | hm
    · exact Nat.lt_of_lt_of_le (h.lt b hm) hb.size
    · simp at hm; omega
theorem own_block {w : World} {b e s n : Nat} {v : Value} {ys : List Value} (h : w.ownsRow b e s v (n + 1) ys) : ∃ g cap, v = .slice (some ⟨g, 0, none⟩) (n + 1) cap ∧ b ≤ g ∧ g < w.heap.size := by
  rcases h.2 with ⟨_, h0⟩ | ⟨g, cap, cur, rfl, hb, hg, _⟩
  · omega
  · exact ⟨g, cap, rfl, hb, (Array.getElem?_eq_some_iff.1 hg).1⟩

theorem row_list {r c q m : Nat} {xs : List ByteArray} {A : Mat} (hx : xs = cellsF r (c + 1) A) (hm : q * (c + 1) = m) (hl : m + (c + 1) ≤ xs.length) : ((xs.drop m).take (c + 1)).map eS = rowL (c + 1) A q := by
  refine List.ext_getElem (by rw [List.length_map, List.length_take, List.length_drop, rowL_len]; omega) fun j h1 h2 => ?_
  have hj : j < c + 1 := by rw [rowL_len] at h2; exact h2
  simp only [List.getElem_map, List.getElem_take, List.getElem_drop, rowL, List.getElem_range, eS]
  subst hx
  have hjl : q * (c + 1) + j < (cellsF r (c + 1) A).length := by omega
  have e := cellsF_get (r := r) A hj hjl
  simp only [hm] at e
  rw [e]
theorem row_sl {r c q m b o cap k : Nat} {xs : List ByteArray} {A : Mat} {w : World} (hp : Cells eS w b o xs) (_hx : xs = cellsF r (c + 1) A) (_hm : q * (c + 1) = m) (hl : m + (c + 1) ≤ xs.length) (hc : xs.length ≤ cap) (hcm : cap ≤ maxLen) (hk : k = c + 1) :
    Sl eS w (.slice (some ⟨b, o + m, none⟩) k (cap - m)) ((xs.drop m).take (c + 1)) := by
  have hlen : ((xs.drop m).take (c + 1)).length = c + 1 := by rw [List.length_take, List.length_drop]; omega
  refine ⟨some ⟨b, o + m, none⟩, b, o + m, cap - m, by rw [hlen, hk], fun _ => rfl, by omega, by omega, by simp, fun _ => hp.1 (by omega), fun i hi => ?_⟩
  have h := hp.2 (m + i) (by omega)
  rw [show o + (m + i) = o + m + i by omega] at h
  rw [h]
  simp
set_option maxHeartbeats 4000000 in
theorem rows1_seq {w : World} {B r c : Nat} {v : Value} {xs : List ByteArray} (A : Mat) (hk : Blk w B [.int .i64 r, .int .i64 (c + 1 : Nat), v] 29) (hv : Sl eS w v xs) (hx : xs = cellsF r (c + 1) A) (hr : r ≤ 16) (hc : c + 1 ≤ 16) (n : Nat) (hn : 1 ≤ n) :
    SeqG Fence.wide n Tryz.prog 202 #[.pointer (some ⟨B, 0, none⟩)] (fun x : Nat × Nat => #[rowV (c + 1) x]) (KpR w.heap.size) (fun s _ W => s ≤ W.heap.size) (fun bs W => bs.length = r ∧ RowsAt w.heap.size (c + 1) A bs W) r w := by
  intro l J W hbW hJ hJc hY h0
  have hkW := hk.below hbW (Nat.le_refl _)
  have HB0 := Lib.hid hbW
  have hBw : B < w.heap.size := hk.lt
  have HY := Lib.hid hY; have HJ := Lib.hid hJ; have HX := Lib.hid hx; have HKW := Lib.hid hkW
  have hwW := hbW.size
  obtain ⟨ad, b, o, cap, rfl, ha, hcc, hm, hn0, hp⟩ := hv
  have HP := Lib.hid hp; have HA := Lib.hid ha
  unfold maxLen at hm
  clear hY hJ hJc hk hx hbW hp ha hn0
  have k0 := hkW.cell 0 _ rfl
  clear hkW
  refine callsIn_of_wp Tryz.func202 rfl trivial ?_ rfl
  simp only [Tryz.ntmps202, List.size_toArray, List.length_cons, List.length_nil, Nat.reduceAdd, Nat.reduceSub, Array.replicate_succ, Array.replicate_zero, List.push_toArray, List.append_toArray, List.nil_append, List.cons_append]
  gi_wp2
  gi_loopw [6] (fun i wr => ∃ q : Nat, q ≤ r ∧ i = .int .i64 q ∧ ∃ bs : List (Nat × Nat), bs.length = q ∧ Hid (J bs wr) ∧ Hid (RowsAt w.heap.size (c + 1) A bs wr) ∧ Below w.heap.size W wr ∧ W.heap.size ≤ wr.heap.size) (fun i _ => r - (intOf i).toNat)
  case atStart => exact ⟨0, Nat.zero_le _, rfl, [], rfl, Lib.hid h0, Lib.hid (RowsAt.nil _ _ _ _), Below.refl _ _, Nat.le_refl _⟩
  case round =>
    clear k0
    obtain ⟨q, hq, rfl, bs, hbs, hJs, hR, hbl, hsz⟩ := hrel
    have hKr := (hbl.block B hBw).trans HKW.out
    have hKr : Blk wr B _ _ := hKr
    have k0 := hKr.cell 0 _ rfl; have k1 := hKr.cell 1 _ rfl; have k2 := hKr.cell 2 _ rfl
    clear hKr
    by_cases hqr : q < r
    · obtain ⟨m, hm1⟩ : ∃ m, q * (c + 1) = m := ⟨_, rfl⟩
      have hxl : xs.length = r * (c + 1) := by rw [HX.out, cellsF_len]
      have hm2 : m + (c + 1) ≤ xs.length := by
        rw [hxl, ← hm1]
        calc q * (c + 1) + (c + 1) = (q + 1) * (c + 1) := by rw [Nat.add_mul, Nat.one_mul]
          _ ≤ r * (c + 1) := Nat.mul_le_mul_right _ hqr
      have hm3 : xs.length ≤ 256 := by rw [hxl]; exact Nat.mul_le_mul hr hc
      have e1 : (q : Int) * ((c : Int) + 1) = (m : Int) := by rw [← hm1]; simp
      have e2 : ((q : Int) + 1) * ((c : Int) + 1) = ((m + (c + 1) : Nat) : Int) := by rw [Int.add_mul, e1]; simp
      obtain ⟨m2, hmm⟩ : ∃ m2, m + (c + 1) = m2 := ⟨_, rfl⟩
      rw [hmm] at e2 hm2
      have ha := HA.out (by omega)
      subst ha
      have HS := Lib.hid (row_sl (A := A) (HP.out.below (HB0.out.trans hbl) (Nat.le_refl _)) HX.out hm1 (show m + (c + 1) ≤ xs.length by omega) hcc (by unfold maxLen; omega) (show m2 - m = c + 1 by omega))
      have HRL := Lib.hid (row_list (r := r) (A := A) HX.out hm1 (show m + (c + 1) ≤ xs.length by omega))
      obtain ⟨ys, hys⟩ : ∃ ys, (xs.drop m).take (c + 1) = ys := ⟨_, rfl⟩
      rw [hys] at HS HRL
      have HYL := Lib.hid (show ys.length = c + 1 by rw [← hys, List.length_take, List.length_drop]; omega)
      clear hys
      gi_wp2
      refine ⟨trivial, callsIn_wide.2 ((clone_any _ _ ys HS.out (by rw [HYL.out]; omega)).mono ?_)⟩
      rintro e w1 ⟨v1, rfl, ho, hb1⟩
      rw [HYL.out, HRL.out] at ho
      obtain ⟨g, gc, rfl, hg1, hg2⟩ := own_block ho
      have hR1 := hR.out.snoc (g := g) (cap := gc) hb1 (by omega) (by rw [hbs]; exact ho) hg1 hg2
      have hJ1 := HJ.out _ _ _ none hJs.out (grown_below hb1) (fun _ h => by cases h)
      have hlen : bs.length < r := by omega
      obtain ⟨fn, tmps, assign, body, hy, hRd⟩ := HY.out bs (g, gc) w1 hJ1 (by have := hb1.size; omega) hlen
      have HR1 := Lib.hid hR1
      clear hR1 hJ1 ho
      unfold rowV at hy
      gi_wp2
      refine hRd.mono ?_
      rintro e W3 ⟨rfl, hJ3, hk3⟩
      have HJ3 := Lib.hid hJ3
      have hs3 := hk3.1.size
      have HR3 := Lib.hid (HR1.out.kp hk3 hs3)
      have hb3 := hk3.1
      clear hJ3 hk3
      gi_wp2
      go_roundw
      case rel => exact ⟨q + 1, by omega, by go_num, bs ++ [(g, gc)], by simp [hbs], HJ3, HR3, (hbl.trans (hb1.mono (by omega))).trans hb3, by have := hb1.size; omega⟩
      case measure => simp [intOf]; omega
    · obtain rfl : q = r := by omega
      gi_wp2
      go_end0
      exact ⟨⟨_, rfl⟩, bs, ⟨hbs, hR.out⟩, hJs.out⟩
set_option maxHeartbeats 4000000 in
theorem rows0_seq {w : World} {B r : Nat} {v : Value} (hk : Blk w B [.int .i64 r, .int .i64 0, v] 29) (hv : Sl eS w v []) (hr : r ≤ 16) (n : Nat) (hn : 1 ≤ n) :
    SeqG Fence.wide n Tryz.prog 202 #[.pointer (some ⟨B, 0, none⟩)] (fun x : Option Addr × Nat => #[.slice x.1 0 x.2]) (KpR w.heap.size) (fun s _ W => s ≤ W.heap.size) (fun bs _ => bs.length = r) r w := by
  intro l J W hbW hJ hJc hY h0
  have hkW := hk.below hbW (Nat.le_refl _)
  have HB0 := Lib.hid hbW
  have hBw : B < w.heap.size := hk.lt
  have HY := Lib.hid hY; have HJ := Lib.hid hJ; have HKW := Lib.hid hkW
  have hwW := hbW.size
  obtain ⟨ad, b, o, cap, rfl, ha, hcc, hm, hn0, hp⟩ := hv
  unfold maxLen at hm
  have HS := Lib.hid (fun wr => show Sl eS wr (.slice ad 0 cap) [] from ⟨ad, 0, 0, cap, rfl, fun h => absurd h (by simp), by simp, by unfold maxLen; omega, hn0, fun h => absurd h (by simp), fun i h => absurd h (by simp)⟩)
  clear hY hJ hJc hk hbW hp ha hn0
  have k0 := hkW.cell 0 _ rfl
  clear hkW
  refine callsIn_of_wp Tryz.func202 rfl trivial ?_ rfl
  simp only [Tryz.ntmps202, List.size_toArray, List.length_cons, List.length_nil, Nat.reduceAdd, Nat.reduceSub, Array.replicate_succ, Array.replicate_zero, List.push_toArray, List.append_toArray, List.nil_append, List.cons_append]
  gi_wp2
  gi_loopw [6] (fun i wr => ∃ q : Nat, q ≤ r ∧ i = .int .i64 q ∧ ∃ bs : List (Option Addr × Nat), bs.length = q ∧ Hid (J bs wr) ∧ Below w.heap.size W wr ∧ W.heap.size ≤ wr.heap.size) (fun i _ => r - (intOf i).toNat)
  case atStart => exact ⟨0, Nat.zero_le _, rfl, [], rfl, Lib.hid h0, Below.refl _ _, Nat.le_refl _⟩
  case round =>
    clear k0
    obtain ⟨q, hq, rfl, bs, hbs, hJs, hbl, hsz⟩ := hrel
    have hKr : Blk wr B _ _ := (hbl.block B hBw).trans HKW.out
    have k0 := hKr.cell 0 _ rfl; have k1 := hKr.cell 1 _ rfl; have k2 := hKr.cell 2 _ rfl
    clear hKr
    by_cases hqr : q < r
    · gi_wp2
      refine ⟨trivial, callsIn_wide.2 ((clone_any _ _ [] (HS.out _) (by simp)).mono ?_)⟩
      rintro e w1 ⟨v1, rfl, ho, hb1⟩
      obtain ⟨va, vc, rfl⟩ := own_form ho
      have hJ1 := HJ.out _ _ _ none hJs.out (grown_below hb1) (fun _ h => by cases h)
      have hlen : bs.length < r := by omega
      obtain ⟨fn, tmps, assign, body, hy, hRd⟩ := HY.out bs (va, vc) w1 hJ1 (by have := hb1.size; omega) hlen
      clear hJ1 ho
      gi_wp2
      refine hRd.mono ?_
      rintro e W3 ⟨rfl, hJ3, hk3⟩
      have HJ3 := Lib.hid hJ3
      have hs3 := hk3.1.size
      have hb3 := hk3.1
      clear hJ3 hk3
      gi_wp2
      go_roundw
      case rel => exact ⟨q + 1, by omega, by go_num, bs ++ [(va, vc)], by simp [hbs], HJ3, (hbl.trans (hb1.mono (by omega))).trans hb3, by have := hb1.size; omega⟩
      case measure => simp [intOf]; omega
    · obtain rfl : q = r := by omega
      gi_wp2
      go_end0
      exact ⟨⟨_, rfl⟩, bs, hbs, hJs.out⟩
set_option maxHeartbeats 1000000 in
theorem rows_any (w : World) (R C : Int) (a : Option Addr) (n c : Nat) : Calls Tryz.prog 157 #[.agg #[.int .i64 R, .int .i64 C, .slice a n c]] w fun e w' => e = .returned (.func (.func 202) #[] #[.pointer (some ⟨w.heap.size, 0, none⟩)]) ∧ w' = w.alloc (.cells #[.int .i64 R, .int .i64 C, .slice a n c] 29) := by
  go_enter Tryz.func157, Tryz.ntmps157
  go_wp2
  go_ret
  exact ⟨rfl, rfl⟩
theorem RowsAt.put {base c : Nat} {A : Mat} {bs : List (Nat × Nat)} {W : World} {l : Nat} {o : Obj} (o' : Obj) (h : RowsAt base c A bs W) (hl : W.heap[l]? = some o) (ho : o.isCells = false) : RowsAt base c A bs (W.putObj l o') :=
  ⟨fun i hi => ownsRow_putObj (h.row i hi) o' hl ho, h.nod, fun b hb => Nat.lt_of_lt_of_le (h.lt b hb) (grownBy_putObj' W l o').size⟩
theorem appendRows_any {w : World} {B r c : Nat} {v : Value} {xs : List ByteArray} (A : Mat) (hk : Blk w B [.int .i64 r, .int .i64 (c + 1 : Nat), v] 29) (hv : Sl eS w v xs) (hx : xs = cellsF r (c + 1) A) (hr : r ≤ 16) (hc : c + 1 ≤ 16) :
    Calls Tryz.prog 201 #[.slice none 0 0, .func (.func 202) #[] #[.pointer (some ⟨B, 0, none⟩)]] w (Rets fun x w' => ∃ bs : List (Nat × Nat), (bs.length = r ∧ RowsAt w.heap.size (c + 1) A bs w') ∧ w'.ownsRow w.heap.size 27 1 x bs.length (bs.map fun b => .slice (some ⟨b.1, 0, none⟩) (c + 1) b.2) ∧ Below w.heap.size w w') :=
  callsIn_wide.1 (appendSeq_in (fun b : Nat × Nat => some ⟨b.1, 0, none⟩) (fun _ => c + 1) (fun b => b.2) (Gd := fun s _ W => s ≤ W.heap.size) (S := fun bs W => bs.length = r ∧ RowsAt w.heap.size (c + 1) A bs W) (N := r) (by omega) w _
    (fun n hn => rows1_seq A hk hv hx hr hc n hn) (fun _ _ _ h => h) (fun _ _ _ l _ o' h _ _ => Nat.le_trans h (grownBy_putObj' _ l o').size) (fun _ _ _ _ o' h hl ho => ⟨h.1, h.2.put o' hl ho⟩))
theorem appendRows0_any {w : World} {B r : Nat} {v : Value} (hk : Blk w B [.int .i64 r, .int .i64 0, v] 29) (hv : Sl eS w v []) (hr : r ≤ 16) :
    Calls Tryz.prog 201 #[.slice none 0 0, .func (.func 202) #[] #[.pointer (some ⟨B, 0, none⟩)]] w (Rets fun x w' => ∃ bs : List (Option Addr × Nat), bs.length = r ∧ w'.ownsRow w.heap.size 27 1 x bs.length (bs.map fun b => .slice b.1 0 b.2) ∧ Below w.heap.size w w') :=
  callsIn_wide.1 (appendSeq_in (fun b : Option Addr × Nat => b.1) (fun _ => 0) (fun b => b.2) (Gd := fun s _ W => s ≤ W.heap.size) (S := fun bs _ => bs.length = r) (N := r) (by omega) w _
    (fun n hn => rows0_seq hk hv hr n hn) (fun _ _ _ h => h) (fun _ _ _ l _ o' h _ _ => Nat.le_trans h (grownBy_putObj' _ l o').size) (fun _ _ _ _ _ h _ _ => h))
set_option maxHeartbeats 1000000 in
theorem collect_any {w : World} {B r c : Nat} {v : Value} {xs : List ByteArray} (A : Mat) (hk : Blk w B [.int .i64 r, .int .i64 (c + 1 : Nat), v] 29) (hv : Sl eS w v xs) (hx : xs = cellsF r (c + 1) A) (hr : r ≤ 16) (hc : c + 1 ≤ 16) :
    Calls Tryz.prog 156 #[.func (.func 202) #[] #[.pointer (some ⟨B, 0, none⟩)]] w (Rets fun x w' => ∃ bs : List (Nat × Nat), (bs.length = r ∧ RowsAt w.heap.size (c + 1) A bs w') ∧ w'.ownsRow w.heap.size 27 1 x bs.length (bs.map fun b => .slice (some ⟨b.1, 0, none⟩) (c + 1) b.2) ∧ Below w.heap.size w w') := by
  have H := Lib.hid (appendRows_any A hk hv hx hr hc)
  clear hk hv hx
  go_enter Tryz.func156, Tryz.ntmps156
  go_wp2_with (go_at_call 201; (with_reducible refine H.out.mono ?_); rintro e w1 ⟨x, rfl, bs, h1, h2, h3⟩; have H1 := Lib.hid h1; have H2 := Lib.hid h2; clear h1 h2)
  go_ret
  exact ⟨_, rfl, bs, H1.out, H2.out, h3⟩
set_option maxHeartbeats 1000000 in
theorem collect0_any {w : World} {B r : Nat} {v : Value} (hk : Blk w B [.int .i64 r, .int .i64 0, v] 29) (hv : Sl eS w v []) (hr : r ≤ 16) :
    Calls Tryz.prog 156 #[.func (.func 202) #[] #[.pointer (some ⟨B, 0, none⟩)]] w (Rets fun x w' => ∃ bs : List (Option Addr × Nat), bs.length = r ∧ w'.ownsRow w.heap.size 27 1 x bs.length (bs.map fun b => .slice b.1 0 b.2) ∧ Below w.heap.size w w') := by
  have H := Lib.hid (appendRows0_any hk hv hr)
  clear hk hv
  go_enter Tryz.func156, Tryz.ntmps156
  go_wp2_with (go_at_call 201; (with_reducible refine H.out.mono ?_); rintro e w1 ⟨x, rfl, bs, h1, h2, h3⟩; have H2 := Lib.hid h2; clear h2)
  go_ret
  exact ⟨_, rfl, bs, h1, H2.out, h3⟩
end Go.Proofs.YtkkklfikdoibcaaGreatDoor

namespace Go.Proofs.YtkkklfikdoibcaaGreatDoor
open Go.RowKit
set_option maxRecDepth 100000

section
variable {P : Program} {ops : Array Oper} {Q : Exit → Act → World → Prop} {md : Region.Mode} {n l : Nat}

def noDefer (ops : Array Oper) : Bool := ops.all fun o => match o.op with | .defer _ => false | _ => true
theorem noDefer_at {i : Nat} {o : Oper} (h : noDefer ops = true) (ho : ops[i]? = some o) : ∀ c, o.op ≠ .defer c := by
  intro c hc
  have h1 := Array.all_eq_true.1 h i (Array.getElem?_eq_some_iff.1 ho).1
  rw [(Array.getElem?_eq_some_iff.1 ho).2, hc] at h1
  cases h1
theorem rowsIn_wide {row : String} {args : Array Value} {w : World} {R : Value → World → Prop} (h : Rows P row args w R) : RowsIn (Fence.wide.inRound l) n P row args w R :=
  fun c cs _ => let ⟨v, w', r, s⟩ := h c cs; ⟨v, w', r, stepsIn_wide.2 s⟩
theorem operIn_of {o : Oper} {a : Act} {w : World} {K : Act → World → Prop} (hd : ∀ c, o.op ≠ .defer c) (h : o.wp P a w K Q) : o.wpIn (Fence.wide.inRound l) n P a w K Q := by
  unfold Oper.wp at h
  unfold Oper.wpIn
  refine ⟨fun _ _ => trivial, ?_⟩
  rw [Oper.semAt_eq _ _ _ hd]
  generalize (execOp a.eval o).run P w = r at *
  cases r with
  | ok x w' =>
    cases x <;> simp only [Oper.upon, Oper.uponIn] at h ⊢ <;>
      first
        | exact h
        | exact ⟨fun h => by simp [Fence.wide] at h, (callsIn_wide.2 h : CallsIn Fence.wide (n - 1) P _ _ _ _)⟩
        | exact ⟨fun h => by simp [Fence.wide] at h, rowsIn_wide h⟩
  | halt x w' => cases x <;> simp only [Oper.upon, Oper.uponIn] at h ⊢ <;> exact h
theorem opIn_of (hn : noDefer ops = true) (hL : ¬ LetsOut Q) {i : Nat} {K K' : Act → World → Prop} (hK : ∀ a w, K a w → K' a w) {a : Act} {w : World} (h : wpOp P ops Q i K a w) :
    wpOpIn (Fence.wide.inRound l) n P ops Q i K' a w := by
  unfold wpOp at h
  unfold wpOpIn
  split
  · rename_i hi; rw [hi] at h; exact hK _ _ h
  · rename_i o ho
    rw [ho] at h
    simp only at h
    split
    · rename_i hw
      rw [if_pos hw] at h
      rcases h with h | ⟨-, h⟩
      · exact operIn_of (noDefer_at hn ho) (Oper.wp_mono hK h)
      · exact absurd h hL
    · rename_i hw
      rw [if_neg hw] at h
      exact ⟨fun _ _ => trivial, hK _ _ h⟩
theorem anyIn_of (hn : noDefer ops = true) (hL : ¬ LetsOut Q) : ∀ (fuel : Nat) (listed : Array Bool) (a : Act) (w : World), wpAny P md ops Q fuel listed a w → wpAnyIn (Fence.wide.inRound l) n P md ops Q fuel listed a w
  | 0, _, _, _, h => h
  | fuel + 1, _, _, _, h => ⟨h.1, fun i hi => opIn_of hn hL (fun a w h' => anyIn_of hn hL fuel _ a w h') (h.2 i hi)⟩
theorem wpIn_region_plain {id : Nat} {a : Act} {w : World} (hm : P.follows .mixedOrders = true) (hn : noDefer ops = true) (hL : ¬ LetsOut Q)
    (h : wpAny P .any ops Q ops.size (Array.replicate ops.size false) a w.drew) : (Code.region id ops true).wpIn (Fence.wide.inRound l) n P Q a w :=
  wpIn_region_any hm (anyIn_of hn hL _ _ _ _ h)
end
end Go.Proofs.YtkkklfikdoibcaaGreatDoor

namespace Go.Proofs.YtkkklfikdoibcaaGreatDoor
open Go.RowKit Go.Shelf
set_option maxRecDepth 100000

section
variable {F : Fence} {n : Nat} {P : Program}
theorem wpIn_rangeA {α : Type} {g : Operand} {ps : Array Tmp} {assign body : Code} {Q : Exit → Act → World → Prop} {a : Act} {w : World}
    (hro : F.round = none) (h1 : 1 ≤ n) {gf : Nat} {lb : Array Value} (hg : a.eval g = .func (.func gf) #[] lb) (hFg : F.fn gf) (eg : ∀ args w, (callFunc gf args).run P w = .ok (.enter gf args) w)
    {encs : α → Array Value} {Kp : World → World → Prop} {Gd : Nat → α → World → Prop} {S : List α → World → Prop} {N : Nat} {w0 : World} (hseq : SeqG F (n - 1) P gf lb encs Kp Gd S N w0)
    (hKt : ∀ {A B C : World}, Kp A B → Kp B C → Kp A C) (hKb : ∀ (W : World) (l : Nat) (o o' : Obj), w.heap.size ≤ l → W.heap[l]? = some o → o.isCells = false → Kp W (W.putObj l o'))
    (hSb : ∀ xs (W : World) (l : Nat) (o o' : Obj), S xs W → W.heap[l]? = some o → o.isCells = false → S xs (W.putObj l o'))
    (hb0 : Below w0.heap.size w0 w) (hps : ∀ x, (encs x).size = ps.size)
    (I : List α → World → Prop) (hI : OwnFrom w.heap.size I) (hIc : ∀ pre W1 u j, I pre W1 → I pre (W1.setCell ⟨w.heap.size + 2, j, none⟩ u)) (h0 : I [] w)
    (hround : ∀ (l : Nat) (pre : List α) (x : α) (W : World), I pre W → Gd (w.heap.size + 2) x W → pre.length < N → w.heap.size ≤ l →
      assign.wpIn (F.inRound l) (n - 1 - 1) P (Exit.then (fun a1 W1 => KeepsOthers W W1 ∧ Kp W W1 ∧ ∀ o o' : Obj, W1.heap[l]? = some o → o.isCells = false → body.wpIn (F.inRound l) (n - 1 - 1) P (postG Kp I (pre ++ [x]) (W1.putObj l o')) a1 (W1.putObj l o')) (fun _ _ _ => False))
        { tmps := (ps.zip (encs x)).foldl (fun t (p, v) => t.setIfInBounds p v) a.tmps, defers := [] } W)
    (hdone : ∀ (D : Nat) (xs : List α) (W : World), w.heap.size ≤ D → S xs W → I xs W → W.heap[D]? = some (.deferred (some [])) → Q .normal { a with defers := { target := .collected D, args := #[] } :: a.defers } W) :
    (Code.rangeFunc g ps assign body).wpIn F n P Q a w := by
  refine wpIn_rangeFunc fun fn hfn => ?_
  rw [hro]
  let rec' : LoopState → Loop := fun st => { state := st, pending := none, fn, tmps := a.tmps, params := ps, assign, body, defers := w.heap.size }
  obtain ⟨d, hd⟩ : ∃ d, w.heap.size = d := ⟨_, rfl⟩
  obtain ⟨W1, hW1⟩ : ∃ W1, (w.alloc (.deferred (some []))).alloc (.loop (rec' .ready)) = W1 := ⟨_, rfl⟩
  have hs1 : W1.heap.size = d + 2 := by rw [← hW1, ← hd]; simp
  have hL1 : W1.heap[d + 1]? = some (.loop (rec' .ready)) := by
    rw [← hW1, ← hd]; have := World.alloc_heap_new (w.alloc (.deferred (some []))) (.loop (rec' .ready)); rwa [World.size_alloc] at this
  have hD1 : W1.heap[d]? = some (.deferred (some [])) := by
    rw [← hW1, ← hd]; exact (Below.heap_alloc _ _ _ (by simp)).trans (World.alloc_heap_new w _)
  have hb1 : Below w0.heap.size w0 W1 := by
    rw [← hW1]; exact (hb0.alloc hb0.size _).alloc (by have := hb0.size; simp; omega) _
  refine ⟨d + 1, [{ target := .collected d, args := #[] }], W1, { target := .fn (.func gf) lb, args := #[.func (.yield (d + 1)) #[] #[]] }, W1, gf, #[.func (.yield (d + 1)) #[] #[]] ++ lb, W1, ?_, ?_, ?_, ?_, fun _ => h1, ?_⟩
  · rw [← hW1, ← hd]; exact run_enterLoop_outer _ _ _ _ _
  · simp only [resolve, hg]; simp [go_sem]
  · intro f' hf'; simp [Target.leads] at hf'; subst hf'; exact hFg
  · simp [invoke, go_sem, eg]
  · refine (hseq (d + 1) (fun pre W => I pre W ∧ W.heap[d + 1]? = some (.loop (rec' .ready)) ∧ W.heap[d]? = some (.deferred (some []))) W1 hb1 ?_ ?_ ?_ ?_).mono ?_
    · intro s A B row hs hgr hrow
      refine ⟨hI s A B row hs.1 hgr fun r e => ?_, (grownBy_keeps hgr (fun r e => (hrow r e).2) hs.2.1 rfl).trans hs.2.1, (grownBy_keeps hgr (fun r e => (hrow r e).2) hs.2.2 rfl).trans hs.2.2⟩
      obtain ⟨hB, o, ho, hw⟩ := hrow r e
      exact ⟨by omega, o, ho, Obj.not_cells_of_walk hw⟩
    · intro pre W u j hs
      rw [hs1]
      refine ⟨?_, setCell_other hs.2.1 rfl, setCell_other hs.2.2 rfl⟩
      have := hIc pre W u j hs.1
      rwa [hd] at this
    · rintro pre x W ⟨hi, hl, hk⟩ hgd hlen
      have hy := run_yield (P := P) (args := encs x) hl (hps x)
      refine ⟨fn, _, assign, body, hy, roundIn_of_wpIn hfn (wpIn_mono (hround (d + 1) pre x W hi (by rw [hd, ← hs1]; exact hgd) hlen (by omega)) ?_)⟩
      rintro e a1 W1' hp
      cases e with
      | normal =>
        obtain ⟨hko0, hkp0, hbody⟩ := hp
        have hl1 := hko0.same _ _ hl rfl
        have hk1 := hko0.same _ _ hk rfl
        have hlt : d + 1 < W1'.heap.size := (Array.getElem?_eq_some_iff.1 hl1).1
        refine ⟨_, run_beginRound hl1 rfl, ?_⟩
        have hbody' := hbody _ (.loop { rec' .ready with state := .busy }) hl1 rfl
        obtain ⟨W2, hW2⟩ : ∃ W2, W1'.putObj (d + 1) (.loop { rec' .ready with state := .busy }) = W2 := ⟨_, rfl⟩
        have hl2 : W2.heap[d + 1]? = some (.loop { rec' .ready with state := .busy }) := by rw [← hW2]; exact World.putObj_heap_same hlt
        have hk2 : W2.heap[d]? = some (.deferred (some [])) := by rw [← hW2]; exact (World.putObj_heap_other (by omega)).trans hk1
        have hK2 : Kp W1' W2 := by rw [← hW2]; exact hKb _ _ _ _ (by omega) hl1 rfl
        rw [hW2] at hbody'
        show body.wpIn _ _ _ _ _ (W1'.putObj (d + 1) (.loop { rec' .ready with state := .busy }))
        rw [hW2]
        refine wpIn_mono hbody' ?_
        rintro e a3 W3 hp
        cases e with
        | normal =>
          obtain ⟨hko, hkp, hi3⟩ := hp
          have hl3 := hko.same _ _ hl2 rfl
          have hk3 := hko.same _ _ hk2 rfl
          have hr := run_endRound (P := P) none hl3
          exact ⟨_, _, hr, rfl, ⟨hI.putObj _ hi3 (by omega) hl3 rfl, World.putObj_heap_same (Array.getElem?_eq_some_iff.1 hl3).1, (World.putObj_heap_other (by omega)).trans hk3⟩, hKt (hKt (hKt hkp0 hK2) hkp) (hKb _ _ _ _ (by omega) hl3 rfl)⟩
        | ret => exact hp.elim
        | exit id => exact hp.elim
        | goto t => exact hp.elim
        | panic ch => exact hp.elim
        | outgrown => exact hp.elim
      | ret => exact hp.elim
      | exit id => exact hp.elim
      | goto t => exact hp.elim
      | panic ch => exact hp.elim
      | outgrown => exact hp.elim
    · refine ⟨?_, hL1, hD1⟩
      rw [← hW1]; exact hI.alloc _ (hI.alloc _ h0)
    · rintro e W2 ⟨⟨v, rfl⟩, xs, hS, hi, hl, hk⟩
      refine ⟨none, _, run_endLoop (P := P) hl (by simp [rec']), ?_⟩
      exact hdone d xs _ (by omega) (hSb _ _ _ _ _ hS hl rfl) (hI.putObj _ hi (by omega) hl rfl) ((World.putObj_heap_other (by omega)).trans hk)
end
end Go.Proofs.YtkkklfikdoibcaaGreatDoor

namespace Go.Proofs.YtkkklfikdoibcaaGreatDoor
open Go.RowKit Go.Shelf
set_option maxRecDepth 100000

attribute [local go_sem] Oper.semAt_some

theorem blk_nc {A C : World} {g : Nat} {cs : List Value} {T : TypeId} {row : Option Nat} (h : Blk A g cs T) (hg : A.grownBy C row) (hr : ∀ r, row = some r → ∃ o : Obj, A.heap[r]? = some o ∧ o.isCells = false) : Blk C g cs T := by
  have hlt := h.lt
  unfold Blk at *
  rw [hg.block g hlt fun e => ?_]; · exact h
  obtain ⟨o, ho, hc⟩ := hr g e.symm
  rw [h] at ho; cases ho; cases hc
def nl (x : Nat × Nat × Nat) : Bool := !(x.1 == x.2.1)
theorem filter_take {ns : List (Nat × Nat × Nat)} {q : Nat} (h : q < ns.length) : (ns.take (q + 1)).filter nl = (ns.take q).filter nl ++ (if nl ns[q] then [ns[q]] else []) := by
  rw [List.take_succ_eq_append_getElem h, List.filter_append]
  congr 1
  simp only [List.filter_cons, List.filter_nil]
def edgeV (x : Nat × Nat × Nat) : Value := .agg #[.int .i64 (x.1 : Nat), .int .i64 (x.2.1 : Nat), .int .i64 (x.2.2 : Nat)]
set_option maxHeartbeats 4000000 in
theorem links1_seq {w0 w : World} {B : Nat} {n : Int} {v : Value} {ns : List (Nat × Nat × Nat)} (hb0 : Below w0.heap.size w0 w) (hk : Blk w B [.int .i64 n, v] 24) (hv : SlK e3 3 w0 v (ns.map n3)) (nn : Nat) (hn : 1 ≤ nn) :
    SeqG Fence.wide nn Tryz.prog 137 #[.pointer (some ⟨B, 0, none⟩)] (fun x : Nat × Nat × Nat => #[edgeV x]) (fun W W' => Below w0.heap.size W W') (fun _ x _ => x ∈ ns ∧ x.1 ≠ x.2.1) (fun xs _ => xs = ns.filter nl) ns.length w := by
  intro l J W hbW hJ hJc hY h0
  have hkW := hk.below hbW (Nat.le_refl _)
  have HB0 := Lib.hid (hb0.trans (hbW.mono hb0.size))
  have HY := Lib.hid hY; have HJ := Lib.hid hJ
  have hwW := hbW.size
  have hw0 := hb0.size
  obtain ⟨ad, b, o, c, rfl, hi, hp, hc, hcm⟩ := hv.open elemEdge
  have hnl : (ns.map n3).length = ns.length := List.length_map _
  rw [hnl] at hi hc hkW
  have HP := Lib.hid hp; have HNL := Lib.hid hnl
  unfold maxLen at hcm
  have k1 := hkW.cell 1 _ rfl
  have hBl := hkW.lt
  clear hY hJ hJc hk hb0 hbW hp hkW hv hnl
  refine callsIn_of_wp Tryz.func137 rfl trivial ?_ rfl
  simp only [Tryz.ntmps137, List.size_toArray, List.length_cons, List.length_nil, Nat.reduceAdd, Nat.reduceSub, Array.replicate_succ, Array.replicate_zero, List.push_toArray, List.append_toArray, List.nil_append, List.cons_append]
  gi_wp2
  gi_loopw [8] (fun i wr => ∃ q : Nat, q ≤ ns.length ∧ i = .int .i64 q ∧ ∃ bs : List (Nat × Nat × Nat), Hid (bs = (ns.take q).filter nl) ∧ Hid (J bs wr) ∧ Hid (Below w0.heap.size w0 wr)) (fun i _ => ns.length - (intOf i).toNat)
  case atStart => exact ⟨0, Nat.zero_le _, rfl, [], Lib.hid rfl, Lib.hid h0, HB0⟩
  case round =>
    clear k1 hBl HB0
    obtain ⟨q, hq, rfl, bs, hbs, hJs, hB⟩ := hrel
    by_cases hqn : q < ns.length
    · obtain ⟨⟨x, y, m⟩, hx⟩ : ∃ x, ns[q] = x := ⟨_, rfl⟩
      have hqm : q < (ns.map n3).length := by rw [HNL.out]; exact hqn
      have hx3 : (ns.map n3)[q] = n3 (x, y, m) := by rw [List.getElem_map, hx]
      have a0 : wr.cell? ⟨b, o + q * 3, none⟩ = some (.int .i64 (x : Nat)) := HP.out.at hB.out (Nat.le_refl _) q hqm 0 _ (by rw [hx3]; rfl)
      have a1 : wr.cell? ⟨b, o + q * 3 + 1, none⟩ = some (.int .i64 (y : Nat)) := HP.out.at hB.out (Nat.le_refl _) q hqm 1 _ (by rw [hx3]; rfl)
      have a2 : wr.cell? ⟨b, o + q * 3 + 2, none⟩ = some (.int .i64 (m : Nat)) := HP.out.at hB.out (Nat.le_refl _) q hqm 2 _ (by rw [hx3]; rfl)
      have hbl := (HP.out.below hB.out (Nat.le_refl _)).1 (by omega)
      have q1 : (0 : Int) ≤ (q : Int) := by omega
      have q2 : (q : Int) < (ns.length : Int) := by omega
      have HF := Lib.hid (filter_take hqn)
      have HMem := Lib.hid (show (x, y, m) ∈ ns by rw [← hx]; exact List.getElem_mem hqn)
      have hlen : bs.length ≤ q := by rw [hbs.out]; exact Nat.le_trans (List.length_filter_le _ _) (by rw [List.length_take]; omega)
      have HJ1 := Lib.hid (HJ.out bs wr (wr.alloc (.cells #[.int .i64 (x : Nat), .int .i64 (y : Nat), .int .i64 (m : Nat)] 124)) none hJs.out (World.grownBy_alloc _ _ _) (fun _ h => by cases h))
      have HB1 := Lib.hid (hB.out.alloc hB.out.size (.cells #[.int .i64 (x : Nat), .int .i64 (y : Nat), .int .i64 (m : Nat)] 124))
      rw [hx] at HF
      clear hx hx3
      by_cases hxy : x = y
      · subst hxy
        have exx : ((x : Int) == (x : Int)) = true := by simp
        gi_wp2
        refine ⟨fun _ h => absurd h (by simp), ?_⟩
        gi_wp2
        go_roundw
        case rel => exact ⟨q + 1, by omega, by go_num, bs, Lib.hid (by rw [HF.out, hbs.out]; simp [nl]), HJ1, HB1⟩
        case measure => simp [intOf]; omega
      · have exy : ((x : Int) == (y : Int)) = false := by rw [beq_eq_false_iff_ne]; omega
        obtain ⟨fn, tmps, assign, body, hy, hRd⟩ := HY.out bs (x, y, m) _ HJ1.out ⟨HMem.out, hxy⟩ (by omega)
        unfold edgeV at hy
        gi_wp2
        refine hRd.mono ?_
        rintro e W3 ⟨rfl, hJ3, hk3⟩
        have HJ3 := Lib.hid hJ3
        have HB3 := Lib.hid (HB1.out.trans hk3)
        clear hJ3 hk3
        gi_wp2
        go_roundw
        case rel => exact ⟨q + 1, by omega, by go_num, bs ++ [(x, y, m)], Lib.hid (by rw [HF.out, hbs.out]; simp [nl, hxy]), HJ3, HB3⟩
        case measure => simp [intOf]; omega
    · obtain rfl : q = ns.length := by omega
      gi_wp2
      go_end0
      exact ⟨⟨_, rfl⟩, bs, by rw [hbs.out, List.take_length], hJs.out⟩
end Go.Proofs.YtkkklfikdoibcaaGreatDoor

namespace Go.Proofs.YtkkklfikdoibcaaGreatDoor
open Go.RowKit Go.Shelf
set_option maxRecDepth 100000

attribute [local go_sem] Oper.semAt_some

theorem wideFn (f : Nat) : Fence.wide.fn f := trivial
theorem keepsB {W W' : World} (h : Below W.heap.size W W') : KeepsOthers W W' := ⟨h.size, fun k _ hk _ => (h.block k (Array.getElem?_eq_some_iff.1 hk).1).trans hk⟩
theorem own_nc {A B : World} {b e s n : Nat} {v : Value} {ys : List Value} {row : Option Nat} (h : A.ownsRow b e s v n ys) (hg : A.grownBy B row) (hr : ∀ r, row = some r → ∃ o : Obj, A.heap[r]? = some o ∧ o.isCells = false) : B.ownsRow b e s v n ys := by
  refine ⟨h.1, h.2.imp_right fun ⟨g, cap, cur, h1, h2, h3, r⟩ => ⟨g, cap, cur, h1, h2, ?_, r⟩⟩
  rw [hg.block g (Array.getElem?_eq_some_iff.1 h3).1 fun e => ?_]; · exact h3
  obtain ⟨o, ho, hc⟩ := hr g e.symm
  rw [h3] at ho; cases ho; cases hc
theorem own_apart {w : World} {b e s n g j : Nat} {u v : Value} {ys : List Value} (h : w.ownsRow b e s v n ys) (hne : v.ownBlock ≠ some g) : (w.setCell ⟨g, j, none⟩ u).ownsRow b e s v n ys := by
  refine ⟨h.1, h.2.imp_right fun ⟨g', cap, cur, h1, h2, h3, r⟩ => ⟨g', cap, cur, h1, h2, ?_, r⟩⟩
  have : g' ≠ g := fun e2 => hne (by rw [h1, e2]; rfl)
  exact (Below.heap_setCell _ _ _ _ this).trans h3

theorem links_any (w : World) (n : Int) (v : Value) (a : Option Addr) (l c : Nat) (hv : v = .slice a l c) : Calls Tryz.prog 76 #[.agg #[.int .i64 n, v]] w (Rets fun r w' => r = .func (.func 137) #[] #[.pointer (some ⟨w.heap.size, 0, none⟩)] ∧ w' = w.alloc (.cells #[.int .i64 n, v] 24)) := by
  subst hv
  go_enter Tryz.func76, Tryz.ntmps76
  go_wp2
  go_ret
  exact ⟨_, rfl, rfl, rfl⟩

/-- One entry more. -/
theorem fadd_any (w : World) (base B4 Bg D n N : Nat) (v : Value) (A : Mat) (r c : Nat) (d : Int) (hn : n ≤ 12) (hN : n * n = N) (h4 : Blk w B4 [.slice (some ⟨D, 0, none⟩) N N] 39) (hg : Blk w Bg [.int .i64 (n : Nat), v] 24)
    (ho : w.ownsRow base 3 1 (.slice (some ⟨D, 0, none⟩) N N) N ((gridL n A).map eZ)) (hr : r < n) (hc : c < n) (h1 : -1000000 ≤ A r c ∧ A r c ≤ 1000000) (h2 : -1000000 ≤ d ∧ d ≤ 1000000) :
    Calls Tryz.prog 130 #[.int .i64 (r : Nat), .int .i64 (c : Nat), .int .i64 d, .pointer (some ⟨B4, 0, none⟩), .pointer (some ⟨Bg, 0, none⟩)] w (fun e w' => (∃ v, e = .returned v) ∧ ∃ u, w' = w.setCell ⟨D, r * n + c, none⟩ u ∧ (w.setCell ⟨D, r * n + c, none⟩ u).ownsRow base 3 1 (.slice (some ⟨D, 0, none⟩) N N) N ((gridL n (addM A r c d)).map eZ)) := by
  obtain ⟨m, hm⟩ : ∃ m, r * n = m := ⟨_, rfl⟩
  have hp := place_lt hr hc
  have e1 : (r : Int) * (n : Int) = (m : Int) := by rw [← hm]; simp
  have hm12 : m ≤ 132 := by
    rw [← hm]
    exact Nat.le_trans (Nat.mul_le_mul (show r ≤ 11 by omega) hn) (by omega)
  have hgl := gridL_len n A
  have hN144 : N ≤ 144 := by rw [← hN]; exact Nat.le_trans (Nat.mul_le_mul hn hn) (by omega)
  obtain ⟨x, hx⟩ : ∃ x, A r c = x := ⟨_, rfl⟩
  have hpl : m + c < (gridL n A).length := by rw [hgl, ← hm]; exact hp
  have HADD := Lib.hid (show (gridL n A).set (m + c) (x + d) = gridL n (addM A r c d) by rw [← hx]; subst hm; exact gridL_add A d hc hpl)
  have hget : (gridL n A)[m + c] = x := by rw [← hx]; subst hm; exact gridL_get A hc hpl
  rw [hm] at hp ⊢
  rw [hx] at h1
  obtain ⟨hcell, hfree⟩ := own_get ho hpl
  rw [hget] at hcell
  have hcell' : w.cell? ⟨D, m + c, none⟩ = some (.int .i64 x) := hcell
  have k0 := h4.cell 0 _ rfl
  have g0 := hg.cell 0 _ rfl
  have hl4 := h4.lt; have hlg := hg.lt
  have hDl := (ho.lt D rfl).2
  have p0 : (0 : Int) ≤ (m : Int) + (c : Int) := by omega
  have p1 : (m : Int) + (c : Int) < (N : Int) := by omega
  have HO := Lib.hid ho
  have HMC := Lib.hid (show ((m : Int) + (c : Int)).toNat = m + c by omega)
  have HNN := Lib.hid hN
  clear ho hcell hget hx hgl h4 hg hm hN
  go_enter Tryz.func130, Tryz.ntmps130
  go_wp2
  go_end0
  refine ⟨⟨_, rfl⟩, _, rfl, ?_⟩
  rw [← HADD.out, List.map_set]
  exact (HO.out.stored _ _).1
end Go.Proofs.YtkkklfikdoibcaaGreatDoor

namespace Go.Proofs.YtkkklfikdoibcaaGreatDoor
open Go.RowKit Go.Shelf
set_option maxRecDepth 100000

attribute [local go_sem] Oper.semAt_some

def Bd (B : Int) (A : Mat) : Prop := ∀ i k, -B ≤ A i k ∧ A i k ≤ B
theorem Bd.add {B D d : Int} {A : Mat} (h : Bd B A) (hd : -D ≤ d ∧ d ≤ D) (r c : Nat) : Bd (B + D) (addM A r c d) := fun i k => by
  have := h i k
  unfold addM
  split <;> omega
theorem Bd.lap : ∀ {ns : List (Nat × Nat × Nat)}, (∀ x ∈ ns, x.2.2 ≤ 50) → Bd (100 * (ns.length : Int)) (lap ns)
  | [], _ => fun i k => by simp [Go.Proofs.YtkkklfikdoibcaaGreatDoor.lap]
  | x :: l, h => fun i k => by
    have h1 := lap1_le x i k
    have h2 := Bd.lap (ns := l) (fun y hy => h y (by simp [hy])) i k
    have h3 := h x (by simp)
    have e : Go.Proofs.YtkkklfikdoibcaaGreatDoor.lap (x :: l) i k = lap1 x i k + Go.Proofs.YtkkklfikdoibcaaGreatDoor.lap l i k := by simp [Go.Proofs.YtkkklfikdoibcaaGreatDoor.lap]
    rw [e, List.length_cons]
    omega
theorem lap_snoc (ns : List (Nat × Nat × Nat)) {a b m : Nat} (hab : a ≠ b) :
    lap (ns ++ [(a, b, m)]) = addM (addM (addM (addM (lap ns) a a m) b b m) a b (-(m : Int))) b a (-(m : Int)) := by
  funext i k
  simp only [lap, List.map_append, List.sum_append, List.map_cons, List.map_nil, List.sum_cons, List.sum_nil, lap1, hab, if_false, addM]
  omega
theorem lap_filter : ∀ ns : List (Nat × Nat × Nat), lap (ns.filter nl) = lap ns
  | [] => rfl
  | x :: l => by
    have ih := lap_filter l
    funext i k
    have e : ∀ l' : List (Nat × Nat × Nat), lap (x :: l') i k = lap1 x i k + lap l' i k := fun l' => by simp [lap]
    rw [List.filter_cons]
    by_cases h : nl x = true
    · rw [if_pos h, e, e, ih]
    · rw [if_neg h, ih, e]
      have hx : x.1 = x.2.1 := by simpa [nl] using h
      simp [lap1, hx]
/-- What full's loop holds. -/
structure FullG (w0 : World) (d e n N : Nat) (v : Value) (A : Mat) (W : World) : Prop where
  gr : Blk W d [.int .i64 (n : Nat), v] 24
  res : Blk W (d + 1) [.int .i64 0, .int .i64 0, .slice none 0 0] 29
  cel : Blk W e [.slice (some ⟨d + 2, 0, none⟩) N N] 39
  fn : Blk W (e + 1) [.func (.func 130) #[] #[.pointer (some ⟨e, 0, none⟩), .pointer (some ⟨d, 0, none⟩)]] 184
  own : W.ownsRow d 3 1 (.slice (some ⟨d + 2, 0, none⟩) N N) N ((gridL n A).map eZ)
  bel : Below d w0 W
def FullI (w0 : World) (d e n N : Nat) (v : Value) (pre : List (Nat × Nat × Nat)) (W : World) : Prop := FullG w0 d e n N v (lap pre) W ∧ ∀ x ∈ pre, x.2.2 ≤ 50
theorem FullI.own (w0 : World) (d e n N B : Nat) (v : Value) (hD : d ≤ B) (h0 : d ≤ w0.heap.size) : OwnFrom B (FullI w0 d e n N v) := by
  rintro xs A C row ⟨⟨h1, h2, h3, h4, h5, h6⟩, h7⟩ hg hr
  have hr' : ∀ r, row = some r → ∃ o : Obj, A.heap[r]? = some o ∧ o.isCells = false := fun r e => (hr r e).2
  exact ⟨⟨blk_nc h1 hg hr', blk_nc h2 hg hr', blk_nc h3 hg hr', blk_nc h4 hg hr', own_nc h5 hg hr', h6.grown hg (Nat.le_trans h0 h6.size) fun k e => Nat.le_trans hD (hr k e).1⟩, h7⟩
theorem FullG.setS {w0 : World} {d e n N S : Nat} {v : Value} {A : Mat} {W : World} (h : FullG w0 d e n N v A W) (hS : d + 2 < S) (hS2 : e + 1 < S) (j : Nat) (u : Value) : FullG w0 d e n N v A (W.setCell ⟨S, j, none⟩ u) :=
  ⟨h.gr.setCell (by omega) _, h.res.setCell (by omega) _, h.cel.setCell (by omega) _, h.fn.setCell (by omega) _, own_apart h.own (fun e => by simp [Value.ownBlock] at e; omega), h.bel.setCell (by simp; omega) _⟩
theorem FullG.step {w0 : World} {d e n N : Nat} {v : Value} {A A' : Mat} {W : World} (h : FullG w0 d e n N v A W) (he : d + 2 < e) {j : Nat} {u : Value} (ho : (W.setCell ⟨d + 2, j, none⟩ u).ownsRow d 3 1 (.slice (some ⟨d + 2, 0, none⟩) N N) N ((gridL n A').map eZ)) : FullG w0 d e n N v A' (W.setCell ⟨d + 2, j, none⟩ u) :=
  ⟨h.gr.setCell (by omega) _, h.res.setCell (by omega) _, h.cel.setCell (by omega) _, h.fn.setCell (by omega) _, ho, h.bel.setCell (by simp) _⟩

theorem fadd_step {w0 V : World} {d e n N : Nat} {v : Value} {A : Mat} (h : FullG w0 d e n N v A V) (_ : d ≤ w0.heap.size) (he : d + 2 < e) (hn : n ≤ 12) (hN : n * n = N) (r c : Nat) (z : Int) (hr : r < n) (hc : c < n) (h1 : -1000000 ≤ A r c ∧ A r c ≤ 1000000) (h2 : -1000000 ≤ z ∧ z ≤ 1000000) :
    Calls Tryz.prog 130 #[.int .i64 (r : Nat), .int .i64 (c : Nat), .int .i64 z, .pointer (some ⟨e, 0, none⟩), .pointer (some ⟨d, 0, none⟩)] V (fun x w' => (∃ v, x = .returned v) ∧ FullG w0 d e n N v (addM A r c z) w' ∧ KeepsOthers V w' ∧ Below d V w' ∧ ∀ g cs T, g ≠ d + 2 → Blk V g cs T → Blk w' g cs T) := by
  refine (fadd_any V d e d (d + 2) n N v A r c z hn hN h.cel h.gr h.own hr hc h1 h2).mono ?_
  rintro x w' ⟨hx, u, rfl, ho⟩
  exact ⟨hx, h.step he ho, KeepsOthers.setCell _ _ _, (Below.refl _ V).setCell (by simp) _, fun g cs T hg hk => hk.setCell hg _⟩

set_option maxHeartbeats 4000000 in
theorem full_in (w : World) (n : Nat) (v : Value) (ns : List (Nat × Nat × Nat)) (hv : SlK e3 3 w v (ns.map n3)) (hn1 : 1 ≤ n) (hn : n ≤ 12) (hrg : ∀ x ∈ ns, x.1 < n ∧ x.2.1 < n ∧ x.2.2 ≤ 50) (hl : ns.length ≤ 1000) (he : Env w) :
    CallsIn Fence.wide 4 Tryz.prog 68 #[.agg #[.int .i64 (n : Nat), v]] w (RetM w n n (cellsF n n (lap ns)) 0) := by
  obtain ⟨N, hN⟩ : ∃ N, n * n = N := ⟨_, rfl⟩
  have hN144 : N ≤ 144 := by rw [← hN]; exact Nat.le_trans (Nat.mul_le_mul hn hn) (by omega)
  have e0 : (n : Int) * (n : Int) = (N : Int) := by rw [← hN]; simp
  obtain ⟨ad, c, rfl⟩ := hv.form
  have hnl : (ns.map n3).length = ns.length := List.length_map _
  rw [hnl] at hv ⊢
  have HV := Lib.hid hv; have HN := Lib.hid hN; have HRG := Lib.hid hrg; have HE := Lib.hid he
  obtain ⟨d, hd⟩ : ∃ d, w.heap.size = d := ⟨_, rfl⟩
  clear hv hN hrg he hnl
  refine callsIn_of_wp_marks Tryz.func68 rfl trivial ?_ rfl
  simp only [Tryz.ntmps68, List.size_toArray, List.length_cons, List.length_nil, Nat.reduceAdd, Nat.reduceSub, Array.replicate_succ, Array.replicate_zero, List.push_toArray, List.append_toArray, List.nil_append, List.cons_append]
  obtain ⟨W1, hW1⟩ : ∃ W, (w.alloc (.cells #[.int .i64 (n : Nat), .slice ad ns.length c] 24)).alloc (.cells #[.int .i64 0, .int .i64 0, .slice none 0 0] 29) = W := ⟨_, rfl⟩
  have s1 : W1.heap.size = d + 2 := by rw [← hW1, ← hd]; simp
  have KG := Lib.hid (show Blk W1 d [.int .i64 (n : Nat), .slice ad ns.length c] 24 by rw [← hW1, ← hd]; exact (Blk.new w _ _).alloc _)
  have KR := Lib.hid (show Blk W1 (d + 1) [.int .i64 0, .int .i64 0, .slice none 0 0] 29 by rw [← hW1, ← hd]; exact Blk.at1 w _ _ _)
  have B1 := Lib.hid (show Below d w W1 by rw [← hW1, ← hd]; exact ((Below.refl _ w).alloc (Nat.le_refl _) _).alloc (by simp) _)
  have HW1 := Lib.hid hW1
  clear hW1
  gi_wp2_with (first
    | (gi_at_make; refine mkNI elemInt rfl _ _ rfl N rfl rfl rfl rfl (by omega) (by unfold maxLen; omega) rfl ?_; intro w2 hown hg2; rw [HW1.out] at hown hg2; rw [s1] at hown; rw [HW1.out, s1]; have B12 := Lib.hid ((Below.refl W1.heap.size W1).grown hg2 (Nat.le_refl _) (fun _ h => by cases h)); have KG2 := Lib.hid (KG.out.below B12.out (Nat.le_refl _)); have KR2 := Lib.hid (KR.out.below B12.out (Nat.le_refl _)); have HO2 := Lib.hid hown; have B2 := Lib.hid (B1.out.trans (B12.out.mono (by omega))); have s2 : d + 2 < w2.heap.size := (HO2.out.lt (d + 2) rfl).2; have g0 := KG2.out.cell 0 _ rfl; have g1 := KG2.out.cell 1 _ rfl; have hgl := KG2.out.lt; clear hown hg2)
    | ((with_reducible refine ⟨wideFn _, callsIn_wide.2 ((links_any _ _ _ ad ns.length c rfl).mono ?_)⟩); rintro e w3 ⟨vf, rfl, rfl, rfl⟩))
  clear g0 g1 hgl
  obtain ⟨e, he⟩ : ∃ e, w2.heap.size = e := ⟨_, rfl⟩
  obtain ⟨W, hW⟩ : ∃ W, ((w2.alloc (.cells #[.slice (some ⟨d + 2, 0, none⟩) N N] 39)).alloc (.cells #[.func (.func 130) #[] #[.pointer (some ⟨w2.heap.size, 0, none⟩), .pointer (some ⟨d, 0, none⟩)]] 184)).alloc (.cells #[.int .i64 (n : Nat), .slice ad ns.length c] 24) = W := ⟨_, rfl⟩
  have s3 : W.heap.size = e + 3 := by rw [← hW, ← he]; simp
  have bW : Below w2.heap.size w2 W := by rw [← hW]; exact (((Below.refl _ _).alloc (Nat.le_refl _) _).alloc (by simp) _).alloc (by simp; omega) _
  have HI0 := Lib.hid (show FullI w d e n N (.slice ad ns.length c) [] W from ⟨⟨KG2.out.below bW (Nat.le_refl _), KR2.out.below bW (Nat.le_refl _), by
      rw [← hW, ← he]; exact ((Blk.new w2 _ _).alloc _).alloc _, by
      rw [← hW, ← he]; exact (Blk.at1 w2 _ _ _).alloc _, by
      rw [lap_nil, gridL_zero]
      rw [HN.out, List.map_replicate]
      exact own_low (own_below HO2.out bW (Nat.le_refl _)) (by omega), B2.out.trans (bW.mono (by omega))⟩, fun x hx => by cases hx⟩)
  have hseq := Lib.hid (links1_seq (w0 := w) (w := W) (B := e + 2) (by rw [hd]; exact HI0.out.1.bel) (show Blk W (e + 2) [.int .i64 (n : Nat), .slice ad ns.length c] 24 by rw [← hW, ← he]; exact Blk.at2 w2 _ _ _ _) HV.out (4 - 1) (by omega))
  have HS3 := Lib.hid s3
  rw [hW, he]
  rw [he] at s2
  clear hW bW s3 HO2 KG2 KR2 KG KR HW1 B12 he
  refine wpIn_rangeA rfl (by omega) (gf := 137) (lb := #[.pointer (some ⟨e + 2, 0, none⟩)]) rfl trivial (enters_of Tryz.func137 (by kernel_rfl) rfl) hseq.out (fun h h' => h.trans h') (fun W' l o o' hl ho hc => (Below.refl _ W').grown (grownBy_putObj' W' l o') (by have := (Array.getElem?_eq_some_iff.1 ho).1; have := HS3.out; omega) (fun k e2 => by cases e2; have := HS3.out; omega)) (fun _ _ _ _ _ h _ _ => h) (Below.refl _ _) (fun _ => rfl) (FullI w d e n N (.slice ad ns.length c))
    (FullI.own _ _ _ _ _ _ _ (by have := HS3.out; omega) (by omega)) (fun pre W1 u j h => ⟨h.1.setS (by have := HS3.out; omega) (by have := HS3.out; omega) j u, h.2⟩) ?h0 ?round ?done
  case h0 => exact HI0.out
  case round =>
    rintro l pre ⟨x, y, m⟩ W1 hI ⟨hmem, hxy⟩ hlen hll
    simp only at hxy
    have HI := Lib.hid hI; have HLL := Lib.hid hll
    obtain ⟨hx, hy, hm50⟩ := HRG.out _ hmem
    simp only at hx hy hm50
    clear hI hll
    unfold edgeV
    gi_wp2
    refine ⟨KeepsOthers.alloc _ _, (Below.refl _ _).alloc (by have := HI.out.1.bel.size; omega) _, fun ob o' hlo hoc => ?_⟩
    have IW := FullI.own w d e n N W.heap.size (.slice ad ns.length c) (by have := HS3.out; omega) (by omega)
    have hI2 := IW.putObj o' (IW.alloc (.cells #[.int .i64 (x : Nat), .int .i64 (y : Nat), .int .i64 (m : Nat)] 124) HI.out) HLL.out hlo hoc
    have hkX := blk_nc (Blk.new W1 [.int .i64 (x : Nat), .int .i64 (y : Nat), .int .i64 (m : Nat)] 124) (grownBy_putObj' _ l o') (fun r e2 => by cases e2; exact ⟨_, hlo, hoc⟩)
    have hbd : d + 2 < W1.heap.size := (HI.out.1.own.lt (d + 2) rfl).2
    obtain ⟨bX, hbX⟩ : ∃ b, W1.heap.size = b := ⟨_, rfl⟩
    obtain ⟨V, hV⟩ : ∃ V, (W1.alloc (.cells #[.int .i64 (x : Nat), .int .i64 (y : Nat), .int .i64 (m : Nat)] 124)).putObj l o' = V := ⟨_, rfl⟩
    rw [hbX] at hkX hbd ⊢
    rw [hV] at hI2 hkX ⊢
    have HI2 := Lib.hid hI2.1; have HM2 := Lib.hid hI2.2; have KX := Lib.hid hkX
    have hB0 := Bd.lap hI2.2
    have hB1 := hB0.add (d := (m : Int)) (D := 50) (by omega) x x
    have hB2 := hB1.add (d := (m : Int)) (D := 50) (by omega) y y
    have hB3 := hB2.add (d := -(m : Int)) (D := 50) (by omega) x y
    have C0 := Lib.hid (hB0 x x); have C1 := Lib.hid (hB1 y y); have C2 := Lib.hid (hB2 x y); have C3 := Lib.hid (hB3 y x)
    have hd0 : d ≤ w.heap.size := by omega
    have hpl : pre.length ≤ 1000 := by omega
    have f0 := HI2.out.fn.cell 0 _ rfl; have fl := HI2.out.fn.lt
    have x0 := KX.out.cell 0 _ rfl; have x1 := KX.out.cell 1 _ rfl; have x2 := KX.out.cell 2 _ rfl; have xl := KX.out.lt
    clear hlo hoc IW hI2 hkX hbX hV hB0 hB1 hB2 hB3
    gi_wp2_with (first
      | ((with_reducible refine ⟨wideFn _, CallsIn.inRound _ (callsIn_wide.2 ((fadd_step HI5.out hd0 s2 hn HN.out y x (-(m : Int)) hy hx (by have := C3.out; omega) (by omega)).mono ?_))⟩); rintro ee w6 ⟨⟨v4, rfl⟩, hG, hko, hbl, hst⟩; have HI6 := Lib.hid hG; have HK6 := Lib.hid (HK5.out.trans hko); have HB6 := Lib.hid (HB5.out.trans hbl); clear hG hko hbl hst)
      | ((with_reducible refine ⟨wideFn _, CallsIn.inRound _ (callsIn_wide.2 ((fadd_step HI4.out hd0 s2 hn HN.out x y (-(m : Int)) hx hy (by have := C2.out; omega) (by omega)).mono ?_))⟩); rintro ee w5 ⟨⟨v3, rfl⟩, hG, hko, hbl, hst⟩; have HI5 := Lib.hid hG; have HK5 := Lib.hid (HK4.out.trans hko); have HB5 := Lib.hid (HB4.out.trans hbl); have KX5 := Lib.hid (hst _ _ _ (by omega) KX4.out); clear hG hko hbl hst; have f5 := HI5.out.fn.cell 0 _ rfl; have fl5 := HI5.out.fn.lt; have x05 := KX5.out.cell 0 _ rfl; have x15 := KX5.out.cell 1 _ rfl; have x25 := KX5.out.cell 2 _ rfl; have xl5 := KX5.out.lt)
      | ((with_reducible refine ⟨wideFn _, CallsIn.inRound _ (callsIn_wide.2 ((fadd_step HI3.out hd0 s2 hn HN.out y y (m : Int) hy hy (by have := C1.out; omega) (by omega)).mono ?_))⟩); rintro ee w4 ⟨⟨v2, rfl⟩, hG, hko, hbl, hst⟩; have HI4 := Lib.hid hG; have HK4 := Lib.hid (HK3.out.trans hko); have HB4 := Lib.hid (HB3.out.trans hbl); have KX4 := Lib.hid (hst _ _ _ (by omega) KX3.out); clear hG hko hbl hst; have f4 := HI4.out.fn.cell 0 _ rfl; have fl4 := HI4.out.fn.lt; have x04 := KX4.out.cell 0 _ rfl; have x14 := KX4.out.cell 1 _ rfl; have x24 := KX4.out.cell 2 _ rfl; have xl4 := KX4.out.lt)
      | ((with_reducible refine ⟨wideFn _, CallsIn.inRound _ (callsIn_wide.2 ((fadd_step HI2.out hd0 s2 hn HN.out x x (m : Int) hx hx (by have := C0.out; omega) (by omega)).mono ?_))⟩); rintro ee w3 ⟨⟨v1, rfl⟩, hG, hko, hbl, hst⟩; have HI3 := Lib.hid hG; have HK3 := Lib.hid hko; have HB3 := Lib.hid hbl; have KX3 := Lib.hid (hst _ _ _ (by omega) KX.out); clear hG hko hbl hst; have f3 := HI3.out.fn.cell 0 _ rfl; have fl3 := HI3.out.fn.lt; have x03 := KX3.out.cell 0 _ rfl; have x13 := KX3.out.cell 1 _ rfl; have x23 := KX3.out.cell 2 _ rfl; have xl3 := KX3.out.lt))
    exact ⟨HK6.out, (by show Below w.heap.size V w6; rw [hd]; exact HB6.out), by rw [lap_snoc pre hxy]; exact HI6.out, fun z hz => by
      rcases List.mem_append.1 hz with hz | hz
      · exact HM2.out z hz
      · simp at hz; subst hz; exact hm50⟩
  case done =>
    rintro D' ys W' hD' rfl hI hK
    have hG : FullG w d e n N (.slice ad ns.length c) (lap ns) W' := by have := hI.1; rwa [lap_filter] at this
    have HG := Lib.hid hG; have HKD := Lib.hid hK
    have hMK : makeS n n (gridL n (lap ns)) = ⟨n, n, cellsF n n (lap ns), 0⟩ := by
      unfold makeS
      rw [if_pos ((sideB_iff _).2 ⟨by omega, by omega⟩), if_pos ((sideB_iff _).2 ⟨by omega, by omega⟩), if_pos (by rw [gridL_len]; simp)]
      congr 1
      simp [gridL, cellsF, Function.comp_def]
    have hbd := Bd.lap (ns := ns) (fun z hz => (HRG.out z hz).2.2)
    have HMC := Lib.hid (show Calls Tryz.prog 131 #[.int .i64 (n : Nat), .int .i64 (n : Nat), .slice (some ⟨d + 2, 0, none⟩) N N] W' (RetM W' n n (cellsF n n (lap ns)) 0) from by
      have h := Make_any W' n n (.slice (some ⟨d + 2, 0, none⟩) N N) (gridL n (lap ns)) (by
        have h2 := Sl.ofOwns hG.own
        exact h2) (fun z hz => by
        simp only [gridL, List.mem_map] at hz
        obtain ⟨t, -, rfl⟩ := hz
        have := hbd (t / n) (t % n)
        omega) (HE.out.below hG.bel (by omega))
      unfold RetMR at h
      rw [hMK] at h
      exact h)
    have g0 := hG.gr.cell 0 _ rfl; have hgl := hG.gr.lt; have c0 := hG.cel.cell 0 _ rfl; have hcl := hG.cel.lt
    clear hI hK hG hMK hbd
    gi_wp2_with ((with_reducible refine ⟨wideFn _, callsIn_wide.2 (HMC.out.mono ?_)⟩); rintro ee w8 ⟨v8, rfl, u8, rfl, hS8, hb8⟩; have HS8 := Lib.hid hS8; have HB8 := Lib.hid hb8; have HR8 := Lib.hid (HG.out.res.below hb8 (Nat.le_refl _)); have r0 := HR8.out.free 0; have r1 := HR8.out.free 1; have r2 := HR8.out.free 2; have y0 := HR8.out.cell 0 _ rfl; have y1 := HR8.out.cell 1 _ rfl; have y2 := HR8.out.cell 2 _ rfl; have hrl := HR8.out.lt; obtain ⟨a8, c8, rfl⟩ := sl_form HS8.out; clear hS8 hb8)
    obtain ⟨hR, hS, hW⟩ := res_done (R := n) (C := n) (w := w) (by rw [hd]; exact HG.out.bel.trans (HB8.out.mono (by have := HG.out.bel.size; omega))) (by omega) HR8.out HS8.out
    have hK8 := (HB8.out.block D' (Array.getElem?_eq_some_iff.1 HKD.out).1).trans HKD.out
    have hK3 := (((KeepsOthers.setCell w8 ⟨d + 1, 0, none⟩ (.int .i64 (n : Nat))).trans (KeepsOthers.setCell _ ⟨d + 1, 1, none⟩ (.int .i64 (n : Nat)))).trans (KeepsOthers.setCell _ ⟨d + 1, 2, none⟩ (.slice a8 (cellsF n n (lap ns)).length c8))).same D' _ hK8 rfl
    clear r0 r1 r2 y0 y1 y2 hrl
    generalize ((w8.setCell ⟨d + 1, 0, none⟩ (.int .i64 (n : Nat))).setCell ⟨d + 1, 1, none⟩ (.int .i64 (n : Nat))).setCell ⟨d + 1, 2, none⟩ (.slice a8 (cellsF n n (lap ns)).length c8) = w3 at *
    have q0 := cell_kept (hR.cell 0 _ rfl) (grownBy_putObj' w3 D' (.deferred none)) (fun r e => by cases e; exact ⟨_, hK3, rfl⟩)
    have q1 := cell_kept (hR.cell 1 _ rfl) (grownBy_putObj' w3 D' (.deferred none)) (fun r e => by cases e; exact ⟨_, hK3, rfl⟩)
    have q2 := cell_kept (hR.cell 2 _ rfl) (grownBy_putObj' w3 D' (.deferred none)) (fun r e => by cases e; exact ⟨_, hK3, rfl⟩)
    refine ⟨by simp, .inl ⟨_, _, rfl, run_takeDeferred hK3, ?_⟩⟩
    exact ⟨.tuple #[.agg #[.int .i64 (n : Nat), .int .i64 (n : Nat), .slice a8 (cellsF n n (lap ns)).length c8], .int .i64 0], by simp [results, Tryz.results68, go_sem, q0, q1, q2], _, rfl, _, rfl, hS.put _ hK3 rfl,
      hW.trans (belowK_b (w := w) (Nat.le_refl _) w3 D' _ _ (by have := HS3.out; omega) hK3 rfl rfl)⟩
theorem full_ok (w : World) (n : Nat) (v : Value) (ns : List (Nat × Nat × Nat)) (hv : SlK e3 3 w v (ns.map n3)) (hn1 : 1 ≤ n) (hn : n ≤ 12) (hrg : ∀ x ∈ ns, x.1 < n ∧ x.2.1 < n ∧ x.2.2 ≤ 50) (hl : ns.length ≤ 1000) (he : Env w) :
    Calls Tryz.prog 68 #[.agg #[.int .i64 (n : Nat), v]] w (RetM w n n (cellsF n n (lap ns)) 0) :=
  callsIn_wide.1 (full_in w n v ns hv hn1 hn hrg hl he)
end Go.Proofs.YtkkklfikdoibcaaGreatDoor

namespace Go.Proofs.YtkkklfikdoibcaaGreatDoor
open Go.RowKit Go.Shelf
set_option maxRecDepth 100000

def nsOf (es : List (Int × Int × Int)) : List (Nat × Nat × Nat) := es.map fun x => (x.1.toNat, x.2.1.toNat, x.2.2.toNat)
theorem nsOf_n3 (ns : List (Nat × Nat × Nat)) : nsOf (ns.map n3) = ns := by
  unfold nsOf
  rw [List.map_map]
  conv => rhs; rw [← List.map_id ns]
  congr 1
theorem RG.nsOf {n : Int} {es : List (Int × Int × Int)} {ns : List (Nat × Nat × Nat)} (h : RG n es ns) : Go.Proofs.YtkkklfikdoibcaaGreatDoor.nsOf es = ns := by rw [h.eq, nsOf_n3]
/-- What Full answers. -/
def fullS (n : Int) (es : List (Int × Int × Int)) : MR := if chkG n es = 0 then ⟨n, n, cellsF n.toNat n.toNat (lap (nsOf es)), 0⟩ else .bad (chkG n es)
set_option maxHeartbeats 2000000 in
theorem Full_any (w : World) (n : Int) (v : Value) (es : List (Int × Int × Int)) (hv : SlK e3 3 w v es) (hl : es.length ≤ 1000) (he : Env w) :
    Calls Tryz.prog 16 #[.agg #[.int .i64 n, v]] w (RetMR w (fullS n es)) := by
  have HV := Lib.hid hv; have HE := Lib.hid he
  obtain ⟨ad, c, rfl⟩ := hv.form
  have HB := Lib.hid (((Below.refl w.heap.size w).alloc (Nat.le_refl _) (.cells #[.int .i64 n, .slice ad es.length c] 24)).alloc (by simp) (.cells #[.int .i64 0, .int .i64 0, .slice none 0 0] 29))
  have HK := Lib.hid ((Blk.new w [.int .i64 n, .slice ad es.length c] 24).alloc (.cells #[.int .i64 0, .int .i64 0, .slice none 0 0] 29))
  have HR := Lib.hid (Blk.at1 w (.cells #[.int .i64 n, .slice ad es.length c] 24) [.int .i64 0, .int .i64 0, .slice none 0 0] 29)
  have HV1 := Lib.hid (HV.out.below HB.out (Nat.le_refl _))
  have HE1 := Lib.hid (HE.out.below HB.out (Nat.le_refl _))
  have q0 := HB.out
  clear hv he
  by_cases h : chkG n es = 0
  · obtain ⟨ns, hRG⟩ := rg_of h
    obtain ⟨N, rfl⟩ : ∃ N : Nat, n = (N : Int) := ⟨n.toNat, by have := hRG.pos; omega⟩
    have hN1 := hRG.pos; have hN12 := hRG.le
    have hes := hRG.eq
    subst hes
    have hnl : (ns.map n3).length = ns.length := List.length_map _
    have HRG := Lib.hid hRG
    have H := Lib.hid h
    show Calls _ _ _ _ (RetM w (fullS N (ns.map n3)).R (fullS N (ns.map n3)).C (fullS N (ns.map n3)).xs (fullS N (ns.map n3)).k)
    rw [show fullS N (ns.map n3) = ⟨N, N, cellsF N N (lap ns), 0⟩ by unfold fullS; rw [if_pos h, nsOf_n3]; rfl]
    rw [hnl] at HV1 HB HK HR q0 ⊢
    have HFC := Lib.hid (fun (w1 : World) (hb : Below w.heap.size w w1) => full_ok w1 N (.slice ad ns.length c) ns (by have := HV.out.below hb (Nat.le_refl _); rwa [hnl] at this) (by omega) (by omega) (fun x hx => by have := HRG.out.rng x hx; omega) (by omega) (HE.out.below hb (Nat.le_refl _)))
    clear h hRG
    go_enter Tryz.func16, Tryz.ntmps16
    go_wp2_with (first
      | (go_at_call 68; (with_reducible refine (HFC.out w1 q1).mono ?_); rintro e w2 ⟨v2, rfl, u2, rfl, hs2, hb2⟩; have HS := Lib.hid hs2; have HR2 := Lib.hid (HR1.out.below hb2 (Nat.le_refl _)); have q2 := q1.trans (hb2.mono q1.size); obtain ⟨a2, k2, rfl⟩ := sl_form HS.out; have r0 := HR2.out.free 0; have r1 := HR2.out.free 1; have r2 := HR2.out.free 2; have y0 := HR2.out.cell 0 _ rfl; have y1 := HR2.out.cell 1 _ rfl; have y2 := HR2.out.cell 2 _ rfl; have hrl := HR2.out.lt; clear hs2 hb2)
      | (go_at_call 67; (with_reducible refine (GCheck_any _ N _ _ HV1.out).mono ?_); rintro e w1 ⟨v1, rfl, rfl, hb1⟩; rw [H.out]; have HK1 := Lib.hid (HK.out.below hb1 (Nat.le_refl _)); have HR1 := Lib.hid (HR.out.below hb1 (Nat.le_refl _)); have q1 := q0.trans (hb1.mono q0.size); have g0 := HK1.out.cell 0 _ rfl; have g1 := HK1.out.cell 1 _ rfl; have gl := HK1.out.lt; clear hb1))
    obtain ⟨hR, hS, hW⟩ := res_done (R := N) (C := N) q2 (by omega) HR2.out HS.out
    have z0 := hR.cell 0 _ rfl; have z1 := hR.cell 1 _ rfl; have z2 := hR.cell 2 _ rfl
    exact bodyPost_ret (v := .tuple #[.agg #[.int .i64 N, .int .i64 N, .slice a2 (cellsF N N (lap ns)).length k2], .int .i64 0]) (by simp [results, Tryz.results16, go_sem, z0, z1, z2]) rfl ⟨_, rfl, _, rfl, hS, hW⟩
  · have hne : (chkG n es == 0) = false := by rw [beq_eq_false_iff_ne]; exact h
    show Calls _ _ _ _ (RetM w (fullS n es).R (fullS n es).C (fullS n es).xs (fullS n es).k)
    rw [show fullS n es = .bad (chkG n es) by unfold fullS; rw [if_neg h]]
    obtain ⟨z, hz⟩ : ∃ z, chkG n es = z := ⟨_, rfl⟩
    rw [hz] at hne ⊢
    have HZ := Lib.hid hz
    clear h hz
    go_enter Tryz.func16, Tryz.ntmps16
    go_wp2_with (go_at_call 67; (with_reducible refine (GCheck_any _ n _ _ HV1.out).mono ?_); rintro e w1 ⟨v1, rfl, rfl, hb1⟩; rw [HZ.out]; have HR1 := Lib.hid (HR.out.below hb1 (Nat.le_refl _)); have q1 := q0.trans (hb1.mono q0.size); have r0 := HR1.out.free 0; have r1 := HR1.out.free 1; have r2 := HR1.out.free 2; have y0 := HR1.out.cell 0 _ rfl; have y1 := HR1.out.cell 1 _ rfl; have y2 := HR1.out.cell 2 _ rfl; have hrl := HR1.out.lt; clear hb1)
    obtain ⟨hR, hS, hW⟩ := res_done (R := 0) (C := 0) q1 (by omega) HR1.out (Sl.nil' eS _)
    have z0 := hR.cell 0 _ rfl; have z1 := hR.cell 1 _ rfl; have z2 := hR.cell 2 _ rfl
    exact bodyPost_ret (v := .tuple #[.agg #[.int .i64 0, .int .i64 0, .slice none 0 0], .int .i64 z]) (by simp [results, Tryz.results16, go_sem, z0, z1, z2]) rfl ⟨_, rfl, _, rfl, hS, hW⟩
end Go.Proofs.YtkkklfikdoibcaaGreatDoor

namespace Go.Proofs.YtkkklfikdoibcaaGreatDoor
open Go.RowKit
set_option maxRecDepth 100000

/-- How column ends. -/
def ColP (w0 : World) (g : Nat) (rv : Value) (m n : Nat) (s : Est) (e : Ending) (w' : World) : Prop := e = .returned (.tuple #[]) ∧ ∃ bs', Grid w0 w' g rv bs' m n s
set_option maxHeartbeats 8000000 in
theorem column_any {w0 w : World} {g : Nat} {rv : Value} {bs : List (Nat × Nat)} {m n : Nat} {s : Est} (k : Nat) (hG : Grid w0 w g rv bs m n s) (hk : k < n) (hr : s.rank ≤ m) (hm : m ≤ 16) (hn : n ≤ 16)
    (hM : ∀ i j, s.rank ≤ i → i < m → j < n → sml (s.M i j)) (hl : sml s.last) (h0 : s.last ≠ 0) (he : Env w0) :
    Calls Tryz.prog 158 #[.pointer (some ⟨g, 0, none⟩), .int .i64 k] w (ColP w0 g rv m n (s.col m k)) := by
  obtain ⟨ra, cap, rfl, hcap⟩ : ∃ ra cap, rv = .slice ra m cap ∧ m ≤ cap := by
    rcases hG.rows.2 with ⟨rfl, h⟩ | ⟨rb, cap, cur, e, -, -, h1, -⟩
    · exact ⟨none, 0, by rw [h], by omega⟩
    · exact ⟨_, _, e, h1⟩
  have HG := Lib.hid hG; have HM := Lib.hid hM; have HL := Lib.hid hl; have H0 := Lib.hid h0; have HE := Lib.hid he
  have k0 := hG.box.cell 0 _ rfl; have k3 := hG.box.cell 3 _ rfl
  obtain ⟨S, hS⟩ : ∃ S, s.col m k = S := ⟨_, rfl⟩
  have HS := Lib.hid hS
  rw [hS]
  obtain ⟨r, hrr⟩ : ∃ r, s.rank = r := ⟨_, rfl⟩
  rw [hrr] at k3 hr
  have HR := Lib.hid hrr
  clear hG hM hl h0 he hS hrr
  go_enter Tryz.func158, Tryz.ntmps158
  go_wp2
  go_loop [4] (fun t => ∃ j : Nat, r ≤ j ∧ j ≤ m ∧ t = .int .i64 j ∧ Hid (∀ i, s.rank ≤ i → i < j → s.M i k = 0)) (fun t => m - (intOf t).toNat)
  case atStart => exact ⟨r, Nat.le_refl _, hr, rfl, Lib.hid (fun i a b => by have := HR.out; omega)⟩
  case round =>
    obtain ⟨j, hrj, hjm, rfl, hz⟩ := hrel
    by_cases hlt : j < m
    · obtain ⟨rb, cap', e, -, hc2⟩ := HG.out.rb (by omega)
      cases e
      obtain ⟨bj, cj, hbj, c1, f1, c2⟩ := HG.out.cellsE j hlt
      obtain ⟨c2, -⟩ := c2 k hk
      have HBJ := Lib.hid hbj
      clear hbj
      by_cases h0 : s.M j k = 0
      · have hz0 := txt_z h0
        have HZ := Lib.hid (show ∀ i, s.rank ≤ i → i < j + 1 → s.M i k = 0 from fun i h1 h2 => by
          by_cases e : i = j
          · rw [e]; exact h0
          · exact hz.out i h1 (by omega))
        clear h0
        go_wp2
        go_round
        case rel => exact ⟨j + 1, by omega, by omega, by go_num, HZ⟩
        case measure => simp [intOf]; omega
      · have hz0 := txt_ne0 h0
        have hne : ((j : Int) == (m : Int)) = false := by simp; omega
        have HC := Lib.hid (show S = ⟨below s.rank k s.last (swr s.M j s.rank), swr s.M j s.rank s.rank k, if j = s.rank then s.neg else !s.neg, s.rank + 1⟩ by rw [← HS.out]; exact col_go (ftop_eq (j - s.rank) s.rank j (by have := HR.out; omega) hjm hz.out fun _ => h0) hlt)
        have HP0 := Lib.hid (show swr s.M j s.rank s.rank k ≠ 0 by
          unfold swr
          by_cases e : s.rank = j
          · rw [if_pos e, e]; exact h0
          · rw [if_neg e, if_pos rfl]; exact h0)
        clear h0
        go_upto_if 48 with (fail)
        go_cut [] (fun wx => ∃ bs', Hid (Grid w0 wx g (.slice (some ⟨rb, 0, none⟩) m cap) bs' m n ⟨swr s.M j s.rank, s.last, if j = s.rank then s.neg else !s.neg, s.rank⟩))
        case first =>
          by_cases hjr : j = r
          · have hne2 : ((j : Int) != (r : Int)) = false := by simp [hjr]
            have HF := Lib.hid (show Grid w0 w g (.slice (some ⟨rb, 0, none⟩) m cap) bs m n ⟨swr s.M j s.rank, s.last, if j = s.rank then s.neg else !s.neg, s.rank⟩ by
              rw [if_pos (hjr.trans HR.out.symm), hjr, ← HR.out, swr_self]; exact HG.out)
            clear hjr
            go_wp2
            go_meet
            exact ⟨bs, HF⟩
          · have hne2 : ((j : Int) != (r : Int)) = true := by simp; omega
            obtain ⟨br, cr, hbr, d1, e1, -⟩ := HG.out.cellsE r (by omega)
            have HBR := Lib.hid hbr
            have q0 : (0 : Int) ≤ (j : Int) := by omega
            have q1 : (0 : Int) ≤ (r : Int) := by omega
            have q2 : r < m := by omega
            have q3 : j ≠ r := hjr
            have k2 := HG.out.box.cell 2 _ rfl
            have l2 := HG.out.box.free 2
            have hgrb := HG.out.ne_rb
            have hbg : -1 ≤ sgB s.neg ∧ sgB s.neg ≤ 1 := by cases s.neg <;> simp [sgB]
            obtain ⟨z, hz⟩ : ∃ z, sgB s.neg = z := ⟨_, rfl⟩
            rw [hz] at k2 hbg
            have HF := Lib.hid (show ∀ w', w' = w.drew → ∃ bs', Grid w0 (((w'.setCell ⟨rb, j, none⟩ (.slice (some ⟨br, 0, none⟩) n cr)).setCell ⟨rb, r, none⟩ (.slice (some ⟨bj, 0, none⟩) n cj)).setCell ⟨g, 2, none⟩ (.int .i64 (-z))) g (.slice (some ⟨rb, 0, none⟩) m cap) bs' m n ⟨swr s.M j s.rank, s.last, if j = s.rank then s.neg else !s.neg, s.rank⟩ from fun w' e => by
              subst e
              have hr2 := HR.out
              have e2 : swr s.M j s.rank = swr s.M j r := by rw [hr2]
              rw [if_neg (by omega), ← hz, e2]
              have h2 := (HG.out.drew.swapE HBJ.out HBR.out q3).flip
              exact ⟨_, h2⟩)
            have hb1 := hbg.1; have hb2 := hbg.2
            clear c2 hz0 hjr hne hbr hz hbg
            go_wp2_with fail
            go_region
            all_goals
              go_wp2_with fail
              go_meet
              obtain ⟨bs', h⟩ := HF.out _ rfl
              exact ⟨bs', Lib.hid h⟩
        case rest =>
          obtain ⟨bs', hG'⟩ := hcut
          obtain ⟨M1, hM1⟩ : ∃ M1, swr s.M j s.rank = M1 := ⟨_, rfl⟩
          obtain ⟨ng, hng⟩ : ∃ ng, (if j = s.rank then s.neg else !s.neg) = ng := ⟨_, rfl⟩
          have HM1 := Lib.hid (show ∀ i y, r ≤ i → i < m → y < n → sml (M1 i y) by
            rw [← hM1, ← HR.out]; exact swr_sml (by have := HR.out; omega) hlt HM.out)
          rw [hM1, hng, HR.out] at hG'
          rw [hM1, hng, HR.out] at HC
          rw [hM1, HR.out] at HP0
          obtain ⟨d, hd⟩ : ∃ d, s.last = d := ⟨_, rfl⟩
          rw [hd] at hG' HC HL H0
          clear hM1 hng hd HM HG k0 k3 c1 c2 hz0 hz hne f1 HBJ
          have hrm : r < m := by omega
          obtain ⟨br, cr, hbr, d1, -, d2⟩ := hG'.out.cellsE r hrm
          have k0 := hG'.out.box.cell 0 _ rfl; have k3 := hG'.out.box.cell 3 _ rfl
          have HBR := Lib.hid hbr
          obtain ⟨dp, -⟩ := d2 k hk
          have HD2 := Lib.hid d2
          have q1 : (0 : Int) ≤ (r : Int) := by omega
          have q2 : (r : Int) < (m : Int) := by omega
          have q4 : (r : Int) + 1 ≤ (m : Int) := by omega
          have q5 : (m : Int) ≤ (cap : Int) := by omega
          clear hbr d2
          go_wp2_with fail
          go_quiet (fail)
          have HG1 := Lib.hid (hG'.out.drewN nq)
          clear hG' k0 k3 d1 dp HD2
          generalize wc.drewN nq = W1 at *
          obtain ⟨br', cr', hbr', d1, -, d2⟩ := HG1.out.cellsE r hrm
          have k0 := HG1.out.box.cell 0 _ rfl; have k3 := HG1.out.box.cell 3 _ rfl
          go_wp2_with fail
          go_quiet (fail)
          have HG2 := Lib.hid (HG1.out.drewN nq)
          clear HG1 k0 k3 d1 d2
          generalize W1.drewN nq = W2 at *
          obtain ⟨sv, hsv⟩ : ∃ sv, (if cap = r + 1 then some (⟨rb, 0, none⟩ : Addr) else some ⟨rb, r + 1, none⟩) = sv := ⟨_, rfl⟩
          rw [hsv]
          have HSV := Lib.hid (show r + 1 < m → sv = some ⟨rb, r + 1, none⟩ from fun h => by rw [← hsv, if_neg (by omega)])
          clear hsv
          have hMp : ∃ z, M1 r k = z := ⟨_, rfl⟩
          obtain ⟨z, hz⟩ := hMp
          have HMP := Lib.hid hz
          have HT := Lib.hid (show ∀ i y, r < i → below r k d M1 i y = Int.fdiv (M1 i y * z - M1 i k * M1 r y) d from fun i y h => by unfold below; rw [if_pos h, hz])
          have HG3 := Lib.hid (HG2.out.congr (M := part (below r k d M1) M1 (r + 1) 0) fun i y _ _ => (part_start r k d M1 i y).symm)
          have HZS := Lib.hid (show sml z by rw [← hz]; exact HM1.out r k (Nat.le_refl _) hrm hk)
          clear HG2 hz
          go_wp2_with fail
          go_loopw [110] (fun i wr => ∃ q : Nat, q ≤ m - (r + 1) ∧ i = .int .i64 q ∧ Hid (Grid w0 wr g (.slice (some ⟨rb, 0, none⟩) m cap) bs' m n ⟨part (below r k d M1) M1 (r + 1 + q) 0, d, ng, r⟩)) (fun i _ => (m - (r + 1)) - (intOf i).toNat)
          case atStart => exact ⟨0, Nat.zero_le _, rfl, HG3⟩
          case round =>
            clear HG3
            obtain ⟨q, hq, rfl, hI⟩ := hrel
            by_cases hqm : q < m - (r + 1)
            · have hsv := HSV.out (by omega)
              subst hsv
              have hir : r + 1 + q < m := by omega
              obtain ⟨bi, ci, hbi, c1, -, e2⟩ := hI.out.cellsE (r + 1 + q) hir
              obtain ⟨c2, -⟩ := e2 k hk
              have e3 : part (below r k d M1) M1 (r + 1 + q) 0 (r + 1 + q) k = M1 (r + 1 + q) k := part_old (Nat.le_refl _) (fun _ => Nat.zero_le _)
              rw [show (⟨part (below r k d M1) M1 (r + 1 + q) 0, d, ng, r⟩ : Est).M = part (below r k d M1) M1 (r + 1 + q) 0 from rfl, e3] at c2
              have HBI := Lib.hid hbi
              obtain ⟨i, hi⟩ : ∃ i, r + 1 + q = i := ⟨_, rfl⟩
              rw [hi] at hI HBI hir c1 c2
              have HII := Lib.hid hi
              have hri : r < i := by omega
              clear e2 e3 hbi
              obtain ⟨W3, rfl⟩ : ∃ W, W = wr := ⟨_, rfl⟩
              go_wp2
              clear hi
              go_loopw [120] (fun jv wr => ∃ y : Nat, y ≤ n ∧ jv = .int .i64 y ∧ Hid (Grid w0 wr g (.slice (some ⟨rb, 0, none⟩) m cap) bs' m n ⟨part (below r k d M1) M1 i y, d, ng, r⟩)) (fun jv _ => n - (intOf jv).toNat)
              case atStart => exact ⟨0, Nat.zero_le _, rfl, hI⟩
              case round =>
                clear hI c1 c2
                obtain ⟨y, hy, rfl, hJ⟩ := hrel
                by_cases hyn : y < n
                · obtain ⟨b5, c5, hb5, -, -, g2⟩ := hJ.out.cellsE i hir
                  obtain ⟨rfl, rfl⟩ : bi = b5 ∧ ci = c5 := by have := HBI.out.symm.trans hb5; simpa using this
                  obtain ⟨b6, c6, hb6, -, -, g3⟩ := hJ.out.cellsE r hrm
                  obtain ⟨rfl, rfl⟩ : br = b6 ∧ cr = c6 := by have := HBR.out.symm.trans hb6; simpa using this
                  obtain ⟨x1, -⟩ := g2 y hyn
                  obtain ⟨x3, -⟩ := g3 k hk
                  obtain ⟨x4, -⟩ := g3 y hyn
                  have e1 : part (below r k d M1) M1 i y i y = M1 i y := part_old (Nat.le_refl _) (fun _ => Nat.le_refl _)
                  have e3 : part (below r k d M1) M1 i y r k = z := (part_piv hri).trans HMP.out
                  have e4 : part (below r k d M1) M1 i y r y = M1 r y := part_piv hri
                  rw [show (⟨part (below r k d M1) M1 i y, d, ng, r⟩ : Est).M = part (below r k d M1) M1 i y from rfl] at x1 x3 x4
                  rw [e1] at x1
                  rw [e3] at x3
                  rw [e4] at x4
                  have HTY := Lib.hid (HT.out i y hri)
                  have HRO := Lib.hid (redOk (HM1.out i y (by omega) hir hyn) HZS.out (HM1.out i k (by omega) hir hk) (HM1.out r y (Nat.le_refl _) hrm hyn) HL.out H0.out)
                  clear e1 e3 e4 g2 g3 hb5 hb6
                  go_wp2_with fail
                  go_region_with (go_at_call 204; (with_reducible refine (reduced_any _ g _ _ _ (M1 i y) z (M1 i k) (M1 r y) d hJ.out.drew.box HRO.out (HE.out.below hJ.out.drew.bel (Nat.le_refl _))).mono ?_); rintro e w2 ⟨v, rfl, rfl, hb2⟩; rw [← HTY.out]; have HJ2 := Lib.hid (hJ.out.drew.keep hb2); obtain ⟨b7, c7, hb7, -, -, g4⟩ := HJ2.out.cellsE i hir; obtain ⟨rfl, rfl⟩ : bi = b7 ∧ ci = c7 := (by have := HBI.out.symm.trans hb7; simpa using this); obtain ⟨y1, y2⟩ := g4 y hyn; clear g4 hb7)
                  all_goals
                    go_wp2_with fail
                    go_roundw
                    case rel => exact ⟨y + 1, by omega, by go_num, Lib.hid ((HJ2.out.putE (by omega) y (below r k d M1 i y) HBI.out).congr (M := part (below r k d M1) M1 i (y + 1)) fun a b _ _ => part_upd _ _ _ _ a b)⟩
                    case measure => simp [intOf]; omega
                · obtain rfl : y = n := by omega
                  have HJ2 := Lib.hid (hJ.out.congr (M := part (below r k d M1) M1 (r + 1 + (q + 1)) 0) fun a b _ hb => by
                    rw [show r + 1 + (q + 1) = i + 1 by have := HII.out; omega]; exact part_row a b hb)
                  clear hJ
                  go_wp2_with fail
                  go_roundw
                  case rel => exact ⟨q + 1, by omega, by go_num, HJ2⟩
                  case measure => simp [intOf]; omega
            · obtain rfl : q = m - (r + 1) := by omega
              have HI := Lib.hid (show Grid w0 wr g (.slice (some ⟨rb, 0, none⟩) m cap) bs' m n ⟨below r k d M1, d, ng, r⟩ from
                hI.out.congr (M := below r k d M1) fun i y hi _ => by show part _ _ (r + 1 + (m - (r + 1))) 0 i y = _; rw [show r + 1 + (m - (r + 1)) = m by omega]; exact part_end i y hi)
              clear hI
              obtain ⟨b4, c4, hb4, -, -, e2⟩ := HI.out.cellsE r hrm
              obtain ⟨rfl, rfl⟩ : br = b4 ∧ cr = c4 := by have := HBR.out.symm.trans hb4; simpa using this
              obtain ⟨x1, -⟩ := e2 k hk
              have e3 : below r k d M1 r k = z := by unfold below; rw [if_neg (by omega), HMP.out]
              rw [show (⟨below r k d M1, d, ng, r⟩ : Est).M = below r k d M1 from rfl, e3] at x1
              have k1 := HI.out.box.cell 1 _ rfl; have f1 := HI.out.box.free 1
              have k3 := HI.out.box.cell 3 _ rfl; have f3 := HI.out.box.free 3
              have HB := Lib.hid (HI.out.bump z)
              have HC2 := Lib.hid (show S = ⟨below r k d M1, z, ng, r + 1⟩ by rw [HC.out, HMP.out])
              clear e2 e3 hb4
              go_wp2_with fail
              go_end0
              exact ⟨rfl, bs', by rw [HC2.out]; exact HB.out⟩
    · obtain rfl : j = m := by omega
      have HC := Lib.hid (show S = s by rw [← HS.out]; exact col_stop (ftop_eq (j - s.rank) s.rank j (by have := HR.out; omega) (Nat.le_refl _) hz.out fun h => by omega))
      go_wp2
      go_end0
      exact ⟨rfl, bs, by rw [HC.out]; exact HG.out⟩
end Go.Proofs.YtkkklfikdoibcaaGreatDoor

namespace Go.Proofs.YtkkklfikdoibcaaGreatDoor
open Go.RowKit
set_option maxRecDepth 100000

theorem two_ok {R C R' C' : Int} {xs ys : List ByteArray} (h : twoM R C xs R' C' ys = 0) : mchkM R C xs = 0 ∧ mchkM R' C' ys = 0 := by
  unfold twoM at h; split at h
  · exact ⟨by assumption, h⟩
  · exact absurd h (by assumption)
/-- Entries with few digits. -/
def Fit (D : Nat) (xs : List ByteArray) : Prop := ∀ s ∈ xs, s.size ≤ D
theorem dn_size {s : ByteArray} {z : Int} (h : Good s z) : dn z ≤ s.size := by
  have h4 : (Lib.itoa z).length = s.size := by rw [← h.1, Lib.size_eq]
  have h2 := digs10_len z.natAbs
  have h3 : (Lib.decDigits z.natAbs).length ≤ (Lib.itoa z).length := by rw [itoa_cases]; split <;> simp
  unfold dn; omega
theorem RM.dn {R C : Int} {xs : List ByteArray} {r c i k D : Nat} (h : RM R C xs r c) (hf : Fit D xs) (hi : i < r) (hk : k < c) : dn (matF c xs i k) ≤ D := by
  exact Nat.le_trans (dn_size (h.good hi hk)) (hf _ (List.getElem_mem _))
theorem dn_mulM {D E n : Nat} {A B : Mat} {i k : Nat} (hA : ∀ j, j < n → dn (A i j) ≤ D) (hB : ∀ j, j < n → dn (B j k) ≤ E) : dn (mulM n A B i k) ≤ D + E + n :=
  dn_sm _ n fun j hj => by have := dn_mul (A i j) (B j k); have := hA j hj; have := hB j hj; omega

theorem side_of {R C : Int} {xs : List ByteArray} (h : mchkM R C xs = 0) : (0 ≤ R ∧ R ≤ 16) ∧ 0 ≤ C ∧ C ≤ 16 := by
  obtain ⟨r, c, hrm⟩ := rm_of h
  have := hrm.rows; have := hrm.cols; have := hrm.r16; have := hrm.c16
  omega

/-- What Add answers. -/
def addS3 (R C : Int) (xs : List ByteArray) (R' C' : Int) (ys : List ByteArray) : MR :=
  if twoM R C xs R' C' ys = 0 then (if R = R' ∧ C = C' then ⟨R, C, cellsF R.toNat C.toNat (fun i k => matF C.toNat xs i k + matF C.toNat ys i k), 0⟩ else .bad 8) else .bad (twoM R C xs R' C' ys)
set_option maxHeartbeats 4000000 in
theorem Mproduct_ok (w : World) (v u : Value) (xs ys : List ByteArray) (r n p : Nat) (hv : Sl eS w v xs) (hu : Sl eS w u ys) (hrm : RM r n xs r n) (hrm' : RM n p ys n p) (hf : Fit 500 xs) (hf' : Fit 500 ys) (he : Env w) :
    Calls Tryz.prog 102 #[.agg #[.int .i64 r, .int .i64 n, v], .agg #[.int .i64 n, .int .i64 p, u]] w (RetM w r p (cellsF r p (mulM n (matF n xs) (matF p ys))) 0) := by
  have HV := Lib.hid hv; have HU := Lib.hid hu; have HE := Lib.hid he; have HRM := Lib.hid hrm; have HRM' := Lib.hid hrm'; have HF := Lib.hid hf; have HF' := Lib.hid hf'
  obtain ⟨ad, cap, rfl⟩ := sl_form hv
  obtain ⟨ad', cap', rfl⟩ := sl_form hu
  clear hv hu he hrm hrm' hf hf'
  have HB := Lib.hid ((((Below.refl w.heap.size w).alloc (Nat.le_refl _) (.cells #[.int .i64 r, .int .i64 n, .slice ad xs.length cap] 29)).alloc (by simp) (.cells #[.int .i64 n, .int .i64 p, .slice ad' ys.length cap'] 29)).alloc (by simp; omega) (.cells #[.int .i64 0, .int .i64 0, .slice none 0 0] 29))
  have q0 := HB.out
  have HK := Lib.hid (((Blk.new w [.int .i64 r, .int .i64 n, .slice ad xs.length cap] 29).alloc (.cells #[.int .i64 n, .int .i64 p, .slice ad' ys.length cap'] 29)).alloc (.cells #[.int .i64 0, .int .i64 0, .slice none 0 0] 29))
  have HK2 := Lib.hid ((Blk.at1 w (.cells #[.int .i64 r, .int .i64 n, .slice ad xs.length cap] 29) [.int .i64 n, .int .i64 p, .slice ad' ys.length cap'] 29).alloc (.cells #[.int .i64 0, .int .i64 0, .slice none 0 0] 29))
  have HR := Lib.hid (Blk.at2 w (.cells #[.int .i64 r, .int .i64 n, .slice ad xs.length cap] 29) (.cells #[.int .i64 n, .int .i64 p, .slice ad' ys.length cap'] 29) [.int .i64 0, .int .i64 0, .slice none 0 0] 29)
  have HV := Lib.hid (HV.out.below HB.out (Nat.le_refl _))
  have HU := Lib.hid (HU.out.below HB.out (Nat.le_refl _))
  have HE := Lib.hid (HE.out.below HB.out (Nat.le_refl _))
  go_enter Tryz.func102, Tryz.ntmps102
  go_wp2_with (first
    | (go_at_call 95; (with_reducible refine (filledA_product _ r p (.pointer (some ⟨w.heap.size, 0, none⟩)) (.pointer (some ⟨w.heap.size + 1, 0, none⟩)) (mulM n (matF n xs) (matF p ys)) HRM.out.r16 HRM'.out.c16 fun i k w' hi hk hb => product1_any w' w.heap.size (w.heap.size + 1) r n _ _ xs ys n p i k (matF n xs) (matF p ys) (HK.out.below hb (Nat.le_refl _)) (HK2.out.below hb (Nat.le_refl _)) (HV.out.below hb (Nat.le_refl _)) (HU.out.below hb (Nat.le_refl _)) HRM.out.l256 HRM'.out.l256 HRM.out.c16 (fun j hj => HRM.out.get hi hj) (fun j hj => HRM'.out.get hj hk) (fun j hj => bigD (by have := HRM.out.dn HF.out hi hj; omega)) (fun j hj => bigD (by have := HRM'.out.dn HF'.out hj hk; omega)) (fun j hj => bigD (by have := HRM.out.dn HF.out hi hj; have := HRM'.out.dn HF'.out hj hk; have := dn_mul (matF n xs i j) (matF p ys j k); omega)) (bigD (by have := dn_mulM (A := matF n xs) (B := matF p ys) (i := i) (k := k) (fun j hj => HRM.out.dn HF.out hi hj) (fun j hj => HRM'.out.dn HF'.out hj hk); have := HRM.out.c16; omega)) (HE.out.below hb (Nat.le_refl _))).mono ?_); rintro e w1 ⟨v, rfl, x1, rfl, s1, h1⟩; have HS := Lib.hid s1; obtain ⟨a1, k1, rfl⟩ := sl_form s1; clear s1; have HV := Lib.hid (HV.out.below h1 (Nat.le_refl _)); have HU := Lib.hid (HU.out.below h1 (Nat.le_refl _)); have HE := Lib.hid (HE.out.below h1 (Nat.le_refl _)); have HK := Lib.hid (HK.out.below h1 (Nat.le_refl _)); have c1_HK_0 := HK.out.cell 0 _ rfl; have c1_HK_1 := HK.out.cell 1 _ rfl; have c1_HK_2 := HK.out.cell 2 _ rfl; have HK2 := Lib.hid (HK2.out.below h1 (Nat.le_refl _)); have c1_HK2_0 := HK2.out.cell 0 _ rfl; have c1_HK2_1 := HK2.out.cell 1 _ rfl; have c1_HK2_2 := HK2.out.cell 2 _ rfl; have HR := Lib.hid (HR.out.below h1 (Nat.le_refl _)); have f1_HR_0 := HR.out.free 0; have f1_HR_1 := HR.out.free 1; have f1_HR_2 := HR.out.free 2; have c1_HR_0 := HR.out.cell 0 _ rfl; have c1_HR_1 := HR.out.cell 1 _ rfl; have c1_HR_2 := HR.out.cell 2 _ rfl; have q1 := q0.trans (h1.mono q0.size)))
  obtain ⟨hR, hS, hW⟩ := res_done (R := r) (C := p) q1 (by omega) HR.out HS.out
  have z0 := hR.cell 0 _ rfl; have z1 := hR.cell 1 _ rfl; have z2 := hR.cell 2 _ rfl
  exact bodyPost_ret (v := .tuple #[.agg #[.int .i64 r, .int .i64 p, .slice a1 (cellsF r p (mulM n (matF n xs) (matF p ys))).length k1], .int .i64 0]) (by simp [results, Tryz.results102, go_sem, z0, z1, z2]) rfl ⟨_, rfl, _, rfl, hS, hW⟩

/-- What Product answers. -/
def prodS (R C : Int) (xs : List ByteArray) (R' C' : Int) (ys : List ByteArray) : MR :=
  if twoM R C xs R' C' ys = 0 then (if C = R' then ⟨R, C', cellsF R.toNat C'.toNat (mulM C.toNat (matF C.toNat xs) (matF C'.toNat ys)), 0⟩ else .bad 8) else .bad (twoM R C xs R' C' ys)
end Go.Proofs.YtkkklfikdoibcaaGreatDoor

namespace Go.Proofs.YtkkklfikdoibcaaGreatDoor
open Go.RowKit
set_option maxRecDepth 100000

theorem kept_sml {m n k : Nat} {A : Mat} {s : Est} (h : Kept m n k A s) (hD : ∀ i j, i < m → j < n → dn (A i j) ≤ 60) (hm : m ≤ 6) :
    (∀ i j, s.rank ≤ i → i < m → j < n → sml (s.M i j)) ∧ sml s.last ∧ s.last ≠ 0 ∧ s.rank ≤ m := by
  obtain ⟨B, c, hI, -, σ, hσ, -⟩ := h.ex
  have hB : ∀ i j, i < m → j < n → dn (B i j) ≤ 60 := fun i j hi hj => by rw [(hσ i hi).2]; exact hD _ _ (hσ i hi).1 hj
  have hc : ∀ t, t < s.rank → c t < n := fun t ht => Nat.lt_of_lt_of_le (hI.ck t ht) hI.kn
  have hr := hI.rk
  have cap : ∀ p, p ≤ 6 → 1 + p * (60 + p) ≤ 400 := fun p hp => by
    have := Nat.mul_le_mul hp (show 60 + p ≤ 66 by omega); omega
  refine ⟨fun i j hi him hj => ?_, ?_, hI.d0, hr⟩
  · unfold sml
    rw [hI.minor hi him hj]
    refine Nat.le_trans (dn_det (D := 60) (s.rank + 1) _ fun x y hx hy => ?_) (cap _ (by omega))
    refine hB _ _ ?_ ?_
    · split <;> omega
    · split
      · exact hc _ (by assumption)
      · exact hj
  · unfold sml
    rw [hI.lead]
    exact Nat.le_trans (dn_det (D := 60) s.rank _ fun x y hx hy => hB _ _ (by omega) (hc _ hy)) (cap _ (by omega))
/-- What eliminate leaves. -/
def ElimP (w : World) (S : Est) : Ending → World → Prop := Rets fun x w' => ∃ g rv, x = .pointer (some ⟨g, 0, none⟩) ∧ w.heap.size ≤ g ∧ Blk w' g [rv, .string (txt S.last), .int .i64 (sgB S.neg), .int .i64 S.rank, .int .i64 0] 149 ∧ Below w.heap.size w w'
/-- The elimination's grid where it begins. -/
theorem Grid.start {w0 w : World} {g r c cap : Nat} {a : Option Addr} {A : Mat} {bs : List (Nat × Nat)} (hk : Blk w g [.slice a r cap, .string (txt 1), .int .i64 1, .int .i64 0, .int .i64 0] 149) (hr : w.ownsRow w0.heap.size 27 1 (.slice a r cap) r (bs.map (rowV c)))
    (hR : RowsAt w0.heap.size c A bs w) (hg : w0.heap.size ≤ g) (hb : Below w0.heap.size w0 w) : Grid w0 w g (.slice a r cap) bs r c (Est.start A) :=
  ⟨hk, hr, hR.row, hR.nod, hg, hb⟩
theorem RowsAt.low {base b c : Nat} {A : Mat} {bs : List (Nat × Nat)} {W : World} (h : RowsAt base c A bs W) (hb : b ≤ base) : RowsAt b c A bs W := ⟨fun i hi => own_low (h.row i hi) hb, h.nod, h.lt⟩
theorem RowsAt.below {base c : Nat} {A : Mat} {bs : List (Nat × Nat)} {W W' : World} (h : RowsAt base c A bs W) (hb : Below W.heap.size W W') : RowsAt base c A bs W' :=
  ⟨fun i hi => own_below (h.row i hi) hb (Nat.le_refl _), h.nod, fun b hm => Nat.lt_of_lt_of_le (h.lt b hm) hb.size⟩
set_option maxHeartbeats 4000000 in
theorem eliminate_ok (w : World) (v : Value) (xs : List ByteArray) (r c : Nat) (hv : Sl eS w v xs) (hrm : RM r (c + 1 : Nat) xs r (c + 1)) (hf : ∀ i j, i < r → j < c + 1 → dn (matF (c + 1) xs i j) ≤ 60) (hr : r ≤ 6) (he : Env w) :
    Calls Tryz.prog 98 #[.agg #[.int .i64 r, .int .i64 (c + 1 : Nat), v]] w (ElimP w ((Est.start (matF (c + 1) xs)).cols r (c + 1))) := by
  have HV := Lib.hid hv; have HE := Lib.hid he; have HX := Lib.hid hrm.cells; have HC16 := Lib.hid hrm.c16
  have HKP := Lib.hid (fun k (hk : k ≤ c + 1) => kept_sml (Kept.cols (m := r) (n := c + 1) (matF (c + 1) xs) k hk) hf hr)
  obtain ⟨A, hA⟩ : ∃ A, matF (c + 1) xs = A := ⟨_, rfl⟩
  rw [hA] at HX HKP ⊢
  have HCO := Lib.hid (fun (w1 : World) (B : Nat) (u : Value) (h1 : Blk w1 B [.int .i64 r, .int .i64 (c + 1 : Nat), u] 29) (h2 : Sl eS w1 u xs) => collect_any A h1 h2 HX.out (by omega) HC16.out)
  have HCOL := Lib.hid (fun (w1 : World) (g : Nat) (rv : Value) (bs : List (Nat × Nat)) (k : Nat) (hk : k < c + 1) (hG : Grid w w1 g rv bs r (c + 1) ((Est.start A).cols r k)) =>
    column_any k hG hk (HKP.out k (by omega)).2.2.2 (by omega) HC16.out (HKP.out k (by omega)).1 (HKP.out k (by omega)).2.1 (HKP.out k (by omega)).2.2.1 he)
  obtain ⟨n, hn⟩ : ∃ n, c + 1 = n := ⟨_, rfl⟩
  have HN := Lib.hid hn
  obtain ⟨ad, cap, rfl⟩ := sl_form hv
  clear hv hrm hf he hA HX HKP
  rw [hn] at HCO HCOL HC16 ⊢
  clear hn
  have hn16 := HC16.out
  have HB0 := Lib.hid ((Below.refl w.heap.size w).alloc (Nat.le_refl _) (.cells #[.int .i64 r, .int .i64 n, .slice ad xs.length cap] 29))
  have HK0 := Lib.hid (Blk.new w [.int .i64 r, .int .i64 n, .slice ad xs.length cap] 29)
  go_enter Tryz.func98, Tryz.ntmps98
  have HB1 := Lib.hid (HB0.out.alloc (by simp) (.cells #[.int .i64 r, .int .i64 n, .slice ad xs.length cap] 29))
  go_wp2_with (first
    | (go_at_call 157; (with_reducible refine (rows_any _ _ _ _ _ _).mono ?_); rintro e w1 ⟨rfl, rfl⟩)
    | (go_at_call 156; (with_reducible refine (HCO.out _ _ _ (Blk.at1 w _ _ _) ((HV.out.below HB0.out (Nat.le_refl _)).below ((Below.refl _ _).alloc (Nat.le_refl _) _) (Nat.le_refl _))).mono ?_); rintro e w2 ⟨x, rfl, bs, ⟨hl, h1⟩, h2, h3⟩; rw [hl] at h2; obtain ⟨xa, xc, rfl⟩ := own_form h2; have b2 := HB1.out.trans (h3.mono (by simp; omega)); have H1 := Lib.hid (h1.low (show w.heap.size ≤ _ by simp; omega)); have H2 := Lib.hid (own_low h2 (show w.heap.size ≤ _ by simp; omega)); have hK2 := ((HK0.out.alloc _).below h3 (Nat.le_refl _)); have HK2 := Lib.hid hK2; clear h1 h2 hK2)
    | (go_at_call 151; (with_reducible refine (Of_any _ 1 (by omega) (by omega) (HE.out.below b2 (Nat.le_refl _))).mono ?_); rintro e w4 ⟨v, rfl, rfl, hb4⟩; have b4 := b2.trans (hb4.mono b2.size); have b5 := b4.alloc b4.size (.cells #[.slice xa r xc, .string (txt 1), .int .i64 1, .int .i64 0, .int .i64 0] 149); have HK5 := Lib.hid ((HK2.out.below hb4 (Nat.le_refl _)).alloc (.cells #[.slice xa r xc, .string (txt 1), .int .i64 1, .int .i64 0, .int .i64 0] 149)); have c0 := HK5.out.cell 0 _ rfl; have c1 := HK5.out.cell 1 _ rfl; have hb5 := hb4.alloc hb4.size (.cells #[.slice xa r xc, .string (txt 1), .int .i64 1, .int .i64 0, .int .i64 0] 149); have HG := Lib.hid (Grid.start (w0 := w) (Blk.new w4 [.slice xa r xc, .string (txt 1), .int .i64 1, .int .i64 0, .int .i64 0] 149) (own_below H2.out hb5 (Nat.le_refl _)) (H1.out.below hb5) b4.size b5)))
  go_loopw [13] (fun i wr => ∃ k : Nat, k ≤ n ∧ i = .int .i64 k ∧ Hid (∃ bs', Grid w wr w4.heap.size (.slice xa r xc) bs' r n ((Est.start A).cols r k))) (fun i _ => n - (intOf i).toNat)
  case atStart => exact ⟨0, Nat.zero_le _, rfl, Lib.hid ⟨bs, HG.out⟩⟩
  case round =>
    clear c0 c1 HG
    obtain ⟨k, hk, rfl, hG⟩ := hrel
    by_cases hkn : k < n
    · obtain ⟨bs', hG'⟩ := hG.out
      have HC := Lib.hid (HCOL.out _ _ _ _ k hkn hG')
      clear hG'
      go_wp2_with (go_at_call 158; (with_reducible refine HC.out.mono ?_); rintro e w6 ⟨rfl, bs2, hG2⟩; have HG2 := Lib.hid hG2; clear hG2)
      go_roundw
      case rel => exact ⟨k + 1, by omega, by go_num, Lib.hid ⟨bs2, HG2.out⟩⟩
      case measure => simp [intOf]; omega
    · obtain rfl : k = n := by omega
      go_wp2
      go_ret
      obtain ⟨bs', hG'⟩ := hG.out
      exact ⟨_, rfl, _, _, rfl, hG'.gB, hG'.box, hG'.bel⟩
set_option maxHeartbeats 2000000 in
theorem eliminate0_ok (w : World) (v : Value) (r : Nat) (A : Mat) (hv : Sl eS w v []) (hr : r ≤ 16) (he : Env w) :
    Calls Tryz.prog 98 #[.agg #[.int .i64 r, .int .i64 0, v]] w (ElimP w (Est.start A)) := by
  have HV := Lib.hid hv; have HE := Lib.hid he
  have HCO := Lib.hid (fun (w1 : World) (B : Nat) (u : Value) (h1 : Blk w1 B [.int .i64 r, .int .i64 0, u] 29) (h2 : Sl eS w1 u []) => collect0_any h1 h2 hr)
  have HZ := Lib.hid (show sgB (Est.start A).neg = 1 ∧ (Est.start A).rank = 0 ∧ (Est.start A).last = 1 from ⟨rfl, rfl, rfl⟩)
  obtain ⟨ad, cap, rfl⟩ : ∃ a c, v = .slice a 0 c := by obtain ⟨a, c, h⟩ := sl_form hv; exact ⟨a, c, h⟩
  clear hv he hr
  have HB0 := Lib.hid ((Below.refl w.heap.size w).alloc (Nat.le_refl _) (.cells #[.int .i64 r, .int .i64 0, .slice ad 0 cap] 29))
  have HK0 := Lib.hid (Blk.new w [.int .i64 r, .int .i64 0, .slice ad 0 cap] 29)
  have HB1 := Lib.hid (HB0.out.alloc (by simp) (.cells #[.int .i64 r, .int .i64 0, .slice ad 0 cap] 29))
  go_enter Tryz.func98, Tryz.ntmps98
  go_wp2_with (first
    | (go_at_call 157; (with_reducible refine (rows_any _ _ _ _ _ _).mono ?_); rintro e w1 ⟨rfl, rfl⟩)
    | (go_at_call 156; (with_reducible refine (HCO.out _ _ _ (Blk.at1 w _ _ _) ((HV.out.below HB0.out (Nat.le_refl _)).below ((Below.refl _ _).alloc (Nat.le_refl _) _) (Nat.le_refl _))).mono ?_); rintro e w2 ⟨x, rfl, bs, hl, h2, h3⟩; rw [hl] at h2; obtain ⟨xa, xc, rfl⟩ := own_form h2; have b2 := HB1.out.trans (h3.mono (by simp; omega)); have HK2 := Lib.hid ((HK0.out.alloc _).below h3 (Nat.le_refl _)); clear h2)
    | (go_at_call 151; (with_reducible refine (Of_any _ 1 (by omega) (by omega) (HE.out.below b2 (Nat.le_refl _))).mono ?_); rintro e w4 ⟨v, rfl, rfl, hb4⟩; have b4 := b2.trans (hb4.mono b2.size); have b5 := b4.alloc b4.size (.cells #[.slice xa r xc, .string (txt 1), .int .i64 1, .int .i64 0, .int .i64 0] 149); have HK5 := Lib.hid ((HK2.out.below hb4 (Nat.le_refl _)).alloc (.cells #[.slice xa r xc, .string (txt 1), .int .i64 1, .int .i64 0, .int .i64 0] 149)); have c0 := HK5.out.cell 0 _ rfl; have c1 := HK5.out.cell 1 _ rfl; have HG := Lib.hid (Blk.new w4 [.slice xa r xc, .string (txt 1), .int .i64 1, .int .i64 0, .int .i64 0] 149)))
  go_loopw [13] (fun i wr => i = .int .i64 0 ∧ Hid (wr = w4.alloc (.cells #[.slice xa r xc, .string (txt 1), .int .i64 1, .int .i64 0, .int .i64 0] 149))) (fun i _ => 0)
  case atStart => exact ⟨rfl, Lib.hid rfl⟩
  case round =>
    obtain ⟨rfl, hW⟩ := hrel
    have hW := hW.out
    subst hW
    go_wp2
    go_ret
    exact ⟨_, rfl, _, _, rfl, b4.size, by rw [HZ.out.1, HZ.out.2.1, HZ.out.2.2]; exact HG.out, b5⟩
theorem elim_any (w : World) (v : Value) (xs : List ByteArray) (r c : Nat) (hv : Sl eS w v xs) (hrm : RM r c xs r c) (hf : ∀ i j, i < r → j < c → dn (matF c xs i j) ≤ 60) (hr : r ≤ 6) (he : Env w) :
    Calls Tryz.prog 98 #[.agg #[.int .i64 r, .int .i64 c, v]] w (ElimP w ((Est.start (matF c xs)).cols r c)) := by
  cases c with
  | zero =>
    have : xs = [] := List.length_eq_zero_iff.1 (by rw [hrm.len]; rfl)
    subst this
    exact eliminate0_ok w v r _ hv (by omega) he
  | succ c => exact eliminate_ok w v xs r c hv hrm hf hr he
/-- What Determinant answers. -/
def detS (R C : Int) (xs : List ByteArray) : ByteArray × Int := if mchkM R C xs = 0 then (if R = C then (txt (det R.toNat (matF C.toNat xs)), 0) else (⟨#[]⟩, 8)) else (⟨#[]⟩, mchkM R C xs)
/-- What Rank answers. -/
def rankS (R C : Int) (xs : List ByteArray) : Nat × Int := if mchkM R C xs = 0 then (((Est.start (matF C.toNat xs)).cols R.toNat C.toNat).rank, 0) else (0, mchkM R C xs)
theorem Fit.mono {D E : Nat} {xs : List ByteArray} (h : Fit D xs) (hde : D ≤ E) : Fit E xs := fun s hs => Nat.le_trans (h s hs) hde
set_option maxHeartbeats 4000000 in
theorem Determinant_any (w : World) (R C : Int) (v : Value) (xs : List ByteArray) (hv : Sl eS w v xs) (hf : Fit 60 xs) (h6 : mchkM R C xs = 0 → R ≤ 6 ∧ C ≤ 6) (he : Env w) :
    Calls Tryz.prog 90 #[.agg #[.int .i64 R, .int .i64 C, v]] w (Rets fun v w' => v = .tuple #[.string (detS R C xs).1, .int .i64 (detS R C xs).2] ∧ Below w.heap.size w w') := by
  have HSZ := Lib.hid (show xs.length ≤ 256 → ∀ s ∈ xs, s.size ≤ 1000000 from fun _ s hs => Nat.le_trans (hf s hs) (by omega))
  have HV := Lib.hid hv; have HE := Lib.hid he; have HF := Lib.hid hf
  obtain ⟨ad, cap, rfl⟩ := sl_form hv
  clear hv hf he
  by_cases h : mchkM R C xs = 0
  · have H := Lib.hid h
    obtain ⟨r, c, hrm⟩ := rm_of h
    obtain rfl := hrm.rows; obtain rfl := hrm.cols
    have HRM := Lib.hid hrm
    have hh6 := h6 h
    have HB := Lib.hid ((Below.refl w.heap.size w).alloc (Nat.le_refl _) (.cells #[.int .i64 r, .int .i64 c, .slice ad xs.length cap] 29))
    have HK := Lib.hid (Blk.new w [.int .i64 r, .int .i64 c, .slice ad xs.length cap] 29)
    by_cases hs : r = c
    · subst hs
      have hne : ((r : Int) != (r : Int)) = false := by simp
      have hE := elim_det (matF r xs) (Kept.cols (m := r) (n := r) (matF r xs) r (Nat.le_refl _))
      have hsm := kept_sml (Kept.cols (m := r) (n := r) (matF r xs) r (Nat.le_refl _)) (fun i j hi hj => hrm.dn HF.out hi hj) (by omega)
      have HEL := Lib.hid (fun (w1 : World) (u : Value) (h1 : Sl eS w1 u xs) (h2 : Env w1) => elim_any w1 u xs r r h1 hrm (fun i j hi hj => hrm.dn HF.out hi hj) (by omega) h2)
      obtain ⟨S, hS⟩ : ∃ S, (Est.start (matF r xs)).cols r r = S := ⟨_, rfl⟩
      rw [hS] at hE hsm HEL
      have HD := Lib.hid (show detS r r xs = (txt (if S.rank < r then 0 else sgB S.neg * S.last), 0) by unfold detS; rw [if_pos h, if_pos rfl, ← hE]; rfl)
      have HBG := Lib.hid (bigD (show dn S.last ≤ 1024 by have := hsm.2.1; unfold sml at this; omega))
      have HRS := Lib.hid (show resV (-S.last) = .tuple #[.string (txt (-S.last)), .int .i64 0] by unfold resV; rw [bigD (show dn (-S.last) ≤ 1024 by rw [dn_neg]; have := hsm.2.1; unfold sml at this; omega)]; rfl)
      clear h hrm h6 hS hE hsm hh6
      rcases Nat.lt_or_ge S.rank r with hq | hq
      · have HX := Lib.hid (show detS r r xs = (txt 0, 0) by rw [HD.out, if_pos hq])
        go_enter Tryz.func90, Tryz.ntmps90
        go_wp2_with (first
    | (go_at_call 98; (with_reducible refine (HEL.out _ _ (HV.out.below q1 (Nat.le_refl _)) (HE.out.below q1 (Nat.le_refl _))).mono ?_); rintro e w2 ⟨x, rfl, g, rv, rfl, hg, hk, h2⟩; have q2 := q1.trans (h2.mono q1.size); have HK2 := Lib.hid (HK1.out.below h2 (Nat.le_refl _)); have d0 := HK2.out.cell 0 _ rfl; have d1 := HK2.out.cell 1 _ rfl; have e1 := hk.cell 1 _ rfl; have e2 := hk.cell 2 _ rfl; have e3 := hk.cell 3 _ rfl; have e4 := hk.cell 4 _ rfl; clear hk)
    | (go_at_call 94; (with_reducible refine (MCheck_any _ _ _ _ xs (HV.out.below HB.out (Nat.le_refl _)) HSZ.out).mono ?_); rintro e w1 ⟨v, rfl, rfl, h1⟩; rw [H.out]; have q1 := HB.out.trans (h1.mono HB.out.size); have HK1 := Lib.hid (HK.out.below h1 (Nat.le_refl _)); have c0 := HK1.out.cell 0 _ rfl; have c1 := HK1.out.cell 1 _ rfl; have c2 := HK1.out.cell 2 _ rfl))
        go_region
        all_goals
          go_wp2_with (go_at_call 151; (with_reducible refine (Of_any _ 0 (by omega) (by omega) (HE.out.below q2.drew (Nat.le_refl _))).mono ?_); rintro e w4 ⟨v, rfl, rfl, hb4⟩; have q4 := q2.drew.trans (hb4.mono q2.size))
          go_ret2
          exact ⟨_, rfl, by rw [HX.out]; rfl, q4⟩
      · have hq' : ¬ S.rank < r := by omega
        cases hng : S.neg
        · have hsg : sgB S.neg = 1 := by rw [hng]; rfl
          have HX := Lib.hid (show detS r r xs = (txt S.last, 0) by rw [HD.out, if_neg hq', hsg, Int.one_mul])
          have HSG := Lib.hid hsg
          clear hng hsg
          go_enter Tryz.func90, Tryz.ntmps90
          go_wp2_with (first
    | (go_at_call 98; (with_reducible refine (HEL.out _ _ (HV.out.below q1 (Nat.le_refl _)) (HE.out.below q1 (Nat.le_refl _))).mono ?_); rintro e w2 ⟨x, rfl, g, rv, rfl, hg, hk, h2⟩; have q2 := q1.trans (h2.mono q1.size); have HK2 := Lib.hid (HK1.out.below h2 (Nat.le_refl _)); have d0 := HK2.out.cell 0 _ rfl; have d1 := HK2.out.cell 1 _ rfl; have e1 := hk.cell 1 _ rfl; have e2 := hk.cell 2 _ rfl; have e3 := hk.cell 3 _ rfl; have e4 := hk.cell 4 _ rfl; rw [HSG.out] at e2; clear hk)
    | (go_at_call 94; (with_reducible refine (MCheck_any _ _ _ _ xs (HV.out.below HB.out (Nat.le_refl _)) HSZ.out).mono ?_); rintro e w1 ⟨v, rfl, rfl, h1⟩; rw [H.out]; have q1 := HB.out.trans (h1.mono HB.out.size); have HK1 := Lib.hid (HK.out.below h1 (Nat.le_refl _)); have c0 := HK1.out.cell 0 _ rfl; have c1 := HK1.out.cell 1 _ rfl; have c2 := HK1.out.cell 2 _ rfl))
          go_region
          all_goals
            go_wp2_with fail
            go_ret2
            exact ⟨_, rfl, by rw [HX.out]; rfl, q2.drew⟩
        · have hsg : sgB S.neg = -1 := by rw [hng]; rfl
          have HX := Lib.hid (show detS r r xs = (txt (-S.last), 0) by rw [HD.out, if_neg hq', hsg]; congr 2; omega)
          have HSG := Lib.hid hsg
          clear hng hsg
          go_enter Tryz.func90, Tryz.ntmps90
          go_wp2_with (first
    | (go_at_call 98; (with_reducible refine (HEL.out _ _ (HV.out.below q1 (Nat.le_refl _)) (HE.out.below q1 (Nat.le_refl _))).mono ?_); rintro e w2 ⟨x, rfl, g, rv, rfl, hg, hk, h2⟩; have q2 := q1.trans (h2.mono q1.size); have HK2 := Lib.hid (HK1.out.below h2 (Nat.le_refl _)); have d0 := HK2.out.cell 0 _ rfl; have d1 := HK2.out.cell 1 _ rfl; have e1 := hk.cell 1 _ rfl; have e2 := hk.cell 2 _ rfl; have e3 := hk.cell 3 _ rfl; have e4 := hk.cell 4 _ rfl; rw [HSG.out] at e2; clear hk)
    | (go_at_call 94; (with_reducible refine (MCheck_any _ _ _ _ xs (HV.out.below HB.out (Nat.le_refl _)) HSZ.out).mono ?_); rintro e w1 ⟨v, rfl, rfl, h1⟩; rw [H.out]; have q1 := HB.out.trans (h1.mono HB.out.size); have HK1 := Lib.hid (HK.out.below h1 (Nat.le_refl _)); have c0 := HK1.out.cell 0 _ rfl; have c1 := HK1.out.cell 1 _ rfl; have c2 := HK1.out.cell 2 _ rfl))
          go_region
          all_goals
            go_wp2_with (go_at_call 91; (with_reducible refine (Neg_ok _ _ S.last (.of HBG.out) (HE.out.below q2.drew (Nat.le_refl _))).mono ?_); rintro e w4 ⟨v, rfl, rfl, hb4⟩; have q4 := q2.drew.trans (hb4.mono q2.size); rw [HRS.out])
            go_ret2
            exact ⟨_, rfl, by rw [HX.out]; rfl, q4⟩
    · have hne : ((r : Int) != (c : Int)) = true := by simp; omega
      have HX := Lib.hid (show detS r c xs = (⟨#[]⟩, 8) by unfold detS; rw [if_pos h, if_neg (by omega)])
      clear h hrm h6 hh6
      go_enter Tryz.func90, Tryz.ntmps90
      go_wp2_with (first
    | (go_at_call 94; (with_reducible refine (MCheck_any _ _ _ _ xs (HV.out.below HB.out (Nat.le_refl _)) HSZ.out).mono ?_); rintro e w1 ⟨v, rfl, rfl, h1⟩; rw [H.out]; have q1 := HB.out.trans (h1.mono HB.out.size); have HK1 := Lib.hid (HK.out.below h1 (Nat.le_refl _)); have c0 := HK1.out.cell 0 _ rfl; have c1 := HK1.out.cell 1 _ rfl; have c2 := HK1.out.cell 2 _ rfl))
      go_ret2
      exact ⟨_, rfl, by rw [HX.out]; rfl, q1⟩
  · have hne : (mchkM R C xs != 0) = true := by simp [h]
    have HX := Lib.hid (show detS R C xs = (⟨#[]⟩, mchkM R C xs) by unfold detS; rw [if_neg h])
    have HB := Lib.hid ((Below.refl w.heap.size w).alloc (Nat.le_refl _) (.cells #[.int .i64 R, .int .i64 C, .slice ad xs.length cap] 29))
    clear h h6
    go_enter Tryz.func90, Tryz.ntmps90
    go_wp2_with (go_at_call 94; (with_reducible refine (MCheck_any _ R C _ xs (HV.out.below HB.out (Nat.le_refl _)) HSZ.out).mono ?_); rintro e w1 ⟨v, rfl, rfl, h1⟩; have q1 := HB.out.trans (h1.mono HB.out.size))
    go_ret2
    exact ⟨_, rfl, by rw [HX.out]; rfl, q1⟩
set_option maxHeartbeats 4000000 in
theorem Rank_any (w : World) (R C : Int) (v : Value) (xs : List ByteArray) (hv : Sl eS w v xs) (hf : Fit 60 xs) (h6 : mchkM R C xs = 0 → R ≤ 6 ∧ C ≤ 6) (he : Env w) :
    Calls Tryz.prog 32 #[.agg #[.int .i64 R, .int .i64 C, v]] w (Rets fun v w' => v = .tuple #[.int .i64 (rankS R C xs).1, .int .i64 (rankS R C xs).2] ∧ Below w.heap.size w w') := by
  have HSZ := Lib.hid (show xs.length ≤ 256 → ∀ s ∈ xs, s.size ≤ 1000000 from fun _ s hs => Nat.le_trans (hf s hs) (by omega))
  have HV := Lib.hid hv; have HE := Lib.hid he; have HF := Lib.hid hf
  obtain ⟨ad, cap, rfl⟩ := sl_form hv
  clear hv hf he
  by_cases h : mchkM R C xs = 0
  · have H := Lib.hid h
    obtain ⟨r, c, hrm⟩ := rm_of h
    obtain rfl := hrm.rows; obtain rfl := hrm.cols
    have HRM := Lib.hid hrm
    have hh6 := h6 h
    have HB := Lib.hid ((Below.refl w.heap.size w).alloc (Nat.le_refl _) (.cells #[.int .i64 r, .int .i64 c, .slice ad xs.length cap] 29))
    have HK := Lib.hid (Blk.new w [.int .i64 r, .int .i64 c, .slice ad xs.length cap] 29)
    have HEL := Lib.hid (fun (w1 : World) (u : Value) (h1 : Sl eS w1 u xs) (h2 : Env w1) => elim_any w1 u xs r c h1 hrm (fun i j hi hj => hrm.dn HF.out hi hj) (by omega) h2)
    have HX := Lib.hid (show rankS r c xs = (((Est.start (matF c xs)).cols r c).rank, 0) by unfold rankS; rw [if_pos h]; rfl)
    obtain ⟨S, hS⟩ : ∃ S, (Est.start (matF c xs)).cols r c = S := ⟨_, rfl⟩
    rw [hS] at HEL HX
    clear h hrm h6 hS hh6
    go_enter Tryz.func32, Tryz.ntmps32
    go_wp2_with (first
    | (go_at_call 98; (with_reducible refine (HEL.out _ _ (HV.out.below q1 (Nat.le_refl _)) (HE.out.below q1 (Nat.le_refl _))).mono ?_); rintro e w2 ⟨x, rfl, g, rv, rfl, hg, hk, h2⟩; have q2 := q1.trans (h2.mono q1.size); have HK2 := Lib.hid (HK1.out.below h2 (Nat.le_refl _)); have d0 := HK2.out.cell 0 _ rfl; have d1 := HK2.out.cell 1 _ rfl; have e1 := hk.cell 1 _ rfl; have e2 := hk.cell 2 _ rfl; have e3 := hk.cell 3 _ rfl; have e4 := hk.cell 4 _ rfl; clear hk)
    | (go_at_call 94; (with_reducible refine (MCheck_any _ _ _ _ xs (HV.out.below HB.out (Nat.le_refl _)) HSZ.out).mono ?_); rintro e w1 ⟨v, rfl, rfl, h1⟩; rw [H.out]; have q1 := HB.out.trans (h1.mono HB.out.size); have HK1 := Lib.hid (HK.out.below h1 (Nat.le_refl _)); have c0 := HK1.out.cell 0 _ rfl; have c1 := HK1.out.cell 1 _ rfl; have c2 := HK1.out.cell 2 _ rfl))
    go_ret2
    exact ⟨_, rfl, by rw [HX.out]; rfl, q2⟩
  · have hne : (mchkM R C xs != 0) = true := by simp [h]
    have HX := Lib.hid (show rankS R C xs = (0, mchkM R C xs) by unfold rankS; rw [if_neg h])
    have HB := Lib.hid ((Below.refl w.heap.size w).alloc (Nat.le_refl _) (.cells #[.int .i64 R, .int .i64 C, .slice ad xs.length cap] 29))
    clear h h6
    go_enter Tryz.func32, Tryz.ntmps32
    go_wp2_with (go_at_call 94; (with_reducible refine (MCheck_any _ R C _ xs (HV.out.below HB.out (Nat.le_refl _)) HSZ.out).mono ?_); rintro e w1 ⟨v, rfl, rfl, h1⟩; have q1 := HB.out.trans (h1.mono HB.out.size))
    go_ret2
    exact ⟨_, rfl, by rw [HX.out]; rfl, q1⟩
end Go.Proofs.YtkkklfikdoibcaaGreatDoor
