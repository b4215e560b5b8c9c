/- A table of numbers: rows of their own behind a slice of slices. The walks of the reference's Table and Joined: tables of counts, and the graph that they say. The walk of the reference's Joined: the graph that a table of counts says. The walks of the reference's Make (right ends) and Less. The walk of the Laplacian's reference: With. -/
import Derived.Test.YtkkklfikdoibcaaGreatDoorPk10
import Derived.Test.YtkkklfikdoibcaaGreatDoorPk14
import Derived.Test.YtkkklfikdoibcaaGreatDoorPk9
import Derived.Test.YtkkklfikdoibcaaGreatDoorPk12
import Derived.Test.YtkkklfikdoibcaaGreatDoorPk11
namespace Go.Proofs.YtkkklfikdoibcaaGreatDoor
open Go.RowKit

/-- A row's cells, and the slice that shows them. -/
def tbV (n : Nat) (f : Nat → Nat) : List Value := (List.range n).map fun j => .int .i64 (f j : Nat)
def sl0 (n g : Nat) : Value := .slice (some ⟨g, 0, none⟩) n n
theorem tbV_len (n : Nat) (f : Nat → Nat) : (tbV n f).length = n := by simp [tbV]
theorem tbV_get {n : Nat} {f : Nat → Nat} {j : Nat} (h : j < n) : (tbV n f)[j]? = some (.int .i64 (f j : Nat)) := by simp [tbV, h]
theorem tbV_zero (n : Nat) : List.replicate n (.int .i64 0) = tbV n fun _ => 0 := by
  apply List.ext_getElem (by simp [tbV])
  intro i h1 h2
  simp [tbV]
theorem tbV_set (n : Nat) (f : Nat → Nat) (j x : Nat) : (tbV n f).set j (.int .i64 (x : Nat)) = tbV n fun b => if b = j then x else f b := by
  apply List.ext_getElem (by simp [tbV])
  intro i h1 h2
  rw [List.getElem_set]
  simp only [tbV, List.getElem_map, List.getElem_range]
  by_cases e : j = i
  · rw [if_pos e, if_pos e.symm]
  · rw [if_neg e, if_neg (fun h => e h.symm)]
theorem own_apartB {w : World} {b s n g : Nat} {e e' : TypeId} {u : Value} {ys cs : List Value} (h : w.ownsRow b e s u n ys) (h' : Blk w g cs e') (hne : e ≠ e') : u.ownBlock ≠ some g := by
  rcases h.2 with ⟨rfl, -⟩ | ⟨g', cap, cur, rfl, -, hg, -⟩
  · simp [Value.ownBlock]
  · intro e2
    simp only [Value.ownBlock, Option.some.injEq] at e2
    subst e2
    unfold Blk at h'
    rw [hg] at h'
    injection h' with h'
    injection h' with _ e3 _
    exact hne e3
theorem nd_inj1 {l : List Nat} (h : l.Nodup) {i j : Nat} (hi : i < l.length) (hj : j < l.length) (e : l[i] = l[j]) : i = j := by
  rw [List.nodup_iff_pairwise_ne, List.pairwise_iff_getElem] at h
  rcases Nat.lt_trichotomy i j with h1 | h1 | h1
  · exact absurd e (h i j hi hj h1)
  · exact h1
  · exact absurd e.symm (h j i hj hi h1)
theorem blk_drew {w : World} {g : Nat} {cs : List Value} {T : TypeId} (h : Blk w g cs T) : Blk w.drew g cs T := h
structure Tab (w : World) (B n : Nat) (v : Value) (gs : List Nat) (f : Nat → Nat → Nat) : Prop where
  own : w.ownsRow B 39 1 v gs.length (gs.map (sl0 n))
  row : ∀ i (h : i < gs.length), Blk w gs[i] (tbV n (f i)) 3
  lo : ∀ g ∈ gs, B ≤ g
  dis : gs.Nodup
section
variable {w w' : World} {B n D i j x : Nat} {v v' : Value} {gs : List Nat} {f : Nat → Nat → Nat}
theorem Tab.below (h : Tab w B n v gs f) (hb : Below D w w') (hD : w.heap.size ≤ D) : Tab w' B n v gs f :=
  ⟨own_below h.own hb hD, fun i hi => (h.row i hi).below hb hD, h.lo, h.dis⟩
theorem Tab.drew (h : Tab w B n v gs f) : Tab w.drew B n v gs f := ⟨h.own, h.row, h.lo, h.dis⟩
theorem Tab.drewK {u : Value} {g : Nat} (h : Tab (w.setCell ⟨g, j, none⟩ u) B n v gs f) (k : Nat) : Tab ((w.drewN k).setCell ⟨g, j, none⟩ u) B n v gs f := ⟨h.own, h.row, h.lo, h.dis⟩
theorem Tab.alloc (h : Tab w B n v gs f) (o : Obj) : Tab (w.alloc o) B n v gs f := ⟨h.own.alloc o, fun i hi => (h.row i hi).alloc o, h.lo, h.dis⟩
theorem Tab.other {g : Nat} (h : Tab w B n v gs f) (hg : g < B) (u : Value) : Tab (w.setCell ⟨g, j, none⟩ u) B n v gs f :=
  ⟨own_apart h.own (fun e => by have := (h.own.lt g e).1; omega), fun i hi => (h.row i hi).setCell (fun e => by have := h.lo _ (List.getElem_mem hi); omega) u, h.lo, h.dis⟩
theorem Tab.low {B' : Nat} (h : Tab w B n v gs f) (hb : B' ≤ B) : Tab w B' n v gs f := ⟨own_low h.own hb, h.row, fun g hg => Nat.le_trans hb (h.lo g hg), h.dis⟩
theorem Tab.congr {f' : Nat → Nat → Nat} (h : Tab w B n v gs f) (e : ∀ i j, f i j = f' i j) : Tab w B n v gs f' := by
  have : f = f' := funext fun i => funext fun j => e i j
  rwa [← this]
theorem Tab.inc (h : Tab w B n v gs f) (hi : i < gs.length) (x : Nat) : Tab (w.setCell ⟨gs[i], j, none⟩ (.int .i64 (x : Nat))) B n v gs fun a b => if a = i ∧ b = j then x else f a b := by
  refine ⟨own_apart h.own (own_apartB h.own (h.row i hi) (by decide)), fun k hk => ?_, h.lo, h.dis⟩
  by_cases e : k = i
  · subst e
    have := (h.row k hk).set j (.int .i64 (x : Nat))
    rw [tbV_set] at this
    have e2 : (fun b => if b = j then x else f k b) = fun b => if k = k ∧ b = j then x else f k b := by funext b; simp
    rwa [e2] at this
  · have hne : gs[k] ≠ gs[i] := fun e2 => e (nd_inj1 h.dis hk hi e2)
    have e2 : (fun b => if k = i ∧ b = j then x else f k b) = f k := by funext b; simp [e]
    rw [e2]
    exact (h.row k hk).setCell hne _
theorem Tab.cell {b c : Nat} (h : Tab w B n (.slice (some ⟨b, 0, none⟩) gs.length c) gs f) (hi : i < gs.length) : w.cell? ⟨b, i, none⟩ = some (sl0 n gs[i]) := by
  obtain ⟨u, h1, h2, -⟩ := own_at h.own hi
  rw [h2, ← h1]
  simp [hi]
theorem Tab.val (h : Tab w B n v gs f) (hi : i < gs.length) (hj : j < n) : w.cell? ⟨gs[i], j, none⟩ = some (.int .i64 (f i j : Nat)) := (h.row i hi).cell j _ (tbV_get hj)
theorem Tab.free (h : Tab w B n v gs f) (hi : i < gs.length) : w.frozen? ⟨gs[i], j, none⟩ = false := (h.row i hi).free j
theorem Tab.nil (w : World) (B n : Nat) (f : Nat → Nat → Nat) : Tab w B n (.slice none 0 0) [] f := ⟨World.ownsRow_nil _ _ _ _, fun _ hi => absurd hi (by simp), fun _ hg => absurd hg (by simp), List.nodup_nil⟩
theorem Tab.push {g : Nat} (h : Tab w B n v gs f) (hg : Blk w g (tbV n (f gs.length)) 3) (hB : B ≤ g) (hn : g ∉ gs) (hgr : w.grownBy w' v.ownBlock) (ho : w'.ownsRow B 39 1 v' (gs.length + 1) (gs.map (sl0 n) ++ [sl0 n g])) : Tab w' B n v' (gs ++ [g]) f := by
  refine ⟨ownsRow_cast ho (by simp) (by simp), fun i hi => ?_, fun k hk => ?_, ?_⟩
  · by_cases e : i < gs.length
    · rw [List.getElem_append_left e]
      exact (hgr.block _ (h.row i e).lt (fun e2 => own_apartB h.own (h.row i e) (by decide) e2.symm)).trans (h.row i e)
    · obtain rfl : i = gs.length := by simp at hi; omega
      simp only [List.getElem_append_right (Nat.le_refl _), Nat.sub_self, List.getElem_cons_zero]
      exact (hgr.block _ hg.lt (fun e2 => own_apartB h.own hg (by decide) e2.symm)).trans hg
  · rcases List.mem_append.1 hk with h1 | h1
    · exact h.lo k h1
    · simp at h1; subst h1; exact hB
  · rw [List.nodup_append]
    refine ⟨h.dis, by simp, fun a ha b hb => ?_⟩
    simp at hb
    subst hb
    exact fun e => hn (e ▸ ha)
end
theorem Tab.shape {w : World} {B n : Nat} {v : Value} {gs : List Nat} {f : Nat → Nat → Nat} (h : Tab w B n v gs f) (hgl : gs.length = n) (hn : 1 ≤ n) :
    ∃ b c, v = .slice (some ⟨b, 0, none⟩) n c ∧ ∀ w' f', Tab w' B n v gs f' → ∀ i (hi : i < gs.length), w'.cell? ⟨b, i, none⟩ = some (.slice (some ⟨gs[i], 0, none⟩) n n) := by
  rcases h.own.2 with ⟨-, h0⟩ | ⟨b, c, cur, rfl, -⟩
  · rw [hgl] at h0; omega
  · refine ⟨b, c, by rw [hgl], fun w' f' h' i hi => ?_⟩
    have := h'.cell hi
    exact this
/-- The list of the ends' counts grows pair by pair. -/
theorem row_succ (ps : List (Nat × Nat)) (b a : Nat) : row ps (b + 1) a = row ps b a ++ if 0 < ps.count (a, b) then [(a, b, ps.count (a, b))] else [] := by
  unfold row
  rw [List.range_succ, List.filterMap_append, List.filterMap_cons, List.filterMap_nil]
  congr 1
  by_cases h : 0 < ps.count (a, b)
  · rw [if_pos h, if_pos h]
  · rw [if_neg h, if_neg h]
theorem row_low {ps : List (Nat × Nat)} (h : ∀ x ∈ ps, x.1 ≤ x.2) (a : Nat) : row ps a a = [] := by
  unfold row
  rw [List.filterMap_eq_nil_iff]
  intro b hb
  rw [List.mem_range] at hb
  rw [if_neg]
  intro hc
  have := h _ (List.count_pos_iff.1 hc)
  simp only at this
  omega
def rows (ps : List (Nat × Nat)) (n a : Nat) : List (Nat × Nat × Nat) := (List.range a).flatMap fun i => row ps n i
theorem rows_succ (ps : List (Nat × Nat)) (n a : Nat) : rows ps n (a + 1) = rows ps n a ++ row ps n a := by simp [rows, List.range_succ, List.flatMap_append]
theorem rows_zero (ps : List (Nat × Nat)) (n : Nat) : rows ps n 0 = [] := rfl
theorem rows_all (ps : List (Nat × Nat)) (n : Nat) : rows ps n n = canon n ps := rfl
theorem rows_len (ps : List (Nat × Nat)) (n a b : Nat) : (rows ps n a ++ row ps b a).length ≤ a * n + b := by
  have h1 : ∀ k a, (row ps k a).length ≤ k := fun k a => by
    unfold row
    have := List.length_filterMap_le (fun b => if 0 < ps.count (a, b) then some (a, b, ps.count (a, b)) else none) (List.range k)
    rwa [List.length_range] at this
  rw [List.length_append]
  have h2 := h1 b a
  have h3 : ∀ a, (rows ps n a).length ≤ a * n := by
    intro a
    induction a with
    | zero => simp [rows_zero]
    | succ a ih => rw [rows_succ, List.length_append, Nat.add_mul, Nat.one_mul]; have := h1 n a; omega
  have := h3 a
  omega
end Go.Proofs.YtkkklfikdoibcaaGreatDoor

namespace Go.Proofs.YtkkklfikdoibcaaGreatDoor
open Go.RowKit
set_option maxRecDepth 100000

set_option maxHeartbeats 4000000 in
theorem rTable_any (w : World) (n : Nat) (hn : n ≤ 12) :
    Calls Tryz.prog 188 #[.int .i64 (n : Nat)] w (Rets fun r w' => ∃ gs, gs.length = n ∧ Tab w' w.heap.size n r gs (fun _ _ => 0) ∧ Below w.heap.size w w') := by
  obtain ⟨D, hD⟩ : ∃ D, w.heap.size = D := ⟨_, rfl⟩
  rw [hD]
  have HD := Lib.hid hD
  go_enter Tryz.func188, Tryz.ntmps188
  go_wp2
  go_loopw [3, 4] (fun s i wr => ∃ (k : Nat) (gs : List Nat), k ≤ n ∧ i = .int .i64 k ∧ gs.length = k ∧ Hid (Tab wr D n s gs (fun _ _ => 0)) ∧ Hid (Below D w wr)) (fun _ i _ => n - (intOf i).toNat)
  case atStart => exact ⟨0, [], Nat.zero_le _, rfl, rfl, Lib.hid (Tab.nil _ _ _ _), Lib.hid (by rw [← hD]; exact Below.refl _ _)⟩
  case round =>
    obtain ⟨k, gs, hk, rfl, hgl, hT, hB⟩ := hrel
    obtain ⟨sa, sc, rfl⟩ := own_formK hT.out.own
    rw [hgl] at hT ⊢
    by_cases hkn : k < n
    · obtain ⟨G, hG⟩ : ∃ G, wr.heap.size = G := ⟨_, rfl⟩
      have HG := Lib.hid hG
      have HDG := Lib.hid (show D ≤ G by rw [← hG, ← hD]; exact hB.out.size)
      have HDW := Lib.hid (show D ≤ wr.heap.size by rw [← hD]; exact hB.out.size)
      have HNM := Lib.hid (show G ∉ gs from fun e => by
        obtain ⟨i, hi, e2⟩ := List.getElem_of_mem e
        have := (hT.out.row i hi).lt
        omega)
      have HGL := Lib.hid hgl
      go_wp2_with (first
        | (at_make; refine mkN elemInt rfl _ _ rfl n rfl rfl rfl rfl (by omega) (by unfold maxLen; omega) hB.out HDW.out rfl ?_; intro w2 hown hb2 hb3; have HK2 := Lib.hid (blk_of_own hown); have HT2 := Lib.hid (hT.out.below hb3 (Nat.le_refl _)); have HB2 := Lib.hid hb2; have HS2 := Lib.hid (show D ≤ w2.heap.size by rw [← HD.out]; exact HB2.out.size); clear hown hb2 hb3; rw [HG.out])
        | (at_builtin; refine appMP (w0 := w2) (m := 1) (news := [.slice (some ⟨G, 0, none⟩) n n]) elemII rfl _ _ rfl rfl rfl (ownsRow_cast HT2.out.own HGL.out rfl) HS2.out rfl (by intro u hu; simp at hu; subst hu; rfl) (by omega) (by unfold maxLen; omega) ?_; intro v' w3 hown' hg2; obtain ⟨va, vc, rfl⟩ := own_formK hown'; have HO3 := Lib.hid hown'; have HG3 := Lib.hid hg2; clear hown' hg2))
      go_roundw
      case rel =>
        have hge := own_ge HT2.out.own
        have hk0 := HK2.out
        rw [tbV_zero, HG.out] at hk0
        have ht := (HT2.out.alloc (.cells #[.slice (some ⟨G, 0, none⟩) n n] 39)).push (v' := .slice va (k + 1) vc) (hk0.alloc _) HDG.out HNM.out HG3.out (ownsRow_cast HO3.out (by rw [HGL.out]) rfl)
        exact ⟨k + 1, gs ++ [G], by omega, by go_num, by simp [HGL.out], Lib.hid ht, Lib.hid ((HB2.out.alloc HS2.out _).grown HG3.out (by rw [World.size_alloc]; have := HS2.out; omega) (fun j e => hge j e))⟩
      case measure => simp [intOf]; omega
    · obtain rfl : k = n := by omega
      go_wp2
      go_ret
      exact ⟨_, rfl, gs, hgl, by rw [← hgl] at hT ⊢; exact hT.out, hB.out⟩
end Go.Proofs.YtkkklfikdoibcaaGreatDoor

namespace Go.Proofs.YtkkklfikdoibcaaGreatDoor
open Go.RowKit
set_option maxRecDepth 100000

theorem n3_snoc (l : List (Nat × Nat × Nat)) (a b c : Nat) : ((l ++ [(a, b, c)]).map n3).flatMap e3 = (l.map n3).flatMap e3 ++ [.int .i64 (a : Nat), .int .i64 (b : Nat), .int .i64 (c : Nat)] := by
  rw [List.map_append, List.flatMap_append]
  rfl
set_option maxHeartbeats 4000000 in
theorem rJoined_any (w : World) (n B : Nat) (v : Value) (gs : List Nat) (ps : List (Nat × Nat)) (hT : Tab w B n v gs (fun a b => ps.count (a, b))) (hgl : gs.length = n) (hn1 : 1 ≤ n) (hn : n ≤ 12) (hps : ∀ x ∈ ps, x.1 ≤ x.2) :
    Calls Tryz.prog 189 #[.int .i64 (n : Nat), v] w (Rets fun r w' => ∃ u, r = .agg #[.int .i64 (n : Nat), u] ∧ w'.ownsRow w.heap.size 124 3 u (canon n ps).length (((canon n ps).map n3).flatMap e3) ∧ Below w.heap.size w w') := by
  obtain ⟨vb, vc0, rfl, hsh⟩ := hT.shape hgl hn1
  have HT := Lib.hid hT; have HSH := Lib.hid hsh; have HGL := Lib.hid hgl; have HPS := Lib.hid hps
  obtain ⟨D, hD⟩ : ∃ D, w.heap.size = D := ⟨_, rfl⟩
  obtain ⟨W, hW⟩ : ∃ W, (w.alloc (.cells #[.int .i64 0, .slice none 0 0] 24)).alloc (.cells #[.int .i64 (n : Nat), .slice none 0 0] 24) = W := ⟨_, rfl⟩
  have hWs : W.heap.size = D + 2 := by rw [← hW, ← hD]; simp
  have HR0 := Lib.hid (show Blk W D [.int .i64 0, .slice none 0 0] 24 by rw [← hW, ← hD]; exact (Blk.new w _ _).alloc _)
  have HK0 := Lib.hid (show Blk W (D + 1) [.int .i64 (n : Nat), .slice none 0 0] 24 by rw [← hW, ← hD]; exact Blk.at1 w _ _ _)
  have HB0 := Lib.hid (show Below D w W by rw [← hW, ← hD]; exact ((Below.refl _ w).alloc (Nat.le_refl _) _).alloc (by simp) _)
  have HW := Lib.hid hW; have HD := Lib.hid hD
  have HS0 := Lib.hid (show D + 2 ≤ W.heap.size by omega)
  clear hT hgl hsh hps hW hWs
  go_enter Tryz.func189, Tryz.ntmps189
  go_wp2
  rw [HW.out]
  try rw [hD]
  go_loopw [6] (fun i wr => ∃ (a : Nat) (s : Value), a ≤ n ∧ i = .int .i64 a ∧ Hid (wr.ownsRow (D + 2) 124 3 s (rows ps n a).length (((rows ps n a).map n3).flatMap e3)) ∧ Hid (Blk wr (D + 1) [.int .i64 (n : Nat), s] 24) ∧ Hid (Blk wr D [.int .i64 0, .slice none 0 0] 24) ∧ Hid (Below D w wr) ∧ Hid (D + 2 ≤ wr.heap.size)) (fun i _ => n - (intOf i).toNat)
  case atStart => exact ⟨0, _, Nat.zero_le _, rfl, Lib.hid (World.ownsRow_nil _ _ _ _), HK0, HR0, HB0, HS0⟩
  case round =>
    clear HK0 HR0 HB0 HS0
    obtain ⟨a, s, ha, rfl, hO, hK, hR, hB, hS⟩ := hrel
    by_cases han : a < n
    · go_wp2
      go_loopw [7] (fun j wr => ∃ (b : Nat) (s : Value), a ≤ b ∧ b ≤ n ∧ j = .int .i64 b ∧ Hid (wr.ownsRow (D + 2) 124 3 s (rows ps n a ++ row ps b a).length (((rows ps n a ++ row ps b a).map n3).flatMap e3)) ∧ Hid (Blk wr (D + 1) [.int .i64 (n : Nat), s] 24) ∧ Hid (Blk wr D [.int .i64 0, .slice none 0 0] 24) ∧ Hid (Below D w wr) ∧ Hid (D + 2 ≤ wr.heap.size)) (fun j _ => n - (intOf j).toNat)
      case atStart => exact ⟨a, s, Nat.le_refl _, Nat.le_of_lt han, rfl, Lib.hid (by rw [row_low HPS.out, List.append_nil]; exact hO.out), hK, hR, hB, hS⟩
      case round =>
        clear hO hK hR hB hS s
        obtain ⟨b, s, hab, hb, rfl, hO, hK, hR, hB, hS⟩ := hrel
        by_cases hbn : b < n
        · obtain ⟨K, hKl⟩ : ∃ K, (rows ps n a ++ row ps b a).length = K := ⟨_, rfl⟩
          have hKb := rows_len ps n a b
          have hab2 : a * n ≤ 12 * 12 := Nat.mul_le_mul (by omega) hn
          rw [hKl] at hO hKb
          obtain ⟨sa, sc, rfl⟩ := own_formK hO.out
          have HTW := Lib.hid (HT.out.below hB.out (Nat.le_of_eq hD))
          have hag : a < gs.length := by rw [HGL.out]; exact han
          have t0 := HSH.out wr _ HTW.out a hag
          have t1 := HTW.out.val hag hbn
          obtain ⟨g, hg⟩ : ∃ g, gs[a] = g := ⟨_, rfl⟩
          obtain ⟨C, hC⟩ : ∃ C, ps.count (a, b) = C := ⟨_, rfl⟩
          have HG := Lib.hid hg; have HC := Lib.hid hC
          rw [hg] at t0 t1
          simp only [hC] at t1
          have k0 := hK.out.cell 0 _ rfl; have k1 := hK.out.cell 1 _ rfl; have kl := hK.out.lt; have kf := hK.out.free 1
          have q1 : (0 : Int) ≤ (a : Int) := by omega
          have q2 : (a : Int) < (n : Int) := by omega
          have q3 : (0 : Int) ≤ (b : Int) := by omega
          have q4 : (b : Int) < (n : Int) := by omega
          have HKL := Lib.hid hKl
          by_cases hc0 : 0 < C
          · have hc1 : (0 : Int) < (C : Int) := by omega
            have HROW := Lib.hid (show rows ps n a ++ row ps (b + 1) a = (rows ps n a ++ row ps b a) ++ [(a, b, C)] by rw [row_succ, hC, if_pos hc0, List.append_assoc])
            have hge := own_ge hO.out
            have HOD := Lib.hid (show wr.drew.ownsRow (D + 2) 124 3 (.slice sa K sc) K (((rows ps n a ++ row ps b a).map n3).flatMap e3) from hO.out)
            have HSD := Lib.hid (show D + 2 ≤ wr.drew.heap.size from hS.out)
            have HB1 := Lib.hid (show (K + 1) * 24 ≤ 140737488355328 by omega)
            have HB2 := Lib.hid (show K + 1 ≤ maxLen by unfold maxLen; omega)
            have HTA := HTW.out.drew.alloc (.cells #[.int .i64 (a : Nat), .int .i64 (b : Nat), .int .i64 (C : Nat)] 124)
            have a0 := HSH.out _ _ HTA a hag
            have a1 := HTA.val hag hbn
            rw [hg] at a0 a1
            simp only [hC] at a1
            have HSA := Lib.hid (⟨((blk_drew (cs := [.int .i64 (n : Nat), .slice sa K sc]) hK.out).alloc (.cells #[.int .i64 (a : Nat), .int .i64 (b : Nat), .int .i64 (C : Nat)] 124)).cell 1 _ rfl, a0, a1⟩ : (wr.drew.alloc (.cells #[.int .i64 (a : Nat), .int .i64 (b : Nat), .int .i64 (C : Nat)] 124)).cell? ⟨D + 1, 1, none⟩ = some (.slice sa K sc) ∧ (wr.drew.alloc (.cells #[.int .i64 (a : Nat), .int .i64 (b : Nat), .int .i64 (C : Nat)] 124)).cell? ⟨vb, a, none⟩ = some (.slice (some ⟨g, 0, none⟩) n n) ∧ (wr.drew.alloc (.cells #[.int .i64 (a : Nat), .int .i64 (b : Nat), .int .i64 (C : Nat)] 124)).cell? ⟨g, b, none⟩ = some (.int .i64 (C : Nat)))
            clear HTA a0 a1 hg hC hKb hKl
            go_wp2_with fail
            -- REGION 9
            have hS0 := (⟨k1, t0, t1⟩ : wr.drew.cell? ⟨D + 1, 1, none⟩ = some (.slice sa K sc) ∧ wr.drew.cell? ⟨vb, a, none⟩ = some (.slice (some ⟨g, 0, none⟩) n n) ∧ wr.drew.cell? ⟨g, b, none⟩ = some (.int .i64 (C : Nat)))
            refine wp_regionJ (S := fun w' => w'.cell? ⟨D + 1, 1, none⟩ = some (.slice sa K sc) ∧ w'.cell? ⟨vb, a, none⟩ = some (.slice (some ⟨g, 0, none⟩) n n) ∧ w'.cell? ⟨g, b, none⟩ = some (.int .i64 (C : Nat))) (A := fun i => decide (i < 13)) (by kernel_rfl) ?_
            refine wpAnyJ_take (i := 0) (oi := { dst := some 29, op := .fieldAddr _ (.tmp 5) 1, type := _, pos := _, after := _, guard := _ }) (v := ?_) rfl (by kernel_rfl) (by kernel_rfl) (by kernel_rfl) (early_sat (by kernel_rfl)) (fun _ _ _ h => h) (Or.inl ⟨by rfl, ?_⟩) hS0 ?_
            rotate_left
            · intro wl hSw
              obtain ⟨s0, s1, s2⟩ := hSw
              go_simp
              with_reducible rfl
            simp only [Act.put, List.setIfInBounds_toArray, List.set_cons_zero, List.set_cons_succ]
            refine wpAnyJ_take (i := 1) (oi := { dst := some 30, op := .load _ (.tmp 29), type := _, pos := _, after := _, guard := _ }) (v := ?_) rfl (by kernel_rfl) (by kernel_rfl) (by kernel_rfl) (early_sat (by kernel_rfl)) (fun _ _ _ h => h) (Or.inl ⟨by rfl, ?_⟩) hS0 ?_
            rotate_left
            · intro wl hSw
              obtain ⟨s0, s1, s2⟩ := hSw
              go_simp
              with_reducible rfl
            simp only [Act.put, List.setIfInBounds_toArray, List.set_cons_zero, List.set_cons_succ]
            refine wpAnyJ_take (i := 2) (oi := { dst := some 31, op := .move (.tmp 6), type := _, pos := _, after := _, guard := _ }) (v := ?_) rfl (by kernel_rfl) (by kernel_rfl) (by kernel_rfl) (early_sat (by kernel_rfl)) (fun _ _ _ h => h) (Or.inl ⟨by rfl, ?_⟩) hS0 ?_
            rotate_left
            · intro wl hSw
              obtain ⟨s0, s1, s2⟩ := hSw
              go_simp
              with_reducible rfl
            simp only [Act.put, List.setIfInBounds_toArray, List.set_cons_zero, List.set_cons_succ]
            refine wpAnyJ_take (i := 3) (oi := { dst := some 32, op := .move (.tmp 7), type := _, pos := _, after := _, guard := _ }) (v := ?_) rfl (by kernel_rfl) (by kernel_rfl) (by kernel_rfl) (early_sat (by kernel_rfl)) (fun _ _ _ h => h) (Or.inl ⟨by rfl, ?_⟩) hS0 ?_
            rotate_left
            · intro wl hSw
              obtain ⟨s0, s1, s2⟩ := hSw
              go_simp
              with_reducible rfl
            simp only [Act.put, List.setIfInBounds_toArray, List.set_cons_zero, List.set_cons_succ]
            refine wpAnyJ_take (i := 4) (oi := { dst := some 33, op := .move (.tmp 1), type := _, pos := _, after := _, guard := _ }) (v := ?_) rfl (by kernel_rfl) (by kernel_rfl) (by kernel_rfl) (early_sat (by kernel_rfl)) (fun _ _ _ h => h) (Or.inl ⟨by rfl, ?_⟩) hS0 ?_
            rotate_left
            · intro wl hSw
              obtain ⟨s0, s1, s2⟩ := hSw
              go_simp
              with_reducible rfl
            simp only [Act.put, List.setIfInBounds_toArray, List.set_cons_zero, List.set_cons_succ]
            refine wpAnyJ_take (i := 5) (oi := { dst := some 34, op := .move (.tmp 6), type := _, pos := _, after := _, guard := _ }) (v := ?_) rfl (by kernel_rfl) (by kernel_rfl) (by kernel_rfl) (early_sat (by kernel_rfl)) (fun _ _ _ h => h) (Or.inl ⟨by rfl, ?_⟩) hS0 ?_
            rotate_left
            · intro wl hSw
              obtain ⟨s0, s1, s2⟩ := hSw
              go_simp
              with_reducible rfl
            simp only [Act.put, List.setIfInBounds_toArray, List.set_cons_zero, List.set_cons_succ]
            refine wpAnyJ_take (i := 6) (oi := { dst := some 35, op := .indexAddr _ (.tmp 33) (.tmp 34), type := _, pos := _, after := _, guard := _ }) (v := ?_) rfl (by kernel_rfl) (by kernel_rfl) (by kernel_rfl) (early_sat (by kernel_rfl)) (fun _ _ _ h => h) (Or.inl ⟨by rfl, ?_⟩) hS0 ?_
            rotate_left
            · intro wl hSw
              obtain ⟨s0, s1, s2⟩ := hSw
              go_simp
              with_reducible rfl
            simp only [Act.put, List.setIfInBounds_toArray, List.set_cons_zero, List.set_cons_succ]
            refine wpAnyJ_take (i := 7) (oi := { dst := some 36, op := .load _ (.tmp 35), type := _, pos := _, after := _, guard := _ }) (v := ?_) rfl (by kernel_rfl) (by kernel_rfl) (by kernel_rfl) (early_sat (by kernel_rfl)) (fun _ _ _ h => h) (Or.inl ⟨by rfl, ?_⟩) hS0 ?_
            rotate_left
            · intro wl hSw
              obtain ⟨s0, s1, s2⟩ := hSw
              go_simp
              with_reducible rfl
            simp only [Act.put, List.setIfInBounds_toArray, List.set_cons_zero, List.set_cons_succ]
            refine wpAnyJ_take (i := 8) (oi := { dst := some 37, op := .move (.tmp 7), type := _, pos := _, after := _, guard := _ }) (v := ?_) rfl (by kernel_rfl) (by kernel_rfl) (by kernel_rfl) (early_sat (by kernel_rfl)) (fun _ _ _ h => h) (Or.inl ⟨by rfl, ?_⟩) hS0 ?_
            rotate_left
            · intro wl hSw
              obtain ⟨s0, s1, s2⟩ := hSw
              go_simp
              with_reducible rfl
            simp only [Act.put, List.setIfInBounds_toArray, List.set_cons_zero, List.set_cons_succ]
            refine wpAnyJ_take (i := 9) (oi := { dst := some 38, op := .indexAddr _ (.tmp 36) (.tmp 37), type := _, pos := _, after := _, guard := _ }) (v := ?_) rfl (by kernel_rfl) (by kernel_rfl) (by kernel_rfl) (early_sat (by kernel_rfl)) (fun _ _ _ h => h) (Or.inl ⟨by rfl, ?_⟩) hS0 ?_
            rotate_left
            · intro wl hSw
              obtain ⟨s0, s1, s2⟩ := hSw
              go_simp
              with_reducible rfl
            simp only [Act.put, List.setIfInBounds_toArray, List.set_cons_zero, List.set_cons_succ]
            refine wpAnyJ_take (i := 10) (oi := { dst := some 39, op := .load _ (.tmp 38), type := _, pos := _, after := _, guard := _ }) (v := ?_) rfl (by kernel_rfl) (by kernel_rfl) (by kernel_rfl) (early_sat (by kernel_rfl)) (fun _ _ _ h => h) (Or.inl ⟨by rfl, ?_⟩) hS0 ?_
            rotate_left
            · intro wl hSw
              obtain ⟨s0, s1, s2⟩ := hSw
              go_simp
              with_reducible rfl
            simp only [Act.put, List.setIfInBounds_toArray, List.set_cons_zero, List.set_cons_succ]
            refine wpAnyJ_take (i := 11) (oi := { dst := some 40, op := _, type := _, pos := _, after := _, guard := _ }) (v := ?_) rfl (by kernel_rfl) (by kernel_rfl) (by kernel_rfl) (early_sat (by kernel_rfl)) (fun _ _ _ h => h) (Or.inl ⟨by rfl, ?_⟩) hS0 ?_
            rotate_left
            · intro wl hSw
              obtain ⟨s0, s1, s2⟩ := hSw
              go_simp
              with_reducible rfl
            simp only [Act.put, List.setIfInBounds_toArray, List.set_cons_zero, List.set_cons_succ]
            refine wpAnyJ_only (i := 12) (o := { dst := some 41, op := _, type := _, pos := _, after := _, guard := _ }) (by kernel_rfl) rfl (fun Kx hKK => ?_)
            go_simp
            refine hKK.out _ _ (fun _ => HSA.out) ?_
            try simp only [Act.put, List.setIfInBounds_toArray, List.set_cons_zero, List.set_cons_succ]
            clear hKK Kx
            refine wpAnyJ_only (i := 13) (o := { dst := some 42, op := _, type := _, pos := _, after := _, guard := _ }) (by kernel_rfl) rfl (fun Kx hKK => ?_)
            refine appMG_step (w0 := wr.drew) (m := 1) (news := [.int .i64 (a : Nat), .int .i64 (b : Nat), .int .i64 (C : Nat)]) (base := D + 2) elemEdge rfl (.tmp 30) (.tmp 41) rfl (by rfl) (by rfl) HOD.out HSD.out rfl (e3_one ((a : Int), (b : Int), (C : Int))) HB1.out HB2.out ?_
            intro v' w5 hown' hg' hat'
            obtain ⟨va, vc, rfl⟩ := own_formK hown'
            have HN5 := Lib.hid hown'; have HG5 := Lib.hid hg'
            clear hown' hg' hat'
            have HK5 := Lib.hid (((blk_drew (cs := [.int .i64 (n : Nat), .slice sa K sc]) hK.out).alloc (.cells [.int .i64 (a : Nat), .int .i64 (b : Nat), .int .i64 (C : Nat)].toArray 124)).grown HG5.out (fun e => by have := hge _ e.symm; omega))
            have c5 := HK5.out.cell 1 _ rfl; have f5 := HK5.out.free 1; have l5 := HK5.out.lt
            refine hKK.out _ _ (fun h => absurd h (by decide)) ?_
            try simp only [Act.put, List.setIfInBounds_toArray, List.set_cons_zero, List.set_cons_succ]
            clear hKK Kx
            refine wpAnyJ_only (i := 14) (o := { dst := some 43, op := .fieldAddr _ (.tmp 5) 1, type := _, pos := _, after := _, guard := _ }) (by kernel_rfl) rfl (fun Kx hKK => ?_)
            go_simp
            refine hKK.out _ _ (fun h => absurd h (by decide)) ?_
            try simp only [Act.put, List.setIfInBounds_toArray, List.set_cons_zero, List.set_cons_succ]
            clear hKK Kx
            refine wpAnyJ_only (i := 15) (o := { dst := none, op := .store _ (.tmp 43) (.tmp 42), type := _, pos := _, after := _, guard := _ }) (by kernel_rfl) rfl (fun Kx hKK => ?_)
            go_simp
            refine hKK.out _ _ (fun h => absurd h (by decide)) ?_
            try simp only [Act.put, List.setIfInBounds_toArray, List.set_cons_zero, List.set_cons_succ]
            clear hKK Kx
            refine wpAnyJ_done (by kernel_rfl) ?_ _
            -- BEHIND REGION 9
            clear hS0
            go_wp2
            go_roundw
            case rel =>
              have hgrow := HG5.out
              refine ⟨b + 1, _, by omega, by omega, by go_num, Lib.hid ?_, Lib.hid (HK5.out.set 1 (.slice va (K + 1) vc)), Lib.hid ((((blk_drew (cs := [.int .i64 0, .slice none 0 0]) hR.out).alloc _).grown hgrow (fun e => by have := hge _ e.symm; omega)).setCell (by omega) _), Lib.hid ?_, Lib.hid ?_⟩
              · rw [HROW.out, n3_snoc]
                exact ownsRow_cast (own_off HN5.out (by omega)) (by rw [List.length_append, HKL.out]; rfl) rfl
              · exact ((((hB.out.drew).alloc (show D ≤ wr.drew.heap.size from Nat.le_trans (Nat.le_add_right D 2) hS.out) _).grown hgrow (by rw [World.size_alloc]; exact (show D ≤ wr.heap.size + 1 by have := hS.out; omega)) (fun j e => by have := hge j e; omega)).setCell (show D ≤ D + 1 from Nat.le_succ D) _)
              · have h9 := hgrow.size; rw [World.size_alloc] at h9; have h8 : wr.heap.size + 1 ≤ w5.heap.size := h9; have h7 := hS.out; exact Nat.le_trans (show D + 2 ≤ w5.heap.size by omega) (by simp)
            case measure => simp [intOf]; omega
          · have hc1 : decide ((0 : Int) < (C : Int)) = false := by simp only [decide_eq_false_iff_not]; omega
            have HROW := Lib.hid (show rows ps n a ++ row ps (b + 1) a = rows ps n a ++ row ps b a by rw [row_succ, hC, if_neg hc0, List.append_nil])
            clear hg hC
            go_wp2
            go_roundw
            case rel => exact ⟨b + 1, _, by omega, by omega, by go_num, Lib.hid (by rw [HROW.out, HKL.out]; exact hO.out), hK, hR, hB, hS⟩
            case measure => simp [intOf]; omega
        · obtain rfl : b = n := by omega
          go_wp2
          go_roundw
          case rel => exact ⟨a + 1, s, by omega, by go_num, Lib.hid (by rw [rows_succ]; exact hO.out), hK, hR, hB, hS⟩
          case measure => simp [intOf]; omega
    · obtain rfl : a = n := by omega
      obtain ⟨sa, sc, rfl⟩ := own_formK hO.out
      have k0 := hK.out.cell 0 _ rfl; have k1 := hK.out.cell 1 _ rfl; have kl := hK.out.lt
      have r0 := hR.out.cell 0 _ rfl; have r1 := hR.out.cell 1 _ rfl; have rf0 := hR.out.free 0; have rf1 := hR.out.free 1; have rl := hR.out.lt
      go_wp2
      have hRF := (hR.out.set 0 (.int .i64 (a : Nat))).set 1 (.slice sa (rows ps a a).length sc)
      have y0 := hRF.cell 0 _ rfl; have y1 := hRF.cell 1 _ rfl
      refine bodyPost_ret (v := .agg #[.int .i64 (a : Nat), .slice sa (rows ps a a).length sc]) (by simp [results, Tryz.results189, go_sem, y0, y1]) rfl ⟨_, rfl, .slice sa (rows ps a a).length sc, rfl, ?_, ?_⟩
      · rw [hD]; exact own_low (own_off (own_off hO.out (by omega)) (by omega)) (by omega)
      rw [hD]
      exact (hB.out.setCell (p := ⟨D, 0, none⟩) (Nat.le_refl _) _).setCell (p := ⟨D, 1, none⟩) (Nat.le_refl _) _
end Go.Proofs.YtkkklfikdoibcaaGreatDoor

namespace Go.Proofs.YtkkklfikdoibcaaGreatDoor
open Go.RowKit
set_option maxRecDepth 100000

theorem count_take {ps : List (Nat × Nat)} {k a b : Nat} (h : k < ps.length) (e : ps[k] = (a, b)) (i j : Nat) : (ps.take (k + 1)).count (i, j) = if i = a ∧ j = b then (ps.take k).count (a, b) + 1 else (ps.take k).count (i, j) := by
  rw [List.take_succ_eq_append_getElem h, List.count_append, e, List.count_singleton]
  by_cases h2 : i = a ∧ j = b
  · obtain ⟨rfl, rfl⟩ := h2
    simp
  · rw [if_neg h2]
    have : ¬ (a, b) = (i, j) := fun e => h2 (by simp at e; exact ⟨e.1.symm, e.2.symm⟩)
    simp [this]
set_option maxHeartbeats 4000000 in
theorem rMake_ok (w : World) (n : Nat) (v : Value) (ps : List (Nat × Nat)) (hv : SlK p2 2 w v ps) (hn1 : 1 ≤ n) (hn : n ≤ 12) (hps : ∀ x ∈ ps, x.1 < n ∧ x.2 < n ∧ x.1 ≤ x.2) (hl : ps.length ≤ 4096) (hc : ∀ q, ps.count q ≤ 50) :
    Calls Tryz.prog 147 #[.int .i64 (n : Nat), v] w (Rets fun r w' => ∃ u, r = .tuple #[.agg #[.int .i64 (n : Nat), u], .int .i64 0] ∧ w'.ownsRow w.heap.size 124 3 u (canon n ps).length (((canon n ps).map n3).flatMap e3) ∧ Below w.heap.size w w') := by
  have HV := Lib.hid hv
  obtain ⟨ea, eb, eo, ec, rfl, hi, hp, hcc, hcm⟩ := hv.open elemEnds
  have HPS := Lib.hid hps; have HC := Lib.hid hc; have HP := Lib.hid hp
  obtain ⟨D, hD⟩ : ∃ D, w.heap.size = D := ⟨_, rfl⟩
  obtain ⟨W, hW⟩ : ∃ W, w.alloc (.cells #[.int .i64 0, .slice none 0 0] 24) = W := ⟨_, rfl⟩
  have hWs : W.heap.size = D + 1 := by rw [← hW, ← hD]; simp
  have HR0 := Lib.hid (show Blk W D [.int .i64 0, .slice none 0 0] 24 by rw [← hW, ← hD]; exact Blk.new w _ _)
  have HB0 := Lib.hid (show Below D w W by rw [← hW, ← hD]; exact (Below.refl _ w).alloc (Nat.le_refl _) _)
  have HW := Lib.hid hW; have HWS := Lib.hid hWs
  have d1 : decide ((n : Int) < 1) = false := by simp only [decide_eq_false_iff_not]; omega
  have d2 : decide ((12 : Int) < (n : Int)) = false := by simp only [decide_eq_false_iff_not]; omega
  have d3 : decide ((4096 : Int) < (ps.length : Int)) = false := by simp only [decide_eq_false_iff_not]; omega
  clear hv hps hc hp hW hWs
  go_enter Tryz.func147, Tryz.ntmps147
  go_wp2_with ((go_at_call 188); rw [HW.out]; (with_reducible refine (rTable_any W n hn).mono ?_); rintro e w1 ⟨tv, rfl, gs, hgl, hT, hb⟩; have HT1 := Lib.hid hT; have HB1 := Lib.hid (HB0.out.trans (hb.mono (by have := HWS.out; omega))); have HR1 := Lib.hid (HR0.out.below hb (Nat.le_refl _)); clear hT hb)
  rw [HWS.out] at HT1
  obtain ⟨vb, vc, rfl, hsh⟩ := HT1.out.shape hgl hn1
  have HSH := Lib.hid hsh
  have HT0 := Lib.hid (show Tab w1 (D + 1) n (.slice (some ⟨vb, 0, none⟩) n vc) gs (fun a b => (ps.take 0).count (a, b)) from HT1.out.congr (fun i j => by simp))
  clear hsh HT1
  go_loopw [7] (fun i wr => ∃ k : Nat, k ≤ ps.length ∧ i = .int .i64 k ∧ Hid (Tab wr (D + 1) n (.slice (some ⟨vb, 0, none⟩) n vc) gs (fun a b => (ps.take k).count (a, b))) ∧ Hid (Blk wr D [.int .i64 0, .slice none 0 0] 24) ∧ Hid (Below D w wr)) (fun i _ => ps.length - (intOf i).toNat)
  case atStart => exact ⟨0, Nat.zero_le _, rfl, HT0, HR1, HB1⟩
  case round =>
    clear HT0 HR1 HB1
    obtain ⟨k, hk, rfl, hT, hR, hB⟩ := hrel
    by_cases hkn : k < ps.length
    · obtain ⟨⟨a, b⟩, hx⟩ : ∃ x, ps[k] = x := ⟨_, rfl⟩
      obtain ⟨hxa, hxb, hxab⟩ := HPS.out _ (List.getElem_mem hkn)
      rw [hx] at hxa hxb hxab
      simp only at hxa hxb hxab
      have hlb := HP.out.1 (by omega)
      have a0 : wr.cell? ⟨eb, eo + k * 2, none⟩ = some (.int .i64 (a : Nat)) := by
        have := HP.out.2 k hkn 0 (.int .i64 (a : Nat)) (by rw [hx]; rfl)
        exact (World.cell?_of_block (hB.out.block eb (by omega))).trans this
      have a1 : wr.cell? ⟨eb, eo + k * 2 + 1, none⟩ = some (.int .i64 (b : Nat)) := by
        have := HP.out.2 k hkn 1 (.int .i64 (b : Nat)) (by rw [hx]; rfl)
        exact (World.cell?_of_block (hB.out.block eb (by omega))).trans this
      have hag : a < gs.length := by rw [hgl]; exact hxa
      obtain ⟨C, hC⟩ : ∃ C, (ps.take k).count (a, b) = C := ⟨_, rfl⟩
      have hC50 : C ≤ 50 := by rw [← hC]; exact Nat.le_trans ((List.take_sublist k ps).count_le (a, b)) (HC.out (a, b))
      have t0 := HSH.out wr _ hT.out a hag
      have t1 := hT.out.val hag hxb
      have t2 := hT.out.free (j := b) hag
      obtain ⟨g, hg⟩ : ∃ g, gs[a] = g := ⟨_, rfl⟩
      have HINC := Lib.hid (hT.out.inc (j := b) hag (C + 1))
      rw [hg] at t0 t1 t2 HINC
      have HGG := Lib.hid (hT.out.lo g (by rw [← hg]; exact List.getElem_mem hag))
      simp only [hC] at t1
      have HCT := Lib.hid (fun i j => show (if i = a ∧ j = b then C + 1 else (ps.take k).count (i, j)) = (ps.take (k + 1)).count (i, j) by rw [count_take hkn hx, hC])
      have q1 : (0 : Int) ≤ (a : Int) := by omega
      have q2 : (a : Int) < (n : Int) := by omega
      have q3 : (0 : Int) ≤ (b : Int) := by omega
      have q4 : (b : Int) < (n : Int) := by omega
      have e1 : decide ((a : Int) < 0) = false := by simp only [decide_eq_false_iff_not]; omega
      have e2 : decide ((n : Int) ≤ (a : Int)) = false := by simp only [decide_eq_false_iff_not]; omega
      have e3 : decide ((b : Int) < 0) = false := by simp only [decide_eq_false_iff_not]; omega
      have e4 : decide ((n : Int) ≤ (b : Int)) = false := by simp only [decide_eq_false_iff_not]; omega
      have m1 : min (a : Int) (b : Int) = (a : Int) := by omega
      have m2 : max (a : Int) (b : Int) = (b : Int) := by omega
      have e5 : IntKind.i64.wrap ((C : Int) + 1) = ((C + 1 : Nat) : Int) := by rw [IntKind.wrap_i64]; omega
      clear hx hC hg hxab
      go_wp2_with fail
      go_quiet (fail)
      have HBQ := Lib.hid (below_drewN hB.out nq)
      have HINC := Lib.hid (show Tab ((wr.drewN nq).setCell ⟨g, b, none⟩ (.int .i64 ((C + 1 : Nat) : Int))) (D + 1) n (.slice (some ⟨vb, 0, none⟩) n vc) gs (fun i j => if i = a ∧ j = b then C + 1 else (ps.take k).count (i, j)) from HINC.out.drewK nq)
      have t0 : (wr.drewN nq).cell? ⟨vb, a, none⟩ = some (.slice (some ⟨g, 0, none⟩) n n) := t0
      have t1 : (wr.drewN nq).cell? ⟨g, b, none⟩ = some (.int .i64 (C : Nat)) := t1
      have t2 : (wr.drewN nq).frozen? ⟨g, b, none⟩ = false := t2
      go_wp2
      go_roundw
      case rel => exact ⟨k + 1, by omega, by go_num, Lib.hid (HINC.out.congr HCT.out), Lib.hid ((hR.out.drewN nq).setCell (by have := HGG.out; omega) _), Lib.hid (HBQ.out.setCell (by have := HGG.out; simp only; omega) _)⟩
      case measure => simp [intOf]; omega
    · have HT9 := Lib.hid (show Tab wr (D + 1) n (.slice (some ⟨vb, 0, none⟩) n vc) gs (fun a b => ps.count (a, b)) by have := hT.out; rwa [List.take_of_length_le (by omega)] at this)
      have hnk : decide ((k : Int) < (ps.length : Int)) = false := by simp only [decide_eq_false_iff_not]; omega
      clear hT
      go_wp2
      go_loopw [10] (fun i wq => ∃ a : Nat, a ≤ n ∧ i = .int .i64 a ∧ wq = wr) (fun i _ => n - (intOf i).toNat)
      case atStart => exact ⟨0, Nat.zero_le _, rfl, rfl⟩
      case round =>
        obtain ⟨a, ha, rfl, rfl⟩ := hrel
        by_cases han : a < n
        · go_wp2
          go_loopw [11] (fun i wq => ∃ b : Nat, b ≤ n ∧ i = .int .i64 b ∧ wq = wr) (fun i _ => n - (intOf i).toNat)
          case atStart => exact ⟨0, Nat.zero_le _, rfl, rfl⟩
          case round =>
            obtain ⟨b, hb, rfl, rfl⟩ := hrel
            by_cases hbn : b < n
            · have hag : a < gs.length := by rw [hgl]; exact han
              have t0 := HSH.out _ _ HT9.out a hag
              have t1 := HT9.out.val hag hbn
              obtain ⟨g, hg⟩ : ∃ g, gs[a] = g := ⟨_, rfl⟩
              obtain ⟨C, hC⟩ : ∃ C, ps.count (a, b) = C := ⟨_, rfl⟩
              have hC50 : C ≤ 50 := by rw [← hC]; exact HC.out (a, b)
              rw [hg] at t0 t1
              simp only [hC] at t1
              have q1 : (0 : Int) ≤ (a : Int) := by omega
              have q2 : (a : Int) < (n : Int) := by omega
              have q3 : (0 : Int) ≤ (b : Int) := by omega
              have q4 : (b : Int) < (n : Int) := by omega
              have e1 : decide ((50 : Int) < (C : Int)) = false := by simp only [decide_eq_false_iff_not]; omega
              clear hg hC
              go_wp2
              go_roundw
              case rel => exact ⟨b + 1, by omega, by go_num, trivial⟩
              case measure => simp [intOf]; omega
            · obtain rfl : b = n := by omega
              go_wp2
              go_roundw
              case rel => exact ⟨a + 1, by omega, by go_num, trivial⟩
              case measure => simp [intOf]; omega
        · obtain rfl : a = n := by omega
          have r0 := hR.out.cell 0 _ rfl; have r1 := hR.out.cell 1 _ rfl; have rf0 := hR.out.free 0; have rf1 := hR.out.free 1; have rl := hR.out.lt
          clear hnk
          go_wp2_with ((go_at_call 189); (with_reducible refine (rJoined_any _ a (D + 1) _ gs ps HT9.out hgl hn1 hn (fun x hx => (HPS.out x hx).2.2)).mono ?_); rintro e w3 ⟨v3, rfl, u3, rfl, hs3, hb3⟩; obtain ⟨ua, uc, rfl⟩ := own_formK hs3; have HS3 := Lib.hid hs3; have HR3 := Lib.hid (hR.out.below hb3 (Nat.le_refl _)); have HB3 := Lib.hid (hB.out.trans (hb3.mono (by rw [← hD]; exact hB.out.size))); have r0 := HR3.out.cell 0 _ rfl; have r1 := HR3.out.cell 1 _ rfl; have rf0 := HR3.out.free 0; have rf1 := HR3.out.free 1; have rl := HR3.out.lt; clear hs3 hb3)
          have hRF := (HR3.out.set 0 (.int .i64 (a : Nat))).set 1 (.slice ua (canon a ps).length uc)
          have y0 := hRF.cell 0 _ rfl; have y1 := hRF.cell 1 _ rfl
          have hBF := (HB3.out.setCell (p := ⟨D, 0, none⟩) (Nat.le_refl _) (.int .i64 (a : Nat))).setCell (p := ⟨D, 1, none⟩) (Nat.le_refl _) (.slice ua (canon a ps).length uc)
          rw [← hD] at hBF
          refine bodyPost_ret (v := .tuple #[.agg #[.int .i64 (a : Nat), .slice ua (canon a ps).length uc], .int .i64 0]) (by simp [results, Tryz.results147, go_sem, hD, y0, y1]) rfl ⟨_, rfl, _, rfl, ?_, ?_⟩
          · rw [hD]; exact own_low (own_off (own_off HS3.out (by have := hB.out.size; have := hR.out.lt; omega)) (by have := hR.out.lt; omega)) (by have := hR.out.lt; omega)
          · rw [hD] at hBF ⊢; exact hBF
theorem erase_take {l : List (Nat × Nat)} {k i : Nat} (h : k < l.length) : (l.take (k + 1)).eraseIdx i = if k = i then (l.take k).eraseIdx i else (l.take k).eraseIdx i ++ [l[k]] := by
  have hl : (l.take k).length = k := by simp; omega
  rw [List.take_succ_eq_append_getElem h]
  rcases Nat.lt_trichotomy i k with e | e | e
  · rw [if_neg (by omega), List.eraseIdx_append_of_lt_length (by omega)]
  · subst e
    rw [if_pos rfl, List.eraseIdx_append_of_length_le (by omega), hl, Nat.sub_self]
    rw [List.eraseIdx_of_length_le (l := l.take i) (by omega)]
    simp
  · rw [if_neg (by omega), List.eraseIdx_append_of_length_le (by omega), List.eraseIdx_of_length_le (l := l.take k) (by omega), List.eraseIdx_of_length_le (l := [l[k]]) (by simp; omega)]
set_option maxHeartbeats 4000000 in
theorem rLess_any (w : World) (n : Nat) (v : Value) (es : List (Int × Int × Int)) (ns : List (Nat × Nat × Nat)) (i : Nat) (hv : SlK e3 3 w v (ns.map n3)) (hR : RG (n : Int) es ns) (hi : i < (sgl ns).length) (hl : (sgl ns).length ≤ 4096) :
    Calls Tryz.prog 88 #[.agg #[.int .i64 (n : Nat), v], .int .i64 (i : Nat)] w (Rets fun r w' => ∃ u, r = .agg #[.int .i64 (n : Nat), u] ∧ SlK e3 3 w' u ((lessG n ns i).map n3) ∧ Below w.heap.size w w') := by
  have hm : ∀ x ∈ ns, x.2.2 ≤ 50 := fun x hx => (hR.rng x hx).2.2.2.1
  have hn1 : 1 ≤ n := by have := hR.pos; omega
  have hn : n ≤ 12 := by have := hR.le; omega
  obtain ⟨hL1, hL2, -, -⟩ := less_facts hR i
  have HL1 := Lib.hid hL1; have HL2 := Lib.hid hL2
  have HLE := Lib.hid (show ((sgl ns).eraseIdx i).length ≤ 4096 from Nat.le_trans (List.length_eraseIdx_le _ _) hl)
  have HM := Lib.hid hm; have HV := Lib.hid hv
  have hnl : ns.length ≤ 1000 := rg_len hR
  obtain ⟨ad, c, rfl⟩ := hv.form
  rw [List.length_map] at HV ⊢
  obtain ⟨D, hD⟩ : ∃ D, w.heap.size = D := ⟨_, rfl⟩
  obtain ⟨W, hW⟩ : ∃ W, (w.alloc (.cells #[.int .i64 (n : Nat), .slice ad ns.length c] 24)).alloc (.cells #[.int .i64 0, .slice none 0 0] 24) = W := ⟨_, rfl⟩
  have hWs : W.heap.size = D + 2 := by rw [← hW, ← hD]; simp
  have HK0 := Lib.hid (show Blk W D [.int .i64 (n : Nat), .slice ad ns.length c] 24 by rw [← hW, ← hD]; exact (Blk.new w _ _).alloc _)
  have HR0 := Lib.hid (show Blk W (D + 1) [.int .i64 0, .slice none 0 0] 24 by rw [← hW, ← hD]; exact Blk.at1 w _ _ _)
  have HB0 := Lib.hid (show Below D w W by rw [← hW, ← hD]; exact ((Below.refl _ w).alloc (Nat.le_refl _) _).alloc (by simp) _)
  have HW := Lib.hid hW
  have HV0 := Lib.hid (HV.out.below HB0.out (Nat.le_of_eq hD))
  obtain ⟨SS, hSS⟩ : ∃ SS, sgl ns = SS := ⟨_, rfl⟩
  have HSS := Lib.hid hSS
  rw [hSS] at hi hl HL1 HL2 HLE
  unfold lessG
  rw [hSS]
  have k0 := HK0.out.cell 0 _ rfl; have k1 := HK0.out.cell 1 _ rfl; have kl := HK0.out.lt
  clear hv hR hm hL1 hL2 hW
  go_enter Tryz.func88, Tryz.ntmps88
  go_wp2_with ((go_at_call 145); rw [HW.out]; (with_reducible refine (rEnds_any W (n : Int) _ ns HV0.out HM.out (by omega)).mono ?_); rintro e w1 ⟨v1, rfl, hO, hb⟩; rw [HSS.out] at hO; obtain ⟨a1, c1, rfl⟩ := own_formK hO; have HO := Lib.hid hO; have HB1 := Lib.hid (HB0.out.trans (hb.mono (by omega))); have HK1 := Lib.hid (HK0.out.below hb (Nat.le_refl _)); have HR1 := Lib.hid (HR0.out.below hb (Nat.le_refl _)); have HZ := Lib.hid (show D + 2 ≤ w1.heap.size from by have := hb.size; omega); clear hO hb)
  clear k0 k1 kl HK0 HR0 HB0 HV0 hWs
  have HP0 := Lib.hid (SlK.ofOwns p2_len HO.out rfl)
  go_loopw [6, 7] (fun s j wr => ∃ k : Nat, k ≤ SS.length ∧ j = .int .i64 k ∧ Hid (wr.ownsRow w1.heap.size 100 2 s ((SS.take k).eraseIdx i).length (((SS.take k).eraseIdx i).flatMap p2)) ∧ Hid (Below w1.heap.size w1 wr)) (fun _ j _ => SS.length - (intOf j).toNat)
  case atStart => exact ⟨0, Nat.zero_le _, rfl, Lib.hid (World.ownsRow_nil _ _ _ _), Lib.hid (Below.refl _ _)⟩
  case round =>
    obtain ⟨k, hk, rfl, hO, hB⟩ := hrel
    by_cases hkn : k < SS.length
    · have HER := Lib.hid (erase_take (i := i) hkn)
      by_cases hki : k = i
      · have hne : ((k : Int) != (i : Int)) = false := by simp [hki]
        have HE2 := Lib.hid (show (SS.take (k + 1)).eraseIdx i = (SS.take k).eraseIdx i by rw [HER.out, if_pos hki])
        clear hki
        obtain ⟨sa, sc, rfl⟩ := own_formK hO.out
        go_wp2
        go_roundw
        case rel => exact ⟨k + 1, by omega, by go_num, Lib.hid (by rw [HE2.out]; exact hO.out), hB⟩
        case measure => simp [intOf]; omega
      · have hne : ((k : Int) != (i : Int)) = true := by simp; omega
        obtain ⟨⟨p, q⟩, hx⟩ : ∃ x, SS[k] = x := ⟨_, rfl⟩
        have HE2 := Lib.hid (show (SS.take (k + 1)).eraseIdx i = (SS.take k).eraseIdx i ++ [(p, q)] by rw [HER.out, if_neg hki, hx])
        obtain ⟨ea', b, o, ec', hform, hei, hep, hec, hem⟩ := (HP0.out.below hB.out (Nat.le_refl _)).open elemEnds
        simp only [Value.slice.injEq, true_and] at hform
        obtain ⟨rfl, rfl⟩ := hform
        have a0 : wr.cell? ⟨b, o + k * 2, none⟩ = some (.int .i64 (p : Nat)) := hep.2 k hkn 0 _ (by rw [hx]; rfl)
        have a1 : wr.cell? ⟨b, o + k * 2 + 1, none⟩ = some (.int .i64 (q : Nat)) := hep.2 k hkn 1 _ (by rw [hx]; rfl)
        have hlb := hep.1 (by omega)
        obtain ⟨m, hmm⟩ : ∃ m, ((SS.take k).eraseIdx i).length = m := ⟨_, rfl⟩
        have hm4 : m ≤ 4096 := by rw [← hmm]; have := List.length_eraseIdx_le (SS.take k) i; simp at this; omega
        have HMM := Lib.hid hmm
        rw [hmm] at hO
        obtain ⟨sa, sc, rfl⟩ := own_formK hO.out
        have q1 : (0 : Int) ≤ (k : Int) := by omega
        have q2 : (k : Int) < (SS.length : Int) := by omega
        have hge := own_ge hO.out
        have HSZ := Lib.hid hB.out.size
        clear hki hx hep hmm
        go_wp2_with (at_builtin; refine appMP (w0 := wr) (m := 1) (news := [.int .i64 (p : Nat), .int .i64 (q : Nat)]) elemEnds rfl _ _ rfl rfl rfl hO.out HSZ.out rfl (by intro u hu; simp at hu; rcases hu with rfl | rfl <;> rfl) (by omega) (by unfold maxLen; omega) ?_; intro v' w3 hown' hg2; obtain ⟨va, vc, rfl⟩ := own_formK hown'; have HO3 := Lib.hid hown'; have HG3 := Lib.hid hg2; clear hown' hg2)
        go_roundw
        case rel => exact ⟨k + 1, by omega, by go_num, Lib.hid (by rw [HE2.out, List.flatMap_append]; exact ownsRow_cast HO3.out (by rw [List.length_append, HMM.out]; rfl) rfl), Lib.hid ((hB.out.alloc HSZ.out _).grown HG3.out (by rw [World.size_alloc]; have := HSZ.out; omega) (fun j e => hge j e))⟩
        case measure => simp [intOf]; omega
    · obtain rfl : k = SS.length := by omega
      have HPE := hO
      rw [List.take_length] at HPE
      obtain ⟨sa, sc, rfl⟩ := own_formK HPE.out
      have HPE := Lib.hid (SlK.ofOwns p2_len HPE.out rfl)
      have HK := Lib.hid (HK1.out.below hB.out (Nat.le_refl _))
      have HR := Lib.hid (HR1.out.below hB.out (Nat.le_refl _))
      have HB := Lib.hid (HB1.out.trans (hB.out.mono (by rw [← hD]; exact HB1.out.size)))
      have HSZ := Lib.hid hB.out.size
      have k0 := HK.out.cell 0 _ rfl; have k1 := HK.out.cell 1 _ rfl; have kl := HK.out.lt
      clear hO
      go_wp2_with ((go_at_call 147); (with_reducible refine (rMake_ok _ n _ (SS.eraseIdx i) HPE.out hn1 hn HL1.out HLE.out HL2.out).mono ?_); rintro e w3 ⟨v3, rfl, u3, rfl, hs3, hb3⟩; obtain ⟨ua, uc, rfl⟩ := own_formK hs3; have HS3 := Lib.hid hs3; have HR3 := Lib.hid (HR.out.below hb3 (Nat.le_refl _)); have HB3 := Lib.hid (HB.out.trans (hb3.mono (by rw [← hD]; exact HB.out.size))); have r0 := HR3.out.cell 0 _ rfl; have r1 := HR3.out.cell 1 _ rfl; have rf0 := HR3.out.free 0; have rf1 := HR3.out.free 1; have rl := HR3.out.lt; clear hs3 hb3)
      have hRF := ((HR3.out.set 0 (.int .i64 (n : Nat))).set 1 (.slice ua (canon n (SS.eraseIdx i)).length uc)).alloc (.cells #[.int .i64 (n : Nat), .slice ua (canon n (SS.eraseIdx i)).length uc] 24)
      have y0 := hRF.cell 0 _ rfl; have y1 := hRF.cell 1 _ rfl
      refine bodyPost_ret (v := .agg #[.int .i64 (n : Nat), .slice ua (canon n (SS.eraseIdx i)).length uc]) (by simp [results, Tryz.results88, go_sem, hD, y0, y1]) rfl ⟨_, rfl, .slice ua (canon n (SS.eraseIdx i)).length uc, rfl, ?_, ?_⟩
      · have hz := HZ.out; have hsz := HSZ.out
        exact SlK.ofOwns e3_len ((own_off (own_off HS3.out (by omega)) (by omega)).alloc _) (by rw [List.length_map])
      · rw [hD]
        exact (((HB3.out.setCell (p := ⟨D + 1, 0, none⟩) (Nat.le_succ D) _).setCell (p := ⟨D + 1, 1, none⟩) (Nat.le_succ D) _).alloc (by have h1 := HB3.out.size; simp; omega) _)
end Go.Proofs.YtkkklfikdoibcaaGreatDoor

namespace Go.Proofs.YtkkklfikdoibcaaGreatDoor
open Go.RowKit
set_option maxRecDepth 100000

theorem no_str (x y : Int) (a : Option Addr) (n c : Nat) : ∀ (j : Nat) (s : ByteArray), [Value.int .i64 x, .int .i64 y, .slice a n c][j]? ≠ some (.string s) := by
  intro j s
  match j with
  | 0 => simp
  | 1 => simp
  | 2 => simp
  | j + 3 => simp
theorem sl3_off {w : World} {g : Nat} {v : Value} {xs : List ByteArray} {T : TypeId} {x y : Int} {a : Option Addr} {n c : Nat} (h : Sl eS w v xs) (hk : Blk w g [.int .i64 x, .int .i64 y, .slice a n c] T) (u1 u2 : Int) (a' : Option Addr) (n' c' : Nat) :
    Sl eS (((w.setCell ⟨g, 0, none⟩ (.int .i64 u1)).setCell ⟨g, 1, none⟩ (.int .i64 u2)).setCell ⟨g, 2, none⟩ (.slice a' n' c')) v xs :=
  ((h.off hk (no_str _ _ _ _ _) 0 _).off (hk.set 0 (.int .i64 u1)) (no_str _ _ _ _ _) 1 _).off ((hk.set 0 (.int .i64 u1)).set 1 (.int .i64 u2)) (no_str _ _ _ _ _) 2 _
theorem sl_of_blk2 {w : World} {p : Nat} {s t : ByteArray} {e : TypeId} (h : Blk w p [.string s, .string t] e) : Sl eS w (.slice (some ⟨p, 0, none⟩) 2 2) [s, t] :=
  Sl.ofOwns (base := 0) (e := e) (n := 2) ⟨rfl, .inr ⟨p, 2, #[.string s, .string t], rfl, Nat.zero_le _, h, by omega, by unfold maxLen; omega, rfl, rfl⟩⟩
def pairA : Mat := fun _ k => if k = 0 then 1 else -1
def pairB (x y : Int) : Mat := fun i _ => if i = 0 then x else y
theorem pairA_cells : cellsF 1 2 pairA = [txt 1, txt (-1)] := rfl
theorem pairB_cells (x y : Int) : cellsF 2 1 (pairB x y) = [txt x, txt y] := rfl
theorem pair_mul (x y : Int) : cellsF 1 1 (mulM 2 pairA (pairB x y)) = [txt (x - y)] := by
  have : mulM 2 pairA (pairB x y) = fun _ _ => x - y := by
    funext i k
    simp [mulM, sm, pairA, pairB]
    omega
  rw [this]; rfl
set_option maxHeartbeats 4000000 in
theorem rWith_any (w : World) (n : Int) (v : Value) (es : List (Int × Int × Int)) (e : Int) (hv : SlK e3 3 w v es) (h6 : chkG n es = 0 → n ≤ 7 ∧ (sgl (nsOf es)).length ≤ 4096) :
    Calls Tryz.prog 27 #[.agg #[.int .i64 n, v], .int .i64 e] w (Rets fun r w' => r = .tuple #[.string (withS n es e).1, .int .i64 (withS n es e).2] ∧ Below w.heap.size w w') := by
  have HV := Lib.hid hv
  obtain ⟨ad, c, rfl⟩ := hv.form
  have HK := Lib.hid (Blk.new w [.int .i64 n, .slice ad es.length c] 24)
  have q0 := (Below.refl w.heap.size w).alloc (Nat.le_refl _) (.cells #[.int .i64 n, .slice ad es.length c] 24)
  have HV1 := Lib.hid (HV.out.below q0 (Nat.le_refl _))
  clear hv
  by_cases h : chkG n es = 0
  rotate_left
  · have hne : (chkG n es != 0) = true := by simp [h]
    have HX := Lib.hid (show withS n es e = (⟨#[]⟩, chkG n es) by unfold withS; rw [if_neg h])
    rw [HX.out]
    clear h h6
    go_enter Tryz.func27, Tryz.ntmps27
    go_wp2_with ((go_at_call 69); (with_reducible refine (rGCheck_any _ n _ es HV1.out).mono ?_); rintro e w1 ⟨v1, rfl, rfl, hb1⟩; have q1 := q0.trans (hb1.mono q0.size); clear hb1)
    go_ret2
    exact ⟨_, rfl, rfl, q1⟩
  obtain ⟨h7, hsl2⟩ := h6 h
  obtain ⟨ns, hRG⟩ := rg_of h
  obtain ⟨N, rfl⟩ : ∃ N : Nat, n = (N : Int) := ⟨n.toNat, by have := hRG.pos; omega⟩
  have hes := hRG.eq
  subst hes
  have H := Lib.hid h; have HG := Lib.hid hRG
  have hnl : (ns.map n3).length = ns.length := List.length_map _
  rw [hnl] at HV HK q0 HV1 ⊢
  rw [nsOf_n3] at hsl2
  have hm : ∀ x ∈ ns, x.2.2 ≤ 50 := fun x hx => (hRG.rng x hx).2.2.2.1
  have HM := Lib.hid hm
  have hl : ns.length ≤ 1000 := rg_len hRG
  obtain ⟨L, hL⟩ : ∃ L, (sgl ns).length = L := ⟨_, rfl⟩
  have HL := Lib.hid hL
  have HSZ := Lib.hid (fun (W : World) (h1 : SlK e3 3 W (.slice ad ns.length c) (ns.map n3)) => show Calls Tryz.prog 86 #[.agg #[.int .i64 (N : Nat), .slice ad ns.length c]] W (Rets fun r w' => r = .int .i64 (L : Nat) ∧ Below W.heap.size W w') from by rw [← hL]; exact rSize_any W (N : Int) _ ns h1 hm (by omega))
  by_cases hr : 0 ≤ e ∧ e < (L : Int)
  rotate_left
  · have HX := Lib.hid (show withS N (ns.map n3) e = (⟨#[]⟩, 2) by unfold withS; rw [if_pos h, nsOf_n3, hL, if_neg hr])
    rw [HX.out]
    by_cases h0 : e < 0
    · clear h h6 hr hRG
      go_enter Tryz.func27, Tryz.ntmps27
      go_wp2_with ((go_at_call 69); (with_reducible refine (rGCheck_any _ (N : Int) _ (ns.map n3) HV1.out).mono ?_); rintro e w1 ⟨v1, rfl, rfl, hb1⟩; rw [H.out]; have q1 := q0.trans (hb1.mono q0.size); have HK1 := Lib.hid (HK.out.below hb1 (Nat.le_refl _)); have g0 := HK1.out.cell 0 _ rfl; have g1 := HK1.out.cell 1 _ rfl; have gl := HK1.out.lt; clear hb1)
      go_ret2
      exact ⟨_, rfl, rfl, q1⟩
    · have h1 : decide ((L : Int) ≤ e) = true := by simp only [decide_eq_true_eq]; omega
      have h2 : decide (e < 0) = false := by simp only [decide_eq_false_iff_not]; exact h0
      clear h h6 hr hRG
      go_enter Tryz.func27, Tryz.ntmps27
      go_wp2_with (first
        | (go_at_call 86; (with_reducible refine (HSZ.out _ (HV.out.below q1 (Nat.le_refl _))).mono ?_); rintro e w2 ⟨v2, rfl, rfl, hb2⟩; have q2 := q1.trans (hb2.mono q1.size); clear hb2)
        | (go_at_call 69; (with_reducible refine (rGCheck_any _ (N : Int) _ (ns.map n3) HV1.out).mono ?_); rintro e w1 ⟨v1, rfl, rfl, hb1⟩; rw [H.out]; have q1 := q0.trans (hb1.mono q0.size); have HK1 := Lib.hid (HK.out.below hb1 (Nat.le_refl _)); have g0 := HK1.out.cell 0 _ rfl; have g1 := HK1.out.cell 1 _ rfl; have gl := HK1.out.lt; clear hb1))
      go_ret2
      exact ⟨_, rfl, rfl, q2⟩
  obtain ⟨hr0, hr1⟩ := hr
  obtain ⟨i, rfl⟩ : ∃ i : Nat, e = (i : Int) := ⟨e.toNat, by omega⟩
  have hil : i < (sgl ns).length := by omega
  have HX := Lib.hid (show withS N (ns.map n3) (i : Int) = (txt (cofL N ns 0 0 - cofL N (lessG N ns i) 0 0), 0) by unfold withS; rw [if_pos h, nsOf_n3, hL, if_pos ⟨hr0, hr1⟩]; rfl)
  rw [HX.out]
  obtain ⟨hl1, hl2, hl3, hl4⟩ := less_facts hRG i
  obtain ⟨ms, hms⟩ := rg_of hl3
  have hmm : ms = lessG N ns i := by have := hms.nsOf; rw [nsOf_n3] at this; exact this.symm
  subst hmm
  obtain ⟨z1, hz1⟩ : ∃ z, cofL N ns 0 0 = z := ⟨_, rfl⟩
  obtain ⟨z2, hz2⟩ : ∃ z, cofL N (lessG N ns i) 0 0 = z := ⟨_, rfl⟩
  have hd1 : dn z1 ≤ 1000 := by rw [← hz1]; exact dn_cof hm hl (by omega)
  have hd2 : dn z2 ≤ 1000 := by rw [← hz2]; exact dn_cof (fun x hx => (hms.rng x hx).2.2.2.1) (by omega) (by omega)
  have HC1 := Lib.hid (fun (W : World) (h1 : SlK e3 3 W (.slice ad ns.length c) (ns.map n3)) => show Calls Tryz.prog 80 #[.agg #[.int .i64 (N : Nat), .slice ad ns.length c]] W (Rets fun r w' => r = .string (txt z1) ∧ Below W.heap.size W w') from by rw [← hz1]; exact rCounted_any W N _ (ns.map n3) ns h1 hRG)
  have HC2 := Lib.hid (fun (W : World) (u : Value) (h1 : SlK e3 3 W u ((lessG N ns i).map n3)) => show Calls Tryz.prog 80 #[.agg #[.int .i64 (N : Nat), u]] W (Rets fun r w' => r = .string (txt z2) ∧ Below W.heap.size W w') from by rw [← hz2]; exact rCounted_any W N _ ((lessG N ns i).map n3) (lessG N ns i) h1 hms)
  have HLS := Lib.hid (fun (W : World) (h1 : SlK e3 3 W (.slice ad ns.length c) (ns.map n3)) => rLess_any W N _ (ns.map n3) ns i h1 hRG hil hsl2)
  have HTM := Lib.hid (fun (W : World) (u u' : Value) (hs : Sl eS W u [txt 1, txt (-1)]) (hs' : Sl eS W u' [txt z1, txt z2]) => show Calls Tryz.prog 89 #[.agg #[.int .i64 1, .int .i64 2, u], .agg #[.int .i64 2, .int .i64 1, u']] W (Rets fun v' w' => ∃ u, v' = .agg #[.int .i64 1, .int .i64 1, u] ∧ Sl eS w' u [txt (z1 - z2)] ∧ Below W.heap.size W w') from by
    have := rTimes3_any W u u' _ _ 1 2 1 pairA (pairB z1 z2) hs hs' rfl rfl (by omega) (by omega) (by omega) (fun i k _ _ => by
      unfold pairA
      split
      · exact Nat.le_trans (dn_six (z := 1) (by omega)) (by omega)
      · exact Nat.le_trans (dn_six (z := -1) (by omega)) (by omega)) (fun i k _ _ => by unfold pairB; split <;> assumption)
    rw [pair_mul] at this
    exact this)
  rw [hz1, hz2]
  obtain ⟨T1, hT1⟩ : ∃ T, txt z1 = T := ⟨_, rfl⟩
  obtain ⟨T2, hT2⟩ : ∃ T, txt z2 = T := ⟨_, rfl⟩
  obtain ⟨T, hT⟩ : ∃ T, txt (z1 - z2) = T := ⟨_, rfl⟩
  rw [hT1] at HC1
  rw [hT2] at HC2
  rw [hT1, hT2, hT] at HTM
  rw [hT]
  have L1 := Lib.hid (fun (w1 : World) (e : TypeId) => show Sl eZ (w1.alloc (.cells #[.int .i64 1, .int .i64 (-1)] e)) (.slice (some ⟨w1.heap.size, 0, none⟩) 2 2) [1, -1] from Sl.lit eZ w1 [1, -1] e (by simp))
  have HOF := Lib.hid (fun (W : World) (u : Value) (hs : Sl eZ W u [1, -1]) => show Calls Tryz.prog 87 #[.int .i64 1, .int .i64 2, u] W (Rets fun v' w' => ∃ u, v' = .agg #[.int .i64 1, .int .i64 2, u] ∧ Sl eS w' u [txt 1, txt (-1)] ∧ Below W.heap.size W w') from rMOf_any W 1 2 u [1, -1] hs (by simp) (by simp))
  have A0 := Lib.hid (fun (w1 : World) (o : Obj) => (Below.refl w1.heap.size w1).alloc (Nat.le_refl _) o)
  have h2 : decide ((i : Int) < 0) = false := by simp only [decide_eq_false_iff_not]; omega
  have h3 : decide ((L : Int) ≤ (i : Int)) = false := by simp only [decide_eq_false_iff_not]; omega
  have h4 : decide (L ≤ i) = false := by simp only [decide_eq_false_iff_not]; omega
  have hfl := field_cells
  clear h h6 hr0 hr1 hRG hms hl1 hl2 hl3 hl4 hz1 hz2 hd1 hd2 hT1 hT2 hT hm hil hL
  go_enter Tryz.func27, Tryz.ntmps27
  go_wp2_with (first
    | (go_at_call 87; (with_reducible refine (HOF.out _ _ (L1.out _ _)).mono ?_); rintro e w3 ⟨v3, rfl, u3, rfl, hs3, hb3⟩; obtain ⟨a3, c3, rfl⟩ : ∃ a c, u3 = .slice a 2 c := sl_form hs3; have HU3 := Lib.hid hs3; have HB3 := Lib.hid (HB2.out.trans (((A0.out _ _).trans (hb3.mono (by simp))).mono HB2.out.size)); have HK3 := Lib.hid (HK2.out.below ((A0.out _ _).trans (hb3.mono (by simp))) (Nat.le_refl _)); clear hs3 hb3)
    | (go_at_call 86; (with_reducible refine (HSZ.out _ (HV.out.below q1 (Nat.le_refl _))).mono ?_); rintro e w2 ⟨v2, rfl, rfl, hb2⟩; have HB2 := Lib.hid (q1.trans (hb2.mono q1.size)); have HK2 := Lib.hid (HK1.out.below hb2 (Nat.le_refl _)); clear hb2)
    | (go_at_call 69; (with_reducible refine (rGCheck_any _ (N : Int) _ (ns.map n3) HV1.out).mono ?_); rintro e w1 ⟨v1, rfl, rfl, hb1⟩; rw [H.out]; have q1 := q0.trans (hb1.mono q0.size); have HK1 := Lib.hid (HK.out.below hb1 (Nat.le_refl _)); have g0 := HK1.out.cell 0 _ rfl; have g1 := HK1.out.cell 1 _ rfl; have gl := HK1.out.lt; clear hb1))
  obtain ⟨D, hD⟩ : ∃ D, w.heap.size = D := ⟨_, rfl⟩
  have HD := Lib.hid hD
  obtain ⟨m7, hm7⟩ : ∃ m7, w3.heap.size = m7 := ⟨_, rfl⟩
  obtain ⟨w4, hw4⟩ : ∃ w4, w3.alloc (.cells #[.int .i64 1, .int .i64 2, .slice a3 2 c3] 29) = w4 := ⟨_, rfl⟩
  have HK4 := Lib.hid (show Blk w4 D [.int .i64 (N : Nat), .slice ad ns.length c] 24 by rw [← hw4, ← hD]; exact HK3.out.alloc _)
  have HM4 := Lib.hid (show Blk w4 m7 [.int .i64 1, .int .i64 2, .slice a3 2 c3] 29 by rw [← hw4, ← hm7]; exact Blk.new w3 _ _)
  have HU4 := Lib.hid (show Sl eS w4 (.slice a3 2 c3) [txt 1, txt (-1)] by rw [← hw4]; exact HU3.out.below (A0.out _ _) (Nat.le_refl _))
  have HB4 := Lib.hid (show Below D w w4 by rw [← hw4, ← hD]; exact HB3.out.alloc HB3.out.size _)
  have HMT := HM4.out.lt
  rw [hw4, hm7]
  clear g0 g1 gl q0 q1 hw4 hm7 HK HK1 HK2 HK3 HU3 HB2 HB3 HV1
  try rw [hD]
  go_cut [8] (fun p8 wx => ∃ g p, p8 = .pointer (some ⟨g, 0, none⟩) ∧ True ∧ Hid (Blk wx g [.int .i64 2, .int .i64 1, .slice (some ⟨p, 0, none⟩) 2 2] 29) ∧ Hid (Blk wx p [.string T1, .string T2] 48) ∧ Hid (Blk wx m7 [.int .i64 1, .int .i64 2, .slice a3 2 c3] 29) ∧ Hid (Sl eS wx (.slice a3 2 c3) [txt 1, txt (-1)]) ∧ Hid (Below D w wx))
  case first =>
    -- REGION 7
    refine wp_regionJ (S := fun w' => w'.cell? ⟨D, 0, none⟩ = some (.int .i64 (N : Nat)) ∧ w'.cell? ⟨D, 1, none⟩ = some (.slice ad ns.length c)) (A := fun _ => true) (by kernel_rfl) ?_
    have hDw := HK4.out.lt
    have HK := Lib.hid (blk_drew (cs := [.int .i64 (N : Nat), .slice ad ns.length c]) HK4.out); have HM := Lib.hid (blk_drew (cs := [.int .i64 1, .int .i64 2, .slice a3 2 c3]) HM4.out); have HU := Lib.hid (HU4.out.below ((Below.refl w4.heap.size w4).drew) (Nat.le_refl _)); have HB := Lib.hid (HB4.out.drew)
    obtain ⟨E, hE⟩ : ∃ E, w4.heap.size = E := ⟨_, rfl⟩
    obtain ⟨v0, hv0⟩ : ∃ x, w4.drew = x := ⟨_, rfl⟩
    have HSv0 := Lib.hid (show E ≤ v0.heap.size by rw [← hE, ← hv0]; exact Nat.le_refl _)
    rw [hE] at hDw HMT
    rw [hv0] at HK HM HU HB ⊢
    clear hE hv0 HK4 HM4 HU4 HB4
    have hS := (⟨HK.out.cell 0 _ rfl, HK.out.cell 1 _ rfl⟩ : v0.cell? ⟨D, 0, none⟩ = some (.int .i64 (N : Nat)) ∧ v0.cell? ⟨D, 1, none⟩ = some (.slice ad ns.length c))
    refine wpAnyJ_take (i := 0) (oi := { dst := some 24, op := .load _ (.tmp 2), type := _, pos := _, after := _, guard := _ }) (v := ?_) rfl (by kernel_rfl) (by kernel_rfl) (by kernel_rfl) (early_sat (by kernel_rfl)) (fun _ _ _ h => h) (Or.inl ⟨by rfl, ?_⟩) hS ?_
    rotate_left
    · intro wl hSw
      obtain ⟨s0, s1⟩ := hSw
      go_simp
      with_reducible rfl
    simp only [Act.put, List.setIfInBounds_toArray, List.set_cons_zero, List.set_cons_succ]
    refine wpAnyJ_take (i := 2) (oi := { dst := some 26, op := .load _ (.tmp 2), type := _, pos := _, after := _, guard := _ }) (v := ?_) rfl (by kernel_rfl) (by kernel_rfl) (by kernel_rfl) (early_sat (by kernel_rfl)) (fun _ _ _ h => h) (Or.inl ⟨by rfl, ?_⟩) hS ?_
    rotate_left
    · intro wl hSw
      obtain ⟨s0, s1⟩ := hSw
      go_simp
      with_reducible rfl
    simp only [Act.put, List.setIfInBounds_toArray, List.set_cons_zero, List.set_cons_succ]
    refine wpAnyJ_take (i := 3) (oi := { dst := some 27, op := .move (.tmp 1), type := _, pos := _, after := _, guard := _ }) (v := ?_) rfl (by kernel_rfl) (by kernel_rfl) (by kernel_rfl) (early_sat (by kernel_rfl)) (fun _ _ _ h => h) (Or.inl ⟨by rfl, ?_⟩) hS ?_
    rotate_left
    · intro wl hSw
      obtain ⟨s0, s1⟩ := hSw
      go_simp
      with_reducible rfl
    simp only [Act.put, List.setIfInBounds_toArray, List.set_cons_zero, List.set_cons_succ]
    refine wpAnyJ_twoF (i := 1) (j := 8) (o := { dst := some 25, op := _, type := _, pos := _, after := _, guard := _ }) (o' := { dst := some 8, op := _, type := _, pos := _, after := _, guard := _ }) (by kernel_rfl) rfl rfl (fun K hK => ?_) (fun K hK => ?_)
    · go_simp
      refine (HC1.out v0 (HV.out.below HB.out (Nat.le_of_eq hD))).mono ?_
      rintro e5 v1 ⟨v5, rfl, rfl, hb⟩
      have HK := Lib.hid (HK.out.below hb (Nat.le_refl _)); have HM := Lib.hid (HM.out.below hb (Nat.le_refl _)); have HU := Lib.hid (HU.out.below hb (Nat.le_refl _)); have HB := Lib.hid (HB.out.trans (hb.mono (by rw [← hD]; exact HB.out.size)))
      have HSv1 := Lib.hid (show E ≤ v1.heap.size from Nat.le_trans HSv0.out hb.size)
      have hS := (⟨HK.out.cell 0 _ rfl, HK.out.cell 1 _ rfl⟩ : v1.cell? ⟨D, 0, none⟩ = some (.int .i64 (N : Nat)) ∧ v1.cell? ⟨D, 1, none⟩ = some (.slice ad ns.length c))
      clear hb
      refine hK.out _ _ (fun _ => hS) ?_
      try simp only [Act.put, List.setIfInBounds_toArray, List.set_cons_zero, List.set_cons_succ]
      clear hK K
      refine wpAnyJ_twoF (i := 4) (j := 8) (o := { dst := some 28, op := _, type := _, pos := _, after := _, guard := _ }) (o' := { dst := some 8, op := _, type := _, pos := _, after := _, guard := _ }) (by kernel_rfl) rfl rfl (fun K hK => ?_) (fun K hK => ?_)
      · go_simp
        refine (HLS.out v1 (HV.out.below HB.out (Nat.le_of_eq hD))).mono ?_
        rintro e5 v2 ⟨v5, rfl, u5, rfl, hs, hb⟩
        obtain ⟨la, lc, rfl⟩ := hs.form
        rw [List.length_map] at hs
        try rw [List.length_map]
        have HK := Lib.hid (HK.out.below hb (Nat.le_refl _)); have HM := Lib.hid (HM.out.below hb (Nat.le_refl _)); have HU := Lib.hid (HU.out.below hb (Nat.le_refl _)); have HB := Lib.hid (HB.out.trans (hb.mono (by rw [← hD]; exact HB.out.size)))
        have HV2 := Lib.hid hs
        clear hs
        have HSv2 := Lib.hid (show E ≤ v2.heap.size from Nat.le_trans HSv1.out hb.size)
        have hS := (⟨HK.out.cell 0 _ rfl, HK.out.cell 1 _ rfl⟩ : v2.cell? ⟨D, 0, none⟩ = some (.int .i64 (N : Nat)) ∧ v2.cell? ⟨D, 1, none⟩ = some (.slice ad ns.length c))
        clear hb
        refine hK.out _ _ (fun _ => hS) ?_
        try simp only [Act.put, List.setIfInBounds_toArray, List.set_cons_zero, List.set_cons_succ]
        clear hK K
        refine wpAnyJ_twoF (i := 5) (j := 8) (o := { dst := some 29, op := _, type := _, pos := _, after := _, guard := _ }) (o' := { dst := some 8, op := _, type := _, pos := _, after := _, guard := _ }) (by kernel_rfl) rfl rfl (fun K hK => ?_) (fun K hK => ?_)
        · go_simp
          refine (HC2.out v2 _ HV2.out).mono ?_
          rintro e5 v3 ⟨v5, rfl, rfl, hb⟩
          have HK := Lib.hid (HK.out.below hb (Nat.le_refl _)); have HM := Lib.hid (HM.out.below hb (Nat.le_refl _)); have HU := Lib.hid (HU.out.below hb (Nat.le_refl _)); have HB := Lib.hid (HB.out.trans (hb.mono (by rw [← hD]; exact HB.out.size)))
          have HSv3 := Lib.hid (show E ≤ v3.heap.size from Nat.le_trans HSv2.out hb.size)
          have hS := (⟨HK.out.cell 0 _ rfl, HK.out.cell 1 _ rfl⟩ : v3.cell? ⟨D, 0, none⟩ = some (.int .i64 (N : Nat)) ∧ v3.cell? ⟨D, 1, none⟩ = some (.slice ad ns.length c))
          clear hb
          refine hK.out _ _ (fun _ => hS) ?_
          try simp only [Act.put, List.setIfInBounds_toArray, List.set_cons_zero, List.set_cons_succ]
          clear hK K
          refine wpAnyJ_twoF (i := 6) (j := 8) (o := { dst := some 30, op := _, type := _, pos := _, after := _, guard := _ }) (o' := { dst := some 8, op := _, type := _, pos := _, after := _, guard := _ }) (by kernel_rfl) rfl rfl (fun K hK => ?_) (fun K hK => ?_)
          · go_simp
            have hb := (Below.refl v3.heap.size v3).alloc (Nat.le_refl _) (.cells #[.string T1, .string T2] 48)
            have HK := Lib.hid (HK.out.below hb (Nat.le_refl _)); have HM := Lib.hid (HM.out.below hb (Nat.le_refl _)); have HU := Lib.hid (HU.out.below hb (Nat.le_refl _)); have HB := Lib.hid (HB.out.trans (hb.mono (by rw [← hD]; exact HB.out.size)))
            have HP := Lib.hid (Blk.new v3 [.string T1, .string T2] 48); have HPL := Lib.hid (show D < v3.heap.size from Nat.lt_of_lt_of_le hDw HSv3.out)
            obtain ⟨p, hg⟩ : ∃ g, v3.heap.size = g := ⟨_, rfl⟩
            obtain ⟨v4, hv⟩ : ∃ x, v3.alloc (.cells #[.string T1, .string T2] 48) = x := ⟨_, rfl⟩
            have HSv4 := Lib.hid (show E ≤ v4.heap.size from Nat.le_trans HSv3.out (by rw [← hv]; exact hb.size))
            change Hid (Blk (v3.alloc (.cells #[.string T1, .string T2] 48)) v3.heap.size [.string T1, .string T2] 48) at HP
            have HPE := Lib.hid (show E ≤ v3.heap.size from HSv3.out)
            rw [hv, hg] at HP
            rw [hg] at HPL HPE ⊢
            rw [hv] at HK HM HU HB ⊢
            have hS := (⟨HK.out.cell 0 _ rfl, HK.out.cell 1 _ rfl⟩ : v4.cell? ⟨D, 0, none⟩ = some (.int .i64 (N : Nat)) ∧ v4.cell? ⟨D, 1, none⟩ = some (.slice ad ns.length c))
            clear hb hg hv
            refine hK.out _ _ (fun _ => hS) ?_
            try simp only [Act.put, List.setIfInBounds_toArray, List.set_cons_zero, List.set_cons_succ]
            clear hK K
            refine wpAnyJ_take (i := 7) (oi := { dst := some 31, op := _, type := _, pos := _, after := _, guard := _ }) (v := ?_) rfl (by kernel_rfl) (by kernel_rfl) (by kernel_rfl) (early_sat (by kernel_rfl)) (fun _ _ _ h => h) (Or.inl ⟨by rfl, ?_⟩) hS ?_
            rotate_left
            · intro wl hSw
              obtain ⟨s0, s1⟩ := hSw
              go_simp
              with_reducible rfl
            simp only [Act.put, List.setIfInBounds_toArray, List.set_cons_zero, List.set_cons_succ]
            refine wpAnyJ_only (i := 8) (o := { dst := some 8, op := _, type := _, pos := _, after := _, guard := _ }) (by kernel_rfl) rfl (fun K hK => ?_)
            go_simp
            have HPb := HP
            have hb := (Below.refl v4.heap.size v4).alloc (Nat.le_refl _) (.cells #[.int .i64 0, .int .i64 0, .slice none 0 0] 29)
            have HK := Lib.hid (HK.out.below hb (Nat.le_refl _)); have HM := Lib.hid (HM.out.below hb (Nat.le_refl _)); have HU := Lib.hid (HU.out.below hb (Nat.le_refl _)); have HP := Lib.hid (HP.out.below hb (Nat.le_refl _)); have HB := Lib.hid (HB.out.trans (hb.mono (by rw [← hD]; exact HB.out.size)))
            have HG := Lib.hid (Blk.new v4 [.int .i64 0, .int .i64 0, .slice none 0 0] 29); have HGL := Lib.hid (show D < v4.heap.size from Nat.lt_of_lt_of_le hDw HSv4.out)
            obtain ⟨g, hg⟩ : ∃ g, v4.heap.size = g := ⟨_, rfl⟩
            obtain ⟨v5, hv⟩ : ∃ x, v4.alloc (.cells #[.int .i64 0, .int .i64 0, .slice none 0 0] 29) = x := ⟨_, rfl⟩
            have HSv5 := Lib.hid (show E ≤ v5.heap.size from Nat.le_trans HSv4.out (by rw [← hv]; exact hb.size))
            change Hid (Blk (v4.alloc (.cells #[.int .i64 0, .int .i64 0, .slice none 0 0] 29)) v4.heap.size [.int .i64 0, .int .i64 0, .slice none 0 0] 29) at HG
            have HNE := Lib.hid (show p ≠ v4.heap.size from Nat.ne_of_lt HPb.out.lt)
            have HGE := Lib.hid (show E ≤ v4.heap.size from HSv4.out)
            rw [hv, hg] at HG
            rw [hg] at HGL HGE HNE ⊢
            rw [hv] at HK HM HU HP HB ⊢
            have hS := (⟨HK.out.cell 0 _ rfl, HK.out.cell 1 _ rfl⟩ : v5.cell? ⟨D, 0, none⟩ = some (.int .i64 (N : Nat)) ∧ v5.cell? ⟨D, 1, none⟩ = some (.slice ad ns.length c))
            clear hb hg hv
            refine hK.out _ _ (fun _ => hS) ?_
            try simp only [Act.put, List.setIfInBounds_toArray, List.set_cons_zero, List.set_cons_succ]
            clear hK K
            have m0 := HG.out.cell 0 _ rfl; have m1 := HG.out.cell 1 _ rfl; have m2 := HG.out.cell 2 _ rfl; have f0 := HG.out.free 0; have f1 := HG.out.free 1; have f2 := HG.out.free 2; have hml := HG.out.lt
            have HK := Lib.hid (((HK.out.setCell (g' := g) (j := 0) (by have := HGL.out; omega) (.int .i64 2)).setCell (g' := g) (j := 1) (by have := HGL.out; omega) (.int .i64 1)).setCell (g' := g) (j := 2) (by have := HGL.out; omega) (.slice (some ⟨p, 0, none⟩) 2 2))
            have hS := (⟨HK.out.cell 0 _ rfl, HK.out.cell 1 _ rfl⟩ : (((v5.setCell ⟨g, 0, none⟩ (.int .i64 2)).setCell ⟨g, 1, none⟩ (.int .i64 1)).setCell ⟨g, 2, none⟩ (.slice (some ⟨p, 0, none⟩) 2 2)).cell? ⟨D, 0, none⟩ = some (.int .i64 (N : Nat)) ∧ (((v5.setCell ⟨g, 0, none⟩ (.int .i64 2)).setCell ⟨g, 1, none⟩ (.int .i64 1)).setCell ⟨g, 2, none⟩ (.slice (some ⟨p, 0, none⟩) 2 2)).cell? ⟨D, 1, none⟩ = some (.slice ad ns.length c))
            refine wpAnyJ_only (i := 9) (o := { dst := none, op := .store _ (.tmp 8) (.tmp 31), type := _, pos := _, after := _, guard := _ }) (by kernel_rfl) rfl (fun K hK => ?_)
            go_simp
            refine hK.out _ _ (fun _ => hS) ?_
            try simp only [Act.put, List.setIfInBounds_toArray, List.set_cons_zero, List.set_cons_succ]
            clear hK K
            refine wpAnyJ_done (by kernel_rfl) ?_ _
            clear m0 m1 m2 f0 f1 f2 hml hS
            go_wp2
            go_meet
            case rel => exact ⟨g, p, rfl, trivial, Lib.hid (((HG.out.set 0 (.int .i64 2)).set 1 (.int .i64 1)).set 2 (.slice (some ⟨p, 0, none⟩) 2 2)), Lib.hid (((HP.out.setCell (g' := g) (j := 0) HNE.out (.int .i64 2)).setCell (g' := g) (j := 1) HNE.out (.int .i64 1)).setCell (g' := g) (j := 2) HNE.out (.slice (some ⟨p, 0, none⟩) 2 2)), Lib.hid (((HM.out.setCell (g' := g) (j := 0) (fun e => by have := HGE.out; omega) (.int .i64 2)).setCell (g' := g) (j := 1) (fun e => by have := HGE.out; omega) (.int .i64 1)).setCell (g' := g) (j := 2) (fun e => by have := HGE.out; omega) (.slice (some ⟨p, 0, none⟩) 2 2)), Lib.hid (sl3_off HU.out HG.out 2 1 (some ⟨p, 0, none⟩) 2 2), Lib.hid (((HB.out.setCell (p := ⟨g, 0, none⟩) (by have := HGL.out; simp only; omega) _).setCell (p := ⟨g, 1, none⟩) (by have := HGL.out; simp only; omega) _).setCell (p := ⟨g, 2, none⟩) (by have := HGL.out; simp only; omega) _)⟩
          · go_simp
            have hb := (Below.refl v3.heap.size v3).alloc (Nat.le_refl _) (.cells #[.int .i64 0, .int .i64 0, .slice none 0 0] 29)
            have HK := Lib.hid (HK.out.below hb (Nat.le_refl _)); have HM := Lib.hid (HM.out.below hb (Nat.le_refl _)); have HU := Lib.hid (HU.out.below hb (Nat.le_refl _)); have HB := Lib.hid (HB.out.trans (hb.mono (by rw [← hD]; exact HB.out.size)))
            have HG := Lib.hid (Blk.new v3 [.int .i64 0, .int .i64 0, .slice none 0 0] 29); have HGL := Lib.hid (show D < v3.heap.size from Nat.lt_of_lt_of_le hDw HSv3.out)
            obtain ⟨g, hg⟩ : ∃ g, v3.heap.size = g := ⟨_, rfl⟩
            obtain ⟨v6, hv⟩ : ∃ x, v3.alloc (.cells #[.int .i64 0, .int .i64 0, .slice none 0 0] 29) = x := ⟨_, rfl⟩
            have HSv6 := Lib.hid (show E ≤ v6.heap.size from Nat.le_trans HSv3.out (by rw [← hv]; exact hb.size))
            change Hid (Blk (v3.alloc (.cells #[.int .i64 0, .int .i64 0, .slice none 0 0] 29)) v3.heap.size [.int .i64 0, .int .i64 0, .slice none 0 0] 29) at HG
            have HGE := Lib.hid (show E ≤ v3.heap.size from HSv3.out)
            rw [hv, hg] at HG
            rw [hg] at HGL HGE ⊢
            rw [hv] at HK HM HU HB ⊢
            have hS := (⟨HK.out.cell 0 _ rfl, HK.out.cell 1 _ rfl⟩ : v6.cell? ⟨D, 0, none⟩ = some (.int .i64 (N : Nat)) ∧ v6.cell? ⟨D, 1, none⟩ = some (.slice ad ns.length c))
            clear hb hg hv
            refine hK.out _ _ (fun _ => hS) ?_
            try simp only [Act.put, List.setIfInBounds_toArray, List.set_cons_zero, List.set_cons_succ]
            clear hK K
            refine wpAnyJ_only (i := 6) (o := { dst := some 30, op := _, type := _, pos := _, after := _, guard := _ }) (by kernel_rfl) rfl (fun K hK => ?_)
            go_simp
            have HGb := HG
            have hb := (Below.refl v6.heap.size v6).alloc (Nat.le_refl _) (.cells #[.string T1, .string T2] 48)
            have HK := Lib.hid (HK.out.below hb (Nat.le_refl _)); have HM := Lib.hid (HM.out.below hb (Nat.le_refl _)); have HU := Lib.hid (HU.out.below hb (Nat.le_refl _)); have HG := Lib.hid (HG.out.below hb (Nat.le_refl _)); have HB := Lib.hid (HB.out.trans (hb.mono (by rw [← hD]; exact HB.out.size)))
            have HP := Lib.hid (Blk.new v6 [.string T1, .string T2] 48); have HPL := Lib.hid (show D < v6.heap.size from Nat.lt_of_lt_of_le hDw HSv6.out)
            obtain ⟨p, hg⟩ : ∃ g, v6.heap.size = g := ⟨_, rfl⟩
            obtain ⟨v7, hv⟩ : ∃ x, v6.alloc (.cells #[.string T1, .string T2] 48) = x := ⟨_, rfl⟩
            have HSv7 := Lib.hid (show E ≤ v7.heap.size from Nat.le_trans HSv6.out (by rw [← hv]; exact hb.size))
            change Hid (Blk (v6.alloc (.cells #[.string T1, .string T2] 48)) v6.heap.size [.string T1, .string T2] 48) at HP
            have HNE := Lib.hid (show v6.heap.size ≠ g from fun e => Nat.ne_of_lt HGb.out.lt e.symm)
            have HPE := Lib.hid (show E ≤ v6.heap.size from HSv6.out)
            rw [hv, hg] at HP
            rw [hg] at HPL HPE HNE ⊢
            rw [hv] at HK HM HU HG HB ⊢
            have hS := (⟨HK.out.cell 0 _ rfl, HK.out.cell 1 _ rfl⟩ : v7.cell? ⟨D, 0, none⟩ = some (.int .i64 (N : Nat)) ∧ v7.cell? ⟨D, 1, none⟩ = some (.slice ad ns.length c))
            clear hb hg hv
            refine hK.out _ _ (fun _ => hS) ?_
            try simp only [Act.put, List.setIfInBounds_toArray, List.set_cons_zero, List.set_cons_succ]
            clear hK K
            refine wpAnyJ_take (i := 7) (oi := { dst := some 31, op := _, type := _, pos := _, after := _, guard := _ }) (v := ?_) rfl (by kernel_rfl) (by kernel_rfl) (by kernel_rfl) (early_sat (by kernel_rfl)) (fun _ _ _ h => h) (Or.inl ⟨by rfl, ?_⟩) hS ?_
            rotate_left
            · intro wl hSw
              obtain ⟨s0, s1⟩ := hSw
              go_simp
              with_reducible rfl
            simp only [Act.put, List.setIfInBounds_toArray, List.set_cons_zero, List.set_cons_succ]
            have m0 := HG.out.cell 0 _ rfl; have m1 := HG.out.cell 1 _ rfl; have m2 := HG.out.cell 2 _ rfl; have f0 := HG.out.free 0; have f1 := HG.out.free 1; have f2 := HG.out.free 2; have hml := HG.out.lt
            have HK := Lib.hid (((HK.out.setCell (g' := g) (j := 0) (by have := HGL.out; omega) (.int .i64 2)).setCell (g' := g) (j := 1) (by have := HGL.out; omega) (.int .i64 1)).setCell (g' := g) (j := 2) (by have := HGL.out; omega) (.slice (some ⟨p, 0, none⟩) 2 2))
            have hS := (⟨HK.out.cell 0 _ rfl, HK.out.cell 1 _ rfl⟩ : (((v7.setCell ⟨g, 0, none⟩ (.int .i64 2)).setCell ⟨g, 1, none⟩ (.int .i64 1)).setCell ⟨g, 2, none⟩ (.slice (some ⟨p, 0, none⟩) 2 2)).cell? ⟨D, 0, none⟩ = some (.int .i64 (N : Nat)) ∧ (((v7.setCell ⟨g, 0, none⟩ (.int .i64 2)).setCell ⟨g, 1, none⟩ (.int .i64 1)).setCell ⟨g, 2, none⟩ (.slice (some ⟨p, 0, none⟩) 2 2)).cell? ⟨D, 1, none⟩ = some (.slice ad ns.length c))
            refine wpAnyJ_only (i := 9) (o := { dst := none, op := .store _ (.tmp 8) (.tmp 31), type := _, pos := _, after := _, guard := _ }) (by kernel_rfl) rfl (fun K hK => ?_)
            go_simp
            refine hK.out _ _ (fun _ => hS) ?_
            try simp only [Act.put, List.setIfInBounds_toArray, List.set_cons_zero, List.set_cons_succ]
            clear hK K
            refine wpAnyJ_done (by kernel_rfl) ?_ _
            clear m0 m1 m2 f0 f1 f2 hml hS
            go_wp2
            go_meet
            case rel => exact ⟨g, p, rfl, trivial, Lib.hid (((HG.out.set 0 (.int .i64 2)).set 1 (.int .i64 1)).set 2 (.slice (some ⟨p, 0, none⟩) 2 2)), Lib.hid (((HP.out.setCell (g' := g) (j := 0) HNE.out (.int .i64 2)).setCell (g' := g) (j := 1) HNE.out (.int .i64 1)).setCell (g' := g) (j := 2) HNE.out (.slice (some ⟨p, 0, none⟩) 2 2)), Lib.hid (((HM.out.setCell (g' := g) (j := 0) (fun e => by have := HGE.out; omega) (.int .i64 2)).setCell (g' := g) (j := 1) (fun e => by have := HGE.out; omega) (.int .i64 1)).setCell (g' := g) (j := 2) (fun e => by have := HGE.out; omega) (.slice (some ⟨p, 0, none⟩) 2 2)), Lib.hid (sl3_off HU.out HG.out 2 1 (some ⟨p, 0, none⟩) 2 2), Lib.hid (((HB.out.setCell (p := ⟨g, 0, none⟩) (by have := HGL.out; simp only; omega) _).setCell (p := ⟨g, 1, none⟩) (by have := HGL.out; simp only; omega) _).setCell (p := ⟨g, 2, none⟩) (by have := HGL.out; simp only; omega) _)⟩
        · go_simp
          have hb := (Below.refl v2.heap.size v2).alloc (Nat.le_refl _) (.cells #[.int .i64 0, .int .i64 0, .slice none 0 0] 29)
          have HK := Lib.hid (HK.out.below hb (Nat.le_refl _)); have HM := Lib.hid (HM.out.below hb (Nat.le_refl _)); have HU := Lib.hid (HU.out.below hb (Nat.le_refl _)); have HV2 := Lib.hid (HV2.out.below hb (Nat.le_refl _)); have HB := Lib.hid (HB.out.trans (hb.mono (by rw [← hD]; exact HB.out.size)))
          have HG := Lib.hid (Blk.new v2 [.int .i64 0, .int .i64 0, .slice none 0 0] 29); have HGL := Lib.hid (show D < v2.heap.size from Nat.lt_of_lt_of_le hDw HSv2.out)
          obtain ⟨g, hg⟩ : ∃ g, v2.heap.size = g := ⟨_, rfl⟩
          obtain ⟨v8, hv⟩ : ∃ x, v2.alloc (.cells #[.int .i64 0, .int .i64 0, .slice none 0 0] 29) = x := ⟨_, rfl⟩
          have HSv8 := Lib.hid (show E ≤ v8.heap.size from Nat.le_trans HSv2.out (by rw [← hv]; exact hb.size))
          change Hid (Blk (v2.alloc (.cells #[.int .i64 0, .int .i64 0, .slice none 0 0] 29)) v2.heap.size [.int .i64 0, .int .i64 0, .slice none 0 0] 29) at HG
          have HGE := Lib.hid (show E ≤ v2.heap.size from HSv2.out)
          rw [hv, hg] at HG
          rw [hg] at HGL HGE ⊢
          rw [hv] at HK HM HU HV2 HB ⊢
          have hS := (⟨HK.out.cell 0 _ rfl, HK.out.cell 1 _ rfl⟩ : v8.cell? ⟨D, 0, none⟩ = some (.int .i64 (N : Nat)) ∧ v8.cell? ⟨D, 1, none⟩ = some (.slice ad ns.length c))
          clear hb hg hv
          refine hK.out _ _ (fun _ => hS) ?_
          try simp only [Act.put, List.setIfInBounds_toArray, List.set_cons_zero, List.set_cons_succ]
          clear hK K
          refine wpAnyJ_only (i := 5) (o := { dst := some 29, op := _, type := _, pos := _, after := _, guard := _ }) (by kernel_rfl) rfl (fun K hK => ?_)
          go_simp
          refine (HC2.out v8 _ HV2.out).mono ?_
          rintro e5 v9 ⟨v5, rfl, rfl, hb⟩
          have HK := Lib.hid (HK.out.below hb (Nat.le_refl _)); have HM := Lib.hid (HM.out.below hb (Nat.le_refl _)); have HU := Lib.hid (HU.out.below hb (Nat.le_refl _)); have HG := Lib.hid (HG.out.below hb (Nat.le_refl _)); have HB := Lib.hid (HB.out.trans (hb.mono (by rw [← hD]; exact HB.out.size)))
          have HSv9 := Lib.hid (show E ≤ v9.heap.size from Nat.le_trans HSv8.out hb.size)
          have hS := (⟨HK.out.cell 0 _ rfl, HK.out.cell 1 _ rfl⟩ : v9.cell? ⟨D, 0, none⟩ = some (.int .i64 (N : Nat)) ∧ v9.cell? ⟨D, 1, none⟩ = some (.slice ad ns.length c))
          clear hb
          refine hK.out _ _ (fun _ => hS) ?_
          try simp only [Act.put, List.setIfInBounds_toArray, List.set_cons_zero, List.set_cons_succ]
          clear hK K
          refine wpAnyJ_only (i := 6) (o := { dst := some 30, op := _, type := _, pos := _, after := _, guard := _ }) (by kernel_rfl) rfl (fun K hK => ?_)
          go_simp
          have HGb := HG
          have hb := (Below.refl v9.heap.size v9).alloc (Nat.le_refl _) (.cells #[.string T1, .string T2] 48)
          have HK := Lib.hid (HK.out.below hb (Nat.le_refl _)); have HM := Lib.hid (HM.out.below hb (Nat.le_refl _)); have HU := Lib.hid (HU.out.below hb (Nat.le_refl _)); have HG := Lib.hid (HG.out.below hb (Nat.le_refl _)); have HB := Lib.hid (HB.out.trans (hb.mono (by rw [← hD]; exact HB.out.size)))
          have HP := Lib.hid (Blk.new v9 [.string T1, .string T2] 48); have HPL := Lib.hid (show D < v9.heap.size from Nat.lt_of_lt_of_le hDw HSv9.out)
          obtain ⟨p, hg⟩ : ∃ g, v9.heap.size = g := ⟨_, rfl⟩
          obtain ⟨v10, hv⟩ : ∃ x, v9.alloc (.cells #[.string T1, .string T2] 48) = x := ⟨_, rfl⟩
          have HSv10 := Lib.hid (show E ≤ v10.heap.size from Nat.le_trans HSv9.out (by rw [← hv]; exact hb.size))
          change Hid (Blk (v9.alloc (.cells #[.string T1, .string T2] 48)) v9.heap.size [.string T1, .string T2] 48) at HP
          have HNE := Lib.hid (show v9.heap.size ≠ g from fun e => Nat.ne_of_lt HGb.out.lt e.symm)
          have HPE := Lib.hid (show E ≤ v9.heap.size from HSv9.out)
          rw [hv, hg] at HP
          rw [hg] at HPL HPE HNE ⊢
          rw [hv] at HK HM HU HG HB ⊢
          have hS := (⟨HK.out.cell 0 _ rfl, HK.out.cell 1 _ rfl⟩ : v10.cell? ⟨D, 0, none⟩ = some (.int .i64 (N : Nat)) ∧ v10.cell? ⟨D, 1, none⟩ = some (.slice ad ns.length c))
          clear hb hg hv
          refine hK.out _ _ (fun _ => hS) ?_
          try simp only [Act.put, List.setIfInBounds_toArray, List.set_cons_zero, List.set_cons_succ]
          clear hK K
          refine wpAnyJ_take (i := 7) (oi := { dst := some 31, op := _, type := _, pos := _, after := _, guard := _ }) (v := ?_) rfl (by kernel_rfl) (by kernel_rfl) (by kernel_rfl) (early_sat (by kernel_rfl)) (fun _ _ _ h => h) (Or.inl ⟨by rfl, ?_⟩) hS ?_
          rotate_left
          · intro wl hSw
            obtain ⟨s0, s1⟩ := hSw
            go_simp
            with_reducible rfl
          simp only [Act.put, List.setIfInBounds_toArray, List.set_cons_zero, List.set_cons_succ]
          have m0 := HG.out.cell 0 _ rfl; have m1 := HG.out.cell 1 _ rfl; have m2 := HG.out.cell 2 _ rfl; have f0 := HG.out.free 0; have f1 := HG.out.free 1; have f2 := HG.out.free 2; have hml := HG.out.lt
          have HK := Lib.hid (((HK.out.setCell (g' := g) (j := 0) (by have := HGL.out; omega) (.int .i64 2)).setCell (g' := g) (j := 1) (by have := HGL.out; omega) (.int .i64 1)).setCell (g' := g) (j := 2) (by have := HGL.out; omega) (.slice (some ⟨p, 0, none⟩) 2 2))
          have hS := (⟨HK.out.cell 0 _ rfl, HK.out.cell 1 _ rfl⟩ : (((v10.setCell ⟨g, 0, none⟩ (.int .i64 2)).setCell ⟨g, 1, none⟩ (.int .i64 1)).setCell ⟨g, 2, none⟩ (.slice (some ⟨p, 0, none⟩) 2 2)).cell? ⟨D, 0, none⟩ = some (.int .i64 (N : Nat)) ∧ (((v10.setCell ⟨g, 0, none⟩ (.int .i64 2)).setCell ⟨g, 1, none⟩ (.int .i64 1)).setCell ⟨g, 2, none⟩ (.slice (some ⟨p, 0, none⟩) 2 2)).cell? ⟨D, 1, none⟩ = some (.slice ad ns.length c))
          refine wpAnyJ_only (i := 9) (o := { dst := none, op := .store _ (.tmp 8) (.tmp 31), type := _, pos := _, after := _, guard := _ }) (by kernel_rfl) rfl (fun K hK => ?_)
          go_simp
          refine hK.out _ _ (fun _ => hS) ?_
          try simp only [Act.put, List.setIfInBounds_toArray, List.set_cons_zero, List.set_cons_succ]
          clear hK K
          refine wpAnyJ_done (by kernel_rfl) ?_ _
          clear m0 m1 m2 f0 f1 f2 hml hS
          go_wp2
          go_meet
          case rel => exact ⟨g, p, rfl, trivial, Lib.hid (((HG.out.set 0 (.int .i64 2)).set 1 (.int .i64 1)).set 2 (.slice (some ⟨p, 0, none⟩) 2 2)), Lib.hid (((HP.out.setCell (g' := g) (j := 0) HNE.out (.int .i64 2)).setCell (g' := g) (j := 1) HNE.out (.int .i64 1)).setCell (g' := g) (j := 2) HNE.out (.slice (some ⟨p, 0, none⟩) 2 2)), Lib.hid (((HM.out.setCell (g' := g) (j := 0) (fun e => by have := HGE.out; omega) (.int .i64 2)).setCell (g' := g) (j := 1) (fun e => by have := HGE.out; omega) (.int .i64 1)).setCell (g' := g) (j := 2) (fun e => by have := HGE.out; omega) (.slice (some ⟨p, 0, none⟩) 2 2)), Lib.hid (sl3_off HU.out HG.out 2 1 (some ⟨p, 0, none⟩) 2 2), Lib.hid (((HB.out.setCell (p := ⟨g, 0, none⟩) (by have := HGL.out; simp only; omega) _).setCell (p := ⟨g, 1, none⟩) (by have := HGL.out; simp only; omega) _).setCell (p := ⟨g, 2, none⟩) (by have := HGL.out; simp only; omega) _)⟩
      · go_simp
        have hb := (Below.refl v1.heap.size v1).alloc (Nat.le_refl _) (.cells #[.int .i64 0, .int .i64 0, .slice none 0 0] 29)
        have HK := Lib.hid (HK.out.below hb (Nat.le_refl _)); have HM := Lib.hid (HM.out.below hb (Nat.le_refl _)); have HU := Lib.hid (HU.out.below hb (Nat.le_refl _)); have HB := Lib.hid (HB.out.trans (hb.mono (by rw [← hD]; exact HB.out.size)))
        have HG := Lib.hid (Blk.new v1 [.int .i64 0, .int .i64 0, .slice none 0 0] 29); have HGL := Lib.hid (show D < v1.heap.size from Nat.lt_of_lt_of_le hDw HSv1.out)
        obtain ⟨g, hg⟩ : ∃ g, v1.heap.size = g := ⟨_, rfl⟩
        obtain ⟨v11, hv⟩ : ∃ x, v1.alloc (.cells #[.int .i64 0, .int .i64 0, .slice none 0 0] 29) = x := ⟨_, rfl⟩
        have HSv11 := Lib.hid (show E ≤ v11.heap.size from Nat.le_trans HSv1.out (by rw [← hv]; exact hb.size))
        change Hid (Blk (v1.alloc (.cells #[.int .i64 0, .int .i64 0, .slice none 0 0] 29)) v1.heap.size [.int .i64 0, .int .i64 0, .slice none 0 0] 29) at HG
        have HGE := Lib.hid (show E ≤ v1.heap.size from HSv1.out)
        rw [hv, hg] at HG
        rw [hg] at HGL HGE ⊢
        rw [hv] at HK HM HU HB ⊢
        have hS := (⟨HK.out.cell 0 _ rfl, HK.out.cell 1 _ rfl⟩ : v11.cell? ⟨D, 0, none⟩ = some (.int .i64 (N : Nat)) ∧ v11.cell? ⟨D, 1, none⟩ = some (.slice ad ns.length c))
        clear hb hg hv
        refine hK.out _ _ (fun _ => hS) ?_
        try simp only [Act.put, List.setIfInBounds_toArray, List.set_cons_zero, List.set_cons_succ]
        clear hK K
        refine wpAnyJ_only (i := 4) (o := { dst := some 28, op := _, type := _, pos := _, after := _, guard := _ }) (by kernel_rfl) rfl (fun K hK => ?_)
        go_simp
        refine (HLS.out v11 (HV.out.below HB.out (Nat.le_of_eq hD))).mono ?_
        rintro e5 v12 ⟨v5, rfl, u5, rfl, hs, hb⟩
        obtain ⟨la, lc, rfl⟩ := hs.form
        rw [List.length_map] at hs
        try rw [List.length_map]
        have HK := Lib.hid (HK.out.below hb (Nat.le_refl _)); have HM := Lib.hid (HM.out.below hb (Nat.le_refl _)); have HU := Lib.hid (HU.out.below hb (Nat.le_refl _)); have HG := Lib.hid (HG.out.below hb (Nat.le_refl _)); have HB := Lib.hid (HB.out.trans (hb.mono (by rw [← hD]; exact HB.out.size)))
        have HV2 := Lib.hid hs
        clear hs
        have HSv12 := Lib.hid (show E ≤ v12.heap.size from Nat.le_trans HSv11.out hb.size)
        have hS := (⟨HK.out.cell 0 _ rfl, HK.out.cell 1 _ rfl⟩ : v12.cell? ⟨D, 0, none⟩ = some (.int .i64 (N : Nat)) ∧ v12.cell? ⟨D, 1, none⟩ = some (.slice ad ns.length c))
        clear hb
        refine hK.out _ _ (fun _ => hS) ?_
        try simp only [Act.put, List.setIfInBounds_toArray, List.set_cons_zero, List.set_cons_succ]
        clear hK K
        refine wpAnyJ_only (i := 5) (o := { dst := some 29, op := _, type := _, pos := _, after := _, guard := _ }) (by kernel_rfl) rfl (fun K hK => ?_)
        go_simp
        refine (HC2.out v12 _ HV2.out).mono ?_
        rintro e5 v13 ⟨v5, rfl, rfl, hb⟩
        have HK := Lib.hid (HK.out.below hb (Nat.le_refl _)); have HM := Lib.hid (HM.out.below hb (Nat.le_refl _)); have HU := Lib.hid (HU.out.below hb (Nat.le_refl _)); have HG := Lib.hid (HG.out.below hb (Nat.le_refl _)); have HB := Lib.hid (HB.out.trans (hb.mono (by rw [← hD]; exact HB.out.size)))
        have HSv13 := Lib.hid (show E ≤ v13.heap.size from Nat.le_trans HSv12.out hb.size)
        have hS := (⟨HK.out.cell 0 _ rfl, HK.out.cell 1 _ rfl⟩ : v13.cell? ⟨D, 0, none⟩ = some (.int .i64 (N : Nat)) ∧ v13.cell? ⟨D, 1, none⟩ = some (.slice ad ns.length c))
        clear hb
        refine hK.out _ _ (fun _ => hS) ?_
        try simp only [Act.put, List.setIfInBounds_toArray, List.set_cons_zero, List.set_cons_succ]
        clear hK K
        refine wpAnyJ_only (i := 6) (o := { dst := some 30, op := _, type := _, pos := _, after := _, guard := _ }) (by kernel_rfl) rfl (fun K hK => ?_)
        go_simp
        have HGb := HG
        have hb := (Below.refl v13.heap.size v13).alloc (Nat.le_refl _) (.cells #[.string T1, .string T2] 48)
        have HK := Lib.hid (HK.out.below hb (Nat.le_refl _)); have HM := Lib.hid (HM.out.below hb (Nat.le_refl _)); have HU := Lib.hid (HU.out.below hb (Nat.le_refl _)); have HG := Lib.hid (HG.out.below hb (Nat.le_refl _)); have HB := Lib.hid (HB.out.trans (hb.mono (by rw [← hD]; exact HB.out.size)))
        have HP := Lib.hid (Blk.new v13 [.string T1, .string T2] 48); have HPL := Lib.hid (show D < v13.heap.size from Nat.lt_of_lt_of_le hDw HSv13.out)
        obtain ⟨p, hg⟩ : ∃ g, v13.heap.size = g := ⟨_, rfl⟩
        obtain ⟨v14, hv⟩ : ∃ x, v13.alloc (.cells #[.string T1, .string T2] 48) = x := ⟨_, rfl⟩
        have HSv14 := Lib.hid (show E ≤ v14.heap.size from Nat.le_trans HSv13.out (by rw [← hv]; exact hb.size))
        change Hid (Blk (v13.alloc (.cells #[.string T1, .string T2] 48)) v13.heap.size [.string T1, .string T2] 48) at HP
        have HNE := Lib.hid (show v13.heap.size ≠ g from fun e => Nat.ne_of_lt HGb.out.lt e.symm)
        have HPE := Lib.hid (show E ≤ v13.heap.size from HSv13.out)
        rw [hv, hg] at HP
        rw [hg] at HPL HPE HNE ⊢
        rw [hv] at HK HM HU HG HB ⊢
        have hS := (⟨HK.out.cell 0 _ rfl, HK.out.cell 1 _ rfl⟩ : v14.cell? ⟨D, 0, none⟩ = some (.int .i64 (N : Nat)) ∧ v14.cell? ⟨D, 1, none⟩ = some (.slice ad ns.length c))
        clear hb hg hv
        refine hK.out _ _ (fun _ => hS) ?_
        try simp only [Act.put, List.setIfInBounds_toArray, List.set_cons_zero, List.set_cons_succ]
        clear hK K
        refine wpAnyJ_take (i := 7) (oi := { dst := some 31, op := _, type := _, pos := _, after := _, guard := _ }) (v := ?_) rfl (by kernel_rfl) (by kernel_rfl) (by kernel_rfl) (early_sat (by kernel_rfl)) (fun _ _ _ h => h) (Or.inl ⟨by rfl, ?_⟩) hS ?_
        rotate_left
        · intro wl hSw
          obtain ⟨s0, s1⟩ := hSw
          go_simp
          with_reducible rfl
        simp only [Act.put, List.setIfInBounds_toArray, List.set_cons_zero, List.set_cons_succ]
        have m0 := HG.out.cell 0 _ rfl; have m1 := HG.out.cell 1 _ rfl; have m2 := HG.out.cell 2 _ rfl; have f0 := HG.out.free 0; have f1 := HG.out.free 1; have f2 := HG.out.free 2; have hml := HG.out.lt
        have HK := Lib.hid (((HK.out.setCell (g' := g) (j := 0) (by have := HGL.out; omega) (.int .i64 2)).setCell (g' := g) (j := 1) (by have := HGL.out; omega) (.int .i64 1)).setCell (g' := g) (j := 2) (by have := HGL.out; omega) (.slice (some ⟨p, 0, none⟩) 2 2))
        have hS := (⟨HK.out.cell 0 _ rfl, HK.out.cell 1 _ rfl⟩ : (((v14.setCell ⟨g, 0, none⟩ (.int .i64 2)).setCell ⟨g, 1, none⟩ (.int .i64 1)).setCell ⟨g, 2, none⟩ (.slice (some ⟨p, 0, none⟩) 2 2)).cell? ⟨D, 0, none⟩ = some (.int .i64 (N : Nat)) ∧ (((v14.setCell ⟨g, 0, none⟩ (.int .i64 2)).setCell ⟨g, 1, none⟩ (.int .i64 1)).setCell ⟨g, 2, none⟩ (.slice (some ⟨p, 0, none⟩) 2 2)).cell? ⟨D, 1, none⟩ = some (.slice ad ns.length c))
        refine wpAnyJ_only (i := 9) (o := { dst := none, op := .store _ (.tmp 8) (.tmp 31), type := _, pos := _, after := _, guard := _ }) (by kernel_rfl) rfl (fun K hK => ?_)
        go_simp
        refine hK.out _ _ (fun _ => hS) ?_
        try simp only [Act.put, List.setIfInBounds_toArray, List.set_cons_zero, List.set_cons_succ]
        clear hK K
        refine wpAnyJ_done (by kernel_rfl) ?_ _
        clear m0 m1 m2 f0 f1 f2 hml hS
        go_wp2
        go_meet
        case rel => exact ⟨g, p, rfl, trivial, Lib.hid (((HG.out.set 0 (.int .i64 2)).set 1 (.int .i64 1)).set 2 (.slice (some ⟨p, 0, none⟩) 2 2)), Lib.hid (((HP.out.setCell (g' := g) (j := 0) HNE.out (.int .i64 2)).setCell (g' := g) (j := 1) HNE.out (.int .i64 1)).setCell (g' := g) (j := 2) HNE.out (.slice (some ⟨p, 0, none⟩) 2 2)), Lib.hid (((HM.out.setCell (g' := g) (j := 0) (fun e => by have := HGE.out; omega) (.int .i64 2)).setCell (g' := g) (j := 1) (fun e => by have := HGE.out; omega) (.int .i64 1)).setCell (g' := g) (j := 2) (fun e => by have := HGE.out; omega) (.slice (some ⟨p, 0, none⟩) 2 2)), Lib.hid (sl3_off HU.out HG.out 2 1 (some ⟨p, 0, none⟩) 2 2), Lib.hid (((HB.out.setCell (p := ⟨g, 0, none⟩) (by have := HGL.out; simp only; omega) _).setCell (p := ⟨g, 1, none⟩) (by have := HGL.out; simp only; omega) _).setCell (p := ⟨g, 2, none⟩) (by have := HGL.out; simp only; omega) _)⟩
    · go_simp
      have hb := (Below.refl v0.heap.size v0).alloc (Nat.le_refl _) (.cells #[.int .i64 0, .int .i64 0, .slice none 0 0] 29)
      have HK := Lib.hid (HK.out.below hb (Nat.le_refl _)); have HM := Lib.hid (HM.out.below hb (Nat.le_refl _)); have HU := Lib.hid (HU.out.below hb (Nat.le_refl _)); have HB := Lib.hid (HB.out.trans (hb.mono (by rw [← hD]; exact HB.out.size)))
      have HG := Lib.hid (Blk.new v0 [.int .i64 0, .int .i64 0, .slice none 0 0] 29); have HGL := Lib.hid (show D < v0.heap.size from Nat.lt_of_lt_of_le hDw HSv0.out)
      obtain ⟨g, hg⟩ : ∃ g, v0.heap.size = g := ⟨_, rfl⟩
      obtain ⟨v15, hv⟩ : ∃ x, v0.alloc (.cells #[.int .i64 0, .int .i64 0, .slice none 0 0] 29) = x := ⟨_, rfl⟩
      have HSv15 := Lib.hid (show E ≤ v15.heap.size from Nat.le_trans HSv0.out (by rw [← hv]; exact hb.size))
      change Hid (Blk (v0.alloc (.cells #[.int .i64 0, .int .i64 0, .slice none 0 0] 29)) v0.heap.size [.int .i64 0, .int .i64 0, .slice none 0 0] 29) at HG
      have HGE := Lib.hid (show E ≤ v0.heap.size from HSv0.out)
      rw [hv, hg] at HG
      rw [hg] at HGL HGE ⊢
      rw [hv] at HK HM HU HB ⊢
      have hS := (⟨HK.out.cell 0 _ rfl, HK.out.cell 1 _ rfl⟩ : v15.cell? ⟨D, 0, none⟩ = some (.int .i64 (N : Nat)) ∧ v15.cell? ⟨D, 1, none⟩ = some (.slice ad ns.length c))
      clear hb hg hv
      refine hK.out _ _ (fun _ => hS) ?_
      try simp only [Act.put, List.setIfInBounds_toArray, List.set_cons_zero, List.set_cons_succ]
      clear hK K
      refine wpAnyJ_only (i := 1) (o := { dst := some 25, op := _, type := _, pos := _, after := _, guard := _ }) (by kernel_rfl) rfl (fun K hK => ?_)
      go_simp
      refine (HC1.out v15 (HV.out.below HB.out (Nat.le_of_eq hD))).mono ?_
      rintro e5 v16 ⟨v5, rfl, rfl, hb⟩
      have HK := Lib.hid (HK.out.below hb (Nat.le_refl _)); have HM := Lib.hid (HM.out.below hb (Nat.le_refl _)); have HU := Lib.hid (HU.out.below hb (Nat.le_refl _)); have HG := Lib.hid (HG.out.below hb (Nat.le_refl _)); have HB := Lib.hid (HB.out.trans (hb.mono (by rw [← hD]; exact HB.out.size)))
      have HSv16 := Lib.hid (show E ≤ v16.heap.size from Nat.le_trans HSv15.out hb.size)
      have hS := (⟨HK.out.cell 0 _ rfl, HK.out.cell 1 _ rfl⟩ : v16.cell? ⟨D, 0, none⟩ = some (.int .i64 (N : Nat)) ∧ v16.cell? ⟨D, 1, none⟩ = some (.slice ad ns.length c))
      clear hb
      refine hK.out _ _ (fun _ => hS) ?_
      try simp only [Act.put, List.setIfInBounds_toArray, List.set_cons_zero, List.set_cons_succ]
      clear hK K
      refine wpAnyJ_only (i := 4) (o := { dst := some 28, op := _, type := _, pos := _, after := _, guard := _ }) (by kernel_rfl) rfl (fun K hK => ?_)
      go_simp
      refine (HLS.out v16 (HV.out.below HB.out (Nat.le_of_eq hD))).mono ?_
      rintro e5 v17 ⟨v5, rfl, u5, rfl, hs, hb⟩
      obtain ⟨la, lc, rfl⟩ := hs.form
      rw [List.length_map] at hs
      try rw [List.length_map]
      have HK := Lib.hid (HK.out.below hb (Nat.le_refl _)); have HM := Lib.hid (HM.out.below hb (Nat.le_refl _)); have HU := Lib.hid (HU.out.below hb (Nat.le_refl _)); have HG := Lib.hid (HG.out.below hb (Nat.le_refl _)); have HB := Lib.hid (HB.out.trans (hb.mono (by rw [← hD]; exact HB.out.size)))
      have HV2 := Lib.hid hs
      clear hs
      have HSv17 := Lib.hid (show E ≤ v17.heap.size from Nat.le_trans HSv16.out hb.size)
      have hS := (⟨HK.out.cell 0 _ rfl, HK.out.cell 1 _ rfl⟩ : v17.cell? ⟨D, 0, none⟩ = some (.int .i64 (N : Nat)) ∧ v17.cell? ⟨D, 1, none⟩ = some (.slice ad ns.length c))
      clear hb
      refine hK.out _ _ (fun _ => hS) ?_
      try simp only [Act.put, List.setIfInBounds_toArray, List.set_cons_zero, List.set_cons_succ]
      clear hK K
      refine wpAnyJ_only (i := 5) (o := { dst := some 29, op := _, type := _, pos := _, after := _, guard := _ }) (by kernel_rfl) rfl (fun K hK => ?_)
      go_simp
      refine (HC2.out v17 _ HV2.out).mono ?_
      rintro e5 v18 ⟨v5, rfl, rfl, hb⟩
      have HK := Lib.hid (HK.out.below hb (Nat.le_refl _)); have HM := Lib.hid (HM.out.below hb (Nat.le_refl _)); have HU := Lib.hid (HU.out.below hb (Nat.le_refl _)); have HG := Lib.hid (HG.out.below hb (Nat.le_refl _)); have HB := Lib.hid (HB.out.trans (hb.mono (by rw [← hD]; exact HB.out.size)))
      have HSv18 := Lib.hid (show E ≤ v18.heap.size from Nat.le_trans HSv17.out hb.size)
      have hS := (⟨HK.out.cell 0 _ rfl, HK.out.cell 1 _ rfl⟩ : v18.cell? ⟨D, 0, none⟩ = some (.int .i64 (N : Nat)) ∧ v18.cell? ⟨D, 1, none⟩ = some (.slice ad ns.length c))
      clear hb
      refine hK.out _ _ (fun _ => hS) ?_
      try simp only [Act.put, List.setIfInBounds_toArray, List.set_cons_zero, List.set_cons_succ]
      clear hK K
      refine wpAnyJ_only (i := 6) (o := { dst := some 30, op := _, type := _, pos := _, after := _, guard := _ }) (by kernel_rfl) rfl (fun K hK => ?_)
      go_simp
      have HGb := HG
      have hb := (Below.refl v18.heap.size v18).alloc (Nat.le_refl _) (.cells #[.string T1, .string T2] 48)
      have HK := Lib.hid (HK.out.below hb (Nat.le_refl _)); have HM := Lib.hid (HM.out.below hb (Nat.le_refl _)); have HU := Lib.hid (HU.out.below hb (Nat.le_refl _)); have HG := Lib.hid (HG.out.below hb (Nat.le_refl _)); have HB := Lib.hid (HB.out.trans (hb.mono (by rw [← hD]; exact HB.out.size)))
      have HP := Lib.hid (Blk.new v18 [.string T1, .string T2] 48); have HPL := Lib.hid (show D < v18.heap.size from Nat.lt_of_lt_of_le hDw HSv18.out)
      obtain ⟨p, hg⟩ : ∃ g, v18.heap.size = g := ⟨_, rfl⟩
      obtain ⟨v19, hv⟩ : ∃ x, v18.alloc (.cells #[.string T1, .string T2] 48) = x := ⟨_, rfl⟩
      have HSv19 := Lib.hid (show E ≤ v19.heap.size from Nat.le_trans HSv18.out (by rw [← hv]; exact hb.size))
      change Hid (Blk (v18.alloc (.cells #[.string T1, .string T2] 48)) v18.heap.size [.string T1, .string T2] 48) at HP
      have HNE := Lib.hid (show v18.heap.size ≠ g from fun e => Nat.ne_of_lt HGb.out.lt e.symm)
      have HPE := Lib.hid (show E ≤ v18.heap.size from HSv18.out)
      rw [hv, hg] at HP
      rw [hg] at HPL HPE HNE ⊢
      rw [hv] at HK HM HU HG HB ⊢
      have hS := (⟨HK.out.cell 0 _ rfl, HK.out.cell 1 _ rfl⟩ : v19.cell? ⟨D, 0, none⟩ = some (.int .i64 (N : Nat)) ∧ v19.cell? ⟨D, 1, none⟩ = some (.slice ad ns.length c))
      clear hb hg hv
      refine hK.out _ _ (fun _ => hS) ?_
      try simp only [Act.put, List.setIfInBounds_toArray, List.set_cons_zero, List.set_cons_succ]
      clear hK K
      refine wpAnyJ_take (i := 7) (oi := { dst := some 31, op := _, type := _, pos := _, after := _, guard := _ }) (v := ?_) rfl (by kernel_rfl) (by kernel_rfl) (by kernel_rfl) (early_sat (by kernel_rfl)) (fun _ _ _ h => h) (Or.inl ⟨by rfl, ?_⟩) hS ?_
      rotate_left
      · intro wl hSw
        obtain ⟨s0, s1⟩ := hSw
        go_simp
        with_reducible rfl
      simp only [Act.put, List.setIfInBounds_toArray, List.set_cons_zero, List.set_cons_succ]
      have m0 := HG.out.cell 0 _ rfl; have m1 := HG.out.cell 1 _ rfl; have m2 := HG.out.cell 2 _ rfl; have f0 := HG.out.free 0; have f1 := HG.out.free 1; have f2 := HG.out.free 2; have hml := HG.out.lt
      have HK := Lib.hid (((HK.out.setCell (g' := g) (j := 0) (by have := HGL.out; omega) (.int .i64 2)).setCell (g' := g) (j := 1) (by have := HGL.out; omega) (.int .i64 1)).setCell (g' := g) (j := 2) (by have := HGL.out; omega) (.slice (some ⟨p, 0, none⟩) 2 2))
      have hS := (⟨HK.out.cell 0 _ rfl, HK.out.cell 1 _ rfl⟩ : (((v19.setCell ⟨g, 0, none⟩ (.int .i64 2)).setCell ⟨g, 1, none⟩ (.int .i64 1)).setCell ⟨g, 2, none⟩ (.slice (some ⟨p, 0, none⟩) 2 2)).cell? ⟨D, 0, none⟩ = some (.int .i64 (N : Nat)) ∧ (((v19.setCell ⟨g, 0, none⟩ (.int .i64 2)).setCell ⟨g, 1, none⟩ (.int .i64 1)).setCell ⟨g, 2, none⟩ (.slice (some ⟨p, 0, none⟩) 2 2)).cell? ⟨D, 1, none⟩ = some (.slice ad ns.length c))
      refine wpAnyJ_only (i := 9) (o := { dst := none, op := .store _ (.tmp 8) (.tmp 31), type := _, pos := _, after := _, guard := _ }) (by kernel_rfl) rfl (fun K hK => ?_)
      go_simp
      refine hK.out _ _ (fun _ => hS) ?_
      try simp only [Act.put, List.setIfInBounds_toArray, List.set_cons_zero, List.set_cons_succ]
      clear hK K
      refine wpAnyJ_done (by kernel_rfl) ?_ _
      clear m0 m1 m2 f0 f1 f2 hml hS
      go_wp2
      go_meet
      case rel => exact ⟨g, p, rfl, trivial, Lib.hid (((HG.out.set 0 (.int .i64 2)).set 1 (.int .i64 1)).set 2 (.slice (some ⟨p, 0, none⟩) 2 2)), Lib.hid (((HP.out.setCell (g' := g) (j := 0) HNE.out (.int .i64 2)).setCell (g' := g) (j := 1) HNE.out (.int .i64 1)).setCell (g' := g) (j := 2) HNE.out (.slice (some ⟨p, 0, none⟩) 2 2)), Lib.hid (((HM.out.setCell (g' := g) (j := 0) (fun e => by have := HGE.out; omega) (.int .i64 2)).setCell (g' := g) (j := 1) (fun e => by have := HGE.out; omega) (.int .i64 1)).setCell (g' := g) (j := 2) (fun e => by have := HGE.out; omega) (.slice (some ⟨p, 0, none⟩) 2 2)), Lib.hid (sl3_off HU.out HG.out 2 1 (some ⟨p, 0, none⟩) 2 2), Lib.hid (((HB.out.setCell (p := ⟨g, 0, none⟩) (by have := HGL.out; simp only; omega) _).setCell (p := ⟨g, 1, none⟩) (by have := HGL.out; simp only; omega) _).setCell (p := ⟨g, 2, none⟩) (by have := HGL.out; simp only; omega) _)⟩
    -- BEHIND REGION 7
  case rest =>
    obtain ⟨g, p, rfl, -, hG, hP, hM, hU, hB⟩ := hcut
    have HPS := Lib.hid (show Sl eS wc (.slice (some ⟨p, 0, none⟩) 2 2) [T1, T2] from sl_of_blk2 hP.out)
    have m0 := hM.out.cell 0 _ rfl; have m1 := hM.out.cell 1 _ rfl; have m2 := hM.out.cell 2 _ rfl; have ml := hM.out.lt
    have g0 := hG.out.cell 0 _ rfl; have g1 := hG.out.cell 1 _ rfl; have g2 := hG.out.cell 2 _ rfl; have gl := hG.out.lt
    go_wp2_with (go_at_call 89; (with_reducible refine (HTM.out _ _ _ hU.out HPS.out).mono ?_); rintro e w8 ⟨v8, rfl, u8, rfl, hs8, hb8⟩; obtain ⟨a8, b8, o8, c8, rfl, hi8, hp8, hc8, hm8⟩ := hs8.open elemStr; have q8 := hB.out.trans (hb8.mono (by rw [← hD]; exact hB.out.size)); have t8 : w8.cell? ⟨b8, o8, none⟩ = some (.string T) := hp8.2 0 (by simp); clear hs8 hb8 hp8)
    go_ret2
    exact ⟨_, rfl, rfl, by rw [hD]; exact q8⟩
end Go.Proofs.YtkkklfikdoibcaaGreatDoor
