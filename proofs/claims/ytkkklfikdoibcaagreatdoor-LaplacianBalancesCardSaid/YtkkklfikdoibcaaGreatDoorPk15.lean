/- A table of numbers: rows of their own behind a slice of slices. The walks of the reference's Table and Joined: tables of counts, and the graph that they say. The walk of the reference's Joined: the graph that a table of counts says. -/
import Derived.Test.YtkkklfikdoibcaaGreatDoorPk10
import Derived.Test.YtkkklfikdoibcaaGreatDoorPk14
import Derived.Test.YtkkklfikdoibcaaGreatDoorPk9
namespace Go.Proofs.YtkkklfikdoibcaaGreatDoor
open Go.RowKit

/-- A row's cells, and the slice that shows them. -/
def tbV (n : Nat) (f : Nat → Nat) : List Value := (List.range n).map fun j => .int .i64 (f j : Nat)
def sl0 (n g : Nat) : Value := .slice (some ⟨g, 0, none⟩) n n
theorem tbV_len (n : Nat) (f : Nat → Nat) : (tbV n f).length = n := by simp [tbV]
theorem tbV_get {n : Nat} {f : Nat → Nat} {j : Nat} (h : j < n) : (tbV n f)[j]? = some (.int .i64 (f j : Nat)) := by simp [tbV, h]
theorem tbV_zero (n : Nat) : List.replicate n (.int .i64 0) = tbV n fun _ => 0 := by
  apply List.ext_getElem (by simp [tbV])
  intro i h1 h2
  simp [tbV]
theorem tbV_set (n : Nat) (f : Nat → Nat) (j x : Nat) : (tbV n f).set j (.int .i64 (x : Nat)) = tbV n fun b => if b = j then x else f b := by
  apply List.ext_getElem (by simp [tbV])
  intro i h1 h2
  rw [List.getElem_set]
  simp only [tbV, List.getElem_map, List.getElem_range]
  by_cases e : j = i
  · rw [if_pos e, if_pos e.symm]
  · rw [if_neg e, if_neg (fun h => e h.symm)]
theorem own_apartB {w : World} {b s n g : Nat} {e e' : TypeId} {u : Value} {ys cs : List Value} (h : w.ownsRow b e s u n ys) (h' : Blk w g cs e') (hne : e ≠ e') : u.ownBlock ≠ some g := by
  rcases h.2 with ⟨rfl, -⟩ | ⟨g', cap, cur, rfl, -, hg, -⟩
  · simp [Value.ownBlock]
  · intro e2
    simp only [Value.ownBlock, Option.some.injEq] at e2
    subst e2
    unfold Blk at h'
    rw [hg] at h'
    injection h' with h'
    injection h' with _ e3 _
    exact hne e3
theorem nd_inj1 {l : List Nat} (h : l.Nodup) {i j : Nat} (hi : i < l.length) (hj : j < l.length) (e : l[i] = l[j]) : i = j := by
  rw [List.nodup_iff_pairwise_ne, List.pairwise_iff_getElem] at h
  rcases Nat.lt_trichotomy i j with h1 | h1 | h1
  · exact absurd e (h i j hi hj h1)
  · exact h1
  · exact absurd e.symm (h j i hj hi h1)
theorem blk_drew {w : World} {g : Nat} {cs : List Value} {T : TypeId} (h : Blk w g cs T) : Blk w.drew g cs T := h
structure Tab (w : World) (B n : Nat) (v : Value) (gs : List Nat) (f : Nat → Nat → Nat) : Prop where
  own : w.ownsRow B 39 1 v gs.length (gs.map (sl0 n))
  row : ∀ i (h : i < gs.length), Blk w gs[i] (tbV n (f i)) 3
  lo : ∀ g ∈ gs, B ≤ g
  dis : gs.Nodup
section
variable {w w' : World} {B n D i j x : Nat} {v v' : Value} {gs : List Nat} {f : Nat → Nat → Nat}
theorem Tab.below (h : Tab w B n v gs f) (hb : Below D w w') (hD : w.heap.size ≤ D) : Tab w' B n v gs f :=
  ⟨own_below h.own hb hD, fun i hi => (h.row i hi).below hb hD, h.lo, h.dis⟩
theorem Tab.drew (h : Tab w B n v gs f) : Tab w.drew B n v gs f := ⟨h.own, h.row, h.lo, h.dis⟩
theorem Tab.drewK {u : Value} {g : Nat} (h : Tab (w.setCell ⟨g, j, none⟩ u) B n v gs f) (k : Nat) : Tab ((w.drewN k).setCell ⟨g, j, none⟩ u) B n v gs f := ⟨h.own, h.row, h.lo, h.dis⟩
theorem Tab.alloc (h : Tab w B n v gs f) (o : Obj) : Tab (w.alloc o) B n v gs f := ⟨h.own.alloc o, fun i hi => (h.row i hi).alloc o, h.lo, h.dis⟩
theorem Tab.other {g : Nat} (h : Tab w B n v gs f) (hg : g < B) (u : Value) : Tab (w.setCell ⟨g, j, none⟩ u) B n v gs f :=
  ⟨own_apart h.own (fun e => by have := (h.own.lt g e).1; omega), fun i hi => (h.row i hi).setCell (fun e => by have := h.lo _ (List.getElem_mem hi); omega) u, h.lo, h.dis⟩
theorem Tab.low {B' : Nat} (h : Tab w B n v gs f) (hb : B' ≤ B) : Tab w B' n v gs f := ⟨own_low h.own hb, h.row, fun g hg => Nat.le_trans hb (h.lo g hg), h.dis⟩
theorem Tab.congr {f' : Nat → Nat → Nat} (h : Tab w B n v gs f) (e : ∀ i j, f i j = f' i j) : Tab w B n v gs f' := by
  have : f = f' := funext fun i => funext fun j => e i j
  rwa [← this]
theorem Tab.inc (h : Tab w B n v gs f) (hi : i < gs.length) (x : Nat) : Tab (w.setCell ⟨gs[i], j, none⟩ (.int .i64 (x : Nat))) B n v gs fun a b => if a = i ∧ b = j then x else f a b := by
  refine ⟨own_apart h.own (own_apartB h.own (h.row i hi) (by decide)), fun k hk => ?_, h.lo, h.dis⟩
  by_cases e : k = i
  · subst e
    have := (h.row k hk).set j (.int .i64 (x : Nat))
    rw [tbV_set] at this
    have e2 : (fun b => if b = j then x else f k b) = fun b => if k = k ∧ b = j then x else f k b := by funext b; simp
    rwa [e2] at this
  · have hne : gs[k] ≠ gs[i] := fun e2 => e (nd_inj1 h.dis hk hi e2)
    have e2 : (fun b => if k = i ∧ b = j then x else f k b) = f k := by funext b; simp [e]
    rw [e2]
    exact (h.row k hk).setCell hne _
theorem Tab.cell {b c : Nat} (h : Tab w B n (.slice (some ⟨b, 0, none⟩) gs.length c) gs f) (hi : i < gs.length) : w.cell? ⟨b, i, none⟩ = some (sl0 n gs[i]) := by
  obtain ⟨u, h1, h2, -⟩ := own_at h.own hi
  rw [h2, ← h1]
  simp [hi]
theorem Tab.val (h : Tab w B n v gs f) (hi : i < gs.length) (hj : j < n) : w.cell? ⟨gs[i], j, none⟩ = some (.int .i64 (f i j : Nat)) := (h.row i hi).cell j _ (tbV_get hj)
theorem Tab.free (h : Tab w B n v gs f) (hi : i < gs.length) : w.frozen? ⟨gs[i], j, none⟩ = false := (h.row i hi).free j
theorem Tab.nil (w : World) (B n : Nat) (f : Nat → Nat → Nat) : Tab w B n (.slice none 0 0) [] f := ⟨World.ownsRow_nil _ _ _ _, fun _ hi => absurd hi (by simp), fun _ hg => absurd hg (by simp), List.nodup_nil⟩
theorem Tab.push {g : Nat} (h : Tab w B n v gs f) (hg : Blk w g (tbV n (f gs.length)) 3) (hB : B ≤ g) (hn : g ∉ gs) (hgr : w.grownBy w' v.ownBlock) (ho : w'.ownsRow B 39 1 v' (gs.length + 1) (gs.map (sl0 n) ++ [sl0 n g])) : Tab w' B n v' (gs ++ [g]) f := by
  refine ⟨ownsRow_cast ho (by simp) (by simp), fun i hi => ?_, fun k hk => ?_, ?_⟩
  · by_cases e : i < gs.length
    · rw [List.getElem_append_left e]
      exact (hgr.block _ (h.row i e).lt (fun e2 => own_apartB h.own (h.row i e) (by decide) e2.symm)).trans (h.row i e)
    · obtain rfl : i = gs.length := by simp at hi; omega
      simp only [List.getElem_append_right (Nat.le_refl _), Nat.sub_self, List.getElem_cons_zero]
      exact (hgr.block _ hg.lt (fun e2 => own_apartB h.own hg (by decide) e2.symm)).trans hg
  · rcases List.mem_append.1 hk with h1 | h1
    · exact h.lo k h1
    · simp at h1; subst h1; exact hB
  · rw [List.nodup_append]
    refine ⟨h.dis, by simp, fun a ha b hb => ?_⟩
    simp at hb
    subst hb
    exact fun e => hn (e ▸ ha)
end
theorem Tab.shape {w : World} {B n : Nat} {v : Value} {gs : List Nat} {f : Nat → Nat → Nat} (h : Tab w B n v gs f) (hgl : gs.length = n) (hn : 1 ≤ n) :
    ∃ b c, v = .slice (some ⟨b, 0, none⟩) n c ∧ ∀ w' f', Tab w' B n v gs f' → ∀ i (hi : i < gs.length), w'.cell? ⟨b, i, none⟩ = some (.slice (some ⟨gs[i], 0, none⟩) n n) := by
  rcases h.own.2 with ⟨-, h0⟩ | ⟨b, c, cur, rfl, -⟩
  · rw [hgl] at h0; omega
  · refine ⟨b, c, by rw [hgl], fun w' f' h' i hi => ?_⟩
    have := h'.cell hi
    exact this
/-- The list of the ends' counts grows pair by pair. -/
theorem row_succ (ps : List (Nat × Nat)) (b a : Nat) : row ps (b + 1) a = row ps b a ++ if 0 < ps.count (a, b) then [(a, b, ps.count (a, b))] else [] := by
  unfold row
  rw [List.range_succ, List.filterMap_append, List.filterMap_cons, List.filterMap_nil]
  congr 1
  by_cases h : 0 < ps.count (a, b)
  · rw [if_pos h, if_pos h]
  · rw [if_neg h, if_neg h]
theorem row_low {ps : List (Nat × Nat)} (h : ∀ x ∈ ps, x.1 ≤ x.2) (a : Nat) : row ps a a = [] := by
  unfold row
  rw [List.filterMap_eq_nil_iff]
  intro b hb
  rw [List.mem_range] at hb
  rw [if_neg]
  intro hc
  have := h _ (List.count_pos_iff.1 hc)
  simp only at this
  omega
def rows (ps : List (Nat × Nat)) (n a : Nat) : List (Nat × Nat × Nat) := (List.range a).flatMap fun i => row ps n i
theorem rows_succ (ps : List (Nat × Nat)) (n a : Nat) : rows ps n (a + 1) = rows ps n a ++ row ps n a := by simp [rows, List.range_succ, List.flatMap_append]
theorem rows_zero (ps : List (Nat × Nat)) (n : Nat) : rows ps n 0 = [] := rfl
theorem rows_all (ps : List (Nat × Nat)) (n : Nat) : rows ps n n = canon n ps := rfl
theorem rows_len (ps : List (Nat × Nat)) (n a b : Nat) : (rows ps n a ++ row ps b a).length ≤ a * n + b := by
  have h1 : ∀ k a, (row ps k a).length ≤ k := fun k a => by
    unfold row
    have := List.length_filterMap_le (fun b => if 0 < ps.count (a, b) then some (a, b, ps.count (a, b)) else none) (List.range k)
    rwa [List.length_range] at this
  rw [List.length_append]
  have h2 := h1 b a
  have h3 : ∀ a, (rows ps n a).length ≤ a * n := by
    intro a
    induction a with
    | zero => simp [rows_zero]
    | succ a ih => rw [rows_succ, List.length_append, Nat.add_mul, Nat.one_mul]; have := h1 n a; omega
  have := h3 a
  omega
end Go.Proofs.YtkkklfikdoibcaaGreatDoor

namespace Go.Proofs.YtkkklfikdoibcaaGreatDoor
open Go.RowKit
set_option maxRecDepth 100000

set_option maxHeartbeats 4000000 in
theorem rTable_any (w : World) (n : Nat) (hn : n ≤ 12) :
    Calls Tryz.prog 188 #[.int .i64 (n : Nat)] w (Rets fun r w' => ∃ gs, gs.length = n ∧ Tab w' w.heap.size n r gs (fun _ _ => 0) ∧ Below w.heap.size w w') := by
  obtain ⟨D, hD⟩ : ∃ D, w.heap.size = D := ⟨_, rfl⟩
  rw [hD]
  have HD := Lib.hid hD
  go_enter Tryz.func188, Tryz.ntmps188
  go_wp2
  go_loopw [3, 4] (fun s i wr => ∃ (k : Nat) (gs : List Nat), k ≤ n ∧ i = .int .i64 k ∧ gs.length = k ∧ Hid (Tab wr D n s gs (fun _ _ => 0)) ∧ Hid (Below D w wr)) (fun _ i _ => n - (intOf i).toNat)
  case atStart => exact ⟨0, [], Nat.zero_le _, rfl, rfl, Lib.hid (Tab.nil _ _ _ _), Lib.hid (by rw [← hD]; exact Below.refl _ _)⟩
  case round =>
    obtain ⟨k, gs, hk, rfl, hgl, hT, hB⟩ := hrel
    obtain ⟨sa, sc, rfl⟩ := own_formK hT.out.own
    rw [hgl] at hT ⊢
    by_cases hkn : k < n
    · obtain ⟨G, hG⟩ : ∃ G, wr.heap.size = G := ⟨_, rfl⟩
      have HG := Lib.hid hG
      have HDG := Lib.hid (show D ≤ G by rw [← hG, ← hD]; exact hB.out.size)
      have HDW := Lib.hid (show D ≤ wr.heap.size by rw [← hD]; exact hB.out.size)
      have HNM := Lib.hid (show G ∉ gs from fun e => by
        obtain ⟨i, hi, e2⟩ := List.getElem_of_mem e
        have := (hT.out.row i hi).lt
        omega)
      have HGL := Lib.hid hgl
      go_wp2_with (first
        | (at_make; refine mkN elemInt rfl _ _ rfl n rfl rfl rfl rfl (by omega) (by unfold maxLen; omega) hB.out HDW.out rfl ?_; intro w2 hown hb2 hb3; have HK2 := Lib.hid (blk_of_own hown); have HT2 := Lib.hid (hT.out.below hb3 (Nat.le_refl _)); have HB2 := Lib.hid hb2; have HS2 := Lib.hid (show D ≤ w2.heap.size by rw [← HD.out]; exact HB2.out.size); clear hown hb2 hb3; rw [HG.out])
        | (at_builtin; refine appMP (w0 := w2) (m := 1) (news := [.slice (some ⟨G, 0, none⟩) n n]) elemII rfl _ _ rfl rfl rfl (ownsRow_cast HT2.out.own HGL.out rfl) HS2.out rfl (by intro u hu; simp at hu; subst hu; rfl) (by omega) (by unfold maxLen; omega) ?_; intro v' w3 hown' hg2; obtain ⟨va, vc, rfl⟩ := own_formK hown'; have HO3 := Lib.hid hown'; have HG3 := Lib.hid hg2; clear hown' hg2))
      go_roundw
      case rel =>
        have hge := own_ge HT2.out.own
        have hk0 := HK2.out
        rw [tbV_zero, HG.out] at hk0
        have ht := (HT2.out.alloc (.cells #[.slice (some ⟨G, 0, none⟩) n n] 39)).push (v' := .slice va (k + 1) vc) (hk0.alloc _) HDG.out HNM.out HG3.out (ownsRow_cast HO3.out (by rw [HGL.out]) rfl)
        exact ⟨k + 1, gs ++ [G], by omega, by go_num, by simp [HGL.out], Lib.hid ht, Lib.hid ((HB2.out.alloc HS2.out _).grown HG3.out (by rw [World.size_alloc]; have := HS2.out; omega) (fun j e => hge j e))⟩
      case measure => simp [intOf]; omega
    · obtain rfl : k = n := by omega
      go_wp2
      go_ret
      exact ⟨_, rfl, gs, hgl, by rw [← hgl] at hT ⊢; exact hT.out, hB.out⟩
end Go.Proofs.YtkkklfikdoibcaaGreatDoor

namespace Go.Proofs.YtkkklfikdoibcaaGreatDoor
open Go.RowKit
set_option maxRecDepth 100000

theorem n3_snoc (l : List (Nat × Nat × Nat)) (a b c : Nat) : ((l ++ [(a, b, c)]).map n3).flatMap e3 = (l.map n3).flatMap e3 ++ [.int .i64 (a : Nat), .int .i64 (b : Nat), .int .i64 (c : Nat)] := by
  rw [List.map_append, List.flatMap_append]
  rfl
set_option maxHeartbeats 4000000 in
theorem rJoined_any (w : World) (n B : Nat) (v : Value) (gs : List Nat) (ps : List (Nat × Nat)) (hT : Tab w B n v gs (fun a b => ps.count (a, b))) (hgl : gs.length = n) (hn1 : 1 ≤ n) (hn : n ≤ 12) (hps : ∀ x ∈ ps, x.1 ≤ x.2) :
    Calls Tryz.prog 189 #[.int .i64 (n : Nat), v] w (Rets fun r w' => ∃ u, r = .agg #[.int .i64 (n : Nat), u] ∧ w'.ownsRow w.heap.size 124 3 u (canon n ps).length (((canon n ps).map n3).flatMap e3) ∧ Below w.heap.size w w') := by
  obtain ⟨vb, vc0, rfl, hsh⟩ := hT.shape hgl hn1
  have HT := Lib.hid hT; have HSH := Lib.hid hsh; have HGL := Lib.hid hgl; have HPS := Lib.hid hps
  obtain ⟨D, hD⟩ : ∃ D, w.heap.size = D := ⟨_, rfl⟩
  obtain ⟨W, hW⟩ : ∃ W, (w.alloc (.cells #[.int .i64 0, .slice none 0 0] 24)).alloc (.cells #[.int .i64 (n : Nat), .slice none 0 0] 24) = W := ⟨_, rfl⟩
  have hWs : W.heap.size = D + 2 := by rw [← hW, ← hD]; simp
  have HR0 := Lib.hid (show Blk W D [.int .i64 0, .slice none 0 0] 24 by rw [← hW, ← hD]; exact (Blk.new w _ _).alloc _)
  have HK0 := Lib.hid (show Blk W (D + 1) [.int .i64 (n : Nat), .slice none 0 0] 24 by rw [← hW, ← hD]; exact Blk.at1 w _ _ _)
  have HB0 := Lib.hid (show Below D w W by rw [← hW, ← hD]; exact ((Below.refl _ w).alloc (Nat.le_refl _) _).alloc (by simp) _)
  have HW := Lib.hid hW; have HD := Lib.hid hD
  have HS0 := Lib.hid (show D + 2 ≤ W.heap.size by omega)
  clear hT hgl hsh hps hW hWs
  go_enter Tryz.func189, Tryz.ntmps189
  go_wp2
  rw [HW.out]
  try rw [hD]
  go_loopw [6] (fun i wr => ∃ (a : Nat) (s : Value), a ≤ n ∧ i = .int .i64 a ∧ Hid (wr.ownsRow (D + 2) 124 3 s (rows ps n a).length (((rows ps n a).map n3).flatMap e3)) ∧ Hid (Blk wr (D + 1) [.int .i64 (n : Nat), s] 24) ∧ Hid (Blk wr D [.int .i64 0, .slice none 0 0] 24) ∧ Hid (Below D w wr) ∧ Hid (D + 2 ≤ wr.heap.size)) (fun i _ => n - (intOf i).toNat)
  case atStart => exact ⟨0, _, Nat.zero_le _, rfl, Lib.hid (World.ownsRow_nil _ _ _ _), HK0, HR0, HB0, HS0⟩
  case round =>
    clear HK0 HR0 HB0 HS0
    obtain ⟨a, s, ha, rfl, hO, hK, hR, hB, hS⟩ := hrel
    by_cases han : a < n
    · go_wp2
      go_loopw [7] (fun j wr => ∃ (b : Nat) (s : Value), a ≤ b ∧ b ≤ n ∧ j = .int .i64 b ∧ Hid (wr.ownsRow (D + 2) 124 3 s (rows ps n a ++ row ps b a).length (((rows ps n a ++ row ps b a).map n3).flatMap e3)) ∧ Hid (Blk wr (D + 1) [.int .i64 (n : Nat), s] 24) ∧ Hid (Blk wr D [.int .i64 0, .slice none 0 0] 24) ∧ Hid (Below D w wr) ∧ Hid (D + 2 ≤ wr.heap.size)) (fun j _ => n - (intOf j).toNat)
      case atStart => exact ⟨a, s, Nat.le_refl _, Nat.le_of_lt han, rfl, Lib.hid (by rw [row_low HPS.out, List.append_nil]; exact hO.out), hK, hR, hB, hS⟩
      case round =>
        clear hO hK hR hB hS s
        obtain ⟨b, s, hab, hb, rfl, hO, hK, hR, hB, hS⟩ := hrel
        by_cases hbn : b < n
        · obtain ⟨K, hKl⟩ : ∃ K, (rows ps n a ++ row ps b a).length = K := ⟨_, rfl⟩
          have hKb := rows_len ps n a b
          have hab2 : a * n ≤ 12 * 12 := Nat.mul_le_mul (by omega) hn
          rw [hKl] at hO hKb
          obtain ⟨sa, sc, rfl⟩ := own_formK hO.out
          have HTW := Lib.hid (HT.out.below hB.out (Nat.le_of_eq hD))
          have hag : a < gs.length := by rw [HGL.out]; exact han
          have t0 := HSH.out wr _ HTW.out a hag
          have t1 := HTW.out.val hag hbn
          obtain ⟨g, hg⟩ : ∃ g, gs[a] = g := ⟨_, rfl⟩
          obtain ⟨C, hC⟩ : ∃ C, ps.count (a, b) = C := ⟨_, rfl⟩
          have HG := Lib.hid hg; have HC := Lib.hid hC
          rw [hg] at t0 t1
          simp only [hC] at t1
          have k0 := hK.out.cell 0 _ rfl; have k1 := hK.out.cell 1 _ rfl; have kl := hK.out.lt; have kf := hK.out.free 1
          have q1 : (0 : Int) ≤ (a : Int) := by omega
          have q2 : (a : Int) < (n : Int) := by omega
          have q3 : (0 : Int) ≤ (b : Int) := by omega
          have q4 : (b : Int) < (n : Int) := by omega
          have HKL := Lib.hid hKl
          by_cases hc0 : 0 < C
          · have hc1 : (0 : Int) < (C : Int) := by omega
            have HROW := Lib.hid (show rows ps n a ++ row ps (b + 1) a = (rows ps n a ++ row ps b a) ++ [(a, b, C)] by rw [row_succ, hC, if_pos hc0, List.append_assoc])
            have hge := own_ge hO.out
            have HOD := Lib.hid (show wr.drew.ownsRow (D + 2) 124 3 (.slice sa K sc) K (((rows ps n a ++ row ps b a).map n3).flatMap e3) from hO.out)
            have HSD := Lib.hid (show D + 2 ≤ wr.drew.heap.size from hS.out)
            have HB1 := Lib.hid (show (K + 1) * 24 ≤ 140737488355328 by omega)
            have HB2 := Lib.hid (show K + 1 ≤ maxLen by unfold maxLen; omega)
            have HTA := HTW.out.drew.alloc (.cells #[.int .i64 (a : Nat), .int .i64 (b : Nat), .int .i64 (C : Nat)] 124)
            have a0 := HSH.out _ _ HTA a hag
            have a1 := HTA.val hag hbn
            rw [hg] at a0 a1
            simp only [hC] at a1
            have HSA := Lib.hid (⟨((blk_drew (cs := [.int .i64 (n : Nat), .slice sa K sc]) hK.out).alloc (.cells #[.int .i64 (a : Nat), .int .i64 (b : Nat), .int .i64 (C : Nat)] 124)).cell 1 _ rfl, a0, a1⟩ : (wr.drew.alloc (.cells #[.int .i64 (a : Nat), .int .i64 (b : Nat), .int .i64 (C : Nat)] 124)).cell? ⟨D + 1, 1, none⟩ = some (.slice sa K sc) ∧ (wr.drew.alloc (.cells #[.int .i64 (a : Nat), .int .i64 (b : Nat), .int .i64 (C : Nat)] 124)).cell? ⟨vb, a, none⟩ = some (.slice (some ⟨g, 0, none⟩) n n) ∧ (wr.drew.alloc (.cells #[.int .i64 (a : Nat), .int .i64 (b : Nat), .int .i64 (C : Nat)] 124)).cell? ⟨g, b, none⟩ = some (.int .i64 (C : Nat)))
            clear HTA a0 a1 hg hC hKb hKl
            go_wp2_with fail
            -- REGION 9
            have hS0 := (⟨k1, t0, t1⟩ : wr.drew.cell? ⟨D + 1, 1, none⟩ = some (.slice sa K sc) ∧ wr.drew.cell? ⟨vb, a, none⟩ = some (.slice (some ⟨g, 0, none⟩) n n) ∧ wr.drew.cell? ⟨g, b, none⟩ = some (.int .i64 (C : Nat)))
            refine wp_regionJ (S := fun w' => w'.cell? ⟨D + 1, 1, none⟩ = some (.slice sa K sc) ∧ w'.cell? ⟨vb, a, none⟩ = some (.slice (some ⟨g, 0, none⟩) n n) ∧ w'.cell? ⟨g, b, none⟩ = some (.int .i64 (C : Nat))) (A := fun i => decide (i < 13)) (by kernel_rfl) ?_
            refine wpAnyJ_take (i := 0) (oi := { dst := some 29, op := .fieldAddr _ (.tmp 5) 1, type := _, pos := _, after := _, guard := _ }) (v := ?_) rfl (by kernel_rfl) (by kernel_rfl) (by kernel_rfl) (early_sat (by kernel_rfl)) (fun _ _ _ h => h) (Or.inl ⟨by rfl, ?_⟩) hS0 ?_
            rotate_left
            · intro wl hSw
              obtain ⟨s0, s1, s2⟩ := hSw
              go_simp
              with_reducible rfl
            simp only [Act.put, List.setIfInBounds_toArray, List.set_cons_zero, List.set_cons_succ]
            refine wpAnyJ_take (i := 1) (oi := { dst := some 30, op := .load _ (.tmp 29), type := _, pos := _, after := _, guard := _ }) (v := ?_) rfl (by kernel_rfl) (by kernel_rfl) (by kernel_rfl) (early_sat (by kernel_rfl)) (fun _ _ _ h => h) (Or.inl ⟨by rfl, ?_⟩) hS0 ?_
            rotate_left
            · intro wl hSw
              obtain ⟨s0, s1, s2⟩ := hSw
              go_simp
              with_reducible rfl
            simp only [Act.put, List.setIfInBounds_toArray, List.set_cons_zero, List.set_cons_succ]
            refine wpAnyJ_take (i := 2) (oi := { dst := some 31, op := .move (.tmp 6), type := _, pos := _, after := _, guard := _ }) (v := ?_) rfl (by kernel_rfl) (by kernel_rfl) (by kernel_rfl) (early_sat (by kernel_rfl)) (fun _ _ _ h => h) (Or.inl ⟨by rfl, ?_⟩) hS0 ?_
            rotate_left
            · intro wl hSw
              obtain ⟨s0, s1, s2⟩ := hSw
              go_simp
              with_reducible rfl
            simp only [Act.put, List.setIfInBounds_toArray, List.set_cons_zero, List.set_cons_succ]
            refine wpAnyJ_take (i := 3) (oi := { dst := some 32, op := .move (.tmp 7), type := _, pos := _, after := _, guard := _ }) (v := ?_) rfl (by kernel_rfl) (by kernel_rfl) (by kernel_rfl) (early_sat (by kernel_rfl)) (fun _ _ _ h => h) (Or.inl ⟨by rfl, ?_⟩) hS0 ?_
            rotate_left
            · intro wl hSw
              obtain ⟨s0, s1, s2⟩ := hSw
              go_simp
              with_reducible rfl
            simp only [Act.put, List.setIfInBounds_toArray, List.set_cons_zero, List.set_cons_succ]
            refine wpAnyJ_take (i := 4) (oi := { dst := some 33, op := .move (.tmp 1), type := _, pos := _, after := _, guard := _ }) (v := ?_) rfl (by kernel_rfl) (by kernel_rfl) (by kernel_rfl) (early_sat (by kernel_rfl)) (fun _ _ _ h => h) (Or.inl ⟨by rfl, ?_⟩) hS0 ?_
            rotate_left
            · intro wl hSw
              obtain ⟨s0, s1, s2⟩ := hSw
              go_simp
              with_reducible rfl
            simp only [Act.put, List.setIfInBounds_toArray, List.set_cons_zero, List.set_cons_succ]
            refine wpAnyJ_take (i := 5) (oi := { dst := some 34, op := .move (.tmp 6), type := _, pos := _, after := _, guard := _ }) (v := ?_) rfl (by kernel_rfl) (by kernel_rfl) (by kernel_rfl) (early_sat (by kernel_rfl)) (fun _ _ _ h => h) (Or.inl ⟨by rfl, ?_⟩) hS0 ?_
            rotate_left
            · intro wl hSw
              obtain ⟨s0, s1, s2⟩ := hSw
              go_simp
              with_reducible rfl
            simp only [Act.put, List.setIfInBounds_toArray, List.set_cons_zero, List.set_cons_succ]
            refine wpAnyJ_take (i := 6) (oi := { dst := some 35, op := .indexAddr _ (.tmp 33) (.tmp 34), type := _, pos := _, after := _, guard := _ }) (v := ?_) rfl (by kernel_rfl) (by kernel_rfl) (by kernel_rfl) (early_sat (by kernel_rfl)) (fun _ _ _ h => h) (Or.inl ⟨by rfl, ?_⟩) hS0 ?_
            rotate_left
            · intro wl hSw
              obtain ⟨s0, s1, s2⟩ := hSw
              go_simp
              with_reducible rfl
            simp only [Act.put, List.setIfInBounds_toArray, List.set_cons_zero, List.set_cons_succ]
            refine wpAnyJ_take (i := 7) (oi := { dst := some 36, op := .load _ (.tmp 35), type := _, pos := _, after := _, guard := _ }) (v := ?_) rfl (by kernel_rfl) (by kernel_rfl) (by kernel_rfl) (early_sat (by kernel_rfl)) (fun _ _ _ h => h) (Or.inl ⟨by rfl, ?_⟩) hS0 ?_
            rotate_left
            · intro wl hSw
              obtain ⟨s0, s1, s2⟩ := hSw
              go_simp
              with_reducible rfl
            simp only [Act.put, List.setIfInBounds_toArray, List.set_cons_zero, List.set_cons_succ]
            refine wpAnyJ_take (i := 8) (oi := { dst := some 37, op := .move (.tmp 7), type := _, pos := _, after := _, guard := _ }) (v := ?_) rfl (by kernel_rfl) (by kernel_rfl) (by kernel_rfl) (early_sat (by kernel_rfl)) (fun _ _ _ h => h) (Or.inl ⟨by rfl, ?_⟩) hS0 ?_
            rotate_left
            · intro wl hSw
              obtain ⟨s0, s1, s2⟩ := hSw
              go_simp
              with_reducible rfl
            simp only [Act.put, List.setIfInBounds_toArray, List.set_cons_zero, List.set_cons_succ]
            refine wpAnyJ_take (i := 9) (oi := { dst := some 38, op := .indexAddr _ (.tmp 36) (.tmp 37), type := _, pos := _, after := _, guard := _ }) (v := ?_) rfl (by kernel_rfl) (by kernel_rfl) (by kernel_rfl) (early_sat (by kernel_rfl)) (fun _ _ _ h => h) (Or.inl ⟨by rfl, ?_⟩) hS0 ?_
            rotate_left
            · intro wl hSw
              obtain ⟨s0, s1, s2⟩ := hSw
              go_simp
              with_reducible rfl
            simp only [Act.put, List.setIfInBounds_toArray, List.set_cons_zero, List.set_cons_succ]
            refine wpAnyJ_take (i := 10) (oi := { dst := some 39, op := .load _ (.tmp 38), type := _, pos := _, after := _, guard := _ }) (v := ?_) rfl (by kernel_rfl) (by kernel_rfl) (by kernel_rfl) (early_sat (by kernel_rfl)) (fun _ _ _ h => h) (Or.inl ⟨by rfl, ?_⟩) hS0 ?_
            rotate_left
            · intro wl hSw
              obtain ⟨s0, s1, s2⟩ := hSw
              go_simp
              with_reducible rfl
            simp only [Act.put, List.setIfInBounds_toArray, List.set_cons_zero, List.set_cons_succ]
            refine wpAnyJ_take (i := 11) (oi := { dst := some 40, op := _, type := _, pos := _, after := _, guard := _ }) (v := ?_) rfl (by kernel_rfl) (by kernel_rfl) (by kernel_rfl) (early_sat (by kernel_rfl)) (fun _ _ _ h => h) (Or.inl ⟨by rfl, ?_⟩) hS0 ?_
            rotate_left
            · intro wl hSw
              obtain ⟨s0, s1, s2⟩ := hSw
              go_simp
              with_reducible rfl
            simp only [Act.put, List.setIfInBounds_toArray, List.set_cons_zero, List.set_cons_succ]
            refine wpAnyJ_only (i := 12) (o := { dst := some 41, op := _, type := _, pos := _, after := _, guard := _ }) (by kernel_rfl) rfl (fun Kx hKK => ?_)
            go_simp
            refine hKK.out _ _ (fun _ => HSA.out) ?_
            try simp only [Act.put, List.setIfInBounds_toArray, List.set_cons_zero, List.set_cons_succ]
            clear hKK Kx
            refine wpAnyJ_only (i := 13) (o := { dst := some 42, op := _, type := _, pos := _, after := _, guard := _ }) (by kernel_rfl) rfl (fun Kx hKK => ?_)
            refine appMG_step (w0 := wr.drew) (m := 1) (news := [.int .i64 (a : Nat), .int .i64 (b : Nat), .int .i64 (C : Nat)]) (base := D + 2) elemEdge rfl (.tmp 30) (.tmp 41) rfl (by rfl) (by rfl) HOD.out HSD.out rfl (e3_one ((a : Int), (b : Int), (C : Int))) HB1.out HB2.out ?_
            intro v' w5 hown' hg' hat'
            obtain ⟨va, vc, rfl⟩ := own_formK hown'
            have HN5 := Lib.hid hown'; have HG5 := Lib.hid hg'
            clear hown' hg' hat'
            have HK5 := Lib.hid (((blk_drew (cs := [.int .i64 (n : Nat), .slice sa K sc]) hK.out).alloc (.cells [.int .i64 (a : Nat), .int .i64 (b : Nat), .int .i64 (C : Nat)].toArray 124)).grown HG5.out (fun e => by have := hge _ e.symm; omega))
            have c5 := HK5.out.cell 1 _ rfl; have f5 := HK5.out.free 1; have l5 := HK5.out.lt
            refine hKK.out _ _ (fun h => absurd h (by decide)) ?_
            try simp only [Act.put, List.setIfInBounds_toArray, List.set_cons_zero, List.set_cons_succ]
            clear hKK Kx
            refine wpAnyJ_only (i := 14) (o := { dst := some 43, op := .fieldAddr _ (.tmp 5) 1, type := _, pos := _, after := _, guard := _ }) (by kernel_rfl) rfl (fun Kx hKK => ?_)
            go_simp
            refine hKK.out _ _ (fun h => absurd h (by decide)) ?_
            try simp only [Act.put, List.setIfInBounds_toArray, List.set_cons_zero, List.set_cons_succ]
            clear hKK Kx
            refine wpAnyJ_only (i := 15) (o := { dst := none, op := .store _ (.tmp 43) (.tmp 42), type := _, pos := _, after := _, guard := _ }) (by kernel_rfl) rfl (fun Kx hKK => ?_)
            go_simp
            refine hKK.out _ _ (fun h => absurd h (by decide)) ?_
            try simp only [Act.put, List.setIfInBounds_toArray, List.set_cons_zero, List.set_cons_succ]
            clear hKK Kx
            refine wpAnyJ_done (by kernel_rfl) ?_ _
            -- BEHIND REGION 9
            clear hS0
            go_wp2
            go_roundw
            case rel =>
              have hgrow := HG5.out
              refine ⟨b + 1, _, by omega, by omega, by go_num, Lib.hid ?_, Lib.hid (HK5.out.set 1 (.slice va (K + 1) vc)), Lib.hid ((((blk_drew (cs := [.int .i64 0, .slice none 0 0]) hR.out).alloc _).grown hgrow (fun e => by have := hge _ e.symm; omega)).setCell (by omega) _), Lib.hid ?_, Lib.hid ?_⟩
              · rw [HROW.out, n3_snoc]
                exact ownsRow_cast (own_off HN5.out (by omega)) (by rw [List.length_append, HKL.out]; rfl) rfl
              · exact ((((hB.out.drew).alloc (show D ≤ wr.drew.heap.size from Nat.le_trans (Nat.le_add_right D 2) hS.out) _).grown hgrow (by rw [World.size_alloc]; exact (show D ≤ wr.heap.size + 1 by have := hS.out; omega)) (fun j e => by have := hge j e; omega)).setCell (show D ≤ D + 1 from Nat.le_succ D) _)
              · have h9 := hgrow.size; rw [World.size_alloc] at h9; have h8 : wr.heap.size + 1 ≤ w5.heap.size := h9; have h7 := hS.out; exact Nat.le_trans (show D + 2 ≤ w5.heap.size by omega) (by simp)
            case measure => simp [intOf]; omega
          · have hc1 : decide ((0 : Int) < (C : Int)) = false := by simp only [decide_eq_false_iff_not]; omega
            have HROW := Lib.hid (show rows ps n a ++ row ps (b + 1) a = rows ps n a ++ row ps b a by rw [row_succ, hC, if_neg hc0, List.append_nil])
            clear hg hC
            go_wp2
            go_roundw
            case rel => exact ⟨b + 1, _, by omega, by omega, by go_num, Lib.hid (by rw [HROW.out, HKL.out]; exact hO.out), hK, hR, hB, hS⟩
            case measure => simp [intOf]; omega
        · obtain rfl : b = n := by omega
          go_wp2
          go_roundw
          case rel => exact ⟨a + 1, s, by omega, by go_num, Lib.hid (by rw [rows_succ]; exact hO.out), hK, hR, hB, hS⟩
          case measure => simp [intOf]; omega
    · obtain rfl : a = n := by omega
      obtain ⟨sa, sc, rfl⟩ := own_formK hO.out
      have k0 := hK.out.cell 0 _ rfl; have k1 := hK.out.cell 1 _ rfl; have kl := hK.out.lt
      have r0 := hR.out.cell 0 _ rfl; have r1 := hR.out.cell 1 _ rfl; have rf0 := hR.out.free 0; have rf1 := hR.out.free 1; have rl := hR.out.lt
      go_wp2
      have hRF := (hR.out.set 0 (.int .i64 (a : Nat))).set 1 (.slice sa (rows ps a a).length sc)
      have y0 := hRF.cell 0 _ rfl; have y1 := hRF.cell 1 _ rfl
      refine bodyPost_ret (v := .agg #[.int .i64 (a : Nat), .slice sa (rows ps a a).length sc]) (by simp [results, Tryz.results189, go_sem, y0, y1]) rfl ⟨_, rfl, .slice sa (rows ps a a).length sc, rfl, ?_, ?_⟩
      · rw [hD]; exact own_low (own_off (own_off hO.out (by omega)) (by omega)) (by omega)
      rw [hD]
      exact (hB.out.setCell (p := ⟨D, 0, none⟩) (Nat.le_refl _) _).setCell (p := ⟨D, 1, none⟩) (Nat.le_refl _) _
end Go.Proofs.YtkkklfikdoibcaaGreatDoor
