/- The walks of the reference's Ends, Size, small, FewTrees of graphs. The library's sort at a slice of triples that the call owns. -/
import Derived.Test.YtlnhocgjgmhfgaaGreatDoorPk4
namespace Go.Proofs.YtlnhocgjgmhfgaaGreatDoor
open Go.RowKit
set_option maxRecDepth 100000

/-- A triple of numbers, as ints. -/
def n3 (x : Nat × Nat × Nat) : Int × Int × Int := ((x.1 : Int), (x.2.1 : Int), (x.2.2 : Int))
/-- The single edges (or arcs). -/
def sgl (ns : List (Nat × Nat × Nat)) : List (Nat × Nat) := ns.flatMap fun x => List.replicate x.2.2 (x.1, x.2.1)
def p2 (x : Nat × Nat) : List Value := [.int .i64 (x.1 : Nat), .int .i64 (x.2 : Nat)]
theorem p2_len (x : Nat × Nat) : (p2 x).length = 2 := rfl
theorem p2_one (x : Nat × Nat) : ∀ u ∈ p2 x, u.oneCell' = true := by intro u hu; simp [p2] at hu; rcases hu with rfl | rfl <;> rfl
theorem sgl_take (ns : List (Nat × Nat × Nat)) (k : Nat) (h : k < ns.length) : sgl (ns.take (k + 1)) = sgl (ns.take k) ++ List.replicate ns[k].2.2 (ns[k].1, ns[k].2.1) := by
  unfold sgl; rw [List.take_succ_eq_append_getElem h, List.flatMap_append]; simp
theorem sgl_le (ns : List (Nat × Nat × Nat)) (h : ∀ x ∈ ns, x.2.2 ≤ 50) : ∀ k, (sgl (ns.take k)).length ≤ 50 * ns.length := by
  have key : ∀ l : List (Nat × Nat × Nat), (∀ x ∈ l, x.2.2 ≤ 50) → (sgl l).length ≤ 50 * l.length := by
    intro l
    induction l with
    | nil => intro _; simp [sgl]
    | cons x l ih =>
      intro hl
      have h1 := hl x (by simp)
      have h2 := ih fun y hy => hl y (by simp [hy])
      have e : sgl (x :: l) = List.replicate x.2.2 (x.1, x.2.1) ++ sgl l := by simp [sgl]
      rw [e, List.length_append, List.length_replicate, List.length_cons]; omega
  intro k
  have h1 := key (ns.take k) fun x hx => h x (List.mem_of_mem_take hx)
  have h2 : (ns.take k).length ≤ ns.length := by simp; omega
  omega
theorem flat_snoc {α : Type} (f : α → List Value) (xs : List α) (x : α) : (xs ++ [x]).flatMap f = xs.flatMap f ++ f x := by simp
theorem rep_snoc {α : Type} (l : List α) (j : Nat) (x : α) : l ++ List.replicate (j + 1) x = (l ++ List.replicate j x) ++ [x] := by
  rw [List.replicate_succ', List.append_assoc]

theorem own_baseK {w : World} {b b' e s n : Nat} {v : Value} {ys : List Value} (h : w.ownsRow b e s v n ys) (hb : b' ≤ b) : w.ownsRow b' e s v n ys :=
  ⟨h.1, h.2.imp_right fun ⟨g, cap, cur, h1, h2, r⟩ => ⟨g, cap, cur, h1, Nat.le_trans hb h2, r⟩⟩
theorem own_formK {w : World} {b e s n : Nat} {v : Value} {ys : List Value} (h : w.ownsRow b e s v n ys) : ∃ a c, v = .slice a n c := by
  rcases h.2 with ⟨rfl, h0⟩ | ⟨g, cap, cur, rfl, -⟩
  · subst h0
    exact ⟨_, _, rfl⟩
  · exact ⟨_, _, rfl⟩
/-- Is a graph small, or wrong and short? -/
def smallB (n : Int) (es : List (Int × Int × Int)) (V S : Int) : Bool := if 40 < es.length then false else if chkG n es ≠ 0 then true else decide (n ≤ V) && decide ((((es.map fun x => x.2.2.toNat).sum : Nat) : Int) ≤ S)
/-- A right graph's edges are triples of numbers. -/
theorem estep_ns : ∀ (n : Int) (p : Int × Int) (es : List (Int × Int × Int)), estep n p es = 0 → ∃ ns : List (Nat × Nat × Nat), es = ns.map n3 ∧ (∀ x ∈ ns, (x.1 : Int) < n ∧ (x.2.1 : Int) < n ∧ 1 ≤ x.2.2 ∧ x.2.2 ≤ 50 ∧ x.1 ≤ x.2.1) ∧
      (∀ x ∈ ns, lt2 p ((x.1 : Int), (x.2.1 : Int)) = true) ∧ ns.Pairwise fun x y => x.1 < y.1 ∨ (x.1 = y.1 ∧ x.2.1 < y.2.1)
  | _, _, [], _ => ⟨[], rfl, by simp, by simp, List.Pairwise.nil⟩
  | n, p, x :: l, h => by
    rw [estep] at h
    by_cases h1 : eOk n x = true
    · rw [if_pos h1] at h
      by_cases h2 : x.1 ≤ x.2.1 ∧ lt2 p (x.1, x.2.1) = true
      · rw [if_pos h2] at h
        obtain ⟨ns, e1, e2, e3, e4⟩ := estep_ns n _ l h
        obtain ⟨⟨⟨v1, v2⟩, v3⟩, v4⟩ : ((vtx n x.1 = true ∧ vtx n x.2.1 = true) ∧ 1 ≤ x.2.2) ∧ x.2.2 ≤ 50 := by
          have : (vtx n x.1 = true ∧ vtx n x.2.1 = true) ∧ 1 ≤ x.2.2 ∧ x.2.2 ≤ 50 := by simpa [eOk] using h1
          exact ⟨⟨this.1, this.2.1⟩, this.2.2⟩
        rw [vtx_iff] at v1 v2
        have hx : x = n3 (x.1.toNat, x.2.1.toNat, x.2.2.toNat) := by
          obtain ⟨a, b, c⟩ := x
          simp only [n3, Prod.mk.injEq] at *
          omega
        have hlt : ∀ y ∈ ns, x.1.toNat < y.1 ∨ (x.1.toNat = y.1 ∧ x.2.1.toNat < y.2.1) := fun y hy => by
          have := e3 y hy
          simp only [lt2, decide_eq_true_eq] at this
          omega
        refine ⟨(x.1.toNat, x.2.1.toNat, x.2.2.toNat) :: ns, by rw [List.map_cons, ← hx, ← e1], ?_, ?_, List.pairwise_cons.2 ⟨hlt, e4⟩⟩
        · intro y hy
          rcases List.mem_cons.1 hy with rfl | hy
          · simp only; omega
          · exact e2 y hy
        · intro y hy
          rcases List.mem_cons.1 hy with rfl | hy
          · have := h2.2
            simp only [lt2, decide_eq_true_eq] at this ⊢
            omega
          · have h3 := e3 y hy
            have h4 := h2.2
            simp only [lt2, decide_eq_true_eq] at h3 h4 ⊢
            omega
      · rw [if_neg h2] at h; exact absurd h (by decide)
    · rw [if_neg h1] at h; exact absurd h (by decide)
/-- A right graph. -/
structure RG (n : Int) (es : List (Int × Int × Int)) (ns : List (Nat × Nat × Nat)) : Prop where
  eq : es = ns.map n3
  pos : 1 ≤ n
  le : n ≤ 12
  rng : ∀ x ∈ ns, (x.1 : Int) < n ∧ (x.2.1 : Int) < n ∧ 1 ≤ x.2.2 ∧ x.2.2 ≤ 50 ∧ x.1 ≤ x.2.1
  asc : ns.Pairwise fun x y => x.1 < y.1 ∨ (x.1 = y.1 ∧ x.2.1 < y.2.1)
theorem rg_of {n : Int} {es : List (Int × Int × Int)} (h : chkG n es = 0) : ∃ ns, RG n es ns := by
  unfold chkG at h
  by_cases h1 : n < 1 ∨ 12 < n
  · rw [if_pos h1] at h; exact absurd h (by decide)
  · rw [if_neg h1] at h
    obtain ⟨ns, e1, e2, -, e4⟩ := estep_ns n _ es h
    exact ⟨ns, e1, by omega, by omega, e2, e4⟩
theorem sgl_len (ns : List (Nat × Nat × Nat)) : (sgl ns).length = (ns.map fun x => x.2.2).sum := by
  induction ns with
  | nil => rfl
  | cons x l ih => simp only [sgl, List.flatMap_cons, List.length_append, List.length_replicate, List.map_cons, List.sum_cons] at *; omega
end Go.Proofs.YtlnhocgjgmhfgaaGreatDoor

namespace Go.Proofs.YtlnhocgjgmhfgaaGreatDoor
open Go.RowKit Go.Sort Go.Shelf
set_option maxRecDepth 100000

section
variable {α : Type} [Inhabited α] {enc : α → List Value} {k : Nat}
theorem flatK_eq (hk : ∀ x, (enc x).length = k) (xs : List α) : flatK enc k xs.toArray = (xs.flatMap enc).toArray := by
  apply Array.ext
  · rw [size_flatK, List.size_toArray, List.size_toArray, flat_len hk]
  · intro t h1 h2
    have h3 : t < xs.length * k := by rwa [size_flatK, List.size_toArray] at h1
    have hk0 : 0 < k := by rcases Nat.eq_zero_or_pos k with h | h; · subst h; simp at h3
                           · exact h
    have hq : t / k < xs.length := Nat.div_lt_of_lt_mul (by rw [Nat.mul_comm]; exact h3)
    have hr : t % k < k := Nat.mod_lt _ hk0
    have e : t / k * k + t % k = t := by rw [Nat.mul_comm]; exact Nat.div_add_mod t k
    have h4 := flat_get hk xs (t / k) hq (t % k) hr
    rw [e] at h4
    have h5 := get_flatK enc k xs.toArray t (by rw [List.size_toArray]; exact h3)
    rw [getElem!_pos (flatK enc k xs.toArray) t h1] at h5
    rw [h5]
    have h6 : xs.toArray[t / k]! = xs[t / k] := by rw [getElem!_pos xs.toArray (t / k) (by simpa using hq)]; simp
    rw [h6]
    have h7 : t % k < (enc xs[t / k]).length := by rw [hk]; exact hr
    rw [getElem!_pos (enc xs[t / k]) (t % k) h7]
    have h8 : (xs.flatMap enc).toArray[t] = (xs.flatMap enc)[t]'(by simpa using h2) := by simp
    rw [h8]
    rw [List.getElem?_eq_getElem (by simpa using h2), List.getElem?_eq_getElem h7] at h4
    exact (Option.some.inj h4).symm
theorem heap_sortedK {w : World} {g n : Nat} {os : Array Obj} {cur : Array Value} {e : TypeId} {fr : Nat × Nat} (F : Array Value) (hb : w.heap[g]? = some (.cells cur e fr)) :
    (grow (putRow id (Sort.ahead w n) g 0 F) os).heap[g]? = some (.cells (putCells id 0 F cur) e fr) := by
  have hg : g < w.heap.size := (Array.getElem?_eq_some_iff.1 hb).1
  rw [heap_grow_old _ _ (by simpa using hg)]
  simp [putRow, mapBlock, Sort.ahead, Array.getElem?_modify, hb, onCells]
theorem grownBy_sortedK {w : World} {g n : Nat} {os : Array Obj} (F : Array Value) : w.grownBy (grow (putRow id (Sort.ahead w n) g 0 F) os) (some g) := by
  refine ⟨rfl, rfl, rfl, by simp, fun k hk hne => ?_⟩
  rw [heap_grow_old _ _ (by simpa using hk)]
  have : g ≠ k := fun e => hne (by rw [e])
  simp [putRow, mapBlock, Sort.ahead, Array.getElem?_modify, this]
theorem take_putCellsK (cur F : Array Value) (h : F.size ≤ cur.size) : (putCells id 0 F cur).toList.take F.size = F.toList := by
  apply List.ext_getElem?
  intro j
  by_cases hj : j < F.size
  · rw [List.getElem?_take_of_lt hj, Array.getElem?_toList, Array.getElem?_toList]
    simp [putCells, hj, show j < cur.size by omega]
  · rw [List.getElem?_take_eq_none (by omega), List.getElem?_eq_none (by simp; omega)]
/-- A row of the call's own, sorted by the library: the same elements, in order. -/
theorem sortK {P : Program} {ρ : Ren} (L : SlLaysF0.n6 P ρ) (aE : ∀ w, (isAgg (ρ.t 24)).run P w = .ok true w) (zE : ∀ w, (Go.sizeOf (ρ.t 24)).run P w = .ok k w) (hk : ∀ x, (enc x).length = k) (h1 : ∀ x, ∀ v ∈ enc x, v.oneCell' = true) (cf : α → α → Int) (hO : SWO (ltOf cf)) (g : Nat)
    (eg : ∀ args w, (callFunc g args).run P w = .ok (.enter g args) w) (hcmp : ∀ (W : World) (x y : α), Calls P g #[.agg (enc x).toArray, .agg (enc y).toArray] W fun e w' => e = .returned (.int .i64 (cf x y)) ∧ ∃ q os', w' = grow (W.drewN q) os')
    {w : World} {base e : Nat} {v : Value} {xs : List α} (h : w.ownsRow base e k v xs.length (xs.flatMap enc)) (hsz : xs.length < 4611686018427387904) :
    Calls P (ρ.f 6) #[v, .func (.func g) #[] #[]] w fun en w' => en = .returned (.tuple #[]) ∧ ∃ ys : List α, ys.Perm xs ∧ (ys.Pairwise fun x y => (ltOf cf) y x = false) ∧ w'.ownsRow base e k v ys.length (ys.flatMap enc) ∧ w.grownBy w' v.ownBlock := by
  have hall := h.2
  rcases hall with ⟨rfl, h0⟩ | ⟨b, cap, cur, rfl, hb, hh, hn, hc, hs, ht⟩
  · have hx : xs = [] := List.length_eq_zero_iff.1 h0
    subst hx
    exact (AnyF.slices_SortFunc_none L none 0 _ w).mono fun _ _ ⟨he, hw⟩ => ⟨he, [], List.Perm.refl _, List.Pairwise.nil, by rw [hw]; exact h, by rw [hw]; exact ⟨rfl, rfl, rfl, Nat.le_refl _, fun _ _ _ => rfl⟩⟩
  · have hF : flatK enc k xs.toArray = (xs.flatMap enc).toArray := flatK_eq hk xs
    have hFl : (xs.flatMap enc).length = xs.length * k := flat_len hk xs
    have hH : HoldsK enc k w b 0 xs.toArray := by
      intro j hj
      rw [hF] at hj ⊢
      have hj' : j < (xs.flatMap enc).length := by simpa using hj
      refine ⟨?_, by rw [Nat.zero_add]; exact h.frozenAt j⟩
      rw [Nat.zero_add, h.cellAt j (by omega), List.getElem?_eq_getElem hj', getElem!_pos (xs.flatMap enc).toArray j hj]
      simp
    have hlt : b < w.heap.size := (Array.getElem?_eq_some_iff.1 hh).1
    have hm := AnyQ.slices_SortFunc L k aE zE enc hk h1 cf hO g #[] b 0 cap xs.toArray w eg (fun m os dk _ x y => hcmp _ x y) hH hlt (by simpa using hsz)
    refine hm.mono fun en w' ⟨he, d', n, os, ⟨hp1, hp2, hp3⟩, hso, hw⟩ => ⟨he, d'.toList, ?_, ?_, ?_, ?_⟩
    · have e1 : d'.extract 0 xs.toArray.size = d' := by rw [← hp1]; simp
      have e2 : xs.toArray.extract 0 xs.toArray.size = xs.toArray := by simp
      rw [e1, e2] at hp3
      simpa using hp3
    · rw [List.pairwise_iff_getElem]
      intro i j hi hj hij
      have hi' : i < d'.size := by simpa using hi
      have hj' : j < d'.size := by simpa using hj
      have := hso i j (Nat.zero_le _) hij (by rw [← hp1]; exact hj')
      rw [getElem!_pos d' i hi', getElem!_pos d' j hj'] at this
      simpa using this
    · have hd : d'.toList.length = xs.length := by simpa using hp1
      have hF2 : flatK enc k d' = (d'.toList.flatMap enc).toArray := flatK_eq hk d'.toList
      have hL2 : (d'.toList.flatMap enc).length = xs.length * k := by rw [flat_len hk, hd]
      rw [hw, hd]
      unfold sortWorldK putRowK
      rw [hF2]
      refine ⟨hL2, .inr ⟨b, cap, _, rfl, hb, heap_sortedK _ hh, hn, hc, by simp [putCells, hs], ?_⟩⟩
      have hle : ((d'.toList.flatMap enc).toArray).size ≤ cur.size := by rw [List.size_toArray, hL2, hs]; exact Nat.mul_le_mul_right _ hn
      have := take_putCellsK cur _ hle
      rw [List.size_toArray, hL2] at this
      exact this
    · rw [hw]
      unfold sortWorldK putRowK
      exact grownBy_sortedK _
end
/-- Triples whose first two places are small, in the cells of an arc. -/
def q3 (x : Nat × Nat × Nat) : List Value := [.int .i64 (x.1 % 16 : Nat), .int .i64 (x.2.1 % 16 : Nat), .int .i64 (x.2.2 : Nat)]
def cf3 (x y : Nat × Nat × Nat) : Int := if x.1 % 16 ≠ y.1 % 16 then ((x.1 % 16 : Nat) : Int) - (y.1 % 16 : Nat) else ((x.2.1 % 16 : Nat) : Int) - (y.2.1 % 16 : Nat)
theorem lt3_iff (x y : Nat × Nat × Nat) : ltOf cf3 x y = true ↔ x.1 % 16 < y.1 % 16 ∨ (x.1 % 16 = y.1 % 16 ∧ x.2.1 % 16 < y.2.1 % 16) := by
  unfold ltOf cf3
  simp only [decide_eq_true_eq]
  split <;> omega
theorem lt3_not (x y : Nat × Nat × Nat) : ltOf cf3 x y = false ↔ ¬ (x.1 % 16 < y.1 % 16 ∨ (x.1 % 16 = y.1 % 16 ∧ x.2.1 % 16 < y.2.1 % 16)) := by
  rw [← lt3_iff]; simp
theorem swo3 : SWO (ltOf cf3) where
  irrefl x := by rw [lt3_not]; omega
  trans x y z h1 h2 := by rw [lt3_iff] at *; omega
  ntrans x y z h1 h2 := by rw [lt3_not] at *; omega
theorem q3_len (x : Nat × Nat × Nat) : (q3 x).length = 3 := rfl
theorem q3_one (x : Nat × Nat × Nat) : ∀ v ∈ q3 x, v.oneCell' = true := by intro v hv; simp [q3] at hv; rcases hv with rfl | rfl | rfl <;> rfl
theorem q3_eq (xs : List (Nat × Nat × Nat)) (h : ∀ x ∈ xs, x.1 < 16 ∧ x.2.1 < 16) : xs.flatMap q3 = xs.flatMap (fun x => e3 (n3 x)) := by
  induction xs with
  | nil => rfl
  | cons x l ih =>
    rw [List.flatMap_cons, List.flatMap_cons, ih fun y hy => h y (by simp [hy])]
    have := h x (by simp)
    congr 1
    simp [q3, e3, n3, Nat.mod_eq_of_lt this.1, Nat.mod_eq_of_lt this.2]

set_option maxHeartbeats 400000 in
theorem two1_any (W : World) (x y : Nat × Nat × Nat) : Calls Tryz.prog 39 #[.agg (q3 x).toArray, .agg (q3 y).toArray] W fun e w' => e = .returned (.int .i64 (cf3 x y)) ∧ ∃ q os', w' = grow (W.drewN q) os' := by
  obtain ⟨a, ha⟩ : ∃ a, x.1 % 16 = a := ⟨_, rfl⟩
  obtain ⟨b, hb⟩ : ∃ b, x.2.1 % 16 = b := ⟨_, rfl⟩
  obtain ⟨c, hc⟩ : ∃ c, y.1 % 16 = c := ⟨_, rfl⟩
  obtain ⟨d, hd⟩ : ∃ d, y.2.1 % 16 = d := ⟨_, rfl⟩
  have hA : a < 16 := by omega
  have hB : b < 16 := by omega
  have hC : c < 16 := by omega
  have hD : d < 16 := by omega
  have hcf : cf3 x y = if a ≠ c then (a : Int) - c else (b : Int) - d := by unfold cf3; rw [ha, hb, hc, hd]
  unfold q3
  rw [ha, hb, hc, hd]
  obtain ⟨m, hm⟩ : ∃ m, x.2.2 = m := ⟨_, rfl⟩
  obtain ⟨k, hk⟩ : ∃ m, y.2.2 = m := ⟨_, rfl⟩
  rw [hm, hk]
  show Calls _ _ #[.agg #[.int .i64 (a : Nat), .int .i64 (b : Nat), .int .i64 (m : Nat)], .agg #[.int .i64 (c : Nat), .int .i64 (d : Nat), .int .i64 (k : Nat)]] W _
  clear ha hb hc hd hm hk
  by_cases h : a = c
  · have H : Hid (cf3 x y = (b : Int) - d) := Lib.hid (by rw [hcf, if_neg (by simpa using h)])
    subst h
    clear hcf
    have t : ((a : Int) != (a : Int)) = false := by simp
    go_enter Tryz.func39, Tryz.ntmps39
    go_wp2
    go_ret
    exact ⟨by rw [H.out]; rfl, 0, _, by rw [alloc_eq_grow, alloc_eq_grow, grow_grow]; rfl⟩
  · have H : Hid (cf3 x y = (a : Int) - c) := Lib.hid (by rw [hcf, if_pos h])
    have t : ((a : Int) != (c : Int)) = true := by simp; omega
    clear hcf
    go_enter Tryz.func39, Tryz.ntmps39
    go_wp2
    go_ret
    exact ⟨by rw [H.out]; rfl, 0, _, by rw [alloc_eq_grow, alloc_eq_grow, grow_grow]; rfl⟩
theorem sortArcs {w : World} {base : Nat} {v : Value} {xs : List (Nat × Nat × Nat)} (hx : ∀ x ∈ xs, x.1 < 16 ∧ x.2.1 < 16) (hl : xs.length < 4611686018427387904) (h : w.ownsRow base 83 3 v xs.length (xs.flatMap (fun x => e3 (n3 x)))) :
    Calls Tryz.prog 38 #[v, .func (.func 39) #[] #[]] w fun en w' => en = .returned (.tuple #[]) ∧ ∃ ys : List (Nat × Nat × Nat), ys.Perm xs ∧ (ys.Pairwise fun x y => ¬ (y.1 < x.1 ∨ (y.1 = x.1 ∧ y.2.1 < x.2.1))) ∧ w'.ownsRow base 83 3 v ys.length (ys.flatMap (fun x => e3 (n3 x))) ∧ w.grownBy w' v.ownBlock := by
  rw [← q3_eq xs hx] at h
  have hm := sortK Tryz.sort_Arc Tryz.isAgg83 Tryz.sizeOf83 q3_len q3_one cf3 swo3 39 (enters_of Tryz.func39 (by kernel_rfl) rfl) two1_any h hl
  change Calls Tryz.prog 38 _ _ _ at hm
  refine hm.mono fun en w' ⟨he, ys, hp, hs, ho, hg⟩ => ⟨he, ys, hp, ?_, ?_, hg⟩
  · have hy : ∀ y ∈ ys, y.1 < 16 ∧ y.2.1 < 16 := fun y hy => hx y (hp.mem_iff.1 hy)
    refine List.Pairwise.imp_of_mem ?_ hs
    intro x y h1 h2 h3
    rw [lt3_not, Nat.mod_eq_of_lt (hy x h1).1, Nat.mod_eq_of_lt (hy x h1).2, Nat.mod_eq_of_lt (hy y h2).1, Nat.mod_eq_of_lt (hy y h2).2] at h3
    exact h3
  · rw [← q3_eq ys fun y hy => hx y (hp.mem_iff.1 hy)]; exact ho
end Go.Proofs.YtlnhocgjgmhfgaaGreatDoor
