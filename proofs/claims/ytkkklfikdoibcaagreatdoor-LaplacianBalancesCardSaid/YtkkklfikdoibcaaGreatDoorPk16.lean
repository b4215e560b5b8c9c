/- The rank of the Laplacian in plain words: the number of vertices less that of the components. Components of a graph in plain words; how marks spread to a component, round by round. The walks of the reference's Reached and Parts. The walk of graph's Loopless (right graphs); of slices.ContainsFunc for the closure of LaplacianBalances. The walks of Apply, of the reference and of matrix. -/
import Derived.Test.YtkkklfikdoibcaaGreatDoorPk5
import Derived.Test.YtkkklfikdoibcaaGreatDoorPk7
import Derived.Test.YtkkklfikdoibcaaGreatDoorPk15
import Derived.Test.YtkkklfikdoibcaaGreatDoorPk11
import Derived.Test.YtkkklfikdoibcaaGreatDoorPk12
namespace Go.Proofs.YtkkklfikdoibcaaGreatDoor
open Go.RowKit

theorem sK_sm (f : Nat → Int) : ∀ n, sK f n = sm n f
  | 0 => rfl
  | n + 1 => by simp only [sK, sm]; rw [sK_sm f n]
theorem sm_sub (n : Nat) (f g : Nat → Int) : sm n (fun k => f k - g k) = sm n f - sm n g := by
  have e : (fun k => f k - g k) = fun k => f k + -g k := by funext k; omega
  rw [e, sm_add, sm_neg]; omega
theorem sm_split {p : Nat} (f : Nat → Int) : ∀ {n : Nat}, p ≤ n → sm (n + 1) f = f p + sm n (fun j => f (sk p j))
  | 0, h => by obtain rfl : p = 0 := by omega
               simp [sm]
  | n + 1, h => by
    by_cases e : p = n + 1
    · subst e
      rw [sm, sm_congr (n := n + 1) (f := fun j => f (sk (n + 1) j)) (g := f) fun j hj => by unfold sk; rw [if_pos hj]]
      omega
    · have ih := sm_split f (n := n) (show p ≤ n by omega)
      have e2 : sk p n = n + 1 := by unfold sk; rw [if_neg (by omega)]
      rw [sm, ih, sm, e2]; omega
/-- Fewer equations than unknowns have a solution that is not 0. -/
theorem hom : ∀ (r n : Nat) (B : Mat), r < n → ∃ x : Nat → Int, (∃ j, j < n ∧ x j ≠ 0) ∧ ∀ t, t < r → sm n (fun j => B t j * x j) = 0
  | 0, n, B, h => ⟨fun _ => 1, ⟨0, h, by decide⟩, fun t ht => absurd ht (Nat.not_lt_zero _)⟩
  | r + 1, n, B, h => by
    by_cases hz : ∀ j, j < n → B r j = 0
    · obtain ⟨x, hx, h2⟩ := hom r n B (by omega)
      refine ⟨x, hx, fun t ht => ?_⟩
      by_cases e : t = r
      · subst e
        rw [sm_congr (g := fun _ => 0) fun j hj => by rw [hz j hj, Int.zero_mul], sm_zero]
      · exact h2 t (by omega)
    · obtain ⟨p, hp⟩ := Classical.not_forall.1 hz
      obtain ⟨hp, hne⟩ := Classical.not_imp.1 hp
      obtain ⟨m, rfl⟩ : ∃ m, n = m + 1 := ⟨n - 1, by omega⟩
      obtain ⟨x, ⟨q, hq, hx⟩, h2⟩ := hom r m (fun t j => B r p * B t (sk p j) - B t p * B r (sk p j)) (by omega)
      refine ⟨fun j => if j = p then -(sm m fun j => B r (sk p j) * x j) else B r p * x (usk p j), ⟨sk p q, sk_lt hq, ?_⟩, fun t ht => ?_⟩
      · simp only [sk_ne, if_false, usk_sk]
        exact Int.mul_ne_zero hne hx
      · rw [sm_split (p := p) _ (by omega)]
        simp only [if_true, sk_ne, if_false, usk_sk]
        have e1 : sm m (fun j => B t (sk p j) * (B r p * x j)) = B r p * sm m (fun j => B t (sk p j) * x j) := by
          rw [← sm_mul]; exact sm_congr fun j _ => by rw [Int.mul_left_comm]
        rw [e1, Int.mul_neg]
        by_cases e : t = r
        · subst e; omega
        · have h3 := h2 t (by omega)
          have e2 : sm m (fun j => (B r p * B t (sk p j) - B t p * B r (sk p j)) * x j) = B r p * sm m (fun j => B t (sk p j) * x j) - B t p * sm m (fun j => B r (sk p j) * x j) := by
            rw [← sm_mul, ← sm_mul, ← sm_sub]
            exact sm_congr fun j _ => by rw [Int.sub_mul, Int.mul_assoc, Int.mul_assoc]
          rw [e2] at h3
          omega
/-- A matrix whose determinant is 0 takes some column that is not 0 to 0. -/
theorem det_ker {n : Nat} {A : Mat} (h : det n A = 0) : ∃ x : Nat → Int, (∃ j, j < n ∧ x j ≠ 0) ∧ ∀ i, i < n → sm n (fun j => A i j * x j) = 0 := by
  have hk := Kept.cols (m := n) (n := n) A n (Nat.le_refl _)
  have h1 := full_iff hk
  have h2 := hk.rank_le.1
  have h3 : ((Est.start A).cols n n).rank ≠ n := fun e => h1.2 e h
  obtain ⟨B, hB⟩ := rank_rows hk
  obtain ⟨x, hx, h4⟩ := hom ((Est.start A).cols n n).rank n B (by omega)
  refine ⟨x, hx, fun i hi => ?_⟩
  obtain ⟨Q, w, hQ, e⟩ := hB i hi
  have h5 : Q * sm n (fun j => A i j * x j) = 0 := by
    rw [← sm_mul, sm_congr (g := fun j => sm ((Est.start A).cols n n).rank (fun t => w t * B t j) * x j) fun j hj => by rw [← e j hj, Int.mul_assoc], sm_swap_mul, sm_congr (g := fun _ => 0) fun t ht => by rw [h4 t ht, Int.mul_zero], sm_zero]
  exact (Int.mul_eq_zero.1 h5).resolve_left hQ
theorem sq_nn (d : Int) : 0 ≤ d * d := by
  rcases Int.le_total 0 d with h | h
  · exact Int.mul_nonneg h h
  · rw [← Int.neg_mul_neg]; exact Int.mul_nonneg (by omega) (by omega)
/-- One edge's share of the energy. -/
theorem im1_energy (n : Nat) (y : Nat → Int) (x : Nat × Nat × Nat) (h1 : x.1 < n) (h2 : x.2.1 < n) : sm n (fun i => y i * im1 y x i) = if x.1 = x.2.1 then 0 else (x.2.2 : Int) * ((y x.1 - y x.2.1) * (y x.1 - y x.2.1)) := by
  obtain ⟨a, b, m⟩ := x
  simp only at h1 h2
  by_cases hab : a = b
  · rw [if_pos hab, sm_congr (g := fun _ => 0) fun i _ => by simp [im1, hab], sm_zero]
  · rw [if_neg hab]
    have e : (fun i => y i * im1 y (a, b, m) i) = fun i => (if i = a then y a * ((m : Int) * (y a - y b)) else 0) + (if i = b then -(y b * ((m : Int) * (y a - y b))) else 0) := by
      funext i
      unfold im1
      simp only [hab, if_false]
      by_cases ia : i = a
      · subst ia; simp [hab]
      · by_cases ib : i = b
        · subst ib; simp [ia, Int.mul_neg]
        · simp [ia, ib]
    rw [e, ← sK_sm, sK_add, sK_one, sK_one, if_pos h1, if_pos h2]
    have e3 : (y a - y b) * ((m : Int) * (y a - y b)) = (m : Int) * ((y a - y b) * (y a - y b)) := Int.mul_left_comm _ _ _
    rw [← e3, Int.sub_mul]; omega
theorem energy (n : Nat) (y : Nat → Int) : ∀ {ns : List (Nat × Nat × Nat)}, (∀ x ∈ ns, x.1 < n ∧ x.2.1 < n ∧ 1 ≤ x.2.2) → 0 ≤ sm n (fun i => y i * img ns y i) ∧ (sm n (fun i => y i * img ns y i) = 0 → ∀ x ∈ ns, y x.1 = y x.2.1)
  | [], _ => by
    rw [sm_congr (g := fun _ => 0) fun i _ => by simp [img], sm_zero]
    exact ⟨Int.le_refl _, fun _ x hx => by cases hx⟩
  | x :: l, h => by
    obtain ⟨h1, h2, h3⟩ := h x (by simp)
    obtain ⟨i1, i2⟩ := energy n y (ns := l) fun z hz => h z (by simp [hz])
    have e : (fun i => y i * img (x :: l) y i) = fun i => y i * im1 y x i + y i * img l y i := by funext i; rw [img_cons, Int.mul_add]
    rw [e, sm_add, im1_energy n y x h1 h2]
    have h4 := sq_nn (y x.1 - y x.2.1)
    have h5 : 0 ≤ (x.2.2 : Int) * ((y x.1 - y x.2.1) * (y x.1 - y x.2.1)) := Int.mul_nonneg (by omega) h4
    have h6 : 0 ≤ (if x.1 = x.2.1 then 0 else (x.2.2 : Int) * ((y x.1 - y x.2.1) * (y x.1 - y x.2.1))) := by split <;> omega
    refine ⟨by omega, fun hz z hm => ?_⟩
    rcases List.mem_cons.1 hm with rfl | hm
    · by_cases hab : z.1 = z.2.1
      · rw [hab]
      · rw [if_neg hab] at hz h6
        have h7 : (z.2.2 : Int) * ((y z.1 - y z.2.1) * (y z.1 - y z.2.1)) = 0 := by omega
        have h8 := (Int.mul_eq_zero.1 h7).resolve_left (by omega)
        have h9 := (Int.mul_eq_zero.1 h8).elim id id
        omega
    · exact i2 (by omega) z hm
theorem lap_sym (ns : List (Nat × Nat × Nat)) (i k : Nat) : lap ns i k = lap ns k i := by
  unfold lap
  congr 1
  refine List.map_congr_left fun x _ => ?_
  obtain ⟨a, b, m⟩ := x
  unfold lap1
  simp only [And.comm]
  split <;> omega
/-- Sums over a filtered list are sums with a condition. -/
theorem sm_filter (p : Nat → Bool) (f : Nat → Int) : ∀ n, sm ((List.range n).filter p).length (fun t => f (((List.range n).filter p).getD t 0)) = sm n (fun i => if p i = true then f i else 0)
  | 0 => rfl
  | n + 1 => by
    have ih := sm_filter p f n
    rw [List.range_succ, List.filter_append]
    by_cases h : p n = true
    · have e : [n].filter p = [n] := by simp [h]
      rw [e, List.length_append, List.length_singleton, sm, sm, if_pos h, ← ih]
      rw [sm_congr (g := fun t => f (((List.range n).filter p).getD t 0)) fun t ht => by
        rw [List.getD_eq_getElem?_getD, List.getElem?_append_left ht, ← List.getD_eq_getElem?_getD]]
      congr 2
      rw [List.getD_eq_getElem?_getD, List.getElem?_append_right (Nat.le_refl _)]
      simp
    · have e : [n].filter p = [] := by simp [h]
      rw [e, List.append_nil, sm, if_neg h, ih]; omega
theorem nd_inj {l : List Nat} (h : l.Nodup) {i j : Nat} (hi : i < l.length) (hj : j < l.length) (e : l[i] = l[j]) : i = j := by
  rw [List.nodup_iff_pairwise_ne, List.pairwise_iff_getElem] at h
  rcases Nat.lt_trichotomy i j with h1 | h1 | h1
  · exact absurd e (h i j hi hj h1)
  · exact h1
  · exact absurd e.symm (h j i hj hi h1)
/-- The rank, when a function picks one vertex of each component. -/
theorem lap_rk {n : Nat} {ns : List (Nat × Nat × Nat)} (hr : ∀ x ∈ ns, x.1 < n ∧ x.2.1 < n ∧ x.1 ≤ x.2.1 ∧ 1 ≤ x.2.2) (ρ : Nat → Nat) (h1 : ∀ i, i < n → ρ i < n) (h2 : ∀ i, i < n → ρ (ρ i) = ρ i) (h3 : ∀ x ∈ ns, ρ x.1 = ρ x.2.1)
    (h4 : ∀ y : Nat → Int, (∀ x ∈ ns, y x.1 = y x.2.1) → ∀ i, i < n → y i = y (ρ i)) : Rk n n (lap ns) ((List.range n).filter fun v => decide (ρ v ≠ v)).length := by
  obtain ⟨R, hR⟩ : ∃ R, ((List.range n).filter fun v => decide (ρ v ≠ v)) = R := ⟨_, rfl⟩
  have hA : Asc n R := by rw [← hR]; exact asc_filter n _
  have hmem : ∀ v, v ∈ R ↔ v < n ∧ ρ v ≠ v := fun v => by rw [← hR]; simp
  have hfil : ∀ f : Nat → Int, sm R.length (fun t => f (R.getD t 0)) = sm n (fun i => if ρ i ≠ i then f i else 0) := fun f => by
    have := sm_filter (fun v => decide (ρ v ≠ v)) f n
    rw [hR] at this
    rw [this]
    refine sm_congr fun i _ => ?_
    by_cases e : ρ i = i <;> simp [e]
  have hRt : ∀ t, t < R.length → R.getD t 0 ∈ R := fun t ht => by
    rw [List.getD_eq_getElem?_getD, List.getElem?_eq_getElem ht]
    exact List.getElem_mem ht
  rw [hR]
  refine ⟨⟨R, R, rfl, rfl, hA, hA, fun hd => ?_⟩, fun k s g hk hs hg => ?_⟩
  · obtain ⟨x, ⟨t0, ht0, hx⟩, hker⟩ := det_ker hd
    -- the column on all vertices
    obtain ⟨y, hy⟩ : ∃ y : Nat → Int, y = fun i => sm R.length (fun t => if R.getD t 0 = i then x t else 0) := ⟨_, rfl⟩
    have hLy : ∀ i, sm n (fun k => lap ns i k * y k) = sm R.length (fun t => lap ns i (R.getD t 0) * x t) := fun i => by
      have e : ∀ k, lap ns i k * y k = sm R.length (fun t => if R.getD t 0 = k then lap ns i k * x t else 0) := fun k => by
        rw [hy, ← sm_mul]
        exact sm_congr fun t _ => by
          by_cases e : R.getD t 0 = k
          · rw [if_pos e, if_pos e]
          · rw [if_neg e, if_neg e, Int.mul_zero]
      rw [sm_congr fun k _ => e k, sm_comm]
      refine sm_congr fun t ht => ?_
      have htn : R.getD t 0 < n := ((hmem _).1 (hRt t ht)).1
      rw [sm_one _ (R.getD t 0) htn fun j _ hj => if_neg (fun e => hj e.symm), if_pos rfl]
    have hyrep : ∀ i, i < n → ρ i = i → y i = 0 := fun i _ hi => by
      rw [hy]
      show sm R.length (fun t => if R.getD t 0 = i then x t else 0) = 0
      rw [sm_congr (g := fun _ => 0) fun t ht => if_neg (fun e => ((hmem _).1 (hRt t ht)).2 (by rw [e]; exact hi)), sm_zero]
    have himg : ∀ i, img ns y i = sm n (fun k => lap ns i k * y k) := fun i => by rw [← sK_sm, lap_img n y i fun z hz => by have := hr z hz; omega]
    have hen := energy n y (ns := ns) fun z hz => by have := hr z hz; omega
    have h0 : sm n (fun i => y i * img ns y i) = 0 := by
      rw [sm_congr (g := fun _ => 0) fun i hi => ?_, sm_zero]
      by_cases e : ρ i = i
      · rw [hyrep i hi e, Int.zero_mul]
      · obtain ⟨t, ht, hti⟩ := List.getElem_of_mem ((hmem i).2 ⟨hi, e⟩)
        have hti' : R.getD t 0 = i := by rw [List.getD_eq_getElem?_getD, List.getElem?_eq_getElem ht]; exact hti
        rw [himg, hLy, ← hti', hker t ht, Int.mul_zero]
    have hconst := h4 y (hen.2 h0)
    have hmt := (hmem _).1 (hRt t0 ht0)
    have e1 : y (R.getD t0 0) = 0 := by
      rw [hconst _ hmt.1]
      exact hyrep _ (h1 _ hmt.1) (h2 _ hmt.1)
    have e2 : y (R.getD t0 0) = x t0 := by
      rw [hy]
      show sm R.length (fun t => if R.getD t 0 = R.getD t0 0 then x t else 0) = x t0
      rw [sm_one _ t0 ht0 fun j hj hne => ?_, if_pos rfl]
      rw [if_neg]
      intro e
      rw [List.getD_eq_getElem?_getD, List.getD_eq_getElem?_getD, List.getElem?_eq_getElem hj, List.getElem?_eq_getElem ht0] at e
      have hnd : R.Nodup := hA.1.imp fun h => Nat.ne_of_lt h
      exact hne (nd_inj hnd hj ht0 e)
    exact hx (e2.symm.trans e1)
  · refine det_comb hk _ (fun t j => lap ns (R.getD t 0) (g j)) (fun _ => 1) (fun i t => if ρ (s i) = s i then (if ρ (R.getD t 0) = s i then -1 else 0) else (if R.getD t 0 = s i then 1 else 0)) (fun _ _ => by decide) (fun i j hi hj => ?_)
    have hsn := hs i hi
    rw [Int.one_mul]
    by_cases e : ρ (s i) = s i
    · simp only [e, if_true]
      rw [hfil (fun v => (if ρ v = s i then -1 else 0) * lap ns v (g j))]
      have hc : sm n (fun v => (if ρ v = s i then 1 else 0) * lap ns v (g j)) = 0 := by
        have := lap_img n (fun v => if ρ v = s i then 1 else 0) (g j) (ns := ns) fun z hz => by have := hr z hz; omega
        rw [sK_sm] at this
        rw [sm_congr (g := fun k => lap ns (g j) k * (if ρ k = s i then 1 else 0)) fun v _ => by rw [Int.mul_comm, lap_sym], this]
        unfold img
        have hz : ∀ l : List (Nat × Nat × Nat), (∀ x ∈ l, ρ x.1 = ρ x.2.1) → (l.map fun x => im1 (fun v => if ρ v = s i then 1 else 0) x (g j)).sum = 0 := by
          intro l
          induction l with
          | nil => intro _; rfl
          | cons x l ih =>
            intro hl
            rw [List.map_cons, List.sum_cons, ih fun z hz => hl z (by simp [hz])]
            have := hl x (by simp)
            simp [im1, this]
        exact hz ns h3
      have hsp : sm n (fun v => (if ρ v = s i then 1 else 0) * lap ns v (g j)) = sm n (fun v => if v = s i then lap ns (s i) (g j) else 0) + sm n (fun v => if ρ v ≠ v then (if ρ v = s i then 1 else 0) * lap ns v (g j) else 0) := by
        rw [← sm_add]
        refine sm_congr fun v hv => ?_
        by_cases e1 : v = s i
        · subst e1; simp [e]
        · by_cases e2 : ρ v = v
          · have : ¬ ρ v = s i := fun e3 => e1 (e2.symm.trans e3)
            simp [e1, this]
          · simp [e1, e2]
      rw [sm_one _ (s i) hsn fun j _ hj => if_neg hj, if_pos rfl] at hsp
      have hneg : sm n (fun v => if ρ v ≠ v then (if ρ v = s i then (-1 : Int) else 0) * lap ns v (g j) else 0) = -sm n (fun v => if ρ v ≠ v then (if ρ v = s i then 1 else 0) * lap ns v (g j) else 0) := by
        rw [← sm_neg]
        refine sm_congr fun v _ => ?_
        by_cases e1 : ρ v ≠ v
        · rw [if_pos e1, if_pos e1]
          by_cases e2 : ρ v = s i
          · rw [if_pos e2, if_pos e2]; omega
          · rw [if_neg e2, if_neg e2]; omega
        · rw [if_neg e1, if_neg e1]; rfl
      rw [hneg]
      omega
    · simp only [e, if_false]
      rw [hfil (fun v => (if v = s i then 1 else 0) * lap ns v (g j))]
      rw [sm_one _ (s i) hsn fun v _ hv => by rw [if_neg hv, Int.zero_mul]; split <;> rfl, if_pos e, if_pos rfl, Int.one_mul]
end Go.Proofs.YtkkklfikdoibcaaGreatDoor

namespace Go.Proofs.YtkkklfikdoibcaaGreatDoor
open Go.RowKit

/-- What is marked. -/
def Mk (l : List Bool) (j : Nat) : Prop := l[j]? = some true
theorem mk_set (l : List Bool) (v j : Nat) (hv : v < l.length) : Mk (l.set v true) j ↔ j = v ∨ Mk l j := by
  unfold Mk
  by_cases e : v = j
  · subst e; simp [hv]
  · rw [List.getElem?_set_ne e]
    constructor
    · exact .inr
    · rintro (rfl | h)
      · exact absurd rfl e
      · exact h
/-- v lies in every set with u that is closed along the edges. -/
def Con (n : Nat) (ns : List (Nat × Nat × Nat)) (u v : Nat) : Prop := ∀ S : Nat → Prop, (∀ a b, a < n → b < n → 0 < btw a b ns → S a → S b) → S u → S v
theorem Con.refl (n : Nat) (ns : List (Nat × Nat × Nat)) (u : Nat) : Con n ns u u := fun _ _ h => h
theorem Con.trans {n : Nat} {ns : List (Nat × Nat × Nat)} {u v x : Nat} (h : Con n ns u v) (h' : Con n ns v x) : Con n ns u x := fun S hS hu => h' S hS (h S hS hu)
theorem Con.step {n : Nat} {ns : List (Nat × Nat × Nat)} {a b : Nat} (ha : a < n) (hb : b < n) (h : 0 < btw a b ns) : Con n ns a b := fun _ hS hu => hS a b ha hb h hu
theorem btw_comm (a b : Nat) (ns : List (Nat × Nat × Nat)) : btw a b ns = btw b a ns := by
  induction ns with
  | nil => rfl
  | cons x l ih => rw [btw_eq, btw_eq, ih]; unfold isB; rw [Nat.min_comm, Nat.max_comm]
theorem Con.symm {n : Nat} {ns : List (Nat × Nat × Nat)} {u v : Nat} (h : Con n ns u v) : Con n ns v u :=
  h (fun x => Con n ns x u) (fun a b ha hb hp hc => (Con.step hb ha (by rw [btw_comm]; exact hp)).trans hc) (Con.refl n ns u)
theorem btw_pos {a b : Nat} : ∀ {ns : List (Nat × Nat × Nat)}, (∀ y ∈ ns, 1 ≤ y.2.2) → (∃ x ∈ ns, isB a b x = true) → 0 < btw a b ns
  | [], _, h => by obtain ⟨x, hx, -⟩ := h; cases hx
  | y :: l, hm, ⟨x, hx, hb⟩ => by
    rw [btw_eq]
    by_cases e : isB a b y = true
    · rw [if_pos e]; exact hm y (by simp)
    · rw [if_neg e]
      rcases List.mem_cons.1 hx with rfl | hx
      · exact absurd hb e
      · exact btw_pos (fun z hz => hm z (by simp [hz])) ⟨x, hx, hb⟩
theorem btw_some {a b : Nat} : ∀ {ns : List (Nat × Nat × Nat)}, 0 < btw a b ns → ∃ x ∈ ns, isB a b x = true
  | [], h => absurd h (by simp [btw])
  | y :: l, h => by
    rw [btw_eq] at h
    by_cases e : isB a b y = true
    · exact ⟨y, by simp, e⟩
    · rw [if_neg e] at h
      obtain ⟨x, hx, hb⟩ := btw_some h
      exact ⟨x, by simp [hx], hb⟩
/-- The least vertex of each component. -/
theorem least_of (n : Nat) (ns : List (Nat × Nat × Nat)) : ∀ k i, i ≤ k → ∃ v, v ≤ i ∧ Con n ns v i ∧ ∀ z, z < v → ¬ Con n ns z i
  | 0, i, h => ⟨i, Nat.le_refl _, Con.refl _ _ _, fun z hz => by omega⟩
  | k + 1, i, h => by
    by_cases e : ∃ z, z < i ∧ Con n ns z i
    · obtain ⟨z, hz, hc⟩ := e
      obtain ⟨v, h1, h2, h3⟩ := least_of n ns k z (by omega)
      exact ⟨v, by omega, h2.trans hc, fun y hy hcy => h3 y hy (hcy.trans hc.symm)⟩
    · exact ⟨i, Nat.le_refl _, Con.refl _ _ _, fun z hz hc => e ⟨z, hz, hc⟩⟩
noncomputable def root (n : Nat) (ns : List (Nat × Nat × Nat)) (i : Nat) : Nat := (least_of n ns i i (Nat.le_refl _)).choose
theorem root_spec (n : Nat) (ns : List (Nat × Nat × Nat)) (i : Nat) : root n ns i ≤ i ∧ Con n ns (root n ns i) i ∧ ∀ z, z < root n ns i → ¬ Con n ns z i := (least_of n ns i i (Nat.le_refl _)).choose_spec
theorem root_eq {n : Nat} {ns : List (Nat × Nat × Nat)} {i j : Nat} (h : Con n ns i j) : root n ns i = root n ns j := by
  obtain ⟨-, h1, h2⟩ := root_spec n ns i
  obtain ⟨-, h3, h4⟩ := root_spec n ns j
  rcases Nat.lt_trichotomy (root n ns i) (root n ns j) with e | e | e
  · exact absurd (h1.trans h) (h4 _ e)
  · exact e
  · exact absurd (h3.trans h.symm) (h2 _ e)
/-- The rank of the Laplacian of a right graph. -/
theorem lap_rank {n : Nat} {es : List (Int × Int × Int)} {ns : List (Nat × Nat × Nat)} (h : RG (n : Int) es ns) : Rk n n (lap ns) ((List.range n).filter fun v => decide (root n ns v ≠ v)).length := by
  have hr : ∀ x ∈ ns, x.1 < n ∧ x.2.1 < n ∧ x.1 ≤ x.2.1 ∧ 1 ≤ x.2.2 := fun x hx => by have := h.rng x hx; omega
  refine lap_rk hr (root n ns) (fun i hi => Nat.lt_of_le_of_lt (root_spec n ns i).1 hi) (fun i _ => root_eq (root_spec n ns i).2.1) (fun x hx => ?_) (fun y hy i hi => ?_)
  · obtain ⟨h1, h2, h3, -⟩ := hr x hx
    refine root_eq (Con.step h1 h2 (btw_pos (fun y hy => (hr y hy).2.2.2) ⟨x, hx, ?_⟩))
    simp only [isB, decide_eq_true_eq]
    omega
  · refine ((root_spec n ns i).2.1.symm (fun j => y i = y j) (fun a b ha hb hp he => ?_) rfl)
    obtain ⟨x, hx, hb⟩ := btw_some hp
    have := hy x hx
    simp only [isB, decide_eq_true_eq] at hb
    rcases Nat.le_total a b with e | e
    · rw [show x.1 = a by omega, show x.2.1 = b by omega] at this
      omega
    · rw [show x.1 = b by omega, show x.2.1 = a by omega] at this
      omega
theorem count_less : ∀ (l m : List Bool), l.length = m.length → (∀ j, Mk l j → Mk m j) → l.count true ≤ m.count true ∧ ((∃ j, ¬ Mk l j ∧ Mk m j) → l.count true < m.count true)
  | [], [], _, _ => ⟨Nat.le_refl _, fun ⟨j, _, h⟩ => by simp [Mk] at h⟩
  | x :: l, y :: m, hl, h => by
    obtain ⟨i1, i2⟩ := count_less l m (by simpa using hl) (fun j hj => h (j + 1) (by simpa [Mk] using hj))
    have h0 : x = true → y = true := fun e => by have := h 0 (by simp [Mk, e]); simpa [Mk] using this
    rw [List.count_cons, List.count_cons]
    refine ⟨?_, fun ⟨j, hj, hm⟩ => ?_⟩
    · cases x <;> cases y <;> simp_all
      all_goals omega
    · cases j with
      | zero => cases x <;> cases y <;> simp_all [Mk]
                all_goals omega
      | succ j =>
        have := i2 ⟨j, by simpa [Mk] using hj, by simpa [Mk] using hm⟩
        cases x <;> cases y <;> simp_all
        all_goals omega
def Cl (n : Nat) (ns : List (Nat × Nat × Nat)) (l : List Bool) : Prop := ∀ a b, a < n → b < n → 0 < btw a b ns → Mk l a → Mk l b
/-- How the marks stand within a round that began with l0. -/
structure RdI (n : Nat) (ns : List (Nat × Nat × Nat)) (v : Nat) (l0 l : List Bool) (a b : Nat) : Prop where
  len : l.length = n
  sup : ∀ j, Mk l0 j → Mk l j
  sound : ∀ u, Mk l u → Con n ns v u
  done : ∀ a' b', (a' < a ∨ (a' = a ∧ b' < b)) → a' < n → b' < n → Mk l0 a' → 0 < btw a' b' ns → Mk l b'
  same : Cl n ns l0 → l = l0
/-- How the marks stand between rounds. -/
structure RdO (n : Nat) (ns : List (Nat × Nat × Nat)) (v : Nat) (l : List Bool) (r : Nat) : Prop where
  len : l.length = n
  at0 : Mk l v
  sound : ∀ u, Mk l u → Con n ns v u
  go : Cl n ns l ∨ r + 1 ≤ l.count true
section
variable {n v a b r : Nat} {ns : List (Nat × Nat × Nat)} {l0 l : List Bool}
theorem RdO.start (hv : v < n) : RdO n ns v ((List.replicate n false).set v true) 0 := by
  have ht : Mk ((List.replicate n false).set v true) v := (mk_set _ v v (by simpa using hv)).2 (.inl rfl)
  refine ⟨by simp, ht, fun u hu => ?_, .inr ?_⟩
  · rcases (mk_set _ v u (by simpa using hv)).1 hu with rfl | h
    · exact Con.refl _ _ _
    · simp only [Mk, List.getElem?_replicate] at h
      split at h <;> simp at h
  · exact List.count_pos_iff.2 (List.mem_of_getElem? ht)
theorem RdO.into (h : RdO n ns v l r) : RdI n ns v l l 0 0 := ⟨h.len, fun _ h => h, h.sound, fun a' b' h => by omega, fun _ => rfl⟩
theorem RdI.yes (h : RdI n ns v l0 l a b) (ha : a < n) (hb : b < n) (ht : Mk l a) (hp : 0 < btw a b ns) : RdI n ns v l0 (l.set b true) a (b + 1) := by
  have hbl : b < l.length := by rw [h.len]; exact hb
  have hmono : ∀ j, Mk l j → Mk (l.set b true) j := fun j hj => (mk_set l b j hbl).2 (.inr hj)
  refine ⟨by rw [List.length_set]; exact h.len, fun j hj => hmono j (h.sup j hj), fun u hu => ?_, fun a' b' hab ha' hb' h1 h2 => ?_, fun hc => ?_⟩
  · rcases (mk_set l b u hbl).1 hu with rfl | h1
    · exact (h.sound a ht).trans (Con.step ha hb hp)
    · exact h.sound u h1
  · by_cases e : a' = a ∧ b' = b
    · rw [e.2]; exact (mk_set l b b hbl).2 (.inl rfl)
    · exact hmono _ (h.done a' b' (by omega) ha' hb' h1 h2)
  · have e := h.same hc
    subst e
    have hbt := hc a b ha hb hp ht
    apply List.ext_getElem (by simp)
    intro i h1 h2
    rw [List.getElem_set]
    split
    · rename_i e
      subst e
      simp only [Mk] at hbt
      rw [List.getElem?_eq_getElem h2] at hbt
      exact (Option.some.inj hbt).symm
    · rfl
theorem RdI.no (h : RdI n ns v l0 l a b) (hn : ¬ (Mk l a ∧ 0 < btw a b ns)) : RdI n ns v l0 l a (b + 1) :=
  ⟨h.len, h.sup, h.sound, fun a' b' hab ha' hb' h1 h2 => by
    by_cases e : a' = a ∧ b' = b
    · obtain ⟨rfl, rfl⟩ := e
      exact absurd ⟨h.sup _ h1, h2⟩ hn
    · exact h.done a' b' (by omega) ha' hb' h1 h2, h.same⟩
theorem RdI.next (h : RdI n ns v l0 l a n) : RdI n ns v l0 l (a + 1) 0 :=
  ⟨h.len, h.sup, h.sound, fun a' b' hab ha' hb' h1 h2 => h.done a' b' (by omega) ha' hb' h1 h2, h.same⟩
theorem RdI.out (h : RdI n ns v l0 l n 0) (h0 : RdO n ns v l0 r) : RdO n ns v l (r + 1) := by
  refine ⟨h.len, h.sup _ h0.at0, h.sound, ?_⟩
  by_cases hc : Cl n ns l0
  · rw [h.same hc]; exact .inl hc
  · have hg := h0.go.resolve_left hc
    refine .inr ?_
    have h2 : ∃ b', ¬ Mk l0 b' ∧ Mk l b' := by
      apply Classical.byContradiction
      intro hno
      apply hc
      intro a' b' ha hb hp ht
      apply Classical.byContradiction
      intro hnb
      exact hno ⟨b', hnb, h.done a' b' (.inl ha) ha hb ht hp⟩
    have := (count_less l0 l (by rw [h.len, h0.len]) h.sup).2 h2
    omega
theorem RdO.all (h : RdO n ns v l n) (u : Nat) : Mk l u ↔ Con n ns v u := by
  refine ⟨h.sound u, fun hc => ?_⟩
  have hcl : Cl n ns l := by
    refine h.go.resolve_right fun h2 => ?_
    have := List.count_le_length (a := true) (l := l)
    rw [h.len] at this
    omega
  exact hc (Mk l) hcl h.at0
end
/-- How the marks of Parts stand when the vertices below v are done. -/
structure PtI (n : Nat) (ns : List (Nat × Nat × Nat)) (l : List Bool) (v c : Nat) : Prop where
  len : l.length = n
  mark : ∀ u, u < n → (Mk l u ↔ ∃ z, z < v ∧ Con n ns z u)
  cnt : c = ((List.range v).filter fun u => decide (root n ns u = u)).length
theorem PtI.start (n : Nat) (ns : List (Nat × Nat × Nat)) : PtI n ns (List.replicate n false) 0 0 := by
  refine ⟨by simp, fun u _ => ⟨fun h => ?_, fun ⟨z, hz, _⟩ => by omega⟩, rfl⟩
  simp only [Mk, List.getElem?_replicate] at h
  split at h <;> simp at h
theorem root_self {n : Nat} {ns : List (Nat × Nat × Nat)} {v : Nat} : root n ns v = v ↔ ∀ z, z < v → ¬ Con n ns z v := by
  obtain ⟨h1, h2, h3⟩ := root_spec n ns v
  constructor
  · intro e z hz; rw [e] at h3; exact h3 z hz
  · intro h
    rcases Nat.lt_or_ge (root n ns v) v with e | e
    · exact absurd h2 (h _ e)
    · omega
theorem PtI.skip {n : Nat} {ns : List (Nat × Nat × Nat)} {l : List Bool} {v c : Nat} (h : PtI n ns l v c) (hv : v < n) (ht : Mk l v) : PtI n ns l (v + 1) c := by
  obtain ⟨z, hz, hc⟩ := (h.mark v hv).1 ht
  refine ⟨h.len, fun u hu => (h.mark u hu).trans ⟨fun ⟨y, hy, hcy⟩ => ⟨y, by omega, hcy⟩, fun ⟨y, hy, hcy⟩ => ?_⟩, ?_⟩
  · by_cases e : y = v
    · subst e; exact ⟨z, hz, hc.trans hcy⟩
    · exact ⟨y, by omega, hcy⟩
  · rw [h.cnt, List.range_succ, List.filter_append]
    have : ¬ root n ns v = v := fun e => root_self.1 e z hz hc
    simp [this]
theorem PtI.take {n : Nat} {ns : List (Nat × Nat × Nat)} {l l' : List Bool} {v c : Nat} (h : PtI n ns l v c) (hv : v < n) (ht : ¬ Mk l v) (hl : l'.length = n) (hm : ∀ u, u < n → (Mk l' u ↔ Mk l u ∨ Con n ns v u)) : PtI n ns l' (v + 1) (c + 1) := by
  refine ⟨hl, fun u hu => (hm u hu).trans ⟨fun h1 => ?_, fun ⟨y, hy, hcy⟩ => ?_⟩, ?_⟩
  · rcases h1 with h1 | h1
    · obtain ⟨y, hy, hcy⟩ := (h.mark u hu).1 h1
      exact ⟨y, by omega, hcy⟩
    · exact ⟨v, by omega, h1⟩
  · by_cases e : y = v
    · subst e; exact .inr hcy
    · exact .inl ((h.mark u hu).2 ⟨y, by omega, hcy⟩)
  · rw [h.cnt, List.range_succ, List.filter_append]
    have : root n ns v = v := root_self.2 fun z hz hc => ht ((h.mark v hv).2 ⟨z, hz, hc⟩)
    simp [this]
theorem PtI.rank {n : Nat} {ns : List (Nat × Nat × Nat)} {l : List Bool} {c : Nat} (h : PtI n ns l n c) : ((List.range n).filter fun v => decide (root n ns v ≠ v)).length + c = n := by
  rw [h.cnt]
  have key : ∀ k, ((List.range k).filter fun v => decide (root n ns v ≠ v)).length + ((List.range k).filter fun v => decide (root n ns v = v)).length = k := by
    intro k
    induction k with
    | zero => rfl
    | succ k ih =>
      rw [List.range_succ, List.filter_append, List.filter_append]
      by_cases e : root n ns k = k
      · simp [e]; simp at ih; omega
      · simp [e]; simp at ih; omega
  exact key n
end Go.Proofs.YtkkklfikdoibcaaGreatDoor

namespace Go.Proofs.YtkkklfikdoibcaaGreatDoor
open Go.RowKit
set_option maxRecDepth 100000

def eB (x : Bool) : Value := .bool x
theorem mk_get {l : List Bool} {j : Nat} (h : j < l.length) : Mk l j ↔ l[j] = true := by simp [Mk, h]
theorem own_pos {w : World} {b e s n : Nat} {v : Value} {ys : List Value} (h : w.ownsRow b e s v n ys) (hn : 0 < n) : ∃ g cap, v = .slice (some ⟨g, 0, none⟩) n cap := by
  rcases h.2 with ⟨rfl, h0⟩ | ⟨g, cap, cur, rfl, -⟩
  · omega
  · exact ⟨_, _, rfl⟩
theorem mk_len {l : List Bool} {j : Nat} (h : Mk l j) : j < l.length := by
  rcases Nat.lt_or_ge j l.length with h1 | h1
  · exact h1
  · simp [Mk, h1] at h
set_option maxHeartbeats 4000000 in
theorem rReached_any (w : World) (n : Nat) (v : Value) (es : List (Int × Int × Int)) (ns : List (Nat × Nat × Nat)) (x : Nat) (hv : SlK e3 3 w v (ns.map n3)) (hR : RG (n : Int) es ns) (hx : x < n) :
    Calls Tryz.prog 100 #[.agg #[.int .i64 (n : Nat), v], .int .i64 (x : Nat)] w (Rets fun r w' => ∃ l : List Bool, l.length = n ∧ (∀ u, Mk l u ↔ Con n ns x u) ∧ w'.ownsRow w.heap.size 4 1 r n (l.map eB) ∧ Below w.heap.size w w') := by
  have HV := Lib.hid hv
  have hn : n ≤ 12 := by have := hR.le; omega
  obtain ⟨ad, c, rfl⟩ := hv.form
  rw [List.length_map] at HV ⊢
  obtain ⟨D, hD⟩ : ∃ D, w.heap.size = D := ⟨_, rfl⟩
  obtain ⟨W, hW⟩ : ∃ W, w.alloc (.cells #[.int .i64 (n : Nat), .slice ad ns.length c] 24) = W := ⟨_, rfl⟩
  have HK := Lib.hid (show Blk W D [.int .i64 (n : Nat), .slice ad ns.length c] 24 by rw [← hW, ← hD]; exact Blk.new w _ _)
  have HB := Lib.hid (show Below D w W by rw [← hW, ← hD]; exact (Below.refl _ w).alloc (Nat.le_refl _) _)
  have hWs : W.heap.size = D + 1 := by rw [← hW, ← hD]; simp
  have HW := Lib.hid hW
  have h0 := HK.out.cell 0 _ rfl; have h1 := HK.out.cell 1 _ rfl; have hl0 := HK.out.lt
  have p1 : (0 : Int) ≤ (x : Int) := by omega
  have p2 : (x : Int) < (n : Int) := by omega
  clear hv hR hW
  go_enter Tryz.func100, Tryz.ntmps100
  go_wp2_with (at_make; rw [HW.out]; refine mkN elemB rfl _ _ rfl n rfl rfl rfl rfl (by omega) (by unfold maxLen; omega) HB.out (by omega) rfl ?_; intro w2 hown hb2 hb3; rw [hWs] at hown ⊢; rw [show List.replicate n (Value.bool false) = (List.replicate n false).map eB by simp [eB]] at hown; have fz := (own_get hown (show x < (List.replicate n false).length by simp; exact hx)).2; have cz := (own_get hown (show x < (List.replicate n false).length by simp; exact hx)).1; have HO2 := Lib.hid hown; have HB2 := Lib.hid hb2; have HK2 := Lib.hid (HK.out.below hb3 (Nat.le_refl _)); clear hown hb2 hb3)
  obtain ⟨h8, h9⟩ := own_put HO2.out HB2.out (Nat.le_succ D) x true (.bool true) rfl
  have HO3 := Lib.hid h8; have HB3 := Lib.hid h9; have HK3 := Lib.hid (HK2.out.setCell (g' := D + 1) (j := x) (by omega) (.bool true))
  have HR0 := Lib.hid (RdO.start (ns := ns) hx)
  clear h0 h1 hl0 HK HB fz cz HO2 HB2 HK2 h8 h9
  go_loopw [6] (fun i wr => ∃ (r : Nat) (l : List Bool), r ≤ n ∧ i = .int .i64 r ∧ Hid (RdO n ns x l r) ∧ Hid (wr.ownsRow (D + 1) 4 1 (.slice (some ⟨D + 1, 0, none⟩) n n) n (l.map eB)) ∧ Hid (Blk wr D [.int .i64 (n : Nat), .slice ad ns.length c] 24) ∧ Hid (Below D w wr)) (fun i _ => n - (intOf i).toNat)
  case atStart => exact ⟨0, _, Nat.zero_le _, rfl, HR0, HO3, HK3, HB3⟩
  case round =>
    clear HR0 HO3 HK3 HB3
    obtain ⟨r, l0, hr, rfl, hO0, hO, hK, hB⟩ := hrel
    have k0 := hK.out.cell 0 _ rfl; have k1 := hK.out.cell 1 _ rfl; have kl := hK.out.lt
    by_cases hrn : r < n
    · go_wp2
      clear k0 k1 kl
      have HI0 := Lib.hid hO0.out.into
      go_loopw [7] (fun i wr => ∃ (a : Nat) (l : List Bool), a ≤ n ∧ i = .int .i64 a ∧ Hid (RdI n ns x l0 l a 0) ∧ Hid (wr.ownsRow (D + 1) 4 1 (.slice (some ⟨D + 1, 0, none⟩) n n) n (l.map eB)) ∧ Hid (Blk wr D [.int .i64 (n : Nat), .slice ad ns.length c] 24) ∧ Hid (Below D w wr)) (fun i _ => n - (intOf i).toNat)
      case atStart => exact ⟨0, _, Nat.zero_le _, rfl, HI0, hO, hK, hB⟩
      case round =>
        clear HI0 hO hK hB
        obtain ⟨a, l, ha, rfl, hI, hO, hK, hB⟩ := hrel
        have k0 := hK.out.cell 0 _ rfl; have k1 := hK.out.cell 1 _ rfl; have kl := hK.out.lt
        by_cases han : a < n
        · go_wp2
          clear k0 k1 kl
          go_loopw [8] (fun i wr => ∃ (b : Nat) (l : List Bool), b ≤ n ∧ i = .int .i64 b ∧ Hid (RdI n ns x l0 l a b) ∧ Hid (wr.ownsRow (D + 1) 4 1 (.slice (some ⟨D + 1, 0, none⟩) n n) n (l.map eB)) ∧ Hid (Blk wr D [.int .i64 (n : Nat), .slice ad ns.length c] 24) ∧ Hid (Below D w wr)) (fun i _ => n - (intOf i).toNat)
          case atStart => exact ⟨0, _, Nat.zero_le _, rfl, hI, hO, hK, hB⟩
          case round =>
            clear hI hO hK hB l
            obtain ⟨b, l, hb, rfl, hI, hO, hK, hB⟩ := hrel
            have k0 := hK.out.cell 0 _ rfl; have k1 := hK.out.cell 1 _ rfl; have kl := hK.out.lt
            by_cases hbn : b < n
            · have hal : a < l.length := by rw [hI.out.len]; exact han
              have hbl : b < l.length := by rw [hI.out.len]; exact hbn
              have p3 : (0 : Int) ≤ (a : Int) := by omega
              have p4 : (a : Int) < (n : Int) := by omega
              have p5 : (0 : Int) ≤ (b : Int) := by omega
              have p6 : (b : Int) < (n : Int) := by omega
              have ca : wr.cell? ⟨D + 1, a, none⟩ = some (.bool l[a]) := (own_get hO.out hal).1
              cases hla : l[a]
              · have HN := Lib.hid (hI.out.no (fun h => by rw [mk_get hal, hla] at h; cases h.1))
                rw [hla] at ca
                clear hla
                go_wp2
                go_roundw
                case rel => exact ⟨b + 1, l, by omega, by go_num, HN, hO, hK, hB⟩
                case measure => simp [intOf]; omega
              · rw [hla] at ca
                obtain ⟨q, hq⟩ : ∃ q, btw a b ns = q := ⟨_, rfl⟩
                have HBT := Lib.hid (fun (W1 : World) (h : SlK e3 3 W1 (.slice ad ns.length c) (ns.map n3)) => show Calls Tryz.prog 159 #[.agg #[.int .i64 (n : Nat), .slice ad ns.length c], .int .i64 (a : Nat), .int .i64 (b : Nat)] W1 (Rets fun r w' => r = .int .i64 (q : Nat) ∧ Below W1.heap.size W1 w') from by rw [← hq]; exact Between_any W1 n _ ns a b h)
                have HVW := Lib.hid (HV.out.below hB.out (Nat.le_of_eq hD))
                by_cases hq0 : 0 < q
                · have hq1 : decide ((0 : Int) < (q : Int)) = true := by simp only [decide_eq_true_eq]; omega
                  have HY := Lib.hid (hI.out.yes han hbn ((mk_get hal).2 hla) (by rw [hq]; exact hq0))
                  clear hla hq
                  go_wp2_with ((go_at_call 159); (with_reducible refine (HBT.out _ HVW.out).mono ?_); rintro e w1 ⟨v1, rfl, rfl, hb1⟩; have HK1 := Lib.hid (hK.out.below hb1 (Nat.le_refl _)); have HO1 := Lib.hid (own_below hO.out hb1 (Nat.le_refl _)); have HB1 := Lib.hid (hB.out.trans (hb1.mono (by rw [← hD]; exact hB.out.size))); have fz := (own_get HO1.out hbl).2; have cz := (own_get HO1.out hbl).1; clear hb1)
                  go_roundw
                  case rel =>
                    obtain ⟨h8, h9⟩ := own_put HO1.out HB1.out (Nat.le_succ D) b true (.bool true) rfl
                    exact ⟨b + 1, _, by omega, by go_num, HY, Lib.hid h8, Lib.hid (HK1.out.setCell (by omega) _), Lib.hid h9⟩
                  case measure => simp [intOf]; omega
                · have hq1 : decide ((0 : Int) < (q : Int)) = false := by simp only [decide_eq_false_iff_not]; omega
                  have HN := Lib.hid (hI.out.no (fun h => by rw [hq] at h; exact hq0 h.2))
                  clear hla hq
                  go_wp2_with ((go_at_call 159); (with_reducible refine (HBT.out _ HVW.out).mono ?_); rintro e w1 ⟨v1, rfl, rfl, hb1⟩; have HK1 := Lib.hid (hK.out.below hb1 (Nat.le_refl _)); have HO1 := Lib.hid (own_below hO.out hb1 (Nat.le_refl _)); have HB1 := Lib.hid (hB.out.trans (hb1.mono (by rw [← hD]; exact hB.out.size))); clear hb1)
                  go_roundw
                  case rel => exact ⟨b + 1, l, by omega, by go_num, HN, HO1, HK1, HB1⟩
                  case measure => simp [intOf]; omega
            · obtain rfl : b = n := by omega
              go_wp2
              go_roundw
              case rel => exact ⟨a + 1, l, by omega, by go_num, Lib.hid hI.out.next, hO, hK, hB⟩
              case measure => simp [intOf]; omega
        · obtain rfl : a = n := by omega
          go_wp2
          go_roundw
          case rel => exact ⟨r + 1, l, by omega, by go_num, Lib.hid (hI.out.out hO0.out), hO, hK, hB⟩
          case measure => simp [intOf]; omega
    · obtain rfl : r = n := by omega
      have HSL := Lib.hid (own_low hO.out (Nat.le_succ D))
      go_wp2
      go_ret
      exact ⟨_, rfl, l0, hO0.out.len, fun u => hO0.out.all u, by rw [hD]; exact HSL.out, by rw [hD]; exact hB.out⟩
set_option maxHeartbeats 4000000 in
theorem rParts_any (w : World) (n : Nat) (v : Value) (es : List (Int × Int × Int)) (ns : List (Nat × Nat × Nat)) (hv : SlK e3 3 w v (ns.map n3)) (hR : RG (n : Int) es ns) :
    Calls Tryz.prog 35 #[.agg #[.int .i64 (n : Nat), v]] w (Rets fun r w' => ∃ c : Nat, r = .int .i64 (c : Nat) ∧ ((List.range n).filter fun v => decide (root n ns v ≠ v)).length + c = n ∧ Below w.heap.size w w') := by
  have HV := Lib.hid hv; have HR := Lib.hid hR
  have hn : n ≤ 12 := by have := hR.le; omega
  obtain ⟨ad, c, rfl⟩ := hv.form
  rw [List.length_map] at HV ⊢
  obtain ⟨D, hD⟩ : ∃ D, w.heap.size = D := ⟨_, rfl⟩
  obtain ⟨W, hW⟩ : ∃ W, w.alloc (.cells #[.int .i64 (n : Nat), .slice ad ns.length c] 24) = W := ⟨_, rfl⟩
  have HK := Lib.hid (show Blk W D [.int .i64 (n : Nat), .slice ad ns.length c] 24 by rw [← hW, ← hD]; exact Blk.new w _ _)
  have HB := Lib.hid (show Below D w W by rw [← hW, ← hD]; exact (Below.refl _ w).alloc (Nat.le_refl _) _)
  have hWs : W.heap.size = D + 1 := by rw [← hW, ← hD]; simp
  have HW := Lib.hid hW
  have h0 := HK.out.cell 0 _ rfl; have h1 := HK.out.cell 1 _ rfl; have hl0 := HK.out.lt
  clear hv hR hW
  go_enter Tryz.func35, Tryz.ntmps35
  go_wp2_with (at_make; rw [HW.out]; refine mkN elemB rfl _ _ rfl n rfl rfl rfl rfl (by omega) (by unfold maxLen; omega) HB.out (by omega) rfl ?_; intro w2 hown hb2 hb3; rw [hWs] at hown ⊢; rw [show List.replicate n (Value.bool false) = (List.replicate n false).map eB by simp [eB]] at hown; have HO2 := Lib.hid hown; have HB2 := Lib.hid hb2; have HK2 := Lib.hid (HK.out.below hb3 (Nat.le_refl _)); clear hown hb2 hb3)
  have HP0 := Lib.hid (PtI.start n ns)
  clear h0 h1 hl0 HK HB
  go_loopw [3, 5] (fun p i wr => ∃ (k m : Nat) (l : List Bool), k ≤ n ∧ i = .int .i64 k ∧ p = .int .i64 m ∧ m ≤ k ∧ Hid (PtI n ns l k m) ∧ Hid (wr.ownsRow (D + 1) 4 1 (.slice (some ⟨D + 1, 0, none⟩) n n) n (l.map eB)) ∧ Hid (Blk wr D [.int .i64 (n : Nat), .slice ad ns.length c] 24) ∧ Hid (Below D w wr)) (fun _ i _ => n - (intOf i).toNat)
  case atStart => exact ⟨0, 0, _, Nat.zero_le _, rfl, rfl, Nat.le_refl _, HP0, HO2, HK2, HB2⟩
  case round =>
    clear HP0 HO2 HK2 HB2
    obtain ⟨k, m, l, hk, rfl, rfl, hmk, hP, hO, hK, hB⟩ := hrel
    have k0 := hK.out.cell 0 _ rfl; have k1 := hK.out.cell 1 _ rfl; have kl := hK.out.lt
    by_cases hkn : k < n
    · have hkl : k < l.length := by rw [hP.out.len]; exact hkn
      have p3 : (0 : Int) ≤ (k : Int) := by omega
      have p4 : (k : Int) < (n : Int) := by omega
      have ca : wr.cell? ⟨D + 1, k, none⟩ = some (.bool l[k]) := (own_get hO.out hkl).1
      cases hlk : l[k]
      rotate_left
      · rw [hlk] at ca
        have HN := Lib.hid (hP.out.skip hkn ((mk_get hkl).2 hlk))
        clear hlk
        go_wp2
        go_roundw
        case rel => exact ⟨k + 1, m, l, by omega, by go_num, rfl, by omega, HN, hO, hK, hB⟩
        case measure => simp [intOf]; omega
      · rw [hlk] at ca
        have HNM := Lib.hid (show ¬ Mk l k from fun h => by rw [mk_get hkl, hlk] at h; cases h)
        have HVW := Lib.hid (HV.out.below hB.out (Nat.le_of_eq hD))
        have e1 : IntKind.i64.wrap ((m : Int) + 1) = ((m + 1 : Nat) : Int) := by rw [IntKind.wrap_i64]; omega
        clear hlk
        go_wp2_with ((go_at_call 100); (with_reducible refine (rReached_any _ n _ es ns k HVW.out HR.out hkn).mono ?_); rintro e w1 ⟨v1, rfl, lr, hlr, hmr, hs1, hb1⟩; obtain ⟨rg, rc, rfl⟩ := own_pos hs1 (by omega); have HK1 := Lib.hid (hK.out.below hb1 (Nat.le_refl _)); have HO1 := Lib.hid (own_below hO.out hb1 (Nat.le_refl _)); have HB1 := Lib.hid (hB.out.trans (hb1.mono (by rw [← hD]; exact hB.out.size))); have HS1 := Lib.hid hs1; have HMR := Lib.hid hmr; have HLR := Lib.hid hlr; clear hb1 hs1 hmr hlr)
        have HZ := Lib.hid (show D + 1 < w1.heap.size from (HO1.out.lt (D + 1) rfl).2)
        obtain ⟨E1, hE1⟩ : ∃ E, wr.heap.size = E := ⟨_, rfl⟩
        have HE1 := Lib.hid (show D + 1 < E1 by rw [← hE1]; exact (hO.out.lt (D + 1) rfl).2)
        rw [hE1] at HS1
        clear k0 k1 kl ca hO hK hB
        go_loopw [7] (fun i wr => ∃ (u : Nat) (l' : List Bool), u ≤ n ∧ i = .int .i64 u ∧ l'.length = n ∧ Hid (∀ j, Mk l' j ↔ Mk l j ∨ (j < u ∧ Mk lr j)) ∧ Hid (wr.ownsRow (D + 1) 4 1 (.slice (some ⟨D + 1, 0, none⟩) n n) n (l'.map eB)) ∧ Hid (Blk wr D [.int .i64 (n : Nat), .slice ad ns.length c] 24) ∧ Hid (Below D w wr) ∧ Hid (wr.ownsRow E1 4 1 (.slice (some ⟨rg, 0, none⟩) n rc) n (lr.map eB))) (fun i _ => n - (intOf i).toNat)
        case atStart => exact ⟨0, l, Nat.zero_le _, rfl, hP.out.len, Lib.hid (fun j => ⟨.inl, fun h => h.elim id (fun h => absurd h.1 (by omega))⟩), HO1, HK1, HB1, HS1⟩
        case round =>
          clear HO1 HK1 HB1 HS1
          obtain ⟨u, l', hu, rfl, hl', hM, hO, hK, hB, hS⟩ := hrel
          have k0 := hK.out.cell 0 _ rfl; have k1 := hK.out.cell 1 _ rfl; have kl := hK.out.lt
          by_cases hun : u < n
          · have hul : u < l'.length := by rw [hl']; exact hun
            have hur : u < lr.length := by rw [HLR.out]; exact hun
            have p5 : (0 : Int) ≤ (u : Int) := by omega
            have p6 : (u : Int) < (n : Int) := by omega
            have fz := (own_get hO.out hul).2
            have cu : wr.cell? ⟨D + 1, u, none⟩ = some (.bool l'[u]) := (own_get hO.out hul).1
            have hstep : ∀ x : Bool, (x = true ↔ (l'[u] = true ∨ lr[u] = true)) → ∀ j, Mk (l'.set u x) j ↔ Mk l j ∨ (j < u + 1 ∧ Mk lr j) := fun x hx j => by
              by_cases e : u = j
              · subst e
                have h1 := hM.out u
                have h2 : Mk (l'.set u x) u ↔ x = true := by simp [Mk, hul]
                rw [h2, hx, ← mk_get hul, ← mk_get hur, h1]
                constructor
                · rintro ((h | h) | h)
                  · exact .inl h
                  · exact .inr ⟨by omega, h.2⟩
                  · exact .inr ⟨by omega, h⟩
                · rintro (h | h)
                  · exact .inl (.inl h)
                  · exact .inr h.2
              · have h2 : Mk (l'.set u x) j ↔ Mk l' j := by simp [Mk, List.getElem?_set_ne e]
                rw [h2, hM.out j]
                constructor
                · rintro (h | h)
                  · exact .inl h
                  · exact .inr ⟨by omega, h.2⟩
                · rintro (h | h)
                  · exact .inl h
                  · exact .inr ⟨by omega, h.2⟩
            cases hlu : l'[u]
            · rw [hlu] at cu hstep
              obtain ⟨y, hy⟩ : ∃ y, lr[u] = y := ⟨_, rfl⟩
              have cr : wr.cell? ⟨rg, u, none⟩ = some (.bool y) := by have := (own_get hS.out hur).1; rw [hy] at this; exact this
              have HST := Lib.hid (hstep y (by rw [hy]; simp))
              clear hlu hstep hy
              go_wp2
              go_roundw
              case rel =>
                obtain ⟨h8, h9⟩ := own_put hO.out hB.out (Nat.le_succ D) u y (.bool y) rfl
                exact ⟨u + 1, _, by omega, by go_num, by rw [List.length_set]; exact hl', HST, Lib.hid h8, Lib.hid (hK.out.setCell (by omega) _), Lib.hid h9, Lib.hid (own_off hS.out HE1.out)⟩
              case measure => simp [intOf]; omega
            · rw [hlu] at cu hstep
              have HST := Lib.hid (hstep true (by simp))
              clear hlu hstep
              go_wp2
              go_roundw
              case rel =>
                obtain ⟨h8, h9⟩ := own_put hO.out hB.out (Nat.le_succ D) u true (.bool true) rfl
                exact ⟨u + 1, _, by omega, by go_num, by rw [List.length_set]; exact hl', HST, Lib.hid h8, Lib.hid (hK.out.setCell (by omega) _), Lib.hid h9, Lib.hid (own_off hS.out HE1.out)⟩
              case measure => simp [intOf]; omega
          · obtain rfl : u = n := by omega
            have HN := Lib.hid (hP.out.take hkn HNM.out hl' (fun j hj => (hM.out j).trans ⟨fun h => h.elim .inl (fun h => .inr ((HMR.out j).1 h.2)), fun h => h.elim .inl (fun h => .inr ⟨hj, (HMR.out j).2 h⟩)⟩))
            go_wp2
            go_roundw
            case rel => exact ⟨k + 1, m + 1, l', by omega, by go_num, by go_num, by omega, HN, hO, hK, hB⟩
            case measure => simp [intOf]; omega
    · obtain rfl : k = n := by omega
      have HC := Lib.hid hP.out.rank
      go_wp2
      go_ret
      exact ⟨_, rfl, m, rfl, HC.out, by rw [hD]; exact hB.out⟩
end Go.Proofs.YtkkklfikdoibcaaGreatDoor

namespace Go.Proofs.YtkkklfikdoibcaaGreatDoor
open Go.RowKit
set_option maxRecDepth 100000

theorem nl_take {ns : List (Nat × Nat × Nat)} {k : Nat} (h : k < ns.length) : (ns.take (k + 1)).filter nl = (ns.take k).filter nl ++ if nl ns[k] then [ns[k]] else [] := by
  rw [List.take_succ_eq_append_getElem h, List.filter_append]
  congr 1
  by_cases e : nl ns[k] = true
  · rw [if_pos e]; simp [e]
  · rw [if_neg e]; simp [e]
set_option maxHeartbeats 4000000 in
theorem limited_ok (w : World) (N : Nat) (v : Value) (ns : List (Nat × Nat × Nat)) (hv : SlK e3 3 w v (ns.map n3)) (hc : chkG N (ns.map n3) = 0) (hm : ∀ x ∈ ns, x.2.2 ≤ 50) (hl : ns.length ≤ 1000) :
    Calls Tryz.prog 99 #[.agg #[.int .i64 (N : Nat), v], .int .i64 50] w (Rets fun r w' => ∃ u, r = .tuple #[.agg #[.int .i64 (N : Nat), u], .int .i64 0] ∧ w'.ownsRow w.heap.size 124 3 u (ns.filter nl).length (((ns.filter nl).map n3).flatMap e3) ∧ Below w.heap.size w w') := by
  have HV := Lib.hid hv
  obtain ⟨ad, eb, eo, c, rfl, hi, hp, hcc, hcm⟩ := hv.open elemEdge
  have hnl : (ns.map n3).length = ns.length := List.length_map _
  rw [hnl] at HV hi hcc ⊢
  have HNL := Lib.hid hnl
  unfold maxLen at hcm
  have HM := Lib.hid hm; have HC := Lib.hid hc
  obtain ⟨D, hD⟩ : ∃ D, w.heap.size = D := ⟨_, rfl⟩
  obtain ⟨W, hW⟩ : ∃ W, (w.alloc (.cells #[.int .i64 (N : Nat), .slice ad ns.length c] 24)).alloc (.cells #[.int .i64 0, .slice none 0 0] 24) = W := ⟨_, rfl⟩
  have hWs : W.heap.size = D + 2 := by rw [← hW, ← hD]; simp
  have HK0 := Lib.hid (show Blk W D [.int .i64 (N : Nat), .slice ad ns.length c] 24 by rw [← hW, ← hD]; exact (Blk.new w _ _).alloc _)
  have HR0 := Lib.hid (show Blk W (D + 1) [.int .i64 0, .slice none 0 0] 24 by rw [← hW, ← hD]; exact Blk.at1 w _ _ _)
  have HB0 := Lib.hid (show Below D w W by rw [← hW, ← hD]; exact ((Below.refl _ w).alloc (Nat.le_refl _) _).alloc (by simp) _)
  have HW := Lib.hid hW; have HD := Lib.hid hD
  have HV0 := Lib.hid (HV.out.below HB0.out (Nat.le_of_eq hD))
  have HP := Lib.hid hp
  have k0 := HK0.out.cell 0 _ rfl; have k1 := HK0.out.cell 1 _ rfl; have kl := HK0.out.lt
  clear hv hW hm hc hnl hp
  go_enter Tryz.func99, Tryz.ntmps99
  go_wp2_with ((go_at_call 67); rw [HW.out]; (with_reducible refine (GCheck_any W (N : Int) _ (ns.map n3) HV0.out).mono ?_); rintro e w1 ⟨v1, rfl, rfl, hb⟩; rw [HC.out]; have HB1 := Lib.hid (HB0.out.trans (hb.mono (by omega))); have HK1 := Lib.hid (HK0.out.below hb (Nat.le_refl _)); have HR1 := Lib.hid (HR0.out.below hb (Nat.le_refl _)); have HZ := Lib.hid (show D + 2 ≤ w1.heap.size from by have := hb.size; omega); have k0 := HK1.out.cell 0 _ rfl; have k1 := HK1.out.cell 1 _ rfl; have kl := HK1.out.lt; clear hb)
  obtain ⟨E, hE⟩ : ∃ E, w1.heap.size = E := ⟨_, rfl⟩
  obtain ⟨w2, hw2⟩ : ∃ w2, w1.alloc (.cells #[.int .i64 (N : Nat), .slice none 0 0] 24) = w2 := ⟨_, rfl⟩
  have HG2 := Lib.hid (show Blk w2 E [.int .i64 (N : Nat), .slice none 0 0] 24 by rw [← hw2, ← hE]; exact Blk.new w1 _ _)
  have HR2 := Lib.hid (show Blk w2 (D + 1) [.int .i64 0, .slice none 0 0] 24 by rw [← hw2]; exact HR1.out.alloc _)
  have HB2 := Lib.hid (show Below D w w2 by rw [← hw2]; exact HB1.out.alloc (by have := HZ.out; omega) _)
  have HS2 := Lib.hid (show E + 1 ≤ w2.heap.size by rw [← hw2, ← hE]; simp)
  have HZE := Lib.hid (show D + 2 ≤ E by rw [← hE]; exact HZ.out)
  rw [hw2]
  try rw [hE]
  clear hw2 k0 k1 kl HK0 HR0 HB0 HK1 HR1 HB1 HV0 hWs
  go_loopw [22] (fun i wr => ∃ (k : Nat) (s : Value), k ≤ ns.length ∧ i = .int .i64 k ∧ Hid (wr.ownsRow (E + 1) 124 3 s ((ns.take k).filter nl).length ((((ns.take k).filter nl).map n3).flatMap e3)) ∧ Hid (Blk wr E [.int .i64 (N : Nat), s] 24) ∧ Hid (Blk wr (D + 1) [.int .i64 0, .slice none 0 0] 24) ∧ Hid (Below D w wr) ∧ Hid (E + 1 ≤ wr.heap.size)) (fun i _ => ns.length - (intOf i).toNat)
  case atStart => exact ⟨0, _, Nat.zero_le _, rfl, Lib.hid (World.ownsRow_nil _ _ _ _), HG2, HR2, HB2, HS2⟩
  case round =>
    clear HG2 HR2 HB2 HS2
    obtain ⟨k, s, hk, rfl, hO, hG, hR, hB, hS⟩ := hrel
    by_cases hkn : k < ns.length
    · obtain ⟨⟨a, b, m⟩, hx⟩ : ∃ x, ns[k] = x := ⟨_, rfl⟩
      have hkm : k < (ns.map n3).length := by rw [HNL.out]; exact hkn
      have hm50 := HM.out _ (List.getElem_mem hkn)
      rw [hx] at hm50
      simp only at hm50
      have hex : (ns.map n3)[k] = ((a : Int), (b : Int), (m : Int)) := by rw [List.getElem_map, hx]; rfl
      have hlb := HP.out.1 (by rw [HNL.out]; omega)
      have hbb : ∀ q, wr.cell? ⟨eb, q, none⟩ = w.cell? ⟨eb, q, none⟩ := fun q => World.cell?_of_block (a := ⟨eb, q, none⟩) (hB.out.block eb (by omega))
      have a0 : wr.cell? ⟨eb, eo + k * 3, none⟩ = some (.int .i64 (a : Nat)) := (hbb _).trans (HP.out.2 k hkm 0 _ (by rw [hex]; rfl))
      have a1 : wr.cell? ⟨eb, eo + k * 3 + 1, none⟩ = some (.int .i64 (b : Nat)) := (hbb _).trans (HP.out.2 k hkm 1 _ (by rw [hex]; rfl))
      have a2 : wr.cell? ⟨eb, eo + k * 3 + 2, none⟩ = some (.int .i64 (m : Nat)) := (hbb _).trans (HP.out.2 k hkm 2 _ (by rw [hex]; rfl))
      have hlw : eb < wr.heap.size := by have := hB.out.size; omega
      obtain ⟨L, hL⟩ : ∃ L, ((ns.take k).filter nl).length = L := ⟨_, rfl⟩
      have hLk : L ≤ 1000 := by rw [← hL]; have := List.length_filter_le nl (ns.take k); simp at this; omega
      have HL := Lib.hid hL
      have HT := Lib.hid (nl_take hkn)
      rw [hx] at HT
      rw [hL] at hO
      obtain ⟨sa, sc, rfl⟩ := own_formK hO.out
      have hge := own_ge hO.out
      have q1 : (0 : Int) ≤ (k : Int) := by omega
      have q2 : (k : Int) < (ns.length : Int) := by omega
      have m1 : min (m : Int) 50 = (m : Int) := by omega
      have g0 := hG.out.cell 0 _ rfl; have g1 := hG.out.cell 1 _ rfl; have gf := hG.out.free 1; have gl := hG.out.lt
      by_cases hab : a = b
      · have hne : ((a : Int) != (b : Int)) = false := by simp [hab]
        have HN := Lib.hid (show (ns.take (k + 1)).filter nl = (ns.take k).filter nl by rw [HT.out, if_neg (by simp [nl, hab]), List.append_nil])
        clear hx hL hex hbb hab
        go_wp2
        go_roundw
        case rel => exact ⟨k + 1, _, by omega, by go_num, Lib.hid (by rw [HN.out, HL.out]; exact hO.out.alloc _), Lib.hid (hG.out.alloc _), Lib.hid (hR.out.alloc _), Lib.hid (hB.out.alloc (by have := hS.out; have := HZE.out; omega) _), Lib.hid (by have := hS.out; simp; omega)⟩
        case measure => simp [intOf]; omega
      · have hne : ((a : Int) != (b : Int)) = true := by simp; omega
        have HN := Lib.hid (show (ns.take (k + 1)).filter nl = (ns.take k).filter nl ++ [(a, b, m)] by rw [HT.out, if_pos (by simp [nl, hab])])
        obtain ⟨X, hX⟩ : ∃ X, wr.alloc (.cells #[.int .i64 (a : Nat), .int .i64 (b : Nat), .int .i64 (m : Nat)] 124) = X := ⟨_, rfl⟩
        have HX := Lib.hid hX
        have HOX := Lib.hid (show X.ownsRow (E + 1) 124 3 (.slice sa L sc) L ((((ns.take k).filter nl).map n3).flatMap e3) by rw [← hX]; exact hO.out.alloc _)
        have HGX := Lib.hid (show Blk X E [.int .i64 (N : Nat), .slice sa L sc] 24 by rw [← hX]; exact hG.out.alloc _)
        have HRX := Lib.hid (show Blk X (D + 1) [.int .i64 0, .slice none 0 0] 24 by rw [← hX]; exact hR.out.alloc _)
        have HBX := Lib.hid (show Below D w X by rw [← hX]; exact hB.out.alloc (by have := hS.out; have := HZE.out; omega) _)
        have HSX := Lib.hid (show E + 1 ≤ X.heap.size by rw [← hX]; have := hS.out; simp; omega)
        clear hx hL hex hbb hab hX
        go_wp2_with (at_builtin; rw [HX.out]; refine appMP (w0 := X) (m := 1) (news := [.int .i64 (a : Nat), .int .i64 (b : Nat), .int .i64 (m : Nat)]) elemEdge rfl _ _ rfl rfl (by rw [← HX.out, World.size_alloc]; rfl) HOX.out HSX.out rfl (e3_one ((a : Int), (b : Int), (m : Int))) (by omega) (by unfold maxLen; omega) ?_; intro v' w3 hown' hg2; obtain ⟨va, vc, rfl⟩ := own_formK hown'; have HO3 := Lib.hid hown'; have HG3 := Lib.hid hg2; have HGW := Lib.hid ((HGX.out.alloc (.cells [Value.int .i64 (a : Nat), .int .i64 (b : Nat), .int .i64 (m : Nat)].toArray 124)).grown HG3.out (fun e => by have := hge _ e.symm; omega)); have c3 := HGW.out.cell 1 _ rfl; have cf3 := HGW.out.free 1; have cl3 := HGW.out.lt; clear hown' hg2)
        go_roundw
        case rel =>
          refine ⟨k + 1, _, by omega, by go_num, Lib.hid ?_, Lib.hid (HGW.out.set 1 (.slice va (L + 1) vc)), Lib.hid (((HRX.out.alloc _).grown HG3.out (fun e => by have := hge _ e.symm; have := HZE.out; omega)).setCell (by have := HZE.out; omega) _), Lib.hid ?_, Lib.hid ?_⟩
          · rw [HN.out, n3_snoc]
            exact ownsRow_cast (own_off HO3.out (by omega)) (by rw [List.length_append, HL.out]; rfl) rfl
          · exact (((HBX.out.alloc (by have := HSX.out; have := HZE.out; omega) _).grown HG3.out (by rw [World.size_alloc]; have := HSX.out; have := HZE.out; omega) (fun j e => by have := hge j e; have := HZE.out; omega)).setCell (by have := HZE.out; simp only; omega) _)
          · have h9 := HG3.out.size; rw [World.size_alloc] at h9; have h7 := HSX.out; exact Nat.le_trans (show E + 1 ≤ w3.heap.size by omega) (by simp)
        case measure => simp [intOf]; omega
    · obtain rfl : k = ns.length := by omega
      rw [List.take_length] at hO
      obtain ⟨sa, sc, rfl⟩ := own_formK hO.out
      have g0 := hG.out.cell 0 _ rfl; have g1 := hG.out.cell 1 _ rfl; have gl := hG.out.lt
      have r0 := hR.out.cell 0 _ rfl; have r1 := hR.out.cell 1 _ rfl; have rf0 := hR.out.free 0; have rf1 := hR.out.free 1; have rl := hR.out.lt
      go_wp2
      have hRF := (hR.out.set 0 (.int .i64 (N : Nat))).set 1 (.slice sa (ns.filter nl).length sc)
      have y0 := hRF.cell 0 _ rfl; have y1 := hRF.cell 1 _ rfl
      refine bodyPost_ret (v := .tuple #[.agg #[.int .i64 (N : Nat), .slice sa (ns.filter nl).length sc], .int .i64 0]) (by simp [results, Tryz.results99, go_sem, y0, y1]) rfl ⟨_, rfl, .slice sa (ns.filter nl).length sc, rfl, ?_, ?_⟩
      · have hz := HZE.out
        rw [hD]; exact own_low (own_off (own_off hO.out (by omega)) (by omega)) (by omega)
      · rw [hD]
        exact (hB.out.setCell (p := ⟨D + 1, 0, none⟩) (Nat.le_succ D) _).setCell (p := ⟨D + 1, 1, none⟩) (Nat.le_succ D) _
theorem Loopless_ok (w : World) (N : Nat) (v : Value) (ns : List (Nat × Nat × Nat)) (hv : SlK e3 3 w v (ns.map n3)) (hc : chkG N (ns.map n3) = 0) (hm : ∀ x ∈ ns, x.2.2 ≤ 50) (hl : ns.length ≤ 1000) :
    Calls Tryz.prog 33 #[.agg #[.int .i64 (N : Nat), v]] w (Rets fun r w' => ∃ u, r = .tuple #[.agg #[.int .i64 (N : Nat), u], .int .i64 0] ∧ SlK e3 3 w' u ((ns.filter nl).map n3) ∧ Below w.heap.size w w') := by
  have HV := Lib.hid hv; have HC := Lib.hid hc; have HM := Lib.hid hm
  obtain ⟨ad, c, rfl⟩ := hv.form
  rw [List.length_map] at HV ⊢
  obtain ⟨D, hD⟩ : ∃ D, w.heap.size = D := ⟨_, rfl⟩
  obtain ⟨W, hW⟩ : ∃ W, (w.alloc (.cells #[.int .i64 (N : Nat), .slice ad ns.length c] 24)).alloc (.cells #[.int .i64 0, .slice none 0 0] 24) = W := ⟨_, rfl⟩
  have hWs : W.heap.size = D + 2 := by rw [← hW, ← hD]; simp
  have HK0 := Lib.hid (show Blk W D [.int .i64 (N : Nat), .slice ad ns.length c] 24 by rw [← hW, ← hD]; exact (Blk.new w _ _).alloc _)
  have HR0 := Lib.hid (show Blk W (D + 1) [.int .i64 0, .slice none 0 0] 24 by rw [← hW, ← hD]; exact Blk.at1 w _ _ _)
  have HB0 := Lib.hid (show Below D w W by rw [← hW, ← hD]; exact ((Below.refl _ w).alloc (Nat.le_refl _) _).alloc (by simp) _)
  have HW := Lib.hid hW
  have HV0 := Lib.hid (HV.out.below HB0.out (Nat.le_of_eq hD))
  have k0 := HK0.out.cell 0 _ rfl; have k1 := HK0.out.cell 1 _ rfl; have kl := HK0.out.lt
  clear hv hW hm hc
  go_enter Tryz.func33, Tryz.ntmps33
  go_wp2_with ((go_at_call 99); rw [HW.out]; (with_reducible refine (limited_ok W N _ ns HV0.out HC.out HM.out hl).mono ?_); rintro e w3 ⟨v3, rfl, u3, rfl, hs3, hb3⟩; obtain ⟨ua, uc, rfl⟩ := own_formK hs3; have HS3 := Lib.hid hs3; have HR3 := Lib.hid (HR0.out.below hb3 (Nat.le_refl _)); have HB3 := Lib.hid (HB0.out.trans (hb3.mono (by omega))); have r0 := HR3.out.cell 0 _ rfl; have r1 := HR3.out.cell 1 _ rfl; have rf0 := HR3.out.free 0; have rf1 := HR3.out.free 1; have rl := HR3.out.lt; clear hs3 hb3)
  have hRF := (HR3.out.set 0 (.int .i64 (N : Nat))).set 1 (.slice ua (ns.filter nl).length uc)
  have y0 := hRF.cell 0 _ rfl; have y1 := hRF.cell 1 _ rfl
  refine bodyPost_ret (v := .tuple #[.agg #[.int .i64 (N : Nat), .slice ua (ns.filter nl).length uc], .int .i64 0]) (by simp [results, Tryz.results33, go_sem, y0, y1]) rfl ⟨_, rfl, .slice ua (ns.filter nl).length uc, rfl, ?_, ?_⟩
  · exact SlK.ofOwns e3_len (own_off (own_off HS3.out (by omega)) (by omega)) (by rw [List.length_map])
  · rw [hD]
    exact (HB3.out.setCell (p := ⟨D + 1, 0, none⟩) (Nat.le_succ D) _).setCell (p := ⟨D + 1, 1, none⟩) (Nat.le_succ D) _
/-- The closure: is a text other than 0? -/
theorem balances1 (w : World) (s : ByteArray) (hs : s = ⟨#[48]⟩) : Calls Tryz.prog 38 #[.string s] w (Rets fun v w' => v = .bool false ∧ w = w') := by
  subst hs
  go_enter Tryz.func38, Tryz.ntmps38
  go_wp2
  go_ret
  exact ⟨_, rfl, rfl, rfl⟩
set_option maxHeartbeats 1000000 in
theorem index_zero (w : World) (v : Value) (xs : List ByteArray) (hv : Sl eS w v xs) (h : ∀ s ∈ xs, s = ⟨#[48]⟩) :
    Calls Tryz.prog 103 #[v, .func (.func 38) #[] #[]] w (Rets fun v w' => v = .int .i64 (-1) ∧ w = w') := by
  obtain ⟨a, b, o, c, rfl, hi, hp, hc, hm⟩ := hv.open elemStr
  have H := Lib.hid h
  clear hv h
  unfold maxLen at hm
  go_enter Tryz.func103, Tryz.ntmps103
  go_wp2
  go_loop [8] (fun i => ∃ k : Nat, k ≤ xs.length ∧ i = .int .i64 k) (fun i => xs.length - (intOf i).toNat)
  case atStart => exact ⟨0, Nat.zero_le _, rfl⟩
  case round =>
    obtain ⟨k, hk, rfl⟩ := hrel
    by_cases hkn : k < xs.length
    · have h1 : w.cell? ⟨b, o + k, none⟩ = some (.string xs[k]) := hp.2 k hkn
      have HB := Lib.hid (H.out _ (List.getElem_mem hkn))
      go_wp2_with (go_at_call 38; (with_reducible refine (balances1 _ xs[k] HB.out).mono ?_); rintro e w1 ⟨v, rfl, rfl, rfl⟩)
      go_round
      case rel => exact ⟨k + 1, by omega, by go_num⟩
      case measure => simp [intOf]; omega
    · obtain rfl : k = xs.length := by omega
      go_wp2
      go_ret
      exact ⟨_, rfl, rfl, rfl⟩
theorem contains_zero (w : World) (v : Value) (xs : List ByteArray) (hv : Sl eS w v xs) (h : ∀ s ∈ xs, s = ⟨#[48]⟩) :
    Calls Tryz.prog 37 #[v, .func (.func 38) #[] #[]] w (Rets fun v w' => v = .bool false ∧ w = w') := by
  have HV := Lib.hid hv; have H := Lib.hid h
  obtain ⟨a, b, o, c, rfl, -, -, -, -⟩ := hv.open elemStr
  clear hv h
  go_enter Tryz.func37, Tryz.ntmps37
  go_wp2_with (go_at_call 103; (with_reducible refine (index_zero _ _ xs HV.out H.out).mono ?_); rintro e w1 ⟨v, rfl, rfl, rfl⟩)
  go_ret
  exact ⟨_, rfl, rfl, rfl⟩
end Go.Proofs.YtkkklfikdoibcaaGreatDoor

namespace Go.Proofs.YtkkklfikdoibcaaGreatDoor
open Go.RowKit
set_option maxRecDepth 100000

section
variable {P : Program} {ops : Array Oper} {Q : Exit → Act → World → Prop} {md : Region.Mode} {S : World → Prop} {A : Nat → Bool}
/-- Two operations may come up. -/
theorem wpAnyJ_two {i j : Nat} {o o' : Oper} {fuel : Nat} {listed : Array Bool} {a : Act} {w : World} (hr : Region.ready md ops listed = [i, j]) (ho : ops[i]? = some o) (ho' : ops[j]? = some o')
    (h : ∀ K' : Act → World → Prop, Shut (∀ a w, (A i = true → S w) → wpAnyJ P md ops Q S A fuel (listed.setIfInBounds i true) a w → K' a w) → if Region.wanted o (yielded ops a.tmps) = true then Oper.wp P o a w K' Q else K' (a.put o.dst undef) w)
    (h' : ∀ K' : Act → World → Prop, Shut (∀ a w, (A j = true → S w) → wpAnyJ P md ops Q S A fuel (listed.setIfInBounds j true) a w → K' a w) → if Region.wanted o' (yielded ops a.tmps) = true then Oper.wp P o' a w K' Q else K' (a.put o'.dst undef) w) :
    wpAnyJ P md ops Q S A (fuel + 1) listed a w :=
  ⟨fun h0 => absurd (hr ▸ h0) (by simp), by
    rw [hr]
    intro k hk
    rcases List.mem_cons.1 hk with rfl | hk
    · exact wpOp_step ho (fun K' hK => h K' (fun a w hS hW => hK a w ⟨hS, hW⟩))
    · rw [List.mem_singleton] at hk
      subst hk
      exact wpOp_step ho' (fun K' hK => h' K' (fun a w hS hW => hK a w ⟨hS, hW⟩))⟩
end
def RetLS (w : World) (ys : List ByteArray) (k : Int) : Ending → World → Prop := Rets fun v w' => ∃ u, v = .tuple #[u, .int .i64 k] ∧ Sl eS w' u ys ∧ Below w.heap.size w w'
/-- What Apply answers. -/
def applyS (R C : Int) (xs ls : List ByteArray) : List ByteArray × Int :=
  if mchkM R C xs = 0 then (if (ls.length : Int) = C then (if chks ls = 0 then (cellsF R.toNat 1 (mulM C.toNat (matF C.toNat xs) (matF 1 ls)), 0) else ([], chks ls)) else ([], 8)) else ([], mchkM R C xs)
set_option maxHeartbeats 4000000 in
theorem Apply_any (w : World) (R C : Int) (v u : Value) (xs ls : List ByteArray) (hv : Sl eS w v xs) (hu : Sl eS w u ls) (hf : Fit 500 xs) (hs' : ls.length ≤ 16 → ∀ s ∈ ls, s.size ≤ 1000000) (hf' : ls.length ≤ 16 → chks ls = 0 → Fit 500 ls) (he : Env w) :
    Calls Tryz.prog 36 #[.agg #[.int .i64 R, .int .i64 C, v], u] w (RetLS w (applyS R C xs ls).1 (applyS R C xs ls).2) := by
  have HSZ := Lib.hid (show xs.length ≤ 256 → ∀ s ∈ xs, s.size ≤ 1000000 from fun _ s hs => Nat.le_trans (hf s hs) (by omega))
  have HV := Lib.hid hv; have HU := Lib.hid hu; have HE := Lib.hid he
  obtain ⟨ad, cap, rfl⟩ := sl_form hv
  obtain ⟨ad', b, o, cap', rfl, hi, hp, hcc, hm⟩ := hu.open elemStr
  unfold maxLen at hm
  have HP := Lib.hid hp
  clear hv hu hp he
  by_cases h : mchkM R C xs = 0
  rotate_left
  · have hne : (mchkM R C xs != 0) = true := by simp [h]
    have HX := Lib.hid (show applyS R C xs ls = ([], mchkM R C xs) by unfold applyS; rw [if_neg h])
    rw [HX.out]
    have HB := Lib.hid ((Below.refl w.heap.size w).alloc (Nat.le_refl _) (.cells #[.int .i64 R, .int .i64 C, .slice ad xs.length cap] 29))
    have HV := Lib.hid (HV.out.below HB.out (Nat.le_refl _))
    have HK := Lib.hid (Blk.new w [.int .i64 R, .int .i64 C, .slice ad xs.length cap] 29)
    clear h
    go_enter Tryz.func36, Tryz.ntmps36
    go_wp2_with (go_at_call 94; (with_reducible refine (MCheck_any _ R C _ xs HV.out HSZ.out).mono ?_); rintro e w1 ⟨v, rfl, rfl, h1⟩; have HK1 := Lib.hid (HK.out.below h1 (Nat.le_refl _)); have q1 := HB.out.trans (h1.mono HB.out.size); have k0 := HK1.out.cell 0 _ rfl; have k1 := HK1.out.cell 1 _ rfl; have k2 := HK1.out.cell 2 _ rfl)
    go_ret2
    exact ⟨_, rfl, _, rfl, Sl.nil' _ _, q1⟩
  have H := Lib.hid h
  obtain ⟨r, c, hrm⟩ := rm_of h
  obtain rfl := hrm.rows; obtain rfl := hrm.cols
  have HRM := Lib.hid hrm
  have hc16 := hrm.c16
  by_cases hl : (ls.length : Int) = c
  rotate_left
  · have hne : ((ls.length : Int) != (c : Int)) = true := by simp; omega
    have HX := Lib.hid (show applyS r c xs ls = ([], 8) by unfold applyS; rw [if_pos h, if_neg hl])
    rw [HX.out]
    have HB := Lib.hid ((Below.refl w.heap.size w).alloc (Nat.le_refl _) (.cells #[.int .i64 r, .int .i64 c, .slice ad xs.length cap] 29))
    have HV := Lib.hid (HV.out.below HB.out (Nat.le_refl _))
    have HK := Lib.hid (Blk.new w [.int .i64 r, .int .i64 c, .slice ad xs.length cap] 29)
    clear h hl hrm
    go_enter Tryz.func36, Tryz.ntmps36
    go_wp2_with (go_at_call 94; (with_reducible refine (MCheck_any _ r c _ xs HV.out HSZ.out).mono ?_); rintro e w1 ⟨v, rfl, rfl, h1⟩; rw [H.out]; have HK1 := Lib.hid (HK.out.below h1 (Nat.le_refl _)); have q1 := HB.out.trans (h1.mono HB.out.size); have k0 := HK1.out.cell 0 _ rfl; have k1 := HK1.out.cell 1 _ rfl; have k2 := HK1.out.cell 2 _ rfl)
    go_ret2
    exact ⟨_, rfl, _, rfl, Sl.nil' _ _, q1⟩
  obtain rfl : ls.length = c := by omega
  have HX := Lib.hid (show applyS r ls.length xs ls = if chks ls = 0 then (cellsF r 1 (mulM ls.length (matF ls.length xs) (matF 1 ls)), 0) else ([], chks ls) by unfold applyS; rw [if_pos h, if_pos rfl]; rfl)
  have hne : ((ls.length : Int) != (ls.length : Int)) = false := by simp
  have HF := Lib.hid hf; have HS' := Lib.hid (hs' hc16); have HFF := Lib.hid (hf' hc16)
  obtain ⟨PS, hPS⟩ : ∃ PS, applyS r ls.length xs ls = PS := ⟨_, rfl⟩
  rw [hPS] at HX ⊢
  have HB := Lib.hid ((Below.refl w.heap.size w).alloc (Nat.le_refl _) (.cells #[.int .i64 r, .int .i64 ls.length, .slice ad xs.length cap] 29))
  have HV := Lib.hid (HV.out.below HB.out (Nat.le_refl _))
  have HK := Lib.hid (Blk.new w [.int .i64 r, .int .i64 ls.length, .slice ad xs.length cap] 29)
  clear h hl hrm hPS
  go_enter Tryz.func36, Tryz.ntmps36
  go_wp2_with (go_at_call 94; (with_reducible refine (MCheck_any _ r ls.length _ xs HV.out HSZ.out).mono ?_); rintro e w1 ⟨v, rfl, rfl, h1⟩; rw [H.out]; have HK1 := Lib.hid (HK.out.below h1 (Nat.le_refl _)); have q1 := HB.out.trans (h1.mono HB.out.size); have k0 := HK1.out.cell 0 _ rfl; have k1 := HK1.out.cell 1 _ rfl; have k2 := HK1.out.cell 2 _ rfl)
  have HH1 := Lib.hid h1; have HQ1 := Lib.hid q1
  clear h1 q1
  go_loopw [24] (fun i wr => ∃ k : Nat, k ≤ ls.length ∧ i = .int .i64 k ∧ Hid (chks ls = chks (ls.drop k)) ∧ Hid (Up w1.heap.size w1 wr)) (fun i _ => ls.length - (intOf i).toNat)
  case atStart => exact ⟨0, Nat.zero_le _, rfl, Lib.hid rfl, Lib.hid (Up.start w1)⟩
  case round =>
    clear k0 k1 k2
    obtain ⟨k, hk, rfl, ho, hU⟩ := hrel
    have q2 := HQ1.out.trans (hU.out.2.mono HQ1.out.size)
    have HKr := Lib.hid (hU.out.box HK1.out HK1.out.lt)
    have k0 := HKr.out.cell 0 _ rfl; have k1 := HKr.out.cell 1 _ rfl; have k2 := HKr.out.cell 2 _ rfl
    by_cases hkn : k < ls.length
    · have h1 : wr.cell? ⟨b, o + k, none⟩ = some (.string ls[k]) := HP.out.at q2 (Nat.le_refl _) k hkn
      have hS : ls[k].size ≤ 1000000 := HS'.out _ (List.getElem_mem hkn)
      have hD := chksD ls k hkn
      by_cases h0 : chk ls[k].data.toList = 0
      · rw [if_pos h0] at hD
        have HD := Lib.hid hD; have HC := Lib.hid h0
        clear hD h0
        go_wp2_with (go_at_call 101; (with_reducible refine (check_any _ _ hS).mono ?_); rintro e w2 ⟨v, rfl, rfl, hb2⟩; rw [HC.out])
        go_roundw
        case rel => exact ⟨k + 1, by omega, by go_num, Lib.hid (by rw [ho.out, HD.out]), Lib.hid (hU.out.call hb2)⟩
        case measure => simp [intOf]; omega
      · rw [if_neg h0] at hD
        have hne2 : (chk ls[k].data.toList != 0) = true := by simp [h0]
        have HX2 := Lib.hid (show PS = ([], chk ls[k].data.toList) by rw [HX.out, ho.out, hD, if_neg h0])
        rw [HX2.out]
        clear hD h0
        go_wp2_with (go_at_call 101; (with_reducible refine (check_any _ _ hS).mono ?_); rintro e w2 ⟨v, rfl, rfl, hb2⟩)
        go_ret2
        exact ⟨_, rfl, _, rfl, Sl.nil' _ _, q2.trans (hb2.mono q2.size)⟩
    · obtain rfl : k = ls.length := by omega
      have hc0 : chks ls = 0 := by rw [ho.out, List.drop_length]; rfl
      have HX2 := Lib.hid (show PS = (cellsF r 1 (mulM ls.length (matF ls.length xs) (matF 1 ls)), 0) by rw [HX.out, if_pos hc0])
      have hrm' : RM ls.length 1 ls ls.length 1 := ⟨rfl, rfl, hc16, by omega, by omega, hc0⟩
      have HRM' := Lib.hid hrm'; have HF' := Lib.hid (HFF.out hc0)
      have HVr := Lib.hid (HV.out.below (HH1.out.trans (hU.out.2.mono HH1.out.size)) (Nat.le_refl _))
      have HUr := Lib.hid (HU.out.below q2 (Nat.le_refl _))
      have HEr := Lib.hid (HE.out.below q2 (Nat.le_refl _))
      clear hc0 hrm'
      obtain ⟨L, hL⟩ : ∃ L, cellsF r 1 (mulM ls.length (matF ls.length xs) (matF 1 ls)) = L := ⟨_, rfl⟩
      have HXL := Lib.hid (show PS = (L, 0) by rw [HX2.out, hL])
      have HMP := Lib.hid (fun (w1 : World) (v u : Value) (hv : Sl eS w1 v xs) (hu : Sl eS w1 u ls) (he : Env w1) => show Calls Tryz.prog 102 #[.agg #[.int .i64 r, .int .i64 ls.length, v], .agg #[.int .i64 ls.length, .int .i64 1, u]] w1 (RetM w1 r 1 L 0) from hL ▸ Mproduct_ok w1 v u xs ls r ls.length 1 hv hu HRM.out HRM'.out HF.out HF'.out he)
      clear hL hU
      go_wp2_with (go_at_call 102; (with_reducible refine (HMP.out _ _ _ HVr.out HUr.out HEr.out).mono ?_); rintro e w3 ⟨v3, rfl, u3, rfl, s3, h3⟩; obtain ⟨a3, c3, rfl⟩ := sl_form s3; have HG := Lib.hid (Blk.new w3 [.int .i64 r, .int .i64 1, .slice a3 L.length c3] 29); have g0 := HG.out.cell 0 _ rfl; have g1 := HG.out.cell 1 _ rfl; have g2 := HG.out.cell 2 _ rfl; have HS3 := Lib.hid (s3.below ((Below.refl w3.heap.size w3).alloc (Nat.le_refl _) (.cells #[.int .i64 r, .int .i64 1, .slice a3 L.length c3] 29)) (Nat.le_refl _)); have q3 := q2.trans ((h3.alloc h3.size (.cells #[.int .i64 r, .int .i64 1, .slice a3 L.length c3] 29)).mono q2.size))
      go_ret2
      refine ⟨_, rfl, ?_⟩
      rw [HXL.out]
      exact ⟨_, rfl, HS3.out, q3⟩
end Go.Proofs.YtkkklfikdoibcaaGreatDoor
