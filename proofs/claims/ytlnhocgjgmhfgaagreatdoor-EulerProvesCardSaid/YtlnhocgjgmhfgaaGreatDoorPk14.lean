/- Plain: what the reference's Is asks is what eulerian asks. The walks of euler's Ends, of the reference's SameInts and Same at equal unicycles. The walks of the reference's Between, Valence, Degree. The walks of the reference's Valence and Degree. Plain: degrees in the graph and in its two-way digraph. -/
import Derived.Test.YtlnhocgjgmhfgaaGreatDoorPk11
import Derived.Test.YtlnhocgjgmhfgaaGreatDoorPk13
import Derived.Test.YtlnhocgjgmhfgaaGreatDoorPk15
import Derived.Test.YtlnhocgjgmhfgaaGreatDoorPk5
import Derived.Test.YtlnhocgjgmhfgaaGreatDoorPk6
namespace Go.Proofs.YtlnhocgjgmhfgaaGreatDoor
open Go.RowKit

abbrev Arc3 := Nat × Nat × Nat
theorem sum_zero : ∀ (f : Nat → Nat) (l : List Nat), (∀ v ∈ l, f v = 0) → (l.map f).sum = 0
  | _, [], _ => rfl
  | f, x :: l, h => by
    rw [List.map_cons, List.sum_cons, h x (List.mem_cons_self ..), sum_zero f l fun v hv => h v (List.mem_cons_of_mem _ hv)]
theorem sum_one (a c : Nat) : ∀ n, a < n → ((List.range n).map fun v => if a = v then c else 0).sum = c
  | n + 1, h => by
    rw [List.range_succ, List.map_append, List.sum_append]
    have hz : ∀ m, m ≤ a → ((List.range m).map fun v => if a = v then c else 0).sum = 0 := fun m hm => by
      refine sum_zero _ _ fun v hv => ?_
      have := List.mem_range.1 hv
      rw [if_neg (by omega)]
    by_cases e : a = n
    · subst e; rw [hz a (Nat.le_refl _)]; simp
    · rw [sum_one a c n (by omega)]; simp [e]
theorem sum_map_add (f g : Nat → Nat) : ∀ l : List Nat, (l.map fun v => f v + g v).sum = (l.map f).sum + (l.map g).sum
  | [] => rfl
  | x :: l => by simp only [List.map_cons, List.sum_cons, sum_map_add f g l]; omega
open Classical in
theorem sumS (S : Nat → Prop) (f : Arc3 → Nat) (n : Nat) : ∀ ns : List Arc3, (∀ x ∈ ns, f x < n) →
    ((List.range n).map fun v => if S v then ((ns.filter fun x => decide (f x = v)).map fun x => x.2.2).sum else 0).sum = ((ns.filter fun x => decide (S (f x))).map fun x => x.2.2).sum
  | [], _ => by
    rw [sum_zero _ _ (fun v _ => by simp)]; rfl
  | x :: ns, h => by
    have ih := sumS S f n ns fun y hy => h y (List.mem_cons_of_mem _ hy)
    have hx := h x (List.mem_cons_self ..)
    have e : (fun v => if S v then (((x :: ns).filter fun y => decide (f y = v)).map fun y => y.2.2).sum else 0) =
        fun v => (if f x = v then (if S (f x) then x.2.2 else 0) else 0) + (if S v then ((ns.filter fun y => decide (f y = v)).map fun y => y.2.2).sum else 0) := by
      funext v
      by_cases hv : f x = v
      · subst hv
        by_cases hs : S (f x) <;> simp [hs]
      · by_cases hs : S v <;> simp [hs, hv]
    rw [e, sum_map_add, ih, sum_one _ _ _ hx]
    by_cases hs : S (f x) <;> simp [hs]
theorem sum_pq (p q : Arc3 → Bool) : ∀ l : List Arc3, (∀ x ∈ l, p x = true → q x = true) → (∀ x ∈ l, 1 ≤ x.2.2) →
    ((l.filter p).map fun x => x.2.2).sum ≤ ((l.filter q).map fun x => x.2.2).sum ∧ ((∃ x ∈ l, q x = true ∧ p x = false) → ((l.filter p).map fun x => x.2.2).sum < ((l.filter q).map fun x => x.2.2).sum)
  | [], _, _ => ⟨by simp, fun ⟨x, hx, _⟩ => by simp at hx⟩
  | x :: l, h1, h2 => by
    obtain ⟨i1, i2⟩ := sum_pq p q l (fun y hy => h1 y (List.mem_cons_of_mem _ hy)) (fun y hy => h2 y (List.mem_cons_of_mem _ hy))
    have a := h1 x (List.mem_cons_self ..)
    have b := h2 x (List.mem_cons_self ..)
    simp only [List.filter_cons]
    cases hp : p x <;> cases hq : q x
    · simp only [if_false, Bool.false_eq_true]
      refine ⟨i1, fun ⟨y, hy, hy2⟩ => i2 ?_⟩
      rcases List.mem_cons.1 hy with rfl | hy
      · rw [hq] at hy2; exact absurd hy2.1 (by simp)
      · exact ⟨y, hy, hy2⟩
    · simp only [if_false, if_true, Bool.false_eq_true, List.map_cons, List.sum_cons]
      exact ⟨by omega, fun _ => by omega⟩
    · rw [hp, hq] at a; exact absurd (a rfl) (by simp)
    · simp only [if_true, List.map_cons, List.sum_cons]
      refine ⟨by omega, fun ⟨y, hy, hy2⟩ => ?_⟩
      have : ∃ y ∈ l, q y = true ∧ p y = false := by
        rcases List.mem_cons.1 hy with rfl | hy
        · rw [hp] at hy2; exact absurd hy2.2 (by simp)
        · exact ⟨y, hy, hy2⟩
      have := i2 this
      omega
/-- A closed set of a balanced digraph has no arcs into it from outside. -/
theorem closed_back {n : Nat} {ns : List Arc3} (hR : RD n ns) (hd : degAt (·.1) n ns ns.length = degAt (·.2.1) n ns ns.length) (S : Nat → Prop) (hS : ∀ x ∈ ns, S x.1 → S x.2.1) : ∀ x ∈ ns, S x.2.1 → S x.1 := by
  classical
  have h1 := sumS S (·.1) n ns fun x hx => (hR.rng x hx).1
  have h2 := sumS S (·.2.1) n ns fun x hx => (hR.rng x hx).2.1
  have e : ∀ v, v < n → ((ns.filter fun x => decide (x.1 = v)).map fun x => x.2.2).sum = ((ns.filter fun x => decide (x.2.1 = v)).map fun x => x.2.2).sum := fun v hv => by
    have := congrArg (fun l => l.getD v 0) hd
    simpa [degAt, List.getD_eq_getElem?_getD, hv] using this
  have e2 : ((List.range n).map fun v => if S v then ((ns.filter fun x => decide (x.1 = v)).map fun x => x.2.2).sum else 0).sum = ((List.range n).map fun v => if S v then ((ns.filter fun x => decide (x.2.1 = v)).map fun x => x.2.2).sum else 0).sum := by
    congr 1
    apply List.map_congr_left
    intro v hv
    rw [e v (List.mem_range.1 hv)]
  rw [h1, h2] at e2
  have h3 := (sum_pq (fun x => decide (S x.1)) (fun x => decide (S x.2.1)) ns (fun x hx h => by simp only [decide_eq_true_eq] at h ⊢; exact hS x hx h) (fun x hx => (hR.rng x hx).2.2.1)).2
  intro x hx hx2
  apply Classical.byContradiction
  intro hno
  have := h3 ⟨x, hx, by simpa using hx2, by simpa using hno⟩
  omega
theorem pos_iff {n : Nat} {ns : List Arc3} (hR : RD n ns) (v : Nat) (hv : v < n) : 0 < (degAt (·.1) n ns ns.length).getD v 0 ↔ ∃ x ∈ ns, x.1 = v := by
  have e : (degAt (·.1) n ns ns.length).getD v 0 = ((ns.filter fun x => decide (x.1 = v)).map fun x => x.2.2).sum := by
    simp [degAt, List.getD_eq_getElem?_getD, hv]
  rw [e]
  have key : ∀ l : List Arc3, (∀ x ∈ l, 1 ≤ x.2.2) → (0 < ((l.filter fun x => decide (x.1 = v)).map fun x => x.2.2).sum ↔ ∃ x ∈ l, x.1 = v) := by
    intro l
    induction l with
    | nil => intro _; simp
    | cons y l ih =>
      intro h
      have i := ih fun z hz => h z (List.mem_cons_of_mem _ hz)
      have hy := h y (List.mem_cons_self ..)
      by_cases hv : y.1 = v
      · simp [hv]; omega
      · simp only [List.filter_cons, hv, decide_false, Bool.false_eq_true, if_false]
        rw [i]
        constructor
        · rintro ⟨z, hz, rfl⟩; exact ⟨z, List.mem_cons_of_mem _ hz, rfl⟩
        · rintro ⟨z, hz, rfl⟩
          rcases List.mem_cons.1 hz with rfl | hz
          · exact absurd rfl hv
          · exact ⟨z, hz, rfl⟩
  exact key ns fun x hx => (hR.rng x hx).2.2.1
theorem ends1_rng {n : Nat} {ns : List Arc3} (hR : RD n ns) : ∀ x ∈ ends1 ns, x.1 < n ∧ x.2 < n := fun x hx => by
  obtain ⟨y, hy, rfl⟩ := List.mem_map.1 hx
  exact ⟨(hR.rng y hy).1, (hR.rng y hy).2.1⟩
theorem clo_iff (ns : List Arc3) (S : Nat → Prop) : Clo (ends1 ns) (List.replicate ns.length false) S ↔ ∀ x ∈ ns, S x.1 → S x.2.1 := by
  constructor
  · intro h x hx
    obtain ⟨i, hi, rfl⟩ := List.mem_iff_getElem.1 hx
    exact h i (ns[i].1, ns[i].2.1) (by simp [ends1, hi]) (by simp [hi])
  · intro h i x hx _
    have hi : i < ns.length := by
      have := (List.getElem?_eq_some_iff.1 hx).1
      rwa [ends1_len] at this
    have e : x = (ns[i].1, ns[i].2.1) := by
      simp [ends1, hi] at hx
      exact hx.symm
    rw [e]
    exact h ns[i] (List.getElem_mem hi)
theorem rchD_iff {n v : Nat} {ns : List Arc3} (hR : RD n ns) (hv : v < n) (j : Nat) : Tr (rchD n ns v) j ↔ ∀ S : Nat → Prop, (∀ x ∈ ns, S x.1 → S x.2.1) → S v → S j := by
  unfold rchD
  rw [rch_iff (ends1_rng hR) hv]
  constructor
  · intro h S hS; exact h S ((clo_iff ns S).2 hS)
  · intro h S hS; exact h S ((clo_iff ns S).1 hS)
theorem is_eul {n : Nat} {ns : List Arc3} (hR : RD n ns) : IsP n ns ↔ EulC n ns := by
  have hF := degAt_len (·.1) n ns ns.length
  have hT := degAt_len (·.2.1) n ns ns.length
  constructor
  · rintro ⟨hne, h⟩
    have hd : degAt (·.1) n ns ns.length = degAt (·.2.1) n ns ns.length := by
      apply List.ext_getElem (by rw [hF, hT])
      intro i h1 h2
      have := (h i (by rw [hF] at h1; exact h1)).1
      simpa [List.getD_eq_getElem?_getD, h1, h2] using this
    refine ⟨hne, hd, fun l hE hT0 hl i x hx _ => ?_⟩
    have hi : i < ns.length := by
      have := (List.getElem?_eq_some_iff.1 hx).1
      rwa [ends1_len] at this
    have h0 : 0 < ns.length := by omega
    have e0 : ns.getD 0 (0, 0, 0) = ns[0] := by simp [List.getD_eq_getElem?_getD, h0]
    have ex : x = (ns[i].1, ns[i].2.1) := by simp [ends1, hi] at hx; exact hx.symm
    rw [e0] at hT0
    have hv0 := (hR.rng _ (List.getElem_mem h0)).1
    have hvi := (hR.rng _ (List.getElem_mem hi)).1
    have h2 := (h ns[0].1 hv0).2 ns[i].1 hvi ((pos_iff hR _ hv0).2 ⟨_, List.getElem_mem h0, rfl⟩) ((pos_iff hR _ hvi).2 ⟨_, List.getElem_mem hi, rfl⟩)
    rw [rchD_iff hR hv0] at h2
    rw [ex]
    refine h2 (Tr l) ((clo_iff ns _).1 fun i y h1 h2 h3 => hE.clo i y h1 h2 h3 (tr_rep n _)) hT0
  · rintro ⟨hne, hd, h⟩
    refine ⟨hne, fun v hv => ⟨by rw [hd], fun u hu h1 h2 => ?_⟩⟩
    have h0 : 0 < ns.length := List.length_pos_iff.2 hne
    have e0 : ns.getD 0 (0, 0, 0) = ns[0] := by simp [List.getD_eq_getElem?_getD, h0]
    rw [e0] at h
    have hv0 := (hR.rng _ (List.getElem_mem h0)).1
    have hself : ∀ a, a < n → Tr (rchD n ns a) a := fun a ha => (rchD_iff hR ha a).2 fun S _ h => h
    have hclo : ∀ a, a < n → ∀ x ∈ ns, Tr (rchD n ns a) x.1 → Tr (rchD n ns a) x.2.1 := fun a ha x hx h => by
      rw [rchD_iff hR ha] at h ⊢
      exact fun S hS hSa => hS x hx (h S hS hSa)
    have hall : ∀ x ∈ ns, Tr (rchD n ns ns[0].1) x.1 := fun x hx => by
      obtain ⟨i, hi, rfl⟩ := List.mem_iff_getElem.1 hx
      have hcl := (clo_iff ns (Tr (rchD n ns ns[0].1))).2 (hclo _ hv0)
      refine h (rchD n ns ns[0].1) ⟨by rw [rchD_len]; simp, fun j hj => absurd hj (tr_rep n j), fun i y a b c _ => hcl i y a b c, ?_⟩ (hself _ hv0) (rchD_len n ns _) i (ns[i].1, ns[i].2.1) (by simp [ends1, hi]) (by simp [hi])
      rw [show (List.replicate n false).count false = n by simp]
      have := List.count_le_length (a := false) (l := rchD n ns ns[0].1)
      rwa [rchD_len] at this
    obtain ⟨x, hx, rfl⟩ := (pos_iff hR v hv).1 h1
    obtain ⟨y, hy, rfl⟩ := (pos_iff hR u hu).1 h2
    have hback := closed_back hR hd (Tr (rchD n ns x.1)) (hclo _ hv)
    have hv0r : Tr (rchD n ns x.1) ns[0].1 := by
      apply Classical.byContradiction
      intro hno
      have h3 := hall x hx
      rw [rchD_iff hR hv0] at h3
      exact h3 (fun j => ¬ Tr (rchD n ns x.1) j) (fun z hz h4 h5 => h4 (hback z hz h5)) hno (hself _ hv)
    have h4 := hall y hy
    rw [rchD_iff hR hv0] at h4
    exact h4 _ (hclo _ hv) hv0r
end Go.Proofs.YtlnhocgjgmhfgaaGreatDoor

namespace Go.Proofs.YtlnhocgjgmhfgaaGreatDoor
open Go.RowKit
set_option maxRecDepth 100000

set_option maxHeartbeats 2000000 in
theorem EEnds_ok (w : World) (n : Nat) (v : Value) (ns : List (Nat × Nat × Nat)) (hR : RD n ns) (hv : SlK e3 3 w v (ns.map n3)) (hl : ns.length ≤ 1000) :
    Calls Tryz.prog 22 #[.agg #[.int .i64 (n : Nat), v]] w (Rets fun r w' => ∃ u, r = .tuple #[u, .int .i64 0] ∧ w'.ownsRow w.heap.size 60 2 u (sgl ns).length ((sgl ns).flatMap p2) ∧ Below w.heap.size w w') := by
  obtain ⟨ad, c, rfl⟩ := hv.form
  have hnl : (ns.map n3).length = ns.length := List.length_map _
  rw [hnl] at hv ⊢
  have HR := Lib.hid hR; have HV := Lib.hid hv
  have HM := Lib.hid (show ∀ x ∈ ns, x.2.2 ≤ 50 from fun x hx => (hR.rng x hx).2.2.2)
  have HL := Lib.hid (show ns.length ≤ 100000 by omega)
  obtain ⟨W, hW⟩ : ∃ W, w.alloc (.cells #[.int .i64 (n : Nat), .slice ad ns.length c] 28) = W := ⟨_, rfl⟩
  have HD := Lib.hid (show Blk W w.heap.size [.int .i64 (n : Nat), .slice ad ns.length c] 28 by rw [← hW]; exact Blk.new w _ _)
  have HQ := Lib.hid (show Below w.heap.size w W by rw [← hW]; exact (Below.refl _ w).alloc (Nat.le_refl _) _)
  have HVW := Lib.hid (HV.out.below HQ.out (Nat.le_refl _))
  have HW := Lib.hid hW
  clear hW hv hR hnl
  go_enter Tryz.func22, Tryz.ntmps22
  go_wp2_with (first
    | (go_at_call 46; rw [HW.out]; (with_reducible refine (NCheck_ok W n _ ns HR.out HVW.out).mono ?_); rintro e w1 ⟨v, rfl, rfl, hb⟩; have HB1 := Lib.hid hb; clear hb; have g0 := (HD.out.below HB1.out (Nat.le_refl _)).cell 0 _ rfl; have g1 := (HD.out.below HB1.out (Nat.le_refl _)).cell 1 _ rfl; have hlg := (HD.out.below HB1.out (Nat.le_refl _)).lt)
    | (go_at_call 43; (with_reducible refine (arcs_ok w1 n _ ns (HVW.out.below HB1.out (Nat.le_refl _)) HM.out HL.out).mono ?_); rintro e w3 ⟨v, rfl, hO, hb3⟩; obtain ⟨ea, ec, rfl⟩ := own_formK hO; have HE := Lib.hid hO; have HB3 := Lib.hid (HB1.out.trans (hb3.mono HB1.out.size)); have HZ3 := Lib.hid (Nat.le_trans HQ.out.size HB1.out.size); clear hO hb3))
  go_ret2
  exact ⟨_, rfl, _, rfl, own_baseK HE.out HZ3.out, HQ.out.trans (HB3.out.mono HQ.out.size)⟩

set_option maxHeartbeats 2000000 in
theorem SameInts_same (w : World) (v u : Value) (xs : List Int) (hv : SlK iz 1 w v xs) (hu : SlK iz 1 w u xs) :
    Calls Tryz.prog 52 #[v, u] w (Rets fun r w' => r = .bool true ∧ Below w.heap.size w w') := by
  obtain ⟨a, b, o, c, rfl, hi, hp, hc, hm⟩ := hv.open elemI
  obtain ⟨a', b', o', c', rfl, hi', hp', hc', hm'⟩ := hu.open elemI
  clear hv hu
  unfold maxLen at hm hm'
  have hle : ((xs.length : Int) == (xs.length : Int)) = true := by simp
  go_enter Tryz.func52, Tryz.ntmps52
  go_wp2
  go_loopw [5] (fun i wr => ∃ k : Nat, k ≤ xs.length ∧ i = .int .i64 k ∧ Below w.heap.size w wr) (fun i _ => xs.length - (intOf i).toNat)
  case atStart => exact ⟨0, Nat.zero_le _, rfl, Below.refl _ _⟩
  case round =>
    obtain ⟨k, hk, rfl, hb⟩ := hrel
    by_cases hkn : k < xs.length
    · have h1 : wr.cell? ⟨b, o + k, none⟩ = some (.int .i64 xs[k]) := by
        have := hp.at hb (Nat.le_refl _) k hkn 0 _ rfl
        rwa [Nat.mul_one, Nat.add_zero] at this
      have h2 : wr.cell? ⟨b', o' + k, none⟩ = some (.int .i64 xs[k]) := by
        have := hp'.at hb (Nat.le_refl _) k hkn 0 _ rfl
        rwa [Nat.mul_one, Nat.add_zero] at this
      have q1 : (0 : Int) ≤ (k : Int) := by omega
      have q2 : (k : Int) < (xs.length : Int) := by omega
      obtain ⟨x, hx⟩ : ∃ x, xs[k] = x := ⟨_, rfl⟩
      rw [hx] at h1 h2
      have e1 : (x == x) = true := by simp
      clear hx
      go_wp2_with fail
      go_quiet (fail)
      have b3 := below_drewN hb nq
      go_wp2
      go_roundw
      case rel => exact ⟨k + 1, by omega, by go_num, b3⟩
      case measure => simp [intOf]; omega
    · obtain rfl : k = xs.length := by omega
      go_wp2
      go_ret
      exact ⟨_, rfl, rfl, hb⟩

set_option maxHeartbeats 2000000 in
theorem Same_same (w : World) (x : Int) (v u : Value) (xs : List Int) (hv : SlK iz 1 w v xs) (hu : SlK iz 1 w u xs) :
    Calls Tryz.prog 17 #[.agg #[.int .i64 x, v], .agg #[.int .i64 x, u]] w (Rets fun r w' => r = .bool true ∧ Below w.heap.size w w') := by
  obtain ⟨a, c, hvf⟩ := hv.form
  obtain ⟨a', c', huf⟩ := hu.form
  have hb : Below w.heap.size w ((w.alloc (.cells #[.int .i64 x, v] 42)).alloc (.cells #[.int .i64 x, u] 42)) := ((Below.refl _ w).alloc (Nat.le_refl _) _).alloc (by simp) _
  have HB := Lib.hid hb
  have HC := Lib.hid (SameInts_same _ v u xs (hv.below hb (Nat.le_refl _)) (hu.below hb (Nat.le_refl _)))
  subst hvf huf
  have e1 : (x == x) = true := by simp
  clear hb hv hu
  go_enter Tryz.func17, Tryz.ntmps17
  go_wp2_with (go_at_call 52; (with_reducible refine HC.out.mono ?_); rintro e w1 ⟨v, rfl, rfl, hb⟩)
  go_ret
  exact ⟨_, rfl, rfl, HB.out.trans (hb.mono HB.out.size)⟩
end Go.Proofs.YtlnhocgjgmhfgaaGreatDoor

namespace Go.Proofs.YtlnhocgjgmhfgaaGreatDoor
open Go.RowKit
set_option maxRecDepth 100000

/-- The number of single edges between two vertices. -/
def isB (a b : Nat) (x : Nat × Nat × Nat) : Bool := decide (x.1 = min a b ∧ x.2.1 = max a b)
def btw (a b : Nat) : List (Nat × Nat × Nat) → Nat
  | [] => 0
  | x :: l => if isB a b x then x.2.2 else btw a b l
theorem btw_drop (a b : Nat) (ns : List (Nat × Nat × Nat)) (k : Nat) (h : k < ns.length) : btw a b (ns.drop k) = if isB a b ns[k] then ns[k].2.2 else btw a b (ns.drop (k + 1)) := by
  rw [List.drop_eq_getElem_cons h]; rfl
theorem btw_le (a b : Nat) : ∀ ns : List (Nat × Nat × Nat), (∀ x ∈ ns, x.2.2 ≤ 50) → btw a b ns ≤ 50
  | [], _ => by simp [btw]
  | x :: l, h => by
    unfold btw
    split
    · exact h x (by simp)
    · exact btw_le a b l fun y hy => h y (by simp [hy])

set_option maxHeartbeats 2000000 in
theorem Between_any (w : World) (n : Int) (v : Value) (ns : List (Nat × Nat × Nat)) (a b : Nat) (hv : SlK e3 3 w v (ns.map n3)) :
    Calls Tryz.prog 67 #[.agg #[.int .i64 n, v], .int .i64 (a : Nat), .int .i64 (b : Nat)] w (Rets fun r w' => r = .int .i64 (btw a b ns : Nat) ∧ Below w.heap.size w w') := by
  obtain ⟨ad, bb, o, c, rfl, hi, hp, hc, hcm⟩ := hv.open elemEdge
  have hnl : (ns.map n3).length = ns.length := List.length_map _
  rw [hnl] at hi hc ⊢
  unfold maxLen at hcm
  have HNL := Lib.hid hnl
  have HQ := Lib.hid ((Below.refl w.heap.size w).alloc (Nat.le_refl _) (.cells #[.int .i64 n, .slice ad ns.length c] 24))
  have HG := Lib.hid (Blk.new w [.int .i64 n, .slice ad ns.length c] 24)
  obtain ⟨W, hW⟩ : ∃ W, w.alloc (.cells #[.int .i64 n, .slice ad ns.length c] 24) = W := ⟨_, rfl⟩
  rw [show [Value.int .i64 n, .slice ad ns.length c].toArray = #[Value.int .i64 n, .slice ad ns.length c] from rfl, hW] at HG
  rw [hW] at HQ
  have HW := Lib.hid hW
  clear hW hv hnl
  go_enter Tryz.func67, Tryz.ntmps67
  go_wp2
  rw [HW.out]
  go_loopw [7] (fun i wr => ∃ k : Nat, k ≤ ns.length ∧ i = .int .i64 k ∧ Hid (btw a b ns = btw a b (ns.drop k)) ∧ Hid (Below W.heap.size W wr)) (fun i _ => ns.length - (intOf i).toNat)
  case atStart => exact ⟨0, Nat.zero_le _, rfl, Lib.hid rfl, Lib.hid (Below.refl _ _)⟩
  case round =>
    obtain ⟨k, hk, rfl, hX, hB⟩ := hrel
    have hGr := HG.out.below hB.out (Nat.le_refl _)
    have g1 := hGr.cell 1 _ rfl
    have hlg := hGr.lt
    have hqw := HQ.out.trans (hB.out.mono HQ.out.size)
    have HQW := Lib.hid hqw
    clear hGr
    by_cases hkn : k < ns.length
    · have hkm : k < (ns.map n3).length := by rw [HNL.out]; exact hkn
      have hD := btw_drop a b ns k hkn
      obtain ⟨⟨p, q, m⟩, hx⟩ : ∃ x, ns[k] = x := ⟨_, rfl⟩
      have hx3 : (ns.map n3)[k] = n3 (p, q, m) := by rw [List.getElem_map, hx]
      have a0 : wr.cell? ⟨bb, o + k * 3, none⟩ = some (.int .i64 (p : Nat)) := hp.at hqw (Nat.le_refl _) k hkm 0 _ (by rw [hx3]; rfl)
      have a1 : wr.cell? ⟨bb, o + k * 3 + 1, none⟩ = some (.int .i64 (q : Nat)) := hp.at hqw (Nat.le_refl _) k hkm 1 _ (by rw [hx3]; rfl)
      have a2 : wr.cell? ⟨bb, o + k * 3 + 2, none⟩ = some (.int .i64 (m : Nat)) := hp.at hqw (Nat.le_refl _) k hkm 2 _ (by rw [hx3]; rfl)
      have hlb := (hp.below hqw (Nat.le_refl _)).1 (by omega)
      have q1 : (0 : Int) ≤ (k : Int) := by omega
      have q2 : (k : Int) < (ns.length : Int) := by omega
      rw [hx] at hD
      have HD := Lib.hid (hX.out.trans hD)
      clear hx hx3 hD hqw hkm
      by_cases h1 : p = min a b
      · have e1 : ((p : Int) == min (a : Int) (b : Int)) = true := by rw [beq_iff_eq]; omega
        by_cases h2 : q = max a b
        · have e2 : ((q : Int) == max (a : Int) (b : Int)) = true := by rw [beq_iff_eq]; omega
          have HF := Lib.hid (show btw a b ns = m by rw [HD.out, if_pos (by simp [isB, h1, h2])])
          clear h1 h2
          go_wp2
          go_ret
          exact ⟨_, rfl, by rw [HF.out]; rfl, HQW.out.alloc HQW.out.size _⟩
        · have e2 : ((q : Int) == max (a : Int) (b : Int)) = false := by rw [beq_eq_false_iff_ne]; omega
          have HF := Lib.hid (show btw a b ns = btw a b (ns.drop (k + 1)) by rw [HD.out, if_neg (by simp [isB, h2])])
          clear h1 h2
          go_wp2
          go_roundw
          case rel => exact ⟨k + 1, by omega, by go_num, HF, Lib.hid (hB.out.alloc hB.out.size _)⟩
          case measure => simp [intOf]; omega
      · have e1 : ((p : Int) == min (a : Int) (b : Int)) = false := by rw [beq_eq_false_iff_ne]; omega
        have HF := Lib.hid (show btw a b ns = btw a b (ns.drop (k + 1)) by rw [HD.out, if_neg (by simp [isB, h1])])
        clear h1
        go_wp2
        go_roundw
        case rel => exact ⟨k + 1, by omega, by go_num, HF, Lib.hid (hB.out.alloc hB.out.size _)⟩
        case measure => simp [intOf]; omega
    · obtain rfl : k = ns.length := by omega
      have HF := Lib.hid (show btw a b ns = 0 by rw [hX.out, List.drop_length]; rfl)
      clear hqw
      go_wp2
      go_ret
      exact ⟨_, rfl, by rw [HF.out]; rfl, HQW.out⟩
end Go.Proofs.YtlnhocgjgmhfgaaGreatDoor

namespace Go.Proofs.YtlnhocgjgmhfgaaGreatDoor
open Go.RowKit
set_option maxRecDepth 100000

/-- The single edges from the first k vertices to another one. -/
def valK (v : Nat) (ns : List (Nat × Nat × Nat)) : Nat → Nat
  | 0 => 0
  | k + 1 => valK v ns k + if k = v then 0 else btw k v ns
def degN (n v : Nat) (ns : List (Nat × Nat × Nat)) : Nat := valK v ns n + 2 * btw v v ns
theorem valK_le (v : Nat) (ns : List (Nat × Nat × Nat)) (h : ∀ x ∈ ns, x.2.2 ≤ 50) : ∀ k, valK v ns k ≤ 50 * k
  | 0 => by simp [valK]
  | k + 1 => by
    have h1 := valK_le v ns h k
    have h2 := btw_le k v ns h
    unfold valK
    split <;> omega

end Go.Proofs.YtlnhocgjgmhfgaaGreatDoor

namespace Go.Proofs.YtlnhocgjgmhfgaaGreatDoor
open Go.RowKit

/-- What one edge adds to a vertex's degree. -/
def dg1 (v : Nat) (x : Nat × Nat × Nat) : Nat := if x.1 = x.2.1 then (if x.1 = v then 2 * x.2.2 else 0) else (if x.1 = v then x.2.2 else 0) + (if x.2.1 = v then x.2.2 else 0)
theorem cnt_rep (p : Nat × Nat → Bool) (m : Nat) (x : Nat × Nat) : (List.replicate m x).countP p = if p x then m else 0 := by
  rw [List.countP_replicate]
theorem cntS_tw1 (v : Nat) (x : Nat × Nat × Nat) : (sgl (tw1 x)).countP (fun y => y.1 == v) = dg1 v x := by
  unfold tw1 dg1
  split
  · simp [sgl, cnt_rep]
  · simp [sgl, cnt_rep, List.countP_append]
theorem cntT_tw1 (v : Nat) (x : Nat × Nat × Nat) : (sgl (tw1 x)).countP (fun y => y.2 == v) = dg1 v x := by
  unfold tw1 dg1
  split
  · simp [sgl, cnt_rep]
  · simp [sgl, cnt_rep, List.countP_append]; omega
theorem sgl_app (a b : List (Nat × Nat × Nat)) : sgl (a ++ b) = sgl a ++ sgl b := by simp [sgl]
theorem cnt_tw (p : Nat × Nat → Bool) (f : Nat × Nat × Nat → Nat) (h : ∀ x, (sgl (tw1 x)).countP p = f x) : ∀ ns : List (Nat × Nat × Nat), (sgl (tw ns)).countP p = (ns.map f).sum
  | [] => rfl
  | x :: l => by
    have e : tw (x :: l) = tw1 x ++ tw l := by simp [tw]
    rw [e, sgl_app, List.countP_append, h, cnt_tw p f h l]; simp
theorem len_tw : ∀ ns : List (Nat × Nat × Nat), (sgl (tw ns)).length = 2 * (sgl ns).length
  | [] => rfl
  | x :: l => by
    have e : tw (x :: l) = tw1 x ++ tw l := by simp [tw]
    have e2 : sgl (x :: l) = List.replicate x.2.2 (x.1, x.2.1) ++ sgl l := by simp [sgl]
    rw [e, sgl_app, List.length_append, len_tw l, e2, List.length_append, List.length_replicate]
    unfold tw1
    split
    · simp [sgl]; omega
    · simp [sgl]; omega
/-- btw is a sum, when no two edges have the same ends. -/
theorem btw_none {a b : Nat} : ∀ {l : List (Nat × Nat × Nat)}, (∀ y ∈ l, isB a b y = false) → btw a b l = 0
  | [], _ => rfl
  | y :: l, h => by unfold btw; rw [h y (by simp)]; simp only [Bool.false_eq_true, if_false]; exact btw_none fun z hz => h z (by simp [hz])
theorem btw_eq (a b : Nat) (x : Nat × Nat × Nat) (l : List (Nat × Nat × Nat)) : btw a b (x :: l) = if isB a b x then x.2.2 else btw a b l := rfl
theorem btw_cons {a b : Nat} {x : Nat × Nat × Nat} {l : List (Nat × Nat × Nat)} (h : ∀ y ∈ l, x.1 < y.1 ∨ (x.1 = y.1 ∧ x.2.1 < y.2.1)) : btw a b (x :: l) = (if isB a b x then x.2.2 else 0) + btw a b l := by
  rw [btw_eq]
  split
  · rename_i hx
    rw [btw_none (a := a) (b := b) (l := l) (fun y hy => by
      have h1 := h y hy
      simp only [isB, decide_eq_true_eq] at hx
      simp only [isB, decide_eq_false_iff_not]
      omega)]
    rfl
  · rw [Nat.zero_add]
def oneK (v : Nat) (x : Nat × Nat × Nat) : Nat → Nat
  | 0 => 0
  | k + 1 => oneK v x k + if k = v then 0 else if isB k v x then x.2.2 else 0
theorem valK_cons {v : Nat} {x : Nat × Nat × Nat} {l : List (Nat × Nat × Nat)} (h : ∀ y ∈ l, x.1 < y.1 ∨ (x.1 = y.1 ∧ x.2.1 < y.2.1)) : ∀ k, valK v (x :: l) k = oneK v x k + valK v l k
  | 0 => rfl
  | k + 1 => by
    unfold valK oneK
    rw [valK_cons h k, btw_cons h]
    split <;> omega
theorem oneK_eq (v : Nat) (x : Nat × Nat × Nat) (hx : x.1 ≤ x.2.1) : ∀ k, oneK v x k = if x.1 = x.2.1 then 0 else (if x.1 = v ∧ x.2.1 < k then x.2.2 else 0) + (if x.2.1 = v ∧ x.1 < k then x.2.2 else 0)
  | 0 => by simp [oneK]
  | k + 1 => by
    unfold oneK
    rw [oneK_eq v x hx k]
    obtain ⟨a, b, m⟩ := x
    simp only at hx ⊢
    simp only [isB, decide_eq_true_eq]
    repeat' split
    all_goals omega
theorem degN_sum {n : Nat} (v : Nat) (hv : v < n) : ∀ {ns : List (Nat × Nat × Nat)}, (∀ x ∈ ns, x.1 < n ∧ x.2.1 < n ∧ x.1 ≤ x.2.1) → (ns.Pairwise fun x y => x.1 < y.1 ∨ (x.1 = y.1 ∧ x.2.1 < y.2.1)) → degN n v ns = (ns.map (dg1 v)).sum
  | [], _, _ => by
    have : ∀ k, valK v [] k = 0 := fun k => by
      induction k with
      | zero => rfl
      | succ k ih => unfold valK; rw [ih]; simp [btw]
    simp [degN, this, btw]
  | x :: l, hr, ha => by
    obtain ⟨h1, h2⟩ := List.pairwise_cons.1 ha
    have ih := degN_sum v hv (fun y hy => hr y (by simp [hy])) h2
    obtain ⟨r1, r2, r3⟩ := hr x (by simp)
    unfold degN at ih ⊢
    rw [valK_cons h1, btw_cons h1, oneK_eq v x r3, List.map_cons, List.sum_cons, ← ih]
    unfold dg1
    obtain ⟨a, b, m⟩ := x
    simp only at r1 r2 r3 ⊢
    simp only [isB, decide_eq_true_eq]
    repeat' split
    all_goals omega
end Go.Proofs.YtlnhocgjgmhfgaaGreatDoor
