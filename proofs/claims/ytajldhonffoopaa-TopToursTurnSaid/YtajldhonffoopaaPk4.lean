/- Plain: degrees in the graph and in its two-way digraph. Plain: a unicycle of the two-way digraph is back behind a full tour. Plain: the case of casePlain: two vertices, one edge. The walk of casePlain. Plain facts for the main branch of TopToursTurn: few edges, and the table of visits. The walk of TopToursTurn: the main branch. -/
import Derived.Test.YtajldhonffoopaaPk3
namespace Go.Proofs.Ytajldhonffoopaa
open Go.RowKit

/-- What one edge adds to a vertex's degree. -/
def dg1 (v : Nat) (x : Nat × Nat × Nat) : Nat := if x.1 = x.2.1 then (if x.1 = v then 2 * x.2.2 else 0) else (if x.1 = v then x.2.2 else 0) + (if x.2.1 = v then x.2.2 else 0)
theorem cnt_rep (p : Nat × Nat → Bool) (m : Nat) (x : Nat × Nat) : (List.replicate m x).countP p = if p x then m else 0 := by
  rw [List.countP_replicate]
theorem cntS_tw1 (v : Nat) (x : Nat × Nat × Nat) : (sgl (tw1 x)).countP (fun y => y.1 == v) = dg1 v x := by
  unfold tw1 dg1
  split
  · simp [sgl, cnt_rep]
  · simp [sgl, cnt_rep, List.countP_append]
theorem cntT_tw1 (v : Nat) (x : Nat × Nat × Nat) : (sgl (tw1 x)).countP (fun y => y.2 == v) = dg1 v x := by
  unfold tw1 dg1
  split
  · simp [sgl, cnt_rep]
  · simp [sgl, cnt_rep, List.countP_append]; omega
theorem sgl_app (a b : List (Nat × Nat × Nat)) : sgl (a ++ b) = sgl a ++ sgl b := by simp [sgl]
theorem cnt_tw (p : Nat × Nat → Bool) (f : Nat × Nat × Nat → Nat) (h : ∀ x, (sgl (tw1 x)).countP p = f x) : ∀ ns : List (Nat × Nat × Nat), (sgl (tw ns)).countP p = (ns.map f).sum
  | [] => rfl
  | x :: l => by
    have e : tw (x :: l) = tw1 x ++ tw l := by simp [tw]
    rw [e, sgl_app, List.countP_append, h, cnt_tw p f h l]; simp
theorem len_tw : ∀ ns : List (Nat × Nat × Nat), (sgl (tw ns)).length = 2 * (sgl ns).length
  | [] => rfl
  | x :: l => by
    have e : tw (x :: l) = tw1 x ++ tw l := by simp [tw]
    have e2 : sgl (x :: l) = List.replicate x.2.2 (x.1, x.2.1) ++ sgl l := by simp [sgl]
    rw [e, sgl_app, List.length_append, len_tw l, e2, List.length_append, List.length_replicate]
    unfold tw1
    split
    · simp [sgl]; omega
    · simp [sgl]; omega
/-- btw is a sum, when no two edges have the same ends. -/
theorem btw_none {a b : Nat} : ∀ {l : List (Nat × Nat × Nat)}, (∀ y ∈ l, isB a b y = false) → btw a b l = 0
  | [], _ => rfl
  | y :: l, h => by unfold btw; rw [h y (by simp)]; simp only [Bool.false_eq_true, if_false]; exact btw_none fun z hz => h z (by simp [hz])
theorem btw_eq (a b : Nat) (x : Nat × Nat × Nat) (l : List (Nat × Nat × Nat)) : btw a b (x :: l) = if isB a b x then x.2.2 else btw a b l := rfl
theorem btw_cons {a b : Nat} {x : Nat × Nat × Nat} {l : List (Nat × Nat × Nat)} (h : ∀ y ∈ l, x.1 < y.1 ∨ (x.1 = y.1 ∧ x.2.1 < y.2.1)) : btw a b (x :: l) = (if isB a b x then x.2.2 else 0) + btw a b l := by
  rw [btw_eq]
  split
  · rename_i hx
    rw [btw_none (a := a) (b := b) (l := l) (fun y hy => by
      have h1 := h y hy
      simp only [isB, decide_eq_true_eq] at hx
      simp only [isB, decide_eq_false_iff_not]
      omega)]
    rfl
  · rw [Nat.zero_add]
def oneK (v : Nat) (x : Nat × Nat × Nat) : Nat → Nat
  | 0 => 0
  | k + 1 => oneK v x k + if k = v then 0 else if isB k v x then x.2.2 else 0
theorem valK_cons {v : Nat} {x : Nat × Nat × Nat} {l : List (Nat × Nat × Nat)} (h : ∀ y ∈ l, x.1 < y.1 ∨ (x.1 = y.1 ∧ x.2.1 < y.2.1)) : ∀ k, valK v (x :: l) k = oneK v x k + valK v l k
  | 0 => rfl
  | k + 1 => by
    unfold valK oneK
    rw [valK_cons h k, btw_cons h]
    split <;> omega
theorem oneK_eq (v : Nat) (x : Nat × Nat × Nat) (hx : x.1 ≤ x.2.1) : ∀ k, oneK v x k = if x.1 = x.2.1 then 0 else (if x.1 = v ∧ x.2.1 < k then x.2.2 else 0) + (if x.2.1 = v ∧ x.1 < k then x.2.2 else 0)
  | 0 => by simp [oneK]
  | k + 1 => by
    unfold oneK
    rw [oneK_eq v x hx k]
    obtain ⟨a, b, m⟩ := x
    simp only at hx ⊢
    simp only [isB, decide_eq_true_eq]
    repeat' split
    all_goals omega
theorem degN_sum {n : Nat} (v : Nat) (hv : v < n) : ∀ {ns : List (Nat × Nat × Nat)}, (∀ x ∈ ns, x.1 < n ∧ x.2.1 < n ∧ x.1 ≤ x.2.1) → (ns.Pairwise fun x y => x.1 < y.1 ∨ (x.1 = y.1 ∧ x.2.1 < y.2.1)) → degN n v ns = (ns.map (dg1 v)).sum
  | [], _, _ => by
    have : ∀ k, valK v [] k = 0 := fun k => by
      induction k with
      | zero => rfl
      | succ k ih => unfold valK; rw [ih]; simp [btw]
    simp [degN, this, btw]
  | x :: l, hr, ha => by
    obtain ⟨h1, h2⟩ := List.pairwise_cons.1 ha
    have ih := degN_sum v hv (fun y hy => hr y (by simp [hy])) h2
    obtain ⟨r1, r2, r3⟩ := hr x (by simp)
    unfold degN at ih ⊢
    rw [valK_cons h1, btw_cons h1, oneK_eq v x r3, List.map_cons, List.sum_cons, ← ih]
    unfold dg1
    obtain ⟨a, b, m⟩ := x
    simp only at r1 r2 r3 ⊢
    simp only [isB, decide_eq_true_eq]
    repeat' split
    all_goals omega
end Go.Proofs.Ytajldhonffoopaa

namespace Go.Proofs.Ytajldhonffoopaa
open Go.RowKit

theorem cnt_range (p : Nat × Nat → Bool) (es : List (Nat × Nat)) : (List.range es.length).countP (fun e => p (es.getD e (0, 0))) = es.countP p := by
  have h : es = (List.range es.length).map fun e => es.getD e (0, 0) := by
    apply List.ext_getElem (by simp)
    intro i h1 h2
    simp [List.getD_eq_getElem?_getD, h1]
  conv => rhs; rw [h]
  rw [List.countP_map]
  rfl
theorem sgl_perm {a b : List (Nat × Nat × Nat)} (h : a.Perm b) : (sgl a).Perm (sgl b) := List.Perm.flatMap_right _ h
theorem ptrs_it {n : Nat} {ss : List (Nat × Nat)} {us : List Int} (hn : n ≤ 12) (hp : ∀ v, v < n → (ptK ss us n).getD v 0 < n) : ∀ (i v : Nat), v < n → Rot.ptrs ss (rot us) i v = it (ptK ss us n) i v
  | 0, _, _ => rfl
  | i + 1, v, hv => by
    have h1 := hp v hv
    show Rot.ptrs ss (rot us) i (Rot.ptr ss (rot us) v) = it (ptK ss us n) (i + 1) v
    rw [it_succ', ptK_get ss us n v hv hn] at *
    exact ptrs_it hn hp i _ h1
/-- The law in plain words. -/
theorem tour_home {n a : Nat} {es : List (Int × Int × Int)} {ns ys : List (Nat × Nat × Nat)} {us : List Int} (h : RG (n : Int) es ns) (hp : ys.Perm (tw ns)) (hR : RD n ys) (hG : GoodU n (sgl ys) a us) :
    (sgl ys).length = 2 * (sgl ns).length ∧ (Rot.run (sgl ys) (rot us) a (sgl ys).length).1 = a ∧ (Rot.run (sgl ys) (rot us) a (sgl ys).length).2.Perm (List.range (sgl ys).length) ∧
      (us = (rotK (sgl ys) us n (Rot.run (sgl ys) (rot us) a (sgl ys).length).2).map fun (x : Nat) => (x : Int)) ∧ ∀ v, v < n → Rot.cntS (sgl ys) (Rot.run (sgl ys) (rot us) a (sgl ys).length).2 v = degN n v ns := by
  have hpp := sgl_perm hp
  have hrg := sgl_rng hR
  have n12 := hR.le
  have hplt := ptK_lt n12 hrg hG.rng
  have hS : ∀ v, Rot.cntS (sgl ys) (List.range (sgl ys).length) v = (ns.map (dg1 v)).sum := fun v => by
    rw [← cnt_tw (fun y => y.1 == v) (dg1 v) (cntS_tw1 v) ns, ← hpp.countP_eq, ← cnt_range]; rfl
  have hT : ∀ v, Rot.cntT (sgl ys) (List.range (sgl ys).length) v = (ns.map (dg1 v)).sum := fun v => by
    rw [← cnt_tw (fun y => y.2 == v) (dg1 v) (cntT_tw1 v) ns, ← hpp.countP_eq, ← cnt_range]; rfl
  have hsrc : ∀ e, e < (sgl ys).length → Rot.src (sgl ys) e < n ∧ Rot.trg (sgl ys) e < n := fun e he => by
    have := hrg _ (List.getElem_mem he)
    unfold Rot.src Rot.trg
    rw [List.getD_eq_getElem?_getD, List.getElem?_eq_getElem he]
    exact this
  have hr : ∀ v, v < n → rot us v < (Rot.outs (sgl ys) v).length := fun v hv => by
    have := hG.rng v hv
    unfold rot; omega
  obtain ⟨h1, h2, h3⟩ := Rot.home (es := sgl ys) (r := rot us) (a := a) (n := n) (fun e he => (hsrc e he).1) (fun e he => (hsrc e he).2) hG.pos (fun v _ => by rw [hT, Rot.outs_len, hS]) hr (fun v hv => by
    obtain ⟨i, hi⟩ := hG.uni v hv
    exact ⟨i, by rw [ptrs_it n12 hplt i v hv]; exact hi⟩) hG.at_lt
  refine ⟨by rw [hpp.length_eq, len_tw], h1, h2, ?_, fun v hv => by
    rw [h3, Rot.outs_len, hS, degN_sum v hv (fun x hx => by have := h.rng x hx; omega) h.asc]⟩
  have e1 : rotK (sgl ys) us n (Rot.run (sgl ys) (rot us) a (sgl ys).length).2 = rotK (sgl ys) us n [] := by
    unfold rotK
    apply List.map_congr_left
    intro v _
    rw [h3, Nat.add_mod_right]; rfl
  rw [e1]
  exact rotK_zero hG
end Go.Proofs.Ytajldhonffoopaa

namespace Go.Proofs.Ytajldhonffoopaa
open Go.RowKit

theorem two_ys {ys : List (Nat × Nat × Nat)} (hp : ys.Perm (tw [(0, 1, 1)])) (hs : ys.Pairwise fun x y => ¬ (y.1 < x.1 ∨ (y.1 = x.1 ∧ y.2.1 < x.2.1))) : ys = [(0, 1, 1), (1, 0, 1)] := by
  have e : tw [(0, 1, 1)] = [(0, 1, 1), (1, 0, 1)] := rfl
  rw [e] at hp
  have hl := hp.length_eq
  match ys, hl with
  | [x, y], _ =>
    have hx := (hp.mem_iff (a := x)).1 (by simp)
    have hy := (hp.mem_iff (a := y)).1 (by simp)
    have h0 := (hp.mem_iff (a := ((0, 1, 1) : Nat × Nat × Nat))).2 (by simp)
    have h1 := (hp.mem_iff (a := ((1, 0, 1) : Nat × Nat × Nat))).2 (by simp)
    simp only [List.mem_cons, List.not_mem_nil, or_false] at hx hy h0 h1
    rcases hx with rfl | rfl <;> rcases hy with rfl | rfl
    · simp at h1
    · rfl
    · simp at hs
    · simp at h0
theorem two_eul : EulC 2 [(0, 1, 1), (1, 0, 1)] := by
  refine ⟨by simp, by decide, fun l hE hT _ i x h1 h2 => ?_⟩
  have hT0 : Tr l 0 := hT
  have hT1 : Tr l 1 := hE.clo 0 (0, 1) rfl rfl hT0 (tr_rep 2 0)
  match i, h1 with
  | 0, h1 => simp [ends1] at h1; subst h1; exact hT0
  | 1, h1 => simp [ends1] at h1; subst h1; exact hT1
  | i + 2, h1 => simp [ends1] at h1
theorem two_good : GoodU 2 (sgl [(0, 1, 1), (1, 0, 1)]) 0 [0, 0] := by
  refine ⟨by decide, rfl, fun v hv => ?_, fun v hv => ?_, fun v hv => ?_⟩
  · match v, hv with
    | 0, _ => decide
    | 1, _ => decide
  · match v, hv with
    | 0, _ => decide
    | 1, _ => decide
  · match v, hv with
    | 0, _ => exact ⟨0, rfl⟩
    | 1, _ => exact ⟨1, by decide⟩
theorem two_run : Rot.run (sgl [(0, 1, 1), (1, 0, 1)]) (rot [0, 0]) 0 2 = (0, [0, 1]) := by decide
end Go.Proofs.Ytajldhonffoopaa

namespace Go.Proofs.Ytajldhonffoopaa
open Go.RowKit
set_option maxRecDepth 100000

theorem walk_two (w1 : World) {base : Nat} (ua : Option Addr) (uc : Nat) (hO : w1.ownsRow base 55 3 (.slice ua 2 uc) 2 (([(0, 1, 1), (1, 0, 1)] : List (Nat × Nat × Nat)).flatMap t3)) :
    Calls Try.prog 10 #[.agg #[.int .i64 2, .slice ua 2 uc], .agg #[.int .i64 0, .slice (some ⟨w1.heap.size + 1, 0, none⟩) 2 2], .int .i64 2] ((w1.alloc (.cells #[.int .i64 2, .slice ua 2 uc] 33)).alloc (.cells #[.int .i64 0, .int .i64 0] 3))
      (Rets fun r w' => ∃ q cap oa oc, r = .tuple #[.agg #[.int .i64 0, .slice (some ⟨q, 0, none⟩) 2 cap], .slice (some ⟨oa, 0, none⟩) 2 oc, .int .i64 0] ∧ True ∧ (w'.cell? ⟨oa, 0, none⟩ = some (.int .i64 0) ∧ w'.cell? ⟨oa, 1, none⟩ = some (.int .i64 1) ∧ oa < w'.heap.size) ∧ Below w1.heap.size w1 w') := by
  obtain ⟨W1, hW1⟩ : ∃ W, w1.alloc (.cells #[.int .i64 2, .slice ua 2 uc] 33) = W := ⟨_, rfl⟩
  obtain ⟨W2, hW2⟩ : ∃ W, W1.alloc (.cells #[.int .i64 0, .int .i64 0] 3) = W := ⟨_, rfl⟩
  have z1 : W1.heap.size = w1.heap.size + 1 := by rw [← hW1, World.size_alloc]
  have hb : Below w1.heap.size w1 W2 := by
    have q1 : Below w1.heap.size w1 W1 := by rw [← hW1]; exact (Below.refl _ w1).alloc (Nat.le_refl _) _
    rw [← hW2]; exact q1.alloc q1.size _
  have hk : Blk W2 (w1.heap.size + 1) [.int .i64 0, .int .i64 0] 3 := by rw [← hW2, ← z1]; exact Blk.new W1 _ _
  rw [hW1, hW2]
  have hs : SlK iz 1 W2 (.slice (some ⟨w1.heap.size + 1, 0, none⟩) 2 2) [0, 0] :=
    ⟨_, w1.heap.size + 1, 0, 2, rfl, fun _ => rfl, by simp, by simp [maxLen], fun h => by simp at h, fun _ => hk.lt, fun i hi j v hv => by
      have hj : j = 0 := by
        have := (List.getElem?_eq_some_iff.1 hv).1
        simp [iz] at this; omega
      subst hj
      match i, hi with
      | 0, _ => simpa using hk.cell 0 v hv
      | 1, _ => simpa using hk.cell 1 v hv⟩
  have hR : RD 2 [(0, 1, 1), (1, 0, 1)] := ⟨by decide, by decide, by decide, by simp⟩
  have hv : SlK e3 3 W2 (.slice ua 2 uc) (([(0, 1, 1), (1, 0, 1)] : List (Nat × Nat × Nat)).map n3) := (SlK.ofOwns (enc := e3) (xs := ([(0, 1, 1), (1, 0, 1)] : List (Nat × Nat × Nat)).map n3) (fun _ => rfl) hO rfl).below hb (Nat.le_refl _)
  refine (EWalk_ok W2 2 _ [(0, 1, 1), (1, 0, 1)] 0 _ [0, 0] 2 hR hv (by simp) hs two_eul two_good (by decide)).mono ?_
  rintro e w' ⟨v, rfl, q, cap, way, rfl, -, hw, hb2⟩
  rw [two_run] at hw ⊢
  rcases hw.2 with ⟨h0, h1⟩ | ⟨g, oc, cur, rfl, -⟩
  · simp at h1
  · have c0 := hw.cells (g := g) rfl 0 (.int .i64 0) rfl
    have c1 := hw.cells (g := g) rfl 1 (.int .i64 1) rfl
    rw [addr0] at c0 c1
    exact ⟨_, rfl, q, cap, g, oc, rfl, trivial, ⟨c0, c1, (hw.lt g rfl).2⟩, hb.trans (hb2.mono hb.size)⟩

set_option maxHeartbeats 2000000 in
theorem casePlain_ok (w : World) : Calls Try.prog 7 #[] w (Rets fun r w' => r = .bool true ∧ Below w.heap.size w w') := by
  obtain ⟨W, hW⟩ : ∃ W, w.alloc (.cells #[.int .i64 0, .int .i64 1, .int .i64 1] 52) = W := ⟨_, rfl⟩
  have HB := Lib.hid (show Blk W w.heap.size [.int .i64 0, .int .i64 1, .int .i64 1] 52 by rw [← hW]; exact Blk.new w _ _)
  have HQ := Lib.hid (show Below w.heap.size w W by rw [← hW]; exact (Below.refl _ w).alloc (Nat.le_refl _) _)
  have HS := Lib.hid (show SlK e3 3 W (.slice (some ⟨w.heap.size, 0, none⟩) 1 1) [((0 : Int), (1 : Int), (1 : Int))] from
    ⟨_, w.heap.size, 0, 1, rfl, fun _ => rfl, by simp, by simp [maxLen], fun h => by simp at h, fun _ => HB.out.lt, fun i hi j v hv => by
      obtain rfl : i = 0 := by simp at hi; omega
      simp only [Nat.zero_mul, Nat.zero_add]
      exact HB.out.cell j v hv⟩)
  have HRG : Hid (RG 2 [((0 : Int), (1 : Int), (1 : Int))] [(0, 1, 1)]) := Lib.hid ⟨rfl, by decide, by decide, by simp, by simp⟩
  have HT := Lib.hid (TwoWay_ok W 2 _ _ [(0, 1, 1)] HS.out HRG.out (by decide) (by simp) (by simp))
  have HW := Lib.hid hW
  clear hW
  go_enter Try.func7, Try.ntmps7
  go_wp2_with (first
    | (go_at_call 8; rw [HW.out]; go_loud (with_reducible refine HT.out.mono ?_); rintro e w1 ⟨v, rfl, u, ys, rfl, hp, hs, hO, hb⟩; obtain rfl := two_ys hp hs; obtain ⟨ua, uc, rfl⟩ := own_formK hO; have HO := Lib.hid hO; have HB1 := Lib.hid hb; have HWK := Lib.hid (walk_two w1 ua uc HO.out); clear hp hs hO hb)
    | (go_at_call 10; go_loud (with_reducible refine HWK.out.mono ?_); rintro e w2 ⟨v, rfl, q, cap, oa, oc, rfl, hq, hwy, hb⟩; have HB2 := Lib.hid (HQ.out.trans ((HB1.out.trans (hb.mono HB1.out.size)).mono HQ.out.size)); obtain ⟨y0, y1, hyl⟩ := hwy; clear hq hb))
  go_ret
  exact ⟨_, rfl, rfl, HB2.out.alloc HB2.out.size _⟩
end Go.Proofs.Ytajldhonffoopaa

namespace Go.Proofs.Ytajldhonffoopaa
open Go.RowKit
set_option maxRecDepth 100000

theorem mult_le : ∀ {ns : List (Nat × Nat × Nat)} {x : Nat × Nat × Nat}, x ∈ ns → x.2.2 ≤ (sgl ns).length
  | [], _, h => by cases h
  | y :: l, x, h => by
    have e : (sgl (y :: l)).length = y.2.2 + (sgl l).length := by simp [sgl]
    rcases List.mem_cons.1 h with rfl | h
    · omega
    · have := mult_le h; omega
theorem few_small {n : Int} {es : List (Int × Int × Int)} {ns : List (Nat × Nat × Nat)} (h : RG n es ns) (hc : chkG n es = 0) (hs : smallB n es 5 8 = true) : n ≤ 5 ∧ (sgl ns).length ≤ 8 ∧ ns.length ≤ 40 := by
  unfold smallB at hs
  have h3 : es.length = ns.length := by rw [h.eq, List.length_map]
  by_cases h1 : 40 < es.length
  · rw [if_pos h1] at hs; exact absurd hs (by simp)
  · rw [if_neg h1, if_neg (by rw [hc]; simp), Bool.and_eq_true, decide_eq_true_eq, decide_eq_true_eq] at hs
    have h2 : (es.map fun x => x.2.2.toNat).sum = (sgl ns).length := by
      rw [sgl_len, h.eq, List.map_map]
      congr 1
    rw [h2] at hs
    omega
/-- How often each vertex has been left. -/
def cntL (ss : List (Nat × Nat)) (n : Nat) (l : List Nat) : List Nat := (List.range n).map fun v => Rot.cntS ss l v
theorem cntL_len (ss : List (Nat × Nat)) (n : Nat) (l : List Nat) : (cntL ss n l).length = n := by simp [cntL]
theorem cntL_nil (ss : List (Nat × Nat)) (n : Nat) : cntL ss n [] = List.replicate n 0 := by
  apply List.ext_getElem (by simp [cntL])
  intro i h1 h2
  simp [cntL, Rot.cntS]
theorem cntL_get (ss : List (Nat × Nat)) (n : Nat) (l : List Nat) (v : Nat) (h : v < (cntL ss n l).length) : (cntL ss n l)[v] = Rot.cntS ss l v := by simp [cntL]
theorem cntL_le (ss : List (Nat × Nat)) (n : Nat) (l : List Nat) (v : Nat) (h : v < (cntL ss n l).length) : (cntL ss n l)[v] ≤ l.length := by
  rw [cntL_get]; exact List.countP_le_length
theorem cntL_step {ss : List (Nat × Nat)} {n v e : Nat} {l : List Nat} (he : Rot.src ss e = v) (h : v < (cntL ss n l).length) :
    cntL ss n (l ++ [e]) = (cntL ss n l).set v ((cntL ss n l)[v] + 1) := by
  apply List.ext_getElem (by simp [cntL])
  intro i h1 h2
  by_cases e2 : v = i
  · subst e2
    rw [List.getElem_set_self]
    simp only [cntL, List.getElem_map, List.getElem_range, Rot.cntS, List.countP_append]
    simp [he]
  · rw [List.getElem_set_ne e2]
    simp only [cntL, List.getElem_map, List.getElem_range, Rot.cntS, List.countP_append]
    simp [he, e2]
/-- One arc of the way: where it begins, and what the table is behind it. -/
theorem way_step {ss : List (Nat × Nat)} {n k : Nat} {way : List Nat} (hp : way.Perm (List.range ss.length)) (hrg : ∀ x ∈ ss, x.1 < n ∧ x.2 < n) (hk : k < way.length) :
    ∃ e z1 z2 x, way[k] = e ∧ ∃ h3 : e < ss.length, ss[e] = (z1, z2) ∧ z1 < n ∧ ∃ h4 : z1 < (cntL ss n (way.take k)).length, (cntL ss n (way.take k))[z1] = x ∧ x ≤ k ∧ cntL ss n (way.take (k + 1)) = (cntL ss n (way.take k)).set z1 (x + 1) := by
  have he : way[k] < ss.length := List.mem_range.1 ((hp.mem_iff).1 (List.getElem_mem hk))
  have hm := hrg _ (List.getElem_mem he)
  have hs : Rot.src ss way[k] = (ss[way[k]]).1 := by
    simp [Rot.src, List.getD_eq_getElem?_getD, he]
  have h4 : (ss[way[k]]).1 < (cntL ss n (way.take k)).length := by rw [cntL_len]; exact hm.1
  refine ⟨way[k], (ss[way[k]]).1, (ss[way[k]]).2, (cntL ss n (way.take k))[(ss[way[k]]).1], rfl, he, rfl, hm.1, h4, rfl, ?_, ?_⟩
  · have := cntL_le ss n (way.take k) _ h4
    rw [List.length_take] at this
    omega
  · rw [List.take_succ_eq_append_getElem hk]
    exact cntL_step hs h4
theorem ints_iz (l : List Nat) : ints l = (l.map fun (x : Nat) => (x : Int)).flatMap iz := by
  induction l with
  | nil => rfl
  | cons x l ih =>
    rw [List.map_cons, List.flatMap_cons, ← ih]
    rfl
theorem slk_ints {w : World} {b n : Nat} {v : Value} {l : List Nat} {us : List Int} (h : w.ownsRow b 3 1 v n (ints l)) (hu : us = l.map fun (x : Nat) => (x : Int)) (hn : n = us.length) : SlK iz 1 w v us :=
  SlK.ofOwns (fun _ => rfl) (by rw [hu, ← ints_iz]; exact h) hn
/-- The walk home, as a contract. -/
theorem walk_home (w : World) (n : Nat) (v : Value) (es : List (Int × Int × Int)) (ns ys : List (Nat × Nat × Nat)) (a : Nat) (rv : Value) (us : List Int) (K : Nat) (hRG : RG (n : Int) es ns) (hp : ys.Perm (tw ns)) (hR : RD n ys) (hv : SlK e3 3 w v (ys.map n3)) (hu : SlK iz 1 w rv us) (hE : EulC n ys) (hG : GoodU n (sgl ys) a us) (hK : (sgl ys).length = K) (hk : K ≤ 1000) (hl : ys.length ≤ 1000) :
    Calls Try.prog 10 #[.agg #[.int .i64 (n : Nat), v], .agg #[.int .i64 (a : Nat), rv], .int .i64 (K : Nat)] w (Rets fun r w' => ∃ q cap la lc way, r = .tuple #[.agg #[.int .i64 (a : Nat), .slice (some ⟨q, 0, none⟩) n cap], .slice la K lc, .int .i64 0] ∧ way.length = K ∧ way.Perm (List.range (sgl ys).length) ∧
      (∀ v, v < n → Rot.cntS (sgl ys) way v = degN n v ns) ∧ SlK iz 1 w' (.slice (some ⟨q, 0, none⟩) n cap) us ∧ SlK iz 1 w' (.slice la K lc) (way.map fun (x : Nat) => (x : Int)) ∧ Below w.heap.size w w') := by
  obtain ⟨h1, h2, h3, h4, h5⟩ := tour_home hRG hp hR hG
  rw [hK] at h2 h3 h4 h5
  refine (EWalk_ok w n v ys a rv us K hR hv hl hu hE hG (by omega)).mono ?_
  rintro e w' ⟨u, rfl, q, cap, lv, rfl, hq, hw, hb⟩
  obtain ⟨way, hway⟩ : ∃ l, (Rot.run (sgl ys) (rot us) a K).2 = l := ⟨_, rfl⟩
  rw [hway] at h3 h4 h5 hq hw
  have hl : way.length = K := by rw [h3.length_eq, List.length_range]
  obtain ⟨la, lc, rfl⟩ := own_formK hw
  rw [hl] at hw ⊢
  rw [h2]
  exact ⟨_, rfl, q, cap, la, lc, way, rfl, hl, by rw [hK]; exact h3, h5, slk_ints hq h4 hG.len.symm, slk_ints hw rfl (by simp [hl]), hb⟩
end Go.Proofs.Ytajldhonffoopaa

namespace Go.Proofs.Ytajldhonffoopaa
open Go.RowKit
set_option maxRecDepth 100000

set_option maxHeartbeats 4000000 in
theorem Turn_main (w : World) (n : Nat) (v : Value) (ns : List (Nat × Nat × Nat)) (at_ : Int) (rv : Value) (us : List Int) (hv : SlK e3 3 w v (ns.map n3)) (hu : SlK iz 1 w rv us) (hR : RG (n : Int) (ns.map n3) ns) (hc : chkG (n : Int) (ns.map n3) = 0) (hsm : smallB (n : Int) (ns.map n3) 5 8 = true) (hul : ¬ (20 : Int) < (us.length : Int)) :
    Calls Try.prog 3 #[.agg #[.int .i64 (n : Nat), v], .agg #[.int .i64 at_, rv]] w (Rets fun r w' => r = .bool true ∧ Below w.heap.size w w') := by
  obtain ⟨hn5, hS8, hl40⟩ := few_small hR hc hsm
  have hn1 := hR.pos
  have HM := Lib.hid (show ∀ x ∈ ns, x.2.2 ≤ 50 from fun x hx => (hR.rng x hx).2.2.2.1)
  have HLO := Lib.hid (show ∀ x ∈ ns, x.1 = x.2.1 → 2 * x.2.2 ≤ 50 from fun x hx _ => by have := mult_le hx; omega)
  have HV := Lib.hid hv; have HU := Lib.hid hu; have HR := Lib.hid hR; have HC := Lib.hid hc; have HS := Lib.hid hsm
  have hnl : (ns.map n3).length = ns.length := List.length_map _
  have HNL := Lib.hid hnl
  obtain ⟨ad, c, rfl⟩ := hv.form
  obtain ⟨ru, cu, rfl⟩ := hu.form
  rw [hnl] at HV ⊢
  obtain ⟨W1, hW1⟩ : ∃ W, w.alloc (.cells #[.int .i64 (n : Nat), .slice ad ns.length c] 24) = W := ⟨_, rfl⟩
  obtain ⟨W, hW⟩ : ∃ W, W1.alloc (.cells #[.int .i64 at_, .slice ru us.length cu] 27) = W := ⟨_, rfl⟩
  have z1 : W1.heap.size = w.heap.size + 1 := by rw [← hW1, World.size_alloc]
  have z2 : W.heap.size = w.heap.size + 1 + 1 := by rw [← hW, World.size_alloc, z1]
  have k1 : Blk W1 w.heap.size [.int .i64 (n : Nat), .slice ad ns.length c] 24 := by rw [← hW1]; exact Blk.new w _ _
  have HG := Lib.hid (show Blk W w.heap.size [.int .i64 (n : Nat), .slice ad ns.length c] 24 by rw [← hW]; exact k1.alloc _)
  have HX := Lib.hid (show Blk W (w.heap.size + 1) [.int .i64 at_, .slice ru us.length cu] 27 by rw [← hW, ← z1]; exact Blk.new W1 _ _)
  have HQ := Lib.hid (show Below w.heap.size w W by
    have q1 : Below w.heap.size w W1 := by rw [← hW1]; exact (Below.refl _ w).alloc (Nat.le_refl _) _
    rw [← hW]; exact q1.alloc q1.size _)
  have HW : Hid ((w.alloc (.cells #[.int .i64 (n : Nat), .slice ad ns.length c] 24)).alloc (.cells #[.int .i64 at_, .slice ru us.length cu] 27) = W) := Lib.hid (by rw [hW1, hW])
  have HVW := Lib.hid (HV.out.below HQ.out (Nat.le_refl _))
  have HUW := Lib.hid (HU.out.below HQ.out (Nat.le_refl _))
  clear k1 hW1 hW z1 hv hu hR hc hsm
  have hn6 : decide ((6 : Int) < (n : Int)) = false := by simp only [decide_eq_false_iff_not]; omega
  have hdu : decide ((20 : Int) < (us.length : Int)) = false := by simp only [decide_eq_false_iff_not]; exact hul
  go_enter Try.func3, Try.ntmps3
  go_upto_region 1 with fail
  rw [HW.out]
  obtain ⟨g0, g1, hlg⟩ := hs_of HG.out (Below.refl _ W)
  go_cut [39] (fun p wx => p = .bool false ∧ Hid (Below W.heap.size W wx))
  case first =>
    cases hbig : decide ((4 : Int) < ((sgl ns).length : Int))
    · go_wp2_with (first
        | (go_at_call 4; (with_reducible refine (FewTrees_any W n _ _ HVW.out).mono ?_); rintro e w1 ⟨v, rfl, rfl, hb⟩; rw [HS.out]; have HB1 := Lib.hid hb; clear hb g0 g1 hlg; obtain ⟨g0, g1, hlg⟩ := hs_of HG.out HB1.out)
        | (go_at_call 5; (with_reducible refine (rGCheck_any w1 n _ _ (HVW.out.below HB1.out (Nat.le_refl _))).mono ?_); rintro e w2 ⟨v, rfl, rfl, hb⟩; rw [HC.out]; have HB2 := Lib.hid (HB1.out.trans (hb.mono HB1.out.size)); clear hb g0 g1 hlg; obtain ⟨x0, x1, hlx⟩ := hs_of HX.out HB2.out; obtain ⟨g0, g1, hlg⟩ := hs_of HG.out HB2.out)
        | (go_at_call 6; (with_reducible refine (rSize_any w2 n _ ns (HVW.out.below HB2.out (Nat.le_refl _)) HM.out (by omega)).mono ?_); rintro e w3 ⟨v, rfl, rfl, hb⟩; have HB3 := Lib.hid (HB2.out.trans (hb.mono HB2.out.size)); clear hb g0 g1 hlg; obtain ⟨g0, g1, hlg⟩ := hs_of HG.out HB3.out))
      go_meet
      case rel => exact ⟨rfl, Lib.hid HB3.out⟩
    · go_wp2_with (first
        | (go_at_call 4; (with_reducible refine (FewTrees_any W n _ _ HVW.out).mono ?_); rintro e w1 ⟨v, rfl, rfl, hb⟩; rw [HS.out]; have HB1 := Lib.hid hb; clear hb g0 g1 hlg; obtain ⟨g0, g1, hlg⟩ := hs_of HG.out HB1.out)
        | (go_at_call 5; (with_reducible refine (rGCheck_any w1 n _ _ (HVW.out.below HB1.out (Nat.le_refl _))).mono ?_); rintro e w2 ⟨v, rfl, rfl, hb⟩; rw [HC.out]; have HB2 := Lib.hid (HB1.out.trans (hb.mono HB1.out.size)); clear hb g0 g1 hlg; obtain ⟨x0, x1, hlx⟩ := hs_of HX.out HB2.out; obtain ⟨g0, g1, hlg⟩ := hs_of HG.out HB2.out)
        | (go_at_call 6; (with_reducible refine (rSize_any w2 n _ ns (HVW.out.below HB2.out (Nat.le_refl _)) HM.out (by omega)).mono ?_); rintro e w3 ⟨v, rfl, rfl, hb⟩; have HB3 := Lib.hid (HB2.out.trans (hb.mono HB2.out.size)); clear hb g0 g1 hlg; obtain ⟨g0, g1, hlg⟩ := hs_of HG.out HB3.out))
      go_meet
      case rel => exact ⟨rfl, Lib.hid HB3.out⟩
  case rest =>
    obtain ⟨rfl, hBW⟩ := hcut
    clear g0 g1 hlg
    obtain ⟨g0, g1, hlg⟩ := hs_of HG.out hBW.out
    have HT := Lib.hid (TwoWay_ok wc n _ _ ns (HVW.out.below hBW.out (Nat.le_refl _)) HR.out HC.out HLO.out (by omega))
    go_upto_region 3 with fail
    go_cut [5, 6] (fun p q wx => ∃ g ua uc ys, p = .pointer (some ⟨g, 0, none⟩) ∧ q = .int .i64 0 ∧ Hid (Blk wx g [.int .i64 (n : Nat), .slice ua (List.length ys) uc] 33) ∧ Hid (SlK e3 3 wx (.slice ua (List.length ys) uc) (List.map n3 ys)) ∧ Hid (List.Perm ys (tw ns)) ∧ Hid (RD n ys) ∧ Hid (W.heap.size ≤ g) ∧ Hid (Below W.heap.size W wx))
    case first =>
      go_wp2_with (go_at_call 8; go_loud (with_reducible refine HT.out.mono ?_); rintro e w1 ⟨v, rfl, u, ys, rfl, hp, hs, hO, hb⟩; obtain ⟨ua, uc, rfl⟩ := own_formK hO; have HO := Lib.hid hO; have HB1 := Lib.hid (hBW.out.trans (hb.mono hBW.out.size)); have HP := Lib.hid hp; have HPS := Lib.hid hs; clear hp hs hO hb)
      go_meet
      case rel =>
        exact ⟨w1.heap.size, ua, uc, ys, rfl, rfl, Lib.hid (Blk.new w1 _ _), Lib.hid ((SlK.ofOwns (enc := e3) (xs := ys.map n3) (fun _ => rfl) (by rw [List.flatMap_map]; exact HO.out) (by simp)).below ((Below.refl _ w1).alloc (Nat.le_refl _) _) (Nat.le_refl _)), HP, Lib.hid (tw_rd HR.out HLO.out HP.out HPS.out), Lib.hid HB1.out.size, Lib.hid (HB1.out.alloc HB1.out.size _)⟩
    case rest =>
      obtain ⟨g, ua, uc, ys, rfl, rfl, hBD, hSD, hPm, hRD, hgW, hB2⟩ := hcut
      have hyl : ys.length ≤ 1000 := by have := hPm.out.length_eq; have := tw_len ns; omega
      have HXc := Lib.hid (HX.out.below hB2.out (Nat.le_refl _))
      have HGc := Lib.hid (HG.out.below hB2.out (Nat.le_refl _))
      have HVc := Lib.hid (HVW.out.below hB2.out (Nat.le_refl _))
      have HUc := Lib.hid (HUW.out.below hB2.out (Nat.le_refl _))
      clear g0 g1 hlg
      obtain ⟨x0, x1, hlx⟩ := hs_of HXc.out (Below.refl _ wc)
      obtain ⟨d0, d1, hld⟩ := hs_of hBD.out (Below.refl _ wc)
      by_cases hok : EulC n ys ∧ 0 ≤ at_ ∧ GoodU n (sgl ys) at_.toNat us
      rotate_left
      · have HN := Lib.hid hok
        clear hok
        go_wp2_with (first
          | (go_at_call 9; (with_reducible refine (EChk_ok wc n _ ys at_ _ us hRD.out hSD.out hyl HUc.out).mono ?_); rintro e w4 ⟨v, rfl, ee, rfl, hb, hiff⟩; have hee : (ee == 0) = false := (by rw [beq_eq_false_iff_ne]; exact fun h => HN.out (hiff.1 h)); have HB4 := Lib.hid (hB2.out.trans (hb.mono hB2.out.size)); clear hb hiff)
          | (go_at_call 7; (with_reducible refine (casePlain_ok _).mono ?_); rintro e w5 ⟨v, rfl, rfl, hb⟩; have HB5 := Lib.hid (HB4.out.trans (hb.mono HB4.out.size)); clear hb))
        go_ret
        exact ⟨_, rfl, rfl, HQ.out.trans (HB5.out.mono HQ.out.size)⟩
      obtain ⟨hE, ha0, hG⟩ := hok
      obtain ⟨a, rfl⟩ : ∃ a : Nat, at_ = (a : Int) := ⟨at_.toNat, by omega⟩
      rw [Int.toNat_natCast] at hG
      obtain ⟨K, hK⟩ : ∃ K, (sgl ys).length = K := ⟨_, rfl⟩
      obtain ⟨m, hm⟩ : ∃ m, (sgl ns).length = m := ⟨_, rfl⟩
      have hKm : K = 2 * m := by rw [← hK, ← hm]; exact (sgl_perm hPm.out).length_eq.trans (len_tw ns)
      rw [hm] at hS8
      have HE := Lib.hid hE; have HGU := Lib.hid hG; have HK := Lib.hid hK; have HMM := Lib.hid hm
      have HWR := Lib.hid (show IntKind.i64.wrap (2 * (m : Int)) = (K : Int) by rw [IntKind.wrap_i64]; omega)
      have HWR2 := Lib.hid (show 2 * (m : Int) = (K : Int) by omega)
      have hKK : ((K : Int) == (K : Int)) = true := by simp
      have hK16 : K ≤ 16 := by omega
      clear hE hG hK hm hKm
      go_upto_region 13 with (first
        | (go_at_call 9; (with_reducible refine (EChk_ok wc n _ ys (a : Int) _ us hRD.out hSD.out hyl HUc.out).mono ?_); rintro e w4 ⟨v, rfl, ee, rfl, hb, hiff⟩; obtain rfl : ee = 0 := hiff.2 ⟨HE.out, ha0, by simpa using HGU.out⟩; have HB4 := Lib.hid hb; clear hb hiff x0 x1 hlx d0 d1 hld; obtain ⟨g0, g1, hlg⟩ := hs_of HGc.out HB4.out)
        | (go_at_call 6; (with_reducible refine (rSize_any w4 n _ ns (HVc.out.below HB4.out (Nat.le_refl _)) HM.out (by omega)).mono ?_); rintro e w5 ⟨v, rfl, rfl, hb⟩; rw [HMM.out]; have HB5 := Lib.hid (HB4.out.trans (hb.mono HB4.out.size)); clear hb g0 g1 hlg; obtain ⟨x0, x1, hlx⟩ := hs_of HXc.out HB5.out; obtain ⟨d0, d1, hld⟩ := hs_of hBD.out HB5.out)
        | (go_at_call 10; (try rw [HWR.out]); (try rw [HWR2.out]); go_loud (with_reducible refine (walk_home w5 n _ _ ns ys a _ us K HR.out hPm.out hRD.out (hSD.out.below HB5.out (Nat.le_refl _)) (HUc.out.below HB5.out (Nat.le_refl _)) HE.out HGU.out HK.out (by omega) hyl).mono ?_); rintro e w6 ⟨v, rfl, q, cap, la, lc, way, rfl, hwl, hwp, hwc, hq, hl, hb⟩; have HB6 := Lib.hid (HB5.out.trans (hb.mono HB5.out.size)); have HWL := Lib.hid hwl; have HWP := Lib.hid hwp; have HWC := Lib.hid hwc; have HQ6 := Lib.hid hq; have HL6 := Lib.hid hl; clear hb x0 x1 hlx d0 d1 hld hwl hwp hwc hq hl; obtain ⟨d0, d1, hld⟩ := hs_of hBD.out HB6.out; obtain ⟨W6, hW6⟩ : ∃ W, w6.alloc (.cells #[.int .i64 (a : Nat), .slice (some ⟨q, 0, none⟩) n cap] 27) = W := ⟨_, rfl⟩; have HW6 := Lib.hid hW6; have HB66 := Lib.hid (show Below w6.heap.size w6 W6 by rw [← hW6]; exact (Below.refl _ w6).alloc (Nat.le_refl _) _); have HN6 := Lib.hid (show Blk W6 w6.heap.size [.int .i64 (a : Nat), .slice (some ⟨q, 0, none⟩) n cap] 27 by rw [← hW6]; exact Blk.new w6 _ _); have HB7 := Lib.hid (HB6.out.trans (HB66.out.mono HB6.out.size)); clear hW6)
        | (go_at_call 11; rw [HW6.out]; (with_reducible refine (EEnds_ok W6 n _ ys hRD.out (hSD.out.below HB7.out (Nat.le_refl _)) hyl).mono ?_); rintro e w7 ⟨v, rfl, u, rfl, hO, hb⟩; obtain ⟨ea, ec, rfl⟩ := own_formK hO; have HO := Lib.hid hO; rw [HK.out]; have HB67 := Lib.hid (HB66.out.trans (hb.mono HB66.out.size)); have HN7 := Lib.hid (HN6.out.below hb (Nat.le_refl _)); have HB8 := Lib.hid (HB7.out.trans (hb.mono HB7.out.size)); clear hb hO d0 d1 hld; obtain ⟨n0, n1, hln⟩ := hs_of HN7.out (Below.refl _ w7); obtain ⟨x0, x1, hlx⟩ := hs_of HXc.out HB8.out)
        | (go_at_call 12; (with_reducible refine (Same_same w7 (a : Int) _ _ us (HQ6.out.below HB67.out (Nat.le_refl _)) (HUc.out.below HB8.out (Nat.le_refl _))).mono ?_); rintro e w8 ⟨v, rfl, rfl, hb⟩; have HB78 := Lib.hid hb; have HB9 := Lib.hid (HB8.out.trans (hb.mono HB8.out.size)); have HB68 := Lib.hid (HB67.out.trans (hb.mono HB67.out.size)); clear hb n0 n1 hln x0 x1 hlx; obtain ⟨g0, g1, hlg⟩ := hs_of HGc.out HB9.out))
      have hmk := mk_run (t := 25) elemI rfl n (by omega) (by unfold maxLen; omega)
      go_cut [12] (fun p wx => ∃ T, p = .slice (some ⟨T, 0, none⟩) n n ∧ Hid (Blk wx T (ints (cntL (sgl ys) n [])) 3) ∧ Hid (w8.heap.size ≤ T) ∧ Hid (Below w8.heap.size w8 wx))
      case first =>
        go_wp2
        go_meet
        case rel => exact ⟨w8.heap.size, rfl, Lib.hid (by
          have h := Blk.new w8 (ints (cntL (sgl ys) n [])) 3
          rw [show (ints (cntL (sgl ys) n [])).toArray = Array.replicate n (.int .i64 0) by rw [cntL_nil]; simp [ints]] at h
          first | exact h | simpa using h), Lib.hid (Nat.le_refl _), Lib.hid ((Below.refl _ w8).alloc (Nat.le_refl _) _)⟩
      case rest =>
        obtain ⟨T, rfl, hT, hTw, hBT⟩ := hcut
        have hwl := HWL.out
        have HRNG := Lib.hid (sgl_rng hRD.out)
        obtain ⟨la', lb, lo, lc', hfl, hli, hlp, hlc, hlm⟩ := HL6.out.open elemI
        have hwml : (way.map fun (x : Nat) => (x : Int)).length = K := by rw [List.length_map, hwl]
        rw [hwml] at hfl hli hlc
        simp only [Value.slice.injEq, true_and] at hfl
        obtain ⟨rfl, rfl⟩ := hfl
        have HES := SlK.ofOwns p2_len HO.out rfl
        obtain ⟨ea', eb, eo, ec', hfe, hie, hep, hec, hecm⟩ := HES.open elemEnds
        simp only [Value.slice.injEq, true_and] at hfe
        obtain ⟨rfl, rfl⟩ := hfe
        rw [HK.out] at hie hec
        have HLP := Lib.hid (hlp.below HB68.out (Nat.le_refl _))
        have HEP := Lib.hid (hep.below HB78.out (Nat.le_refl _))
        have HG8 := Lib.hid (HGc.out.below HB9.out (Nat.le_refl _))
        have HV8 := Lib.hid (HVc.out.below HB9.out (Nat.le_refl _))
        have hbT : Hid (Blk wc T (ints (cntL (sgl ys) n (way.take 0))) 3) := by rw [List.take_zero]; exact hT
        have HQ8 := Lib.hid (HQ.out.trans ((hB2.out.trans (HB9.out.mono hB2.out.size)).mono HQ.out.size))
        clear hlp hep g0 g1 hlg hmk hT HES
        go_wp2
        go_loopw [101] (fun i wr => ∃ k : Nat, k ≤ K ∧ i = .int .i64 k ∧ Hid (Blk wr T (ints (cntL (sgl ys) n (way.take k))) 3) ∧ Hid (Below w8.heap.size w8 wr)) (fun i _ => K - (intOf i).toNat)
        case atStart => exact ⟨0, Nat.zero_le _, rfl, hbT, hBT⟩
        case round =>
          clear hbT hBT
          obtain ⟨k, hk, rfl, hTB, hBr⟩ := hrel
          by_cases hkK : k < K
          · obtain ⟨e, z1, z2, x, he, h3, hz, hz1n, h4, hx, hxk, hst⟩ := way_step HWP.out HRNG.out (show k < way.length by omega)
            have hbr : Below w8.heap.size w8 wr := hBr.out
            have l0 : wr.cell? ⟨lb, lo + k, none⟩ = some (.int .i64 (e : Nat)) := by
              have := HLP.out.at hbr (Nat.le_refl _) k (by rw [hwml]; exact hkK) 0 (.int .i64 (e : Nat)) (by simp [iz, he])
              rwa [Nat.mul_one, Nat.add_zero] at this
            have e0 : wr.cell? ⟨eb, eo + e * 2, none⟩ = some (.int .i64 (z1 : Nat)) := by
              have := HEP.out.at hbr (Nat.le_refl _) e h3 0 (.int .i64 (z1 : Nat)) (by rw [hz]; rfl)
              rwa [Nat.add_zero] at this
            have lb8 := HLP.out.1 (by omega)
            have eb8 := HEP.out.1 (by omega)
            have hZ8 := hbr.size
            have hTw8 := hTw.out
            have hbl : lb < wr.heap.size := by omega
            have hel : eb < wr.heap.size := by omega
            have nbT : lb ≠ T := by omega
            have neT : eb ≠ T := by omega
            obtain ⟨g0, g1, hlg⟩ := hs_of HG8.out hbr
            have c0 : wr.cell? ⟨T, z1, none⟩ = some (.int .i64 (x : Nat)) := hTB.out.cell z1 _ (by rw [ints_at _ _ h4, hx])
            have hTl := hTB.out.lt
            have heK : e < K := by rw [← HK.out]; exact h3
            have p0 : (0 : Int) ≤ (k : Int) := by omega
            have p1 : (k : Int) < (K : Int) := by omega
            have q0 : (0 : Int) ≤ (e : Int) := by omega
            have q1 : (e : Int) < (K : Int) := by omega
            have r0 : (0 : Int) ≤ (z1 : Int) := by omega
            have r1 : (z1 : Int) < (n : Int) := by omega
            have he0 : decide ((e : Int) < 0) = false := by simp only [decide_eq_false_iff_not]; omega
            have he1 : decide (K ≤ e) = false := by simp only [decide_eq_false_iff_not]; omega
            have hx16 : x ≤ 16 := by omega
            have HVX := Lib.hid (show vtx (n : Int) (z1 : Int) = true from (vtx_iff _ _).2 ⟨by omega, by omega⟩)
            have HST := Lib.hid hst
            have HBd := Lib.hid (show Below wr.heap.size wr wr.drew from (Below.refl _ wr).drew)
            have HS17 := Lib.hid (fun (w' : World) (hb : Below wr.heap.size wr w') => (⟨(hs_of HG8.out (hbr.trans (hb.mono hbr.size))).1, (hs_of HG8.out (hbr.trans (hb.mono hbr.size))).2.1, (hb.cell (p := ⟨eb, eo + e * 2, none⟩) hel).trans e0⟩ : w'.cell? ⟨w.heap.size, 0, none⟩ = some (.int .i64 (n : Nat)) ∧ w'.cell? ⟨w.heap.size, 1, none⟩ = some (.slice ad ns.length c) ∧ w'.cell? ⟨eb, eo + e * 2, none⟩ = some (.int .i64 (z1 : Nat))))
            have HS0 := Lib.hid (HS17.out wr.drew HBd.out)
            clear hz hx he hst
            go_wp2_with fail
            -- REGION 17
            refine wp_regionJ (S := fun w' => w'.cell? ⟨w.heap.size, 0, none⟩ = some (.int .i64 (n : Nat)) ∧ w'.cell? ⟨w.heap.size, 1, none⟩ = some (.slice ad ns.length c) ∧ w'.cell? ⟨eb, eo + e * 2, none⟩ = some (.int .i64 (z1 : Nat))) (A := fun _ => true) (by kernel_rfl) ?_
            refine wpAnyJ_take (i := 0) (oi := { dst := some 105, op := .move (.tmp 14), type := _, pos := _, after := _, guard := _ }) (v := ?_) rfl (by kernel_rfl) (by kernel_rfl) (by kernel_rfl) (early_sat (by kernel_rfl)) (fun _ _ _ h => h) (Or.inl ⟨by rfl, ?_⟩) HS0.out ?_
            rotate_left
            · intro wl hSw
              obtain ⟨s0, s1, s2⟩ := hSw
              go_simp
              with_reducible rfl
            simp only [Act.put, List.setIfInBounds_toArray, List.set_cons_zero, List.set_cons_succ]
            refine wpAnyJ_take (i := 1) (oi := { dst := some 106, op := .binOp _ _ (.tmp 105) _ _, type := _, pos := _, after := _, guard := _ }) (v := ?_) rfl (by kernel_rfl) (by kernel_rfl) (by kernel_rfl) (early_sat (by kernel_rfl)) (fun _ _ _ h => h) (Or.inl ⟨by rfl, ?_⟩) HS0.out ?_
            rotate_left
            · intro wl hSw
              obtain ⟨s0, s1, s2⟩ := hSw
              go_simp
              with_reducible rfl
            simp only [Act.put, List.setIfInBounds_toArray, List.set_cons_zero, List.set_cons_succ]
            refine wpAnyJ_take (i := 2) (oi := { dst := some 107, op := .move (.tmp 106), type := _, pos := _, after := _, guard := _ }) (v := ?_) rfl (by kernel_rfl) (by kernel_rfl) (by kernel_rfl) (early_sat (by kernel_rfl)) (fun _ _ _ h => h) (Or.inl ⟨by rfl, ?_⟩) HS0.out ?_
            rotate_left
            · intro wl hSw
              obtain ⟨s0, s1, s2⟩ := hSw
              go_simp
              with_reducible rfl
            simp only [Act.put, List.setIfInBounds_toArray, List.set_cons_zero, List.set_cons_succ]
            refine wpAnyJ_take (i := 3) (oi := { dst := some 108, op := .move (.tmp 14), type := _, pos := _, after := _, guard := _ }) (v := ?_) rfl (by kernel_rfl) (by kernel_rfl) (by kernel_rfl) (early_sat (by kernel_rfl)) (fun _ _ _ h => h) (Or.inl ⟨by rfl, ?_⟩) HS0.out ?_
            rotate_left
            · intro wl hSw
              obtain ⟨s0, s1, s2⟩ := hSw
              go_simp
              with_reducible rfl
            simp only [Act.put, List.setIfInBounds_toArray, List.set_cons_zero, List.set_cons_succ]
            refine wpAnyJ_take (i := 4) (oi := { dst := some 109, op := .move (.tmp 7), type := _, pos := _, after := _, guard := _ }) (v := ?_) rfl (by kernel_rfl) (by kernel_rfl) (by kernel_rfl) (early_sat (by kernel_rfl)) (fun _ _ _ h => h) (Or.inl ⟨by rfl, ?_⟩) HS0.out ?_
            rotate_left
            · intro wl hSw
              obtain ⟨s0, s1, s2⟩ := hSw
              go_simp
              with_reducible rfl
            simp only [Act.put, List.setIfInBounds_toArray, List.set_cons_zero, List.set_cons_succ]
            refine wpAnyJ_take (i := 5) (oi := { dst := some 110, op := .binOp _ _ (.tmp 108) (.tmp 109) _, type := _, pos := _, after := _, guard := _ }) (v := ?_) rfl (by kernel_rfl) (by kernel_rfl) (by kernel_rfl) (early_sat (by kernel_rfl)) (fun _ _ _ h => h) (Or.inl ⟨by rfl, ?_⟩) HS0.out ?_
            rotate_left
            · intro wl hSw
              obtain ⟨s0, s1, s2⟩ := hSw
              go_simp
              with_reducible rfl
            simp only [Act.put, List.setIfInBounds_toArray, List.set_cons_zero, List.set_cons_succ]
            refine wpAnyJ_take (i := 6) (oi := { dst := some 111, op := _, type := _, pos := _, after := _, guard := _ }) (v := ?_) rfl (by kernel_rfl) (by kernel_rfl) (by kernel_rfl) (early_sat (by kernel_rfl)) (fun _ _ _ h => h) (Or.inl ⟨by rfl, ?_⟩) HS0.out ?_
            rotate_left
            · intro wl hSw
              obtain ⟨s0, s1, s2⟩ := hSw
              go_simp
              with_reducible rfl
            simp only [Act.put, List.setIfInBounds_toArray, List.set_cons_zero, List.set_cons_succ]
            refine wpAnyJ_take (i := 7) (oi := { dst := some 112, op := .move (.tmp 111), type := _, pos := _, after := _, guard := _ }) (v := ?_) rfl (by kernel_rfl) (by kernel_rfl) (by kernel_rfl) (early_sat (by kernel_rfl)) (fun _ _ _ h => h) (Or.inl ⟨by rfl, ?_⟩) HS0.out ?_
            rotate_left
            · intro wl hSw
              obtain ⟨s0, s1, s2⟩ := hSw
              go_simp
              with_reducible rfl
            simp only [Act.put, List.setIfInBounds_toArray, List.set_cons_zero, List.set_cons_succ]
            refine wpAnyJ_take (i := 8) (oi := { dst := some 113, op := .load _ (.tmp 2), type := _, pos := _, after := _, guard := _ }) (v := ?_) rfl (by kernel_rfl) (by kernel_rfl) (by kernel_rfl) (early_sat (by kernel_rfl)) (fun _ _ _ h => h) (Or.inl ⟨by rfl, ?_⟩) HS0.out ?_
            rotate_left
            · intro wl hSw
              obtain ⟨s0, s1, s2⟩ := hSw
              go_simp
              with_reducible rfl
            simp only [Act.put, List.setIfInBounds_toArray, List.set_cons_zero, List.set_cons_succ]
            refine wpAnyJ_take (i := 9) (oi := { dst := some 114, op := .move (.tmp 10), type := _, pos := _, after := _, guard := _ }) (v := ?_) rfl (by kernel_rfl) (by kernel_rfl) (by kernel_rfl) (early_sat (by kernel_rfl)) (fun _ _ _ h => h) (Or.inl ⟨by rfl, ?_⟩) HS0.out ?_
            rotate_left
            · intro wl hSw
              obtain ⟨s0, s1, s2⟩ := hSw
              go_simp
              with_reducible rfl
            simp only [Act.put, List.setIfInBounds_toArray, List.set_cons_zero, List.set_cons_succ]
            refine wpAnyJ_take (i := 10) (oi := { dst := some 115, op := .move (.tmp 14), type := _, pos := _, after := _, guard := _ }) (v := ?_) rfl (by kernel_rfl) (by kernel_rfl) (by kernel_rfl) (early_sat (by kernel_rfl)) (fun _ _ _ h => h) (Or.inl ⟨by rfl, ?_⟩) HS0.out ?_
            rotate_left
            · intro wl hSw
              obtain ⟨s0, s1, s2⟩ := hSw
              go_simp
              with_reducible rfl
            simp only [Act.put, List.setIfInBounds_toArray, List.set_cons_zero, List.set_cons_succ]
            refine wpAnyJ_take (i := 11) (oi := { dst := some 116, op := .indexAddr _ (.tmp 114) (.tmp 115), type := _, pos := _, after := _, guard := _ }) (v := ?_) rfl (by kernel_rfl) (by kernel_rfl) (by kernel_rfl) (early_sat (by kernel_rfl)) (fun _ _ _ h => h) (Or.inl ⟨by rfl, ?_⟩) HS0.out ?_
            rotate_left
            · intro wl hSw
              obtain ⟨s0, s1, s2⟩ := hSw
              go_simp
              with_reducible rfl
            simp only [Act.put, List.setIfInBounds_toArray, List.set_cons_zero, List.set_cons_succ]
            refine wpAnyJ_take (i := 12) (oi := { dst := some 117, op := .indexAddr _ (.tmp 116) _, type := _, pos := _, after := _, guard := _ }) (v := ?_) rfl (by kernel_rfl) (by kernel_rfl) (by kernel_rfl) (early_sat (by kernel_rfl)) (fun _ _ _ h => h) (Or.inl ⟨by rfl, ?_⟩) HS0.out ?_
            rotate_left
            · intro wl hSw
              obtain ⟨s0, s1, s2⟩ := hSw
              go_simp
              with_reducible rfl
            simp only [Act.put, List.setIfInBounds_toArray, List.set_cons_zero, List.set_cons_succ]
            refine wpAnyJ_take (i := 13) (oi := { dst := some 118, op := .load _ (.tmp 117), type := _, pos := _, after := _, guard := _ }) (v := ?_) rfl (by kernel_rfl) (by kernel_rfl) (by kernel_rfl) (early_sat (by kernel_rfl)) (fun _ _ _ h => h) (Or.inl ⟨by rfl, ?_⟩) HS0.out ?_
            rotate_left
            · intro wl hSw
              obtain ⟨s0, s1, s2⟩ := hSw
              go_simp
              with_reducible rfl
            simp only [Act.put, List.setIfInBounds_toArray, List.set_cons_zero, List.set_cons_succ]
            refine wpAnyJ_only (i := 14) (o := { dst := some 119, op := _, type := _, pos := _, after := _, guard := _ }) (by kernel_rfl) rfl (fun K hK => ?_)
            go_simp
            refine (rVertex_any wr.drew n z1 _ ad ns.length c rfl).mono ?_
            rintro e w10 ⟨v, rfl, rfl, hb⟩
            rw [HVX.out]
            have HB10 := Lib.hid (HBd.out.trans (hb.mono HBd.out.size))
            have HT10 := Lib.hid (hTB.out.below HB10.out (Nat.le_refl _))
            clear hb
            have hs10 := HS17.out w10 HB10.out
            refine hK.out _ _ (fun _ => hs10) ?_
            try simp only [Act.put, List.setIfInBounds_toArray, List.set_cons_zero, List.set_cons_succ]
            clear hK K
            refine wpAnyJ_take (i := 15) (oi := { dst := some 120, op := _, type := _, pos := _, after := _, guard := _ }) (v := ?_) rfl (by kernel_rfl) (by kernel_rfl) (by kernel_rfl) (early_sat (by kernel_rfl)) (fun _ _ _ h => h) (Or.inl ⟨by rfl, ?_⟩) hs10 ?_
            rotate_left
            · intro wl hSw
              obtain ⟨s0, s1, s2⟩ := hSw
              go_simp
              with_reducible rfl
            simp only [Act.put, List.setIfInBounds_toArray, List.set_cons_zero, List.set_cons_succ]
            refine wpAnyJ_take (i := 16) (oi := { dst := some 121, op := _, type := _, pos := _, after := _, guard := _ }) (v := ?_) rfl (by kernel_rfl) (by kernel_rfl) (by kernel_rfl) (early_sat (by kernel_rfl)) (fun _ _ _ h => h) (Or.inl ⟨by rfl, ?_⟩) hs10 ?_
            rotate_left
            · intro wl hSw
              obtain ⟨s0, s1, s2⟩ := hSw
              go_simp
              with_reducible rfl
            simp only [Act.put, List.setIfInBounds_toArray, List.set_cons_zero, List.set_cons_succ]
            refine wpAnyJ_done (by kernel_rfl) ?_ _
            -- BEHIND REGION 17
            have f0 := hs10.2.2
            have c10 : w10.cell? ⟨T, z1, none⟩ = some (.int .i64 (x : Nat)) := (HB10.out.cell (p := ⟨T, z1, none⟩) hTl).trans c0
            have cf := HT10.out.free z1
            have hTl10 := HT10.out.lt
            have hel10 := Nat.lt_of_lt_of_le hel HB10.out.size
            go_wp2
            go_roundw
            case rel =>
              have t := HT10.out.set z1 (.int .i64 ((x : Int) + 1))
              rw [show Value.int .i64 ((x : Int) + 1) = .int .i64 ((x + 1 : Nat) : Int) by simp, ints_set, ← HST.out] at t
              exact ⟨k + 1, by omega, by go_num, Lib.hid t, Lib.hid ((hBr.out.trans (HB10.out.mono hBr.out.size)).setCell (p := ⟨T, z1, none⟩) hTw.out _)⟩
            case measure => simp [intOf]; omega
          · obtain rfl : k = K := by omega
            rw [List.take_of_length_le (by omega)] at hTB
            obtain ⟨w9, rfl⟩ : ∃ x, x = wr := ⟨_, rfl⟩
            go_wp2
            go_loopw [135] (fun i wr => ∃ j : Nat, j ≤ n ∧ i = .int .i64 j ∧ Hid (Below w9.heap.size w9 wr)) (fun i _ => n - (intOf i).toNat)
            case atStart => exact ⟨0, Nat.zero_le _, rfl, Lib.hid (Below.refl _ _)⟩
            case round =>
              obtain ⟨j, hj, rfl, hBj⟩ := hrel
              have hb8 : Below w8.heap.size w8 wr := hBr.out.trans (hBj.out.mono hBr.out.size)
              by_cases hjn : j < n
              · have h4 : j < (cntL (sgl ys) n way).length := by rw [cntL_len]; exact hjn
                obtain ⟨y, hy⟩ : ∃ y, degN n j ns = y := ⟨_, rfl⟩
                have hcy : (cntL (sgl ys) n way)[j] = y := by rw [cntL_get, HWC.out j hjn, hy]
                have HT9 := Lib.hid (hTB.out.below hBj.out (Nat.le_refl _))
                have c0 : wr.cell? ⟨T, j, none⟩ = some (.int .i64 (y : Nat)) := HT9.out.cell j _ (by rw [ints_at _ _ h4, hcy])
                have hTl := HT9.out.lt
                obtain ⟨g0, g1, hlg⟩ := hs_of HG8.out hb8
                have HY := Lib.hid hy
                have p0 : (0 : Int) ≤ (j : Int) := by omega
                have p1 : (j : Int) < (n : Int) := by omega
                have eyy : ((y : Int) == (y : Int)) = true := by simp
                have HBd := Lib.hid (show Below wr.heap.size wr wr.drew from (Below.refl _ wr).drew)
                have HS24 := Lib.hid (fun (w' : World) (hb : Below wr.heap.size wr w') => (⟨(hs_of HG8.out (hb8.trans (hb.mono hb8.size))).1, (hs_of HG8.out (hb8.trans (hb.mono hb8.size))).2.1, (hb.cell (p := ⟨T, j, none⟩) hTl).trans c0⟩ : w'.cell? ⟨w.heap.size, 0, none⟩ = some (.int .i64 (n : Nat)) ∧ w'.cell? ⟨w.heap.size, 1, none⟩ = some (.slice ad ns.length c) ∧ w'.cell? ⟨T, j, none⟩ = some (.int .i64 (y : Nat))))
                have HS0 := Lib.hid (HS24.out wr.drew HBd.out)
                clear hy hcy
                go_wp2_with fail
                go_region_held3 (fun w' => w'.cell? ⟨w.heap.size, 0, none⟩ = some (.int .i64 (n : Nat)) ∧ w'.cell? ⟨w.heap.size, 1, none⟩ = some (.slice ad ns.length c) ∧ w'.cell? ⟨T, j, none⟩ = some (.int .i64 (y : Nat)))
                  ((first
                    | with_reducible exact HS0.out
                    | with_reducible assumption))
                  ((go_at_call 14; (with_reducible refine (Degree_any wr.drew n _ ns j (HV8.out.below (hb8.trans (HBd.out.mono hb8.size)) (Nat.le_refl _)) HM.out (by omega)).mono ?_); rintro e w11 ⟨v, rfl, rfl, hb⟩; rw [HY.out]; have HB11 := Lib.hid (HBd.out.trans (hb.mono HBd.out.size)); have hs11 := HS24.out w11 HB11.out; clear hb))
                all_goals
                  go_wp2
                  go_roundw
                  case rel => exact ⟨j + 1, by omega, by go_num, Lib.hid (hBj.out.trans (HB11.out.mono hBj.out.size))⟩
                  case measure => simp [intOf]; omega
              · obtain rfl : j = n := by omega
                have HBF := Lib.hid (HQ8.out.trans (hb8.mono HQ8.out.size))
                go_wp2_with (go_at_call 7; (with_reducible refine (casePlain_ok _).mono ?_); rintro e w12 ⟨v, rfl, rfl, hb⟩; have HBG := Lib.hid (HBF.out.trans (hb.mono HBF.out.size)); clear hb)
                go_ret
                exact ⟨_, rfl, rfl, HBG.out⟩
end Go.Proofs.Ytajldhonffoopaa
