/- A region inside a round of a range over a function, by the plain calculus of regions that draw their order. A range over a function whose round begins with memory of its own (the variable of the round is captured): the rule of XQ1 with assignment and body in one premise. The walks of the reference's Add, Sub and Positive. The decimal text of an integer tells the integer. The walk of integer's common (the greatest common divisor). The walk of integer's Gcd. The public functions at short numbers. The walks of the reference's Down, Rest, Common, Divide and Bezout. The walks of the reference's divides and Check of groups. The walks of abelian's opposite, sum and product, and of the closures of Add, Neg and Times. -/
import Derived.Test.YtajkhbpffakmfaaGreatDoorPk5
import Derived.OrdersIn
import Derived.Test.YtajkhbpffakmfaaGreatDoorPk3
import Derived.Test.YtajkhbpffakmfaaGreatDoorPk2
import Derived.Test.YtajkhbpffakmfaaGreatDoorPk6
import Derived.Test.YtajkhbpffakmfaaGreatDoorPk4
namespace Go.Proofs.YtajkhbpffakmfaaGreatDoor
open Go.RowKit
set_option maxRecDepth 100000

section
variable {P : Program} {ops : Array Oper} {Q : Exit → Act → World → Prop} {md : Region.Mode} {n l : Nat}

def noDefer (ops : Array Oper) : Bool := ops.all fun o => match o.op with | .defer _ => false | _ => true
theorem noDefer_at {i : Nat} {o : Oper} (h : noDefer ops = true) (ho : ops[i]? = some o) : ∀ c, o.op ≠ .defer c := by
  intro c hc
  have h1 := Array.all_eq_true.1 h i (Array.getElem?_eq_some_iff.1 ho).1
  rw [(Array.getElem?_eq_some_iff.1 ho).2, hc] at h1
  cases h1
theorem rowsIn_wide {row : String} {args : Array Value} {w : World} {R : Value → World → Prop} (h : Rows P row args w R) : RowsIn (Fence.wide.inRound l) n P row args w R :=
  fun c cs _ => let ⟨v, w', r, s⟩ := h c cs; ⟨v, w', r, stepsIn_wide.2 s⟩
theorem operIn_of {o : Oper} {a : Act} {w : World} {K : Act → World → Prop} (hd : ∀ c, o.op ≠ .defer c) (h : o.wp P a w K Q) : o.wpIn (Fence.wide.inRound l) n P a w K Q := by
  unfold Oper.wp at h
  unfold Oper.wpIn
  refine ⟨fun _ _ => trivial, ?_⟩
  rw [Oper.semAt_eq _ _ _ hd]
  generalize (execOp a.eval o).run P w = r at *
  cases r with
  | ok x w' =>
    cases x <;> simp only [Oper.upon, Oper.uponIn] at h ⊢ <;>
      first
        | exact h
        | exact ⟨fun h => by simp [Fence.wide] at h, (callsIn_wide.2 h : CallsIn Fence.wide (n - 1) P _ _ _ _)⟩
        | exact ⟨fun h => by simp [Fence.wide] at h, rowsIn_wide h⟩
  | halt x w' => cases x <;> simp only [Oper.upon, Oper.uponIn] at h ⊢ <;> exact h
theorem opIn_of (hn : noDefer ops = true) (hL : ¬ LetsOut Q) {i : Nat} {K K' : Act → World → Prop} (hK : ∀ a w, K a w → K' a w) {a : Act} {w : World} (h : wpOp P ops Q i K a w) :
    wpOpIn (Fence.wide.inRound l) n P ops Q i K' a w := by
  unfold wpOp at h
  unfold wpOpIn
  split
  · rename_i hi; rw [hi] at h; exact hK _ _ h
  · rename_i o ho
    rw [ho] at h
    simp only at h
    split
    · rename_i hw
      rw [if_pos hw] at h
      rcases h with h | ⟨-, h⟩
      · exact operIn_of (noDefer_at hn ho) (Oper.wp_mono hK h)
      · exact absurd h hL
    · rename_i hw
      rw [if_neg hw] at h
      exact ⟨fun _ _ => trivial, hK _ _ h⟩
theorem anyIn_of (hn : noDefer ops = true) (hL : ¬ LetsOut Q) : ∀ (fuel : Nat) (listed : Array Bool) (a : Act) (w : World), wpAny P md ops Q fuel listed a w → wpAnyIn (Fence.wide.inRound l) n P md ops Q fuel listed a w
  | 0, _, _, _, h => h
  | fuel + 1, _, _, _, h => ⟨h.1, fun i hi => opIn_of hn hL (fun a w h' => anyIn_of hn hL fuel _ a w h') (h.2 i hi)⟩
theorem wpIn_region_plain {id : Nat} {a : Act} {w : World} (hm : P.follows .mixedOrders = true) (hn : noDefer ops = true) (hL : ¬ LetsOut Q)
    (h : wpAny P .any ops Q ops.size (Array.replicate ops.size false) a w.drew) : (Code.region id ops true).wpIn (Fence.wide.inRound l) n P Q a w :=
  wpIn_region_any hm (anyIn_of hn hL _ _ _ _ h)
end
end Go.Proofs.YtajkhbpffakmfaaGreatDoor

namespace Go.Proofs.YtajkhbpffakmfaaGreatDoor
open Go.RowKit Go.Shelf
set_option maxRecDepth 100000

section
variable {F : Fence} {n : Nat} {P : Program}
theorem wpIn_rangeA {α : Type} {g : Operand} {ps : Array Tmp} {assign body : Code} {Q : Exit → Act → World → Prop} {a : Act} {w : World}
    (hro : F.round = none) (h1 : 1 ≤ n) {gf : Nat} {lb : Array Value} (hg : a.eval g = .func (.func gf) #[] lb) (hFg : F.fn gf) (eg : ∀ args w, (callFunc gf args).run P w = .ok (.enter gf args) w)
    {encs : α → Array Value} {Kp : World → World → Prop} {Gd : Nat → α → World → Prop} {S : List α → World → Prop} {N : Nat} {w0 : World} (hseq : SeqG F (n - 1) P gf lb encs Kp Gd S N w0)
    (hKt : ∀ {A B C : World}, Kp A B → Kp B C → Kp A C) (hKb : ∀ (W : World) (l : Nat) (o o' : Obj), w.heap.size ≤ l → W.heap[l]? = some o → o.isCells = false → Kp W (W.putObj l o'))
    (hSb : ∀ xs (W : World) (l : Nat) (o o' : Obj), S xs W → W.heap[l]? = some o → o.isCells = false → S xs (W.putObj l o'))
    (hb0 : Below w0.heap.size w0 w) (hps : ∀ x, (encs x).size = ps.size)
    (I : List α → World → Prop) (hI : OwnFrom w.heap.size I) (hIc : ∀ pre W1 u j, I pre W1 → I pre (W1.setCell ⟨w.heap.size + 2, j, none⟩ u)) (h0 : I [] w)
    (hround : ∀ (l : Nat) (pre : List α) (x : α) (W : World), I pre W → Gd (w.heap.size + 2) x W → pre.length < N → w.heap.size ≤ l →
      assign.wpIn (F.inRound l) (n - 1 - 1) P (Exit.then (fun a1 W1 => KeepsOthers W W1 ∧ Kp W W1 ∧ ∀ o o' : Obj, W1.heap[l]? = some o → o.isCells = false → body.wpIn (F.inRound l) (n - 1 - 1) P (postG Kp I (pre ++ [x]) (W1.putObj l o')) a1 (W1.putObj l o')) (fun _ _ _ => False))
        { tmps := (ps.zip (encs x)).foldl (fun t (p, v) => t.setIfInBounds p v) a.tmps, defers := [] } W)
    (hdone : ∀ (D : Nat) (xs : List α) (W : World), w.heap.size ≤ D → S xs W → I xs W → W.heap[D]? = some (.deferred (some [])) → Q .normal { a with defers := { target := .collected D, args := #[] } :: a.defers } W) :
    (Code.rangeFunc g ps assign body).wpIn F n P Q a w := by
  refine wpIn_rangeFunc fun fn hfn => ?_
  rw [hro]
  let rec' : LoopState → Loop := fun st => { state := st, pending := none, fn, tmps := a.tmps, params := ps, assign, body, defers := w.heap.size }
  obtain ⟨d, hd⟩ : ∃ d, w.heap.size = d := ⟨_, rfl⟩
  obtain ⟨W1, hW1⟩ : ∃ W1, (w.alloc (.deferred (some []))).alloc (.loop (rec' .ready)) = W1 := ⟨_, rfl⟩
  have hs1 : W1.heap.size = d + 2 := by rw [← hW1, ← hd]; simp
  have hL1 : W1.heap[d + 1]? = some (.loop (rec' .ready)) := by
    rw [← hW1, ← hd]; have := World.alloc_heap_new (w.alloc (.deferred (some []))) (.loop (rec' .ready)); rwa [World.size_alloc] at this
  have hD1 : W1.heap[d]? = some (.deferred (some [])) := by
    rw [← hW1, ← hd]; exact (Below.heap_alloc _ _ _ (by simp)).trans (World.alloc_heap_new w _)
  have hb1 : Below w0.heap.size w0 W1 := by
    rw [← hW1]; exact (hb0.alloc hb0.size _).alloc (by have := hb0.size; simp; omega) _
  refine ⟨d + 1, [{ target := .collected d, args := #[] }], W1, { target := .fn (.func gf) lb, args := #[.func (.yield (d + 1)) #[] #[]] }, W1, gf, #[.func (.yield (d + 1)) #[] #[]] ++ lb, W1, ?_, ?_, ?_, ?_, fun _ => h1, ?_⟩
  · rw [← hW1, ← hd]; exact run_enterLoop_outer _ _ _ _ _
  · simp only [resolve, hg]; simp [go_sem]
  · intro f' hf'; simp [Target.leads] at hf'; subst hf'; exact hFg
  · simp [invoke, go_sem, eg]
  · refine (hseq (d + 1) (fun pre W => I pre W ∧ W.heap[d + 1]? = some (.loop (rec' .ready)) ∧ W.heap[d]? = some (.deferred (some []))) W1 hb1 ?_ ?_ ?_ ?_).mono ?_
    · intro s A B row hs hgr hrow
      refine ⟨hI s A B row hs.1 hgr fun r e => ?_, (grownBy_keeps hgr (fun r e => (hrow r e).2) hs.2.1 rfl).trans hs.2.1, (grownBy_keeps hgr (fun r e => (hrow r e).2) hs.2.2 rfl).trans hs.2.2⟩
      obtain ⟨hB, o, ho, hw⟩ := hrow r e
      exact ⟨by omega, o, ho, Obj.not_cells_of_walk hw⟩
    · intro pre W u j hs
      rw [hs1]
      refine ⟨?_, setCell_other hs.2.1 rfl, setCell_other hs.2.2 rfl⟩
      have := hIc pre W u j hs.1
      rwa [hd] at this
    · rintro pre x W ⟨hi, hl, hk⟩ hgd hlen
      have hy := run_yield (P := P) (args := encs x) hl (hps x)
      refine ⟨fn, _, assign, body, hy, roundIn_of_wpIn hfn (wpIn_mono (hround (d + 1) pre x W hi (by rw [hd, ← hs1]; exact hgd) hlen (by omega)) ?_)⟩
      rintro e a1 W1' hp
      cases e with
      | normal =>
        obtain ⟨hko0, hkp0, hbody⟩ := hp
        have hl1 := hko0.same _ _ hl rfl
        have hk1 := hko0.same _ _ hk rfl
        have hlt : d + 1 < W1'.heap.size := (Array.getElem?_eq_some_iff.1 hl1).1
        refine ⟨_, run_beginRound hl1 rfl, ?_⟩
        have hbody' := hbody _ (.loop { rec' .ready with state := .busy }) hl1 rfl
        obtain ⟨W2, hW2⟩ : ∃ W2, W1'.putObj (d + 1) (.loop { rec' .ready with state := .busy }) = W2 := ⟨_, rfl⟩
        have hl2 : W2.heap[d + 1]? = some (.loop { rec' .ready with state := .busy }) := by rw [← hW2]; exact World.putObj_heap_same hlt
        have hk2 : W2.heap[d]? = some (.deferred (some [])) := by rw [← hW2]; exact (World.putObj_heap_other (by omega)).trans hk1
        have hK2 : Kp W1' W2 := by rw [← hW2]; exact hKb _ _ _ _ (by omega) hl1 rfl
        rw [hW2] at hbody'
        show body.wpIn _ _ _ _ _ (W1'.putObj (d + 1) (.loop { rec' .ready with state := .busy }))
        rw [hW2]
        refine wpIn_mono hbody' ?_
        rintro e a3 W3 hp
        cases e with
        | normal =>
          obtain ⟨hko, hkp, hi3⟩ := hp
          have hl3 := hko.same _ _ hl2 rfl
          have hk3 := hko.same _ _ hk2 rfl
          have hr := run_endRound (P := P) none hl3
          exact ⟨_, _, hr, rfl, ⟨hI.putObj _ hi3 (by omega) hl3 rfl, World.putObj_heap_same (Array.getElem?_eq_some_iff.1 hl3).1, (World.putObj_heap_other (by omega)).trans hk3⟩, hKt (hKt (hKt hkp0 hK2) hkp) (hKb _ _ _ _ (by omega) hl3 rfl)⟩
        | ret => exact hp.elim
        | exit id => exact hp.elim
        | goto t => exact hp.elim
        | panic ch => exact hp.elim
        | outgrown => exact hp.elim
      | ret => exact hp.elim
      | exit id => exact hp.elim
      | goto t => exact hp.elim
      | panic ch => exact hp.elim
      | outgrown => exact hp.elim
    · refine ⟨?_, hL1, hD1⟩
      rw [← hW1]; exact hI.alloc _ (hI.alloc _ h0)
    · rintro e W2 ⟨⟨v, rfl⟩, xs, hS, hi, hl, hk⟩
      refine ⟨none, _, run_endLoop (P := P) hl (by simp [rec']), ?_⟩
      exact hdone d xs _ (by omega) (hSb _ _ _ _ _ hS hl rfl) (hI.putObj _ hi (by omega) hl rfl) ((World.putObj_heap_other (by omega)).trans hk)
end
end Go.Proofs.YtajkhbpffakmfaaGreatDoor

namespace Go.Proofs.YtajkhbpffakmfaaGreatDoor
open Go.RowKit
set_option maxRecDepth 100000

end Go.Proofs.YtajkhbpffakmfaaGreatDoor

namespace Go.Proofs.YtajkhbpffakmfaaGreatDoor
theorem txt_inj {x y : Int} (h : txt x = txt y) : x = y := by
  have h : Lib.itoa x = Lib.itoa y := by rw [← txt_list, ← txt_list, h]
  have hx := dv_dec x.natAbs
  have hy := dv_dec y.natAbs
  have dx := dec_all x.natAbs
  have dy := dec_all y.natAbs
  rw [itoa_cases, itoa_cases] at h
  split at h <;> split at h
  · injection h with _ h
    rw [h] at hx; omega
  · rw [← h] at dy; simp [isDig] at dy
  · rw [h] at dx; simp [isDig] at dx
  · rw [h] at hx; omega
end Go.Proofs.YtajkhbpffakmfaaGreatDoor

namespace Go.Proofs.YtajkhbpffakmfaaGreatDoor
open Go.RowKit
set_option maxRecDepth 100000

theorem Sl.unique {w : World} {v : Value} {xs ys : List Nat} (h : Sl eU w v xs) (h' : Sl eU w v ys) : xs = ys := by
  obtain ⟨a, b, o, c, rfl, ha, -, -, -, hx⟩ := h
  obtain ⟨a', b', o', c', he, ha', -, -, -, hx'⟩ := h'
  injection he with e1 e2 e3
  refine List.ext_getElem e2 fun i h1 h2 => ?_
  have p1 := ha (by omega)
  have p2 := ha' (by omega)
  rw [← e1, p1] at p2
  injection p2 with p2
  injection p2 with q1 q2
  have c1 := hx.2 i h1
  have c2 := hx'.2 i h2
  rw [← q1, ← q2, c1] at c2
  simp [eU] at c2
  exact_mod_cast c2
open Classical in
/-- The natural number that a slice value reads as. -/
noncomputable def rdN (w : World) (v : Value) : Nat := if h : ∃ n, Sl eU w v (digs 1000000000 n) then Classical.choose h else 0
theorem rdN_eq {w : World} {v : Value} {n : Nat} (h : Sl eU w v (digs 1000000000 n)) : rdN w v = n := by
  have hex : ∃ n, Sl eU w v (digs 1000000000 n) := ⟨n, h⟩
  unfold rdN
  rw [dif_pos hex]
  have := (Classical.choose_spec hex).unique h
  have e := congrArg (val 1000000000) this
  rwa [val_digs _ _ (by omega), val_digs _ _ (by omega)] at e

set_option maxHeartbeats 1000000 in
theorem common_any (w : World) (x y : Value) (p q : Nat) (hx : Sl eU w x (digs 1000000000 p)) (hy : Sl eU w y (digs 1000000000 q)) (hl : (digs 1000000000 p).length ≤ 1000000000000) (hl' : (digs 1000000000 q).length ≤ 1000000000000) :
    Calls Tryz.prog 114 #[x, y] w (Rets fun v w' => Sl eU w' v (digs 1000000000 (Nat.gcd p q)) ∧ Below w.heap.size w w') := by
  have HX := Lib.hid hx; have HY := Lib.hid hy; have HL := Lib.hid hl; have HL' := Lib.hid hl'
  clear hx hy hl hl'
  go_enter Tryz.func114, Tryz.ntmps114
  go_wp2
  go_loopw [0, 1] (fun x y wr => ∃ m k : Nat, Hid (Sl eU wr x (digs 1000000000 m)) ∧ Hid (Sl eU wr y (digs 1000000000 k)) ∧ Hid (Nat.gcd m k = Nat.gcd p q) ∧ Hid ((digs 1000000000 m).length ≤ 1000000000000) ∧ Hid ((digs 1000000000 k).length ≤ 1000000000000) ∧ Below w.heap.size w wr) (fun _ y wr => rdN wr y)
  case atStart => exact ⟨p, q, HX, HY, Lib.hid rfl, HL, HL', Below.refl _ _⟩
  case round =>
    obtain ⟨m, k, hm, hk, hg, h1, h2, hb⟩ := hrel
    obtain ⟨ay, ny, cy, rfl⟩ := hk.out.shape
    have hny := digs_pos_len k
    rw [← hk.out.len.1] at hny
    by_cases h0 : ny = 0
    · subst h0
      have hk0 : k = 0 := by omega
      have hg2 := hg.out
      rw [hk0, Nat.gcd_zero_right] at hg2
      have hm2 := hm.out
      rw [hg2] at hm2
      have HM2 := Lib.hid hm2
      clear hm2 hg2 hny hk0
      go_wp2
      go_ret
      exact ⟨_, rfl, HM2.out, hb⟩
    · have hkp : 0 < k := by omega
      have hpos : 0 < ny := by omega
      clear hny
      go_wp2_with (go_at_call 115; refine (divided_any _ _ _ m k hm.out hk.out hkp h1.out h2.out).mono ?_; rintro e w1 ⟨v, rfl, ⟨aq, ar, rfl, hq, hr⟩, hb1⟩; have HR := Lib.hid hr; clear hr hq)
      go_roundw
      case rel =>
        exact ⟨k, m % k, Lib.hid (hk.out.below hb1 (Nat.le_refl _)), HR, Lib.hid (by rw [← hg.out, Nat.gcd_comm m k, Nat.gcd_rec k m, Nat.gcd_comm]), h2,
          Lib.hid (Nat.le_trans (digs_len_mono _ (by omega) (Nat.le_of_lt (Nat.mod_lt m hkp))) h2.out), hb.trans (hb1.mono hb.size)⟩
      case measure => rw [rdN_eq HR.out, rdN_eq hk.out]; exact Nat.mod_lt m hkp
end Go.Proofs.YtajkhbpffakmfaaGreatDoor

namespace Go.Proofs.YtajkhbpffakmfaaGreatDoor
open Go.RowKit
set_option maxRecDepth 100000

set_option maxHeartbeats 1000000 in
theorem gcd1_any (w : World) (x y : Value) (s t : Int) (hx : Num w x s) (hy : Num w y t) (hl : wl s ≤ 1000000000000) (hl' : wl t ≤ 1000000000000) :
    Calls Tryz.prog 113 #[x, y] w (Rets fun v w' => Num w' v (Nat.gcd s.natAbs t.natAbs : Nat) ∧ Below w.heap.size w w') := by
  obtain ⟨m, a, n, c, rfl, hm, hs⟩ := hx
  obtain ⟨m', a', n', c', rfl, hm', hs'⟩ := hy
  have HX := Lib.hid hs; have HY := Lib.hid hs'
  have HBX := Lib.hid (Boxes.made w m a n c m' a' n' c')
  have HL := Lib.hid hl; have HL' := Lib.hid hl'
  clear hs hs' hm hm' hl hl'
  go_enter Tryz.func113, Tryz.ntmps113
  go_wp2_with fail
  refine (common_any _ _ _ s.natAbs t.natAbs (HX.out.below HBX.out.1 (Nat.le_refl _)) (HY.out.below HBX.out.1 (Nat.le_refl _)) HL.out HL'.out).mono ?_
  rintro e w1 ⟨v, rfl, hv, hb1⟩
  have hk1 := HBX.out.keep hb1
  have HK1 := Lib.hid hk1; have HV := Lib.hid hv
  clear hk1 hv hb1
  go_wp2_with fail
  refine (signed_any _ _ _ _ HV.out).mono ?_
  rintro e w2 ⟨v, rfl, ⟨m1, a1, n1, c1, rfl, hm1, hs1⟩, hb2⟩
  rw [show sg false (Nat.gcd s.natAbs t.natAbs) = ((Nat.gcd s.natAbs t.natAbs : Nat) : Int) from rfl] at hm1 hs1
  have hk := HK1.out.keep hb2
  obtain ⟨p, q, hk0, hk1, hf0, hf1⟩ := hk.res
  have HM1 := Lib.hid hm1; clear hm1
  obtain ⟨g1, r0, r1, hst⟩ := hk.stored (r := m1) hs1
  have HG := Lib.hid g1; have HST := Lib.hid hst
  clear g1 hst hs1 hb2
  go_wp2
  refine bodyPost_ret (v := .agg #[.bool m1, .slice a1 n1 c1]) (by simp [results, Tryz.results113, go_sem, r0, r1]) rfl ?_
  exact ⟨_, rfl, ⟨_, _, _, _, rfl, HM1.out, HG.out⟩, HST.out⟩
theorem wl_gcd (x y : Int) : wl ((Nat.gcd x.natAbs y.natAbs : Nat) : Int) ≤ max (wl x) (wl y) + 1 := by
  have h : Nat.gcd x.natAbs y.natAbs ≤ x.natAbs ∨ Nat.gcd x.natAbs y.natAbs ≤ y.natAbs := by
    rcases Nat.eq_zero_or_pos x.natAbs with h | h
    · right; rw [h, Nat.gcd_zero_left]; exact Nat.le_refl _
    · left; exact Nat.le_of_dvd h (Nat.gcd_dvd_left _ _)
  unfold wl
  rw [Int.natAbs_natCast]
  rcases h with h | h
  · have := digs_len_mono 1000000000 (by omega) h; omega
  · have := digs_len_mono 1000000000 (by omega) h; omega
set_option maxHeartbeats 400000 in
theorem both_gcd (w : World) (s t : ByteArray) (x y : Int) (hx : Good s x) (hy : Good t y) (he : Env w) :
    Calls Tryz.prog 39 #[.string s, .string t, .func (.func 113) #[] #[]] w (Rets fun v w' => v = resV ((Nat.gcd x.natAbs y.natAbs : Nat) : Int) ∧ Below w.heap.size w w') := by
  have h0 : chks [s, t] = 0 := by rw [chks_pair, hx.chk, hy.chk]; rfl
  have hb0 : Below w.heap.size w (w.alloc (.cells #[.string s, .string t] 26)) := (Below.refl _ w).alloc (Nat.le_refl _) _
  obtain ⟨tt, k, hr, -, -⟩ := resV_cases ((Nat.gcd x.natAbs y.natAbs : Nat) : Int)
  have hwl := wl_gcd x y
  have HWL := Lib.hid hwl
  have HB0 := Lib.hid hb0; have H0 := Lib.hid h0; have HX := Lib.hid hx; have HY := Lib.hid hy; have HR := Lib.hid hr; have HE := Lib.hid he
  have HSZ := Lib.hid (show ∀ x ∈ [s, t], x.size ≤ 1000000 by intro x h; simp at h; rcases h with rfl | rfl; (have := hx.size; omega); (have := hy.size; omega))
  clear h0 hb0 hx hy hr he hwl
  go_enter Tryz.func39, Tryz.ntmps39
  go_wp2_with (first
    | (go_at_call 70; refine (checked_any _ _ _ (Sl.pair w s t _) HSZ.out (by simp)).mono ?_; rintro e w1 ⟨v, rfl, rfl, hb1⟩; rw [H0.out]; have b1 := HB0.out.trans (hb1.mono (by simp)))
    | (go_at_call_of 47 (Value.string s); refine (read_any _ _ x HX.out.1 (by have := HX.out.size; omega)).mono ?_; rintro e w2 ⟨v, rfl, hn2, hb2⟩; have HN2 := Lib.hid hn2; clear hn2; have b2 := b1.trans (hb2.mono b1.size))
    | (go_at_call_of 47 (Value.string t); refine (read_any _ _ y HY.out.1 (by have := HY.out.size; omega)).mono ?_; rintro e w3 ⟨v, rfl, hn3, hb3⟩; have HN3 := Lib.hid hn3; clear hn3; have b3 := b2.trans (hb3.mono b2.size))
    | (go_at_call 113; refine (gcd1_any _ _ _ x y (HN2.out.below hb3 (Nat.le_refl _)) HN3.out (by have := HX.out.wl; omega) (by have := HY.out.wl; omega)).mono ?_; rintro e w5 ⟨v, rfl, hn5, hb5⟩; have HN5 := Lib.hid hn5; clear hn5; have b5 := b3.trans (hb5.mono b3.size))
    | (go_at_call 46; refine (result_any _ _ _ HN5.out (by have := HX.out.wl; have := HY.out.wl; have := HWL.out; omega) (HE.out.below b5 (Nat.le_refl _))).mono ?_; rintro e w6 ⟨v, rfl, rfl, hb6⟩; rw [HR.out]))
  go_ret2
  exact ⟨_, rfl, by rw [HR.out]; rfl, b5.trans (hb6.mono b5.size)⟩
set_option maxHeartbeats 400000 in
theorem Gcd_err (w : World) (s t : ByteArray) (hs : s.size ≤ 1000000) (ht : t.size ≤ 1000000) (h : chks [s, t] ≠ 0) :
    Calls Tryz.prog 69 #[.string s, .string t] w (Rets fun v w' => v = .tuple #[.string ⟨#[]⟩, .int .i64 (chks [s, t])] ∧ Below w.heap.size w w') := by
  go_enter Tryz.func69, Tryz.ntmps69
  go_wp2_with (go_at_call 39; refine (both_err _ _ _ _ hs ht h).mono ?_; rintro e w' ⟨v, rfl, rfl, hb⟩)
  go_ret2
  exact ⟨_, rfl, rfl, hb⟩
set_option maxHeartbeats 400000 in
theorem Gcd_ok (w : World) (s t : ByteArray) (x y : Int) (hx : Good s x) (hy : Good t y) (he : Env w) :
    Calls Tryz.prog 69 #[.string s, .string t] w (Rets fun v w' => v = resV ((Nat.gcd x.natAbs y.natAbs : Nat) : Int) ∧ Below w.heap.size w w') := by
  obtain ⟨tt, k, hr, -, -⟩ := resV_cases ((Nat.gcd x.natAbs y.natAbs : Nat) : Int)
  have HR := Lib.hid hr; have HX := Lib.hid hx; have HY := Lib.hid hy; have HE := Lib.hid he
  clear hr hx hy he
  go_enter Tryz.func69, Tryz.ntmps69
  go_wp2_with (go_at_call 39; refine (both_gcd _ _ _ x y HX.out HY.out HE.out).mono ?_; rintro e w' ⟨v, rfl, rfl, hb⟩; rw [HR.out])
  go_ret2
  exact ⟨_, rfl, by rw [HR.out]; rfl, hb⟩

end Go.Proofs.YtajkhbpffakmfaaGreatDoor

namespace Go.Proofs.YtajkhbpffakmfaaGreatDoor
open Go.RowKit
set_option maxRecDepth 100000

/-- The text is the numeral of an integer of at most so many digits. -/
structure Sm (s : ByteArray) (z : Int) (k : Nat) : Prop where
  good : Good s z
  le : dn z ≤ k
theorem big_dn {z : Int} (h : dn z ≤ 1024) : big z = false := by
  rw [big_digs, decide_eq_false_iff_not]; unfold dn at h; omega
theorem sm_of {s : ByteArray} (h1 : s.size ≤ 60) (h : chk s.data.toList = 0) : ∃ z, Sm s z 60 := by
  obtain ⟨z, hz⟩ := good_of h
  refine ⟨z, hz, ?_⟩
  have h2 := digs10_len z.natAbs
  have h3 : (Lib.decDigits z.natAbs).length ≤ (Lib.itoa z).length := by rw [itoa_cases]; split <;> simp
  have h4 : (Lib.itoa z).length = s.size := by rw [← hz.1, Lib.size_eq]
  unfold dn; omega
theorem dn_le {x y : Int} (h : x.natAbs ≤ y.natAbs) : dn x ≤ dn y := by unfold dn; exact digs_len_mono 10 (by omega) h
theorem dn_fdiv (x y : Int) (h : y ≠ 0) : dn (Int.fdiv x y) ≤ dn x + dn y + 1 := by
  have := digs_len_add 10 x.natAbs y.natAbs (by omega)
  have h2 := digs_len_mono 10 (by omega) (fdiv_abs x y h)
  unfold dn; omega
theorem dn_fmod (x y : Int) (h : y ≠ 0) : dn (Int.fmod x y) ≤ dn y := by
  have h2 := digs_len_mono 10 (by omega) (Nat.le_of_lt (fmod_abs x y h))
  unfold dn; omega

theorem add_sm (w : World) (s t : ByteArray) (x y : Int) (k l : Nat) (hx : Sm s x k) (hy : Sm t y l) (hk : k + l + 1 ≤ 1000) (he : Env w) :
    Calls Tryz.prog 11 #[.string s, .string t] w (Rets fun v w' => v = .tuple #[.string (txt (x + y)), .int .i64 0] ∧ Below w.heap.size w w' ∧ Sm (txt (x + y)) (x + y) (k + l + 1)) := by
  have hd : dn (x + y) ≤ k + l + 1 := by have := dn_add x y; have := hx.le; have := hy.le; omega
  have hb : big (x + y) = false := big_dn (by omega)
  refine (Add_ok w s t x y hx.good hy.good he).mono ?_
  rintro e w' ⟨v, rfl, rfl, hbl⟩
  exact ⟨_, rfl, by rw [resV_eq, resT_ok hb, resK_ok hb], hbl, ⟨rfl, hb⟩, hd⟩

theorem sub_sm (w : World) (s t : ByteArray) (x y : Int) (k l : Nat) (hx : Sm s x k) (hy : Sm t y l) (hk : k + l + 1 ≤ 1000) (he : Env w) :
    Calls Tryz.prog 140 #[.string s, .string t] w (Rets fun v w' => v = .tuple #[.string (txt (x - y)), .int .i64 0] ∧ Below w.heap.size w w' ∧ Sm (txt (x - y)) (x - y) (k + l + 1)) := by
  have hd : dn (x - y) ≤ k + l + 1 := by have := dn_sub x y; have := hx.le; have := hy.le; omega
  have hb : big (x - y) = false := big_dn (by omega)
  refine (Sub_ok w s t x y hx.good hy.good he).mono ?_
  rintro e w' ⟨v, rfl, rfl, hbl⟩
  exact ⟨_, rfl, by rw [resV_eq, resT_ok hb, resK_ok hb], hbl, ⟨rfl, hb⟩, hd⟩

theorem mul_sm (w : World) (s t : ByteArray) (x y : Int) (k l : Nat) (hx : Sm s x k) (hy : Sm t y l) (hk : k + l ≤ 1000) (he : Env w) :
    Calls Tryz.prog 10 #[.string s, .string t] w (Rets fun v w' => v = .tuple #[.string (txt (x * y)), .int .i64 0] ∧ Below w.heap.size w w' ∧ Sm (txt (x * y)) (x * y) (k + l)) := by
  have hd : dn (x * y) ≤ k + l := by have := dn_mul x y; have := hx.le; have := hy.le; omega
  have hb : big (x * y) = false := big_dn (by omega)
  refine (Mul_ok w s t x y hx.good hy.good he).mono ?_
  rintro e w' ⟨v, rfl, rfl, hbl⟩
  exact ⟨_, rfl, by rw [resV_eq, resT_ok hb, resK_ok hb], hbl, ⟨rfl, hb⟩, hd⟩

theorem quo_sm (w : World) (s t : ByteArray) (x y : Int) (k l : Nat) (hx : Sm s x k) (hy : Sm t y l) (h0 : y ≠ 0) (hk : k + l + 1 ≤ 1000) (he : Env w) :
    Calls Tryz.prog 74 #[.string s, .string t] w (Rets fun v w' => v = .tuple #[.string (txt (Int.fdiv x y)), .int .i64 0] ∧ Below w.heap.size w w' ∧ Sm (txt (Int.fdiv x y)) (Int.fdiv x y) (k + l + 1)) := by
  have hd : dn (Int.fdiv x y) ≤ k + l + 1 := by have := dn_fdiv x y h0; have := hx.le; have := hy.le; omega
  have hb : big (Int.fdiv x y) = false := big_dn (by omega)
  refine (Quo_ok w s t x y hx.good hy.good h0 he).mono ?_
  rintro e w' ⟨v, rfl, rfl, hbl⟩
  exact ⟨_, rfl, by rw [resV_eq, resT_ok hb, resK_ok hb], hbl, ⟨rfl, hb⟩, hd⟩

theorem rem_sm (w : World) (s t : ByteArray) (x y : Int) (k l : Nat) (hx : Sm s x k) (hy : Sm t y l) (h0 : y ≠ 0) (hk : l ≤ 1000) (he : Env w) :
    Calls Tryz.prog 31 #[.string s, .string t] w (Rets fun v w' => v = .tuple #[.string (txt (Int.fmod x y)), .int .i64 0] ∧ Below w.heap.size w w' ∧ Sm (txt (Int.fmod x y)) (Int.fmod x y) (l)) := by
  have hd : dn (Int.fmod x y) ≤ l := by have := dn_fmod x y h0; have := hy.le; omega
  have hb : big (Int.fmod x y) = false := big_dn (by omega)
  refine (Rem_ok w s t x y hx.good hy.good h0 he).mono ?_
  rintro e w' ⟨v, rfl, rfl, hbl⟩
  exact ⟨_, rfl, by rw [resV_eq, resT_ok hb, resK_ok hb], hbl, ⟨rfl, hb⟩, hd⟩

theorem gcd_dn (x y : Int) {k l : Nat} (hx : dn x ≤ k) (hy : dn y ≤ l) : dn ((Nat.gcd x.natAbs y.natAbs : Nat) : Int) ≤ k + l := by
  rcases Nat.eq_zero_or_pos x.natAbs with h | h
  · rw [h, Nat.gcd_zero_left]
    have : dn ((y.natAbs : Nat) : Int) = dn y := by unfold dn; rw [Int.natAbs_natCast]
    omega
  · have h2 : Nat.gcd x.natAbs y.natAbs ≤ x.natAbs := Nat.le_of_dvd h (Nat.gcd_dvd_left _ _)
    have := dn_le (x := ((Nat.gcd x.natAbs y.natAbs : Nat) : Int)) (y := x) (by rw [Int.natAbs_natCast]; exact h2)
    omega
theorem gcd_sm (w : World) (s t : ByteArray) (x y : Int) (k l : Nat) (hx : Sm s x k) (hy : Sm t y l) (hk : k + l ≤ 1000) (he : Env w) :
    Calls Tryz.prog 69 #[.string s, .string t] w (Rets fun v w' => v = .tuple #[.string (txt (((Nat.gcd x.natAbs y.natAbs : Nat) : Int))), .int .i64 0] ∧ Below w.heap.size w w' ∧ Sm (txt (((Nat.gcd x.natAbs y.natAbs : Nat) : Int))) (((Nat.gcd x.natAbs y.natAbs : Nat) : Int)) (k + l)) := by
  have hd : dn (((Nat.gcd x.natAbs y.natAbs : Nat) : Int)) ≤ k + l := gcd_dn x y hx.le hy.le
  have hb : big (((Nat.gcd x.natAbs y.natAbs : Nat) : Int)) = false := big_dn (by omega)
  refine (Gcd_ok w s t x y hx.good hy.good he).mono ?_
  rintro e w' ⟨v, rfl, rfl, hbl⟩
  exact ⟨_, rfl, by rw [resV_eq, resT_ok hb, resK_ok hb], hbl, ⟨rfl, hb⟩, hd⟩

theorem neg_sm (w : World) (s : ByteArray) (x : Int) (k : Nat) (hx : Sm s x k) (hk : k ≤ 1000) (he : Env w) :
    Calls Tryz.prog 13 #[.string s] w (Rets fun v w' => v = .tuple #[.string (txt (-x)), .int .i64 0] ∧ Below w.heap.size w w' ∧ Sm (txt (-x)) (-x) k) := by
  have hd : dn (-x) ≤ k := by rw [dn_neg]; exact hx.le
  have hb : big (-x) = false := big_dn (by omega)
  refine (Neg_ok w s x hx.good he).mono ?_
  rintro e w' ⟨v, rfl, rfl, hbl⟩
  exact ⟨_, rfl, by rw [resV_eq, resT_ok hb, resK_ok hb], hbl, ⟨rfl, hb⟩, hd⟩

theorem cmp_sm (w : World) (s t : ByteArray) (x y : Int) (k l : Nat) (hx : Sm s x k) (hy : Sm t y l) :
    Calls Tryz.prog 29 #[.string s, .string t] w (Rets fun v w' => v = .tuple #[.int .i64 (x - y).sign, .int .i64 0] ∧ Below w.heap.size w w') := Compare_ok w s t x y hx.good hy.good
theorem Sm.txt {s : ByteArray} {z : Int} {k : Nat} (h : Sm s z k) : s = txt z := h.good.eq
theorem sl3 (w : World) (s t u : ByteArray) (e : TypeId) : Sl eS (w.alloc (.cells #[.string s, .string t, .string u] e)) (.slice (some ⟨w.heap.size, 0, none⟩) 3 3) [s, t, u] :=
  Sl.ofOwns (n := 3) (base := 0) (e := e) ⟨rfl, .inr ⟨w.heap.size, 3, #[.string s, .string t, .string u], rfl, by omega, heap_alloc_new w _, by omega, by simp [maxLen], rfl, rfl⟩⟩
end Go.Proofs.YtajkhbpffakmfaaGreatDoor

namespace Go.Proofs.YtajkhbpffakmfaaGreatDoor
open Go.RowKit
set_option maxRecDepth 100000

theorem fdiv_cases (x y : Int) (h : y ≠ 0) : (decide (x < 0) = decide (y < 0) → Int.fdiv x y = ((x.natAbs / y.natAbs : Nat) : Int)) ∧
    (decide (x < 0) ≠ decide (y < 0) → (x.natAbs % y.natAbs = 0 → Int.fdiv x y = -((x.natAbs / y.natAbs : Nat) : Int)) ∧ (0 < x.natAbs % y.natAbs → Int.fdiv x y = -((x.natAbs / y.natAbs : Nat) : Int) - 1)) := by
  have hd := Nat.div_add_mod x.natAbs y.natAbs
  have hm := Nat.mod_lt x.natAbs (y := y.natAbs) (by omega)
  have hd' : (y.natAbs : Int) * ((x.natAbs / y.natAbs : Nat) : Int) + ((x.natAbs % y.natAbs : Nat) : Int) = (x.natAbs : Int) := by exact_mod_cast hd
  generalize x.natAbs / y.natAbs = q at *
  generalize x.natAbs % y.natAbs = r at *
  have uniq : ∀ r p : Int, r + y * p = x → (0 < y → 0 ≤ r ∧ r < y) → (y < 0 → y < r ∧ r ≤ 0) → Int.fdiv x y = p := by
    intro r p e hp hn
    rcases Int.lt_or_gt_of_ne h with h0 | h0
    · exact ((Int.fdiv_fmod_unique' (a := x) (b := y) (r := r) (q := p) h0).2 ⟨e, (hn h0).1, (hn h0).2⟩).1
    · exact ((Int.fdiv_fmod_unique (a := x) (b := y) (r := r) (q := p) h0).2 ⟨e, (hp h0).1, (hp h0).2⟩).1
  have hyq : y < 0 → (y.natAbs : Int) * (q : Int) = -(y * q) := fun h0 => by rw [show (y.natAbs : Int) = -y by omega, Int.neg_mul]
  have hyq' : 0 < y → (y.natAbs : Int) * (q : Int) = y * q := fun h0 => by rw [show (y.natAbs : Int) = y by omega]
  have e1 : y * (-(q : Int)) = -(y * q) := Int.mul_neg _ _
  have e2 : y * (-(q : Int) - 1) = -(y * q) - y := by rw [Int.mul_sub, e1, Int.mul_one]
  refine ⟨fun hs => ?_, fun hs => ⟨fun h0 => ?_, fun h0 => ?_⟩⟩
  · have hs2 : (x < 0 ↔ y < 0) := by simpa using hs
    by_cases hx : x < 0
    · have hy := hs2.1 hx
      have := hyq hy
      exact uniq (-(r : Int)) q (by omega) (by omega) (by omega)
    · have hy : 0 < y := by have : ¬ y < 0 := fun h => hx (hs2.2 h); omega
      have := hyq' hy
      exact uniq r q (by omega) (by omega) (by omega)
  · have hs2 : ¬ (x < 0 ↔ y < 0) := by simpa using hs
    rcases Int.lt_or_gt_of_ne h with hy | hy
    · have := hyq hy
      have hx : ¬ x < 0 := fun hx => hs2 ⟨fun _ => hy, fun _ => hx⟩
      exact uniq 0 (-(q : Int)) (by omega) (by omega) (by omega)
    · have := hyq' hy
      have hx : x < 0 := by
        rcases Int.lt_or_le x 0 with hx | hx
        · exact hx
        · exact absurd ⟨fun h => by omega, fun h => by omega⟩ hs2
      exact uniq 0 (-(q : Int)) (by omega) (by omega) (by omega)
  · have hs2 : ¬ (x < 0 ↔ y < 0) := by simpa using hs
    rcases Int.lt_or_gt_of_ne h with hy | hy
    · have := hyq hy
      have hx : ¬ x < 0 := fun hx => hs2 ⟨fun _ => hy, fun _ => hx⟩
      exact uniq (r + y) (-(q : Int) - 1) (by omega) (by omega) (by omega)
    · have := hyq' hy
      have hx : x < 0 := by
        rcases Int.lt_or_le x 0 with hx | hx
        · exact hx
        · exact absurd ⟨fun h => by omega, fun h => by omega⟩ hs2
      exact uniq (-(r : Int) + y) (-(q : Int) - 1) (by omega) (by omega) (by omega)
theorem sg_true (n : Nat) : sg true n = -(n : Int) := rfl
theorem sg_false (n : Nat) : sg false n = (n : Int) := rfl
theorem less_one (w : World) (x : Int) (hx : dn x ≤ 100000) :
    Calls Tryz.prog 50 #[.string (txt x), .string ⟨#[49]⟩] w (Rets fun v w' => v = .string (txt (x - 1)) ∧ Below w.heap.size w w') := by
  rw [g1.eq]; exact Less_any w x 1 hx (by have := g1.dn; omega)
theorem dn_nat_le {m n : Nat} (h : m ≤ n) : dn (m : Int) ≤ dn (n : Int) := dn_le (by omega)
theorem dn_abs (x : Int) : dn (x.natAbs : Int) = dn x := by unfold dn; rw [Int.natAbs_natCast]

theorem digs10_zero (r : Nat) : (digs 10 r).length = 0 ↔ r = 0 := by rw [List.length_eq_zero_iff, digs_nil (by omega)]
set_option maxHeartbeats 2000000 in
theorem Down_any (w : World) (x y : Int) (hx : dn x ≤ 90000) (hy : dn y ≤ 90000) (h0 : y ≠ 0) :
    Calls Tryz.prog 127 #[.string (txt x), .string (txt y)] w (Rets fun v w' => v = .string (txt (Int.fdiv x y)) ∧ Below w.heap.size w w') := by
  have hl := itoa_len x
  have hl' := itoa_len y
  have hc := fdiv_cases x y h0
  have hq : (digs 10 (x.natAbs / y.natAbs)).length ≤ 90000 := Nat.le_trans (digs_len_mono 10 (by omega) (Nat.div_le_self _ _)) hx
  have hqd : dn (-((x.natAbs / y.natAbs : Nat) : Int)) ≤ 90000 := by unfold dn; rw [Int.natAbs_neg, Int.natAbs_natCast]; exact hq
  have HL1 := Lib.hid hl; have HL2 := Lib.hid hl'; have HX1 := Lib.hid hx; have HX2 := Lib.hid hy; have HQ := Lib.hid hq; have HQD := Lib.hid hqd
  have HY0 := Lib.hid (show 0 < y.natAbs by omega)
  obtain ⟨m, hm⟩ : ∃ m, decide (x < 0) = m := ⟨_, rfl⟩
  obtain ⟨m', hm'⟩ : ∃ m, decide (y < 0) = m := ⟨_, rfl⟩
  rw [hm, hm'] at hc
  have HM := Lib.hid hm; have HM' := Lib.hid hm'
  clear hl hl' hx hy hq hm hm' h0 hqd
  by_cases hr : x.natAbs % y.natAbs = 0
  · have HE : Hid (sg (!(m == m')) (x.natAbs / y.natAbs) = Int.fdiv x y) := Lib.hid (by
      by_cases hs : m = m'
      · rw [hc.1 hs, hs]; simp [sg_false]
      · have hb : (m == m') = false := by simpa using hs
        rw [(hc.2 hs).1 hr, hb]; rfl)
    have HR := Lib.hid hr
    clear hc hr
    go_enter Tryz.func127, Tryz.ntmps127
    go_wp2_with (first
      | (go_at_call_of 105 (Value.string (txt x)); (with_reducible refine (digits_any _ x (by have := HL1.out; have := HX1.out; omega)).mono ?_); rintro e w1 ⟨v1, rfl, hs1, hb1⟩; have HS1 := Lib.hid hs1; clear hs1)
      | (go_at_call_of 105 (Value.string (txt y)); (with_reducible refine (digits_any _ y (by have := HL2.out; have := HX2.out; omega)).mono ?_); rintro e w2 ⟨v2, rfl, hs2, hb2⟩; have HS2 := Lib.hid hs2; have b2 := hb1.trans (hb2.mono hb1.size); clear hs2)
      | (go_at_call 148; (with_reducible refine (rdivided_any _ _ _ x.natAbs y.natAbs (HS1.out.below hb2 (Nat.le_refl _)) HS2.out (by have := HX1.out; unfold dn at this; omega) (by have := HX2.out; unfold dn at this; omega) HY0.out).mono ?_); rintro e w4 ⟨v4, rfl, vq, ar, nr, cr, rfl, hsq, hsr, hb4⟩; have HSQ := Lib.hid hsq; have hnr : nr = 0 := (by rw [hsr.len.1, HR.out, digs_zero]; rfl); subst hnr; have b4 := b2.trans (hb4.mono b2.size); clear hsq hsr)
      | (go_at_call_of 51 (Value.string (txt x)); (with_reducible refine (Minus_any _ x).mono ?_); rintro e w3 ⟨v, rfl, rfl, rfl⟩; rw [HM.out])
      | (go_at_call_of 51 (Value.string (txt y)); (with_reducible refine (Minus_any _ y).mono ?_); rintro e w3 ⟨v, rfl, rfl, rfl⟩; rw [HM'.out])
      | (go_at_call 53; refine (rtext_any _ _ (x.natAbs / y.natAbs) (!(m == m')) HSQ.out (by have := HQ.out; omega)).mono ?_; rintro e w5 ⟨v, rfl, rfl, hb5⟩; rw [HE.out]; have b5 := b4.trans (hb5.mono b4.size)))
    go_ret
    exact ⟨_, rfl, rfl, b5⟩
  · by_cases hs : m = m'
    · have HE := Lib.hid (show sg false (x.natAbs / y.natAbs) = Int.fdiv x y by rw [sg_false, hc.1 hs])
      have HR := Lib.hid hr
      subst hs
      clear hc hr
      go_enter Tryz.func127, Tryz.ntmps127
      go_wp2_with (first
      | (go_at_call_of 105 (Value.string (txt x)); (with_reducible refine (digits_any _ x (by have := HL1.out; have := HX1.out; omega)).mono ?_); rintro e w1 ⟨v1, rfl, hs1, hb1⟩; have HS1 := Lib.hid hs1; clear hs1)
      | (go_at_call_of 105 (Value.string (txt y)); (with_reducible refine (digits_any _ y (by have := HL2.out; have := HX2.out; omega)).mono ?_); rintro e w2 ⟨v2, rfl, hs2, hb2⟩; have HS2 := Lib.hid hs2; have b2 := hb1.trans (hb2.mono hb1.size); clear hs2)
      | (go_at_call 148; (with_reducible refine (rdivided_any _ _ _ x.natAbs y.natAbs (HS1.out.below hb2 (Nat.le_refl _)) HS2.out (by have := HX1.out; unfold dn at this; omega) (by have := HX2.out; unfold dn at this; omega) HY0.out).mono ?_); rintro e w4 ⟨v4, rfl, vq, ar, nr, cr, rfl, hsq, hsr, hb4⟩; have HSQ := Lib.hid hsq; have hnr : 0 < nr := (by rw [hsr.len.1]; have := mt (digs10_zero (x.natAbs % y.natAbs)).1 HR.out; omega); have b4 := b2.trans (hb4.mono b2.size); clear hsq hsr)
      | (go_at_call_of 51 (Value.string (txt x)); (with_reducible refine (Minus_any _ x).mono ?_); rintro e w3 ⟨v, rfl, rfl, rfl⟩; rw [HM.out])
      | (go_at_call_of 51 (Value.string (txt y)); (with_reducible refine (Minus_any _ y).mono ?_); rintro e w3 ⟨v, rfl, rfl, rfl⟩; rw [HM'.out])
      | (go_at_call 53; refine (rtext_any _ _ (x.natAbs / y.natAbs) false HSQ.out (by have := HQ.out; omega)).mono ?_; rintro e w5 ⟨v, rfl, rfl, hb5⟩; rw [HE.out]; have b5 := b4.trans (hb5.mono b4.size)))
      go_ret
      exact ⟨_, rfl, rfl, b5⟩
    · obtain ⟨z, hz⟩ : ∃ z : Int, -((x.natAbs / y.natAbs : Nat) : Int) = z := ⟨_, rfl⟩
      have HE := Lib.hid (show sg true (x.natAbs / y.natAbs) = z from hz)
      have HE2 := Lib.hid (show z - 1 = Int.fdiv x y by rw [(hc.2 hs).2 (by omega), hz])
      have HQD : Hid (dn z ≤ 90000) := Lib.hid (by rw [← hz]; exact HQD.out)
      clear hz
      have hne : (m == m') = false := by simpa using hs
      have HR := Lib.hid hr
      clear hc hr hs
      go_enter Tryz.func127, Tryz.ntmps127
      go_wp2_with (first
      | (go_at_call_of 105 (Value.string (txt x)); (with_reducible refine (digits_any _ x (by have := HL1.out; have := HX1.out; omega)).mono ?_); rintro e w1 ⟨v1, rfl, hs1, hb1⟩; have HS1 := Lib.hid hs1; clear hs1)
      | (go_at_call_of 105 (Value.string (txt y)); (with_reducible refine (digits_any _ y (by have := HL2.out; have := HX2.out; omega)).mono ?_); rintro e w2 ⟨v2, rfl, hs2, hb2⟩; have HS2 := Lib.hid hs2; have b2 := hb1.trans (hb2.mono hb1.size); clear hs2)
      | (go_at_call 148; (with_reducible refine (rdivided_any _ _ _ x.natAbs y.natAbs (HS1.out.below hb2 (Nat.le_refl _)) HS2.out (by have := HX1.out; unfold dn at this; omega) (by have := HX2.out; unfold dn at this; omega) HY0.out).mono ?_); rintro e w4 ⟨v4, rfl, vq, ar, nr, cr, rfl, hsq, hsr, hb4⟩; have HSQ := Lib.hid hsq; have hnr : 0 < nr := (by rw [hsr.len.1]; have := mt (digs10_zero (x.natAbs % y.natAbs)).1 HR.out; omega); have b4 := b2.trans (hb4.mono b2.size); clear hsq hsr)
      | (go_at_call_of 51 (Value.string (txt x)); (with_reducible refine (Minus_any _ x).mono ?_); rintro e w3 ⟨v, rfl, rfl, rfl⟩; rw [HM.out])
      | (go_at_call_of 51 (Value.string (txt y)); (with_reducible refine (Minus_any _ y).mono ?_); rintro e w3 ⟨v, rfl, rfl, rfl⟩; rw [HM'.out])
      | (go_at_call 53; refine (rtext_any _ _ (x.natAbs / y.natAbs) true HSQ.out (by have := HQ.out; omega)).mono ?_; rintro e w5 ⟨v, rfl, rfl, hb5⟩; rw [HE.out]; have b5 := b4.trans (hb5.mono b4.size))
      | (go_at_call 50; (with_reducible refine (less_one _ z (by have := HQD.out; omega)).mono ?_); rintro e w6 ⟨v, rfl, rfl, hb6⟩; rw [HE2.out]; have b6 := b5.trans (hb6.mono b5.size)))
      go_ret
      exact ⟨_, rfl, rfl, b6⟩

theorem dn_fmod2 (x y : Int) (h : y ≠ 0) : dn (Int.fmod x y) ≤ dn y := dn_fmod x y h
set_option maxHeartbeats 1000000 in
theorem Rest_any (w : World) (x y : Int) (hx : dn x ≤ 30000) (hy : dn y ≤ 30000) (h0 : y ≠ 0) :
    Calls Tryz.prog 101 #[.string (txt x), .string (txt y)] w (Rets fun v w' => v = .string (txt (Int.fmod x y)) ∧ Below w.heap.size w w') := by
  have hd := dn_fdiv x y h0
  have hm := dn_mul y (Int.fdiv x y)
  have HE := Lib.hid (show x - y * Int.fdiv x y = Int.fmod x y by have := Int.fmod_add_mul_fdiv x y; omega)
  have HX := Lib.hid hx; have HY := Lib.hid hy; have HD := Lib.hid hd; have HM := Lib.hid hm; have H0 := Lib.hid h0
  clear hx hy hd hm h0
  go_enter Tryz.func101, Tryz.ntmps101
  go_wp2_with (first
    | (go_at_call 127; (with_reducible refine (Down_any _ x y (by have := HX.out; omega) (by have := HY.out; omega) H0.out).mono ?_); rintro e w1 ⟨v, rfl, rfl, hb1⟩)
    | (go_at_call 52; (with_reducible refine (Times_any _ y (Int.fdiv x y) (by have := HY.out; omega) (by have := HX.out; have := HY.out; have := HD.out; omega)).mono ?_); rintro e w2 ⟨v, rfl, rfl, hb2⟩; have b2 := hb1.trans (hb2.mono hb1.size))
    | (go_at_call 50; (with_reducible refine (Less_any _ x (y * Int.fdiv x y) (by have := HX.out; omega) (by have := HX.out; have := HY.out; have := HD.out; have := HM.out; omega)).mono ?_); rintro e w3 ⟨v, rfl, rfl, hb3⟩; rw [HE.out]; have b3 := b2.trans (hb3.mono b2.size)))
  go_ret
  exact ⟨_, rfl, rfl, b3⟩

open Classical in
/-- The integer whose text a value is. -/
noncomputable def rdZ (v : Value) : Int := if h : ∃ z, v = .string (txt z) then Classical.choose h else 0
theorem rdZ_eq (z : Int) : rdZ (.string (txt z)) = z := by
  have hex : ∃ y, Value.string (txt z) = .string (txt y) := ⟨z, rfl⟩
  unfold rdZ
  rw [dif_pos hex]
  have h := Classical.choose_spec hex
  injection h with h
  exact (txt_inj h).symm
theorem txt_z0 : ((txt 0).toList == [48]) = true := by rw [txt_list, itoa0]; rfl

end Go.Proofs.YtajkhbpffakmfaaGreatDoor

namespace Go.Proofs.YtajkhbpffakmfaaGreatDoor
open Go.RowKit
set_option maxRecDepth 100000

theorem ord_two (w : World) (x : Int) (hx : dn x ≤ 90000) : Calls Tryz.prog 17 #[.string (txt x), .string ⟨#[50]⟩] w (Rets fun v w' => v = .int .i64 (x - 2).sign ∧ Below w.heap.size w w') := by
  rw [g2'.eq]; exact Order_any w x 2 hx (by have := g2'.dn; omega)
set_option maxHeartbeats 400000 in
theorem rdivides_any (w : World) (x y : Int) (hx : dn x ≤ 20000) (hy : dn y ≤ 20000) (h0 : x ≠ 0) :
    Calls Tryz.prog 49 #[.string (txt x), .string (txt y)] w (Rets fun v w' => v = .bool (decide (Int.fmod y x = 0)) ∧ Below w.heap.size w w') := by
  have HX := Lib.hid hx; have HY := Lib.hid hy; have H0 := Lib.hid h0
  have hne := txt_ne0 h0
  clear hx hy h0
  by_cases hm : Int.fmod y x = 0
  · have hz : ((txt (Int.fmod y x)).toList == [48]) = true := by rw [hm]; exact txt_z0
    have HD := Lib.hid (show decide (Int.fmod y x = 0) = true by simp [hm])
    clear hm
    go_enter Tryz.func49, Tryz.ntmps49
    go_wp2_with (go_at_call 101; (with_reducible refine (Rest_any _ y x (by have := HY.out; omega) (by have := HX.out; omega) H0.out).mono ?_); rintro e w1 ⟨v, rfl, rfl, hb1⟩)
    go_ret
    exact ⟨_, rfl, by rw [HD.out]; rfl, hb1⟩
  · have hz := txt_ne0 hm
    have HD := Lib.hid (show decide (Int.fmod y x = 0) = false by simp [hm])
    clear hm
    go_enter Tryz.func49, Tryz.ntmps49
    go_wp2_with (go_at_call 101; (with_reducible refine (Rest_any _ y x (by have := HY.out; omega) (by have := HX.out; omega) H0.out).mono ?_); rintro e w1 ⟨v, rfl, rfl, hb1⟩)
    go_ret
    exact ⟨_, rfl, by rw [HD.out]; rfl, hb1⟩

theorem wrap_small (k : Nat) (h : k ≤ 1000000) : IntKind.i64.wrap (k : Int) = (k : Int) := by
  simp [IntKind.wrap, IntKind.signed, IntKind.bits]; omega
theorem held_two {w w2 : World} {c d : Addr} {u v : Value} (h4 : ∀ w', Below w.heap.size w w' → w'.cell? c = some u) (h5 : ∀ w', Below w.heap.size w w' → w'.cell? d = some v) (b2 : Below w.heap.size w w2) :
    ∀ w', Below w2.heap.size w2 w' → Below w2.heap.size w2 w' ∧ w'.cell? c = some u ∧ w'.cell? d = some v :=
  fun _ hb => ⟨hb, h4 _ (b2.trans (hb.mono b2.size)), h5 _ (b2.trans (hb.mono b2.size))⟩
set_option maxHeartbeats 2000000 in
theorem rACheck_any (w : World) (v : Value) (xs : List ByteArray) (hv : Sl eS w v xs) (hsz : xs.length ≤ 16 → ∀ s ∈ xs, s.size ≤ 1000000) :
    Calls Tryz.prog 15 #[v] w (Rets fun v w' => v = .int .i64 (gchk xs) ∧ Below w.heap.size w w') := by
  obtain ⟨a, b, o, c, rfl, hi, hp, hc, hm⟩ := hv.open elemStr
  clear hv
  unfold maxLen at hm
  by_cases h16 : 16 < xs.length
  · have HG := Lib.hid (show gchk xs = 5 by unfold gchk; rw [if_pos h16])
    clear hsz
    go_enter Tryz.func15, Tryz.ntmps15
    go_wp2
    go_ret
    exact ⟨_, rfl, by rw [HG.out]; rfl, Below.refl _ _⟩
  · have hs := hsz (by omega)
    have HS := Lib.hid hs
    have hl : xs.length ≤ 16 := by omega
    clear hsz hs
    go_enter Tryz.func15, Tryz.ntmps15
    go_wp2
    go_loopw [3] (fun i wr => ∃ k : Nat, k ≤ xs.length ∧ i = .int .i64 k ∧ Hid (At xs k) ∧ Below w.heap.size w wr) (fun i _ => xs.length - (intOf i).toNat)
    case atStart => exact ⟨0, Nat.zero_le _, rfl, Lib.hid (At.start hl), Below.refl _ _⟩
    case round =>
      obtain ⟨k, hk, rfl, hA, hb⟩ := hrel
      by_cases hkn : k < xs.length
      · have h1 : wr.cell? ⟨b, o + k, none⟩ = some (.string xs[k]) := hp.at hb (Nat.le_refl _) k hkn
        have hV := hA.out.val hkn
        have hsk := HS.out _ (List.getElem_mem hkn)
        by_cases h0 : chk xs[k].data.toList = 0
        · rw [if_pos h0] at hV
          have hG := good_num h0
          obtain ⟨y, hy⟩ : ∃ y, num xs[k] = y := ⟨_, rfl⟩
          rw [hy] at hG hV
          rw [hG.eq] at h1
          have HC := Lib.hid (show chk (txt y).data.toList = 0 by rw [← hG.eq]; exact h0)
          have HSZ := Lib.hid (show (txt y).size ≤ 1000000 by rw [← hG.eq]; exact hsk)
          have HDN := Lib.hid hG.dn
          by_cases h2 : y < 2
          · rw [if_pos h2] at hV
            have HV := Lib.hid hV
            have HS2 := Lib.hid (show (y - 2).sign = -1 from Int.sign_eq_neg_one_of_neg (by omega))
            clear hV hG h0 h2 hsk hy
            go_wp2_with (first
              | (go_at_call 7; (with_reducible refine (rCheck_any _ _ HSZ.out).mono ?_); rintro e w1 ⟨v, rfl, rfl, rfl⟩; rw [HC.out])
              | (go_at_call 17; (with_reducible refine (ord_two _ _ (by have := HDN.out; omega)).mono ?_); rintro e w2 ⟨v, rfl, rfl, hb2⟩; rw [HS2.out]; have b2 := hb.trans (hb2.mono hb.size)))
            go_ret
            exact ⟨_, rfl, by rw [HV.out]; rfl, b2⟩
          · rw [if_neg h2] at hV
            obtain ⟨u, hu, hu0⟩ : ∃ u, (y - 2).sign = u ∧ 0 ≤ u := ⟨_, rfl, by
              rcases Int.lt_or_eq_of_le (show 2 ≤ y by omega) with h | h
              · rw [Int.sign_eq_one_of_pos (by omega)]; omega
              · rw [← h]; decide⟩
            have HU := Lib.hid hu
            rcases k with _ | k
            · rw [Nat.add_zero] at h1
              have HN := Lib.hid (hA.out.next hkn h0 (by rw [hy]; exact h2) rfl)
              clear hV hG h0 h2 hu hsk hy
              go_wp2_with (first
                | (go_at_call 7; (with_reducible refine (rCheck_any _ _ HSZ.out).mono ?_); rintro e w1 ⟨v, rfl, rfl, rfl⟩; rw [HC.out])
                | (go_at_call 17; (with_reducible refine (ord_two _ _ (by have := HDN.out; omega)).mono ?_); rintro e w2 ⟨v, rfl, rfl, hb2⟩; rw [HU.out]; have b2 := hb.trans (hb2.mono hb.size)))
              go_quiet (fail)
              have b3 := below_drewN b2 nq
              go_wp2
              go_roundw
              case rel => exact ⟨1, by omega, rfl, HN, b3⟩
              case measure => simp [intOf]; omega
            · have hkp : k < xs.length := by omega
              obtain ⟨z, hz, hz2⟩ := hA.out.prev (by omega)
              have hz : Good xs[k] z := by simpa using hz
              have h4 : ∀ w', Below w.heap.size w w' → w'.cell? ⟨b, o + k, none⟩ = some (.string (txt z)) := fun w' hb' => by rw [← hz.eq]; exact hp.at hb' (Nat.le_refl _) k hkp
              have h5 : ∀ w', Below w.heap.size w w' → w'.cell? ⟨b, o + (k + 1), none⟩ = some (.string (txt y)) := fun w' hb' => by rw [← hG.eq]; exact hp.at hb' (Nat.le_refl _) (k + 1) hkn
              have H4 := Lib.hid h4; have H5 := Lib.hid h5
              have q1 : (0 : Int) ≤ (k : Int) := by omega
              have q2 : (k : Int) < (xs.length : Int) := by omega
              have q3 : (0 : Int) ≤ (k : Int) + 1 := by omega
              have q4 : (k : Int) + 1 < (xs.length : Int) := by omega
              have q5 : IntKind.i64.wrap (k : Int) = (k : Int) := wrap_small k (by omega)
              have q6 : IntKind.i64.wrap ((k : Int) + 1 - 1) = (k : Int) := by rw [Int.add_sub_cancel]; exact q5
              have hbf : fits (before xs (k + 1)) xs[k + 1] = decide (Int.fmod y z = 0) := by rw [before_succ xs k hkp]; simp only [fits]; rw [hz.num, hy]
              have HZ := Lib.hid hz.dn; have HZ0 := Lib.hid (show z ≠ 0 by omega)
              by_cases hf : Int.fmod y z = 0
              · have HD := Lib.hid (show decide (Int.fmod y z = 0) = true by simp [hf])
                have HN := Lib.hid (hA.out.next hkn h0 (by rw [hy]; exact h2) (by rw [hbf, HD.out]))
                clear hV hG h0 h2 hu hz hbf hf hsk hy h4 h5
                go_wp2_with (first
                  | (go_at_call 7; (with_reducible refine (rCheck_any _ _ HSZ.out).mono ?_); rintro e w1 ⟨v, rfl, rfl, rfl⟩; rw [HC.out])
                  | (go_at_call 17; (with_reducible refine (ord_two _ _ (by have := HDN.out; omega)).mono ?_); rintro e w2 ⟨v, rfl, rfl, hb2⟩; rw [HU.out]; have b2 := hb.trans (hb2.mono hb.size); have h6 := H4.out _ b2; have h7 := H5.out _ b2))
                have HB2 := Lib.hid b2
                have HH := Lib.hid (held_two H4.out H5.out b2)
                clear b2 h6 h7
                go_region_held3 (fun w' => Below w2.heap.size w2 w' ∧ w'.cell? ⟨b, o + k, none⟩ = some (.string (txt z)) ∧ w'.cell? ⟨b, o + (k + 1), none⟩ = some (.string (txt y)))
                  (((refine HH.out _ ?_); first
                    | with_reducible exact (Below.refl _ _).drew
                    | with_reducible exact Below.trans (And.left (by assumption)) (Below.mono (by assumption) (Below.size (And.left (by assumption))))))
                  ((go_at_call 49; (with_reducible refine (rdivides_any _ z y (by have := HZ.out; omega) (by have := HDN.out; omega) HZ0.out).mono ?_); rintro e w3 ⟨v, rfl, rfl, hb3⟩; rw [HD.out]))
                all_goals
                  have hf : Below w2.heap.size w2 w3 := And.left (by assumption)
                  have b3 := HB2.out.trans (hf.mono HB2.out.size)
                  clear hf
                  go_wp2
                  go_roundw
                  case rel => exact ⟨k + 2, by omega, by go_num, HN, b3⟩
                  case measure => simp [intOf]; omega
              · have HD := Lib.hid (show decide (Int.fmod y z = 0) = false by simp [hf])
                rw [hbf, HD.out] at hV
                have HV := Lib.hid hV
                clear hV hG h0 h2 hu hz hbf hf hsk hy h4 h5
                go_wp2_with (first
                  | (go_at_call 7; (with_reducible refine (rCheck_any _ _ HSZ.out).mono ?_); rintro e w1 ⟨v, rfl, rfl, rfl⟩; rw [HC.out])
                  | (go_at_call 17; (with_reducible refine (ord_two _ _ (by have := HDN.out; omega)).mono ?_); rintro e w2 ⟨v, rfl, rfl, hb2⟩; rw [HU.out]; have b2 := hb.trans (hb2.mono hb.size); have h6 := H4.out _ b2; have h7 := H5.out _ b2))
                have HB2 := Lib.hid b2
                have HH := Lib.hid (held_two H4.out H5.out b2)
                clear b2 h6 h7
                go_region_held3 (fun w' => Below w2.heap.size w2 w' ∧ w'.cell? ⟨b, o + k, none⟩ = some (.string (txt z)) ∧ w'.cell? ⟨b, o + (k + 1), none⟩ = some (.string (txt y)))
                  (((refine HH.out _ ?_); first
                    | with_reducible exact (Below.refl _ _).drew
                    | with_reducible exact Below.trans (And.left (by assumption)) (Below.mono (by assumption) (Below.size (And.left (by assumption))))))
                  ((go_at_call 49; (with_reducible refine (rdivides_any _ z y (by have := HZ.out; omega) (by have := HDN.out; omega) HZ0.out).mono ?_); rintro e w3 ⟨v, rfl, rfl, hb3⟩; rw [HD.out]))
                all_goals
                  have hf : Below w2.heap.size w2 w3 := And.left (by assumption)
                  have b3 := HB2.out.trans (hf.mono HB2.out.size)
                  clear hf
                  go_wp2
                  go_ret
                  exact ⟨_, rfl, by rw [HV.out]; rfl, b3⟩
        · rw [if_neg h0] at hV
          have hne : (chk xs[k].data.toList != 0) = true := by simp [h0]
          have HV := Lib.hid hV
          clear hV h0
          go_wp2_with (go_at_call 7; (with_reducible refine (rCheck_any _ _ hsk).mono ?_); rintro e w1 ⟨v, rfl, rfl, rfl⟩)
          go_ret
          exact ⟨_, rfl, by rw [HV.out]; rfl, hb⟩
      · obtain rfl : k = xs.length := by omega
        have HV := Lib.hid hA.out.done
        go_wp2
        go_ret
        exact ⟨_, rfl, by rw [HV.out]; rfl, hb⟩
end Go.Proofs.YtajkhbpffakmfaaGreatDoor

namespace Go.Proofs.YtajkhbpffakmfaaGreatDoor
open Go.RowKit
set_option maxRecDepth 100000

theorem res_good {z : Int} (h : big z = false) : resV z = .tuple #[.string (txt z), .int .i64 0] := by rw [resV_eq, resT_ok h, resK_ok h]
theorem big_lt {x n : Int} (h0 : 0 ≤ x) (h : x ≤ n) (hb : big n = false) : big x = false := (big_iff _).2 (by have := (big_iff n).1 hb; omega)
theorem txt_zero : ((txt 0).toList == [48]) = true := by rw [txt_list, itoa0]; rfl
/-- The opposite residue. -/
def opp (n a : Int) : Int := if a = 0 then 0 else n - a
theorem fmod_small' {x n : Int} (h0 : 0 ≤ x) (h1 : x < n) : Int.fmod x n = x := by rw [Int.fmod_eq_emod_of_nonneg _ (by omega)]; exact Int.emod_eq_of_lt h0 h1
theorem fmod_once {x n : Int} (h0 : n ≤ x) (h1 : x < n + n) (hn : 0 < n) : Int.fmod x n = x - n := by
  rw [Int.fmod_eq_emod_of_nonneg _ (by omega), show x = (x - n) + n by omega, Int.add_emod_right]
  rw [Int.emod_eq_of_lt (by omega) (by omega)]; omega
theorem held_four {w : World} {c d f g : Addr} {u v x y : Value} (h3 : ∀ w', Below w.heap.size w w' → w'.cell? c = some u) (h4 : ∀ w', Below w.heap.size w w' → w'.cell? d = some v) (h5 : ∀ w', Below w.heap.size w w' → w'.cell? f = some x) (h6 : ∀ w', Below w.heap.size w w' → w'.cell? g = some y) :
    ∀ w', Below w.heap.size w w' → Below w.heap.size w w' ∧ w'.cell? c = some u ∧ w'.cell? d = some v ∧ w'.cell? f = some x ∧ w'.cell? g = some y :=
  fun _ hb => ⟨hb, h3 _ hb, h4 _ hb, h5 _ hb, h6 _ hb⟩
theorem cell_kept' {w : World} {c : Addr} {u : Value} (hc : c.block < w.heap.size) (h : w.cell? c = some u) : ∀ w', Below w.heap.size w w' → w'.cell? c = some u := fun _ hb => (hb.cell hc).trans h
end Go.Proofs.YtajkhbpffakmfaaGreatDoor
