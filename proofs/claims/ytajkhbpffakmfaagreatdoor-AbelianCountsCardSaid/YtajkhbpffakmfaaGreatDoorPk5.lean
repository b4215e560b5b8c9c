/- A range over a function whose values lie in memory: what the iterator says of the world at each value and behind the last one goes through to the caller; the body never leaves the loop. The walks of abelian's order, divides and Check. The walk of integer's Sub. The walks of the reference's Few and of the law's pair. The walks of slices.IndexFunc and slices.ContainsFunc, for the closures that they are handed; the law's few; the reference's Few of groups. A region that draws its order: a condition on the world that holds till the late operations come. -/
import Derived.Test.YtajkhbpffakmfaaGreatDoorPk2
import Derived.Test.YtajkhbpffakmfaaGreatDoorPk4
import Derived.Test.YtajkhbpffakmfaaGreatDoorPk3
import Derived.Test.YtajkhbpffakmfaaGreatDoorPk1
namespace Go.Proofs.YtajkhbpffakmfaaGreatDoor
open Go.RowKit Go.Shelf
set_option maxRecDepth 100000

/-- The iterator g hands out values x of which Gd holds when they come; behind the last one S holds of all of them. Between two rounds it wants Kp. It may write the block that it makes first. -/
def SeqG {α : Type} (F : Fence) (n : Nat) (P : Program) (g : Nat) (lb : Array Value) (encs : α → Array Value) (Kp : World → World → Prop) (Gd : Nat → α → World → Prop) (S : List α → World → Prop) (N : Nat) (w : World) : Prop :=
  ∀ (l : Nat) (J : List α → World → Prop) (W : World), Below w.heap.size w W → AbidesFrom W.heap.size J →
    (∀ pre W1 u j, J pre W1 → J pre (W1.setCell ⟨W.heap.size, j, none⟩ u)) →
    (∀ pre x W1, J pre W1 → Gd W.heap.size x W1 → pre.length < N → YieldAt F (n - 1) P l (encs x) W1 fun e W' => e = .returned (.bool true) ∧ J (pre ++ [x]) W' ∧ Kp W1 W') →
    J [] W →
    CallsIn F n P g (#[.func (.yield l) #[] #[]] ++ lb) W fun e W' => (∃ v, e = .returned v) ∧ ∃ xs, S xs W' ∧ J xs W'

/-- How a round's body ends. -/
def postG {α : Type} (Kp : World → World → Prop) (I : List α → World → Prop) (xs : List α) (W : World) : Exit → Act → World → Prop
  | .normal, _, W' => KeepsOthers W W' ∧ Kp W W' ∧ I xs W'
  | _, _, _ => False

section
variable {F : Fence} {n : Nat} {P : Program}
theorem setCell_other {w : World} {b j k : Nat} {u : Value} {o : Obj} (h : w.heap[k]? = some o) (ho : o.isCells = false) : (w.setCell ⟨b, j, none⟩ u).heap[k]? = some o :=
  (KeepsOthers.setCell w ⟨b, j, none⟩ u).same k o h ho
/-- The rule. -/
theorem wpIn_rangeG {α : Type} {g : Operand} {ps : Array Tmp} {assign body : Code} {Q : Exit → Act → World → Prop} {a : Act} {w : World}
    (hro : F.round = none) (h1 : 1 ≤ n) {gf : Nat} {lb : Array Value} (hg : a.eval g = .func (.func gf) #[] lb) (hFg : F.fn gf) (eg : ∀ args w, (callFunc gf args).run P w = .ok (.enter gf args) w)
    {encs : α → Array Value} {Kp : World → World → Prop} {Gd : Nat → α → World → Prop} {S : List α → World → Prop} {N : Nat} {w0 : World} (hseq : SeqG F (n - 1) P gf lb encs Kp Gd S N w0)
    (hKt : ∀ {A B C : World}, Kp A B → Kp B C → Kp A C) (hKb : ∀ (W : World) (l : Nat) (o o' : Obj), w.heap.size ≤ l → W.heap[l]? = some o → o.isCells = false → Kp W (W.putObj l o'))
    (hGb : ∀ s x (W : World) (l : Nat) (o o' : Obj), Gd s x W → W.heap[l]? = some o → o.isCells = false → Gd s x (W.putObj l o')) (hSb : ∀ xs (W : World) (l : Nat) (o o' : Obj), S xs W → W.heap[l]? = some o → o.isCells = false → S xs (W.putObj l o'))
    (hb0 : Below w0.heap.size w0 w) (hps : ∀ x, (encs x).size = ps.size)
    (I : List α → World → Prop) (hI : OwnFrom w.heap.size I) (hIc : ∀ pre W1 u j, I pre W1 → I pre (W1.setCell ⟨w.heap.size + 2, j, none⟩ u)) (h0 : I [] w) (a₁ : α → Act)
    (hassign : ∀ (l : Nat) (x : α) (W : World) (K : Act → World → Prop), K (a₁ x) W →
      assign.wpIn (F.inRound l) (n - 1 - 1) P (Exit.then K (fun _ _ _ => False)) { tmps := (ps.zip (encs x)).foldl (fun t (p, v) => t.setIfInBounds p v) a.tmps, defers := [] } W)
    (hbody : ∀ (l : Nat) (pre : List α) (x : α) (W : World), I pre W → Gd (w.heap.size + 2) x W → pre.length < N → body.wpIn (F.inRound l) (n - 1 - 1) P (postG Kp I (pre ++ [x]) W) (a₁ x) W)
    (hdone : ∀ (D : Nat) (xs : List α) (W : World), w.heap.size ≤ D → S xs W → I xs W → W.heap[D]? = some (.deferred (some [])) → Q .normal { a with defers := { target := .collected D, args := #[] } :: a.defers } W) :
    (Code.rangeFunc g ps assign body).wpIn F n P Q a w := by
  refine wpIn_rangeFunc fun fn hfn => ?_
  rw [hro]
  -- the two blocks that the loop makes: the rounds' deferred calls, and its own record
  let rec' : LoopState → Loop := fun st => { state := st, pending := none, fn, tmps := a.tmps, params := ps, assign, body, defers := w.heap.size }
  obtain ⟨d, hd⟩ : ∃ d, w.heap.size = d := ⟨_, rfl⟩
  obtain ⟨W1, hW1⟩ : ∃ W1, (w.alloc (.deferred (some []))).alloc (.loop (rec' .ready)) = W1 := ⟨_, rfl⟩
  have hs1 : W1.heap.size = d + 2 := by rw [← hW1, ← hd]; simp
  have hL1 : W1.heap[d + 1]? = some (.loop (rec' .ready)) := by
    rw [← hW1, ← hd]; have := World.alloc_heap_new (w.alloc (.deferred (some []))) (.loop (rec' .ready)); rwa [World.size_alloc] at this
  have hD1 : W1.heap[d]? = some (.deferred (some [])) := by
    rw [← hW1, ← hd]; exact (Below.heap_alloc _ _ _ (by simp)).trans (World.alloc_heap_new w _)
  have hb1 : Below w0.heap.size w0 W1 := by
    rw [← hW1]; exact (hb0.alloc hb0.size _).alloc (by have := hb0.size; simp; omega) _
  refine ⟨d + 1, [{ target := .collected d, args := #[] }], W1, { target := .fn (.func gf) lb, args := #[.func (.yield (d + 1)) #[] #[]] }, W1, gf, #[.func (.yield (d + 1)) #[] #[]] ++ lb, W1, ?_, ?_, ?_, ?_, fun _ => h1, ?_⟩
  · rw [← hW1, ← hd]; exact run_enterLoop_outer _ _ _ _ _
  · simp only [resolve, hg]; simp [go_sem]
  · intro f' hf'; simp [Target.leads] at hf'; subst hf'; exact hFg
  · simp [invoke, go_sem, eg]
  · -- the iterator's word, the caller's invariant and the loop's two blocks
    refine (hseq (d + 1) (fun pre W => I pre W ∧ W.heap[d + 1]? = some (.loop (rec' .ready)) ∧ W.heap[d]? = some (.deferred (some []))) W1 hb1 ?_ ?_ ?_ ?_).mono ?_
    · intro s A B row hs hgr hrow
      refine ⟨hI s A B row hs.1 hgr fun r e => ?_, (grownBy_keeps hgr (fun r e => (hrow r e).2) hs.2.1 rfl).trans hs.2.1, (grownBy_keeps hgr (fun r e => (hrow r e).2) hs.2.2 rfl).trans hs.2.2⟩
      obtain ⟨hB, o, ho, hw⟩ := hrow r e
      exact ⟨by omega, o, ho, Obj.not_cells_of_walk hw⟩
    · intro pre W u j hs
      rw [hs1]
      refine ⟨?_, setCell_other hs.2.1 rfl, setCell_other hs.2.2 rfl⟩
      have := hIc pre W u j hs.1
      rwa [hd] at this
    · -- a round
      rintro pre x W ⟨hi, hl, hk⟩ hgd hlen
      have hlt : d + 1 < W.heap.size := (Array.getElem?_eq_some_iff.1 hl).1
      have hy := run_yield (P := P) (args := encs x) hl (hps x)
      refine ⟨fn, _, assign, body, hy, roundIn_of_wpIn hfn (hassign _ x W _ ⟨_, run_beginRound hl rfl, ?_⟩)⟩
      obtain ⟨W2, hW2⟩ : ∃ W2, W.putObj (d + 1) (.loop { rec' .ready with state := .busy }) = W2 := ⟨_, rfl⟩
      have hl2 : W2.heap[d + 1]? = some (.loop { rec' .ready with state := .busy }) := by rw [← hW2]; exact World.putObj_heap_same hlt
      have hk2 : W2.heap[d]? = some (.deferred (some [])) := by rw [← hW2]; exact (World.putObj_heap_other (by omega)).trans hk
      have hK2 : Kp W W2 := by rw [← hW2]; exact hKb _ _ _ _ (by omega) hl rfl
      have hi2 : I pre W2 := by rw [← hW2]; exact hI.putObj _ hi (by omega) hl rfl
      have hg2 : Gd (w.heap.size + 2) x W2 := by rw [← hW2]; refine hGb _ _ _ _ _ _ ?_ hl rfl; rw [hd, ← hs1]; exact hgd
      show body.wpIn _ _ _ _ _ (W.putObj (d + 1) (.loop { rec' .ready with state := .busy }))
      rw [hW2]
      refine wpIn_mono (hbody _ pre x W2 hi2 hg2 hlen) ?_
      rintro e a3 W3 hp
      cases e with
      | normal =>
        obtain ⟨hko, hkp, hi3⟩ := hp
        have hl3 := hko.same _ _ hl2 rfl
        have hk3 := hko.same _ _ hk2 rfl
        have hr := run_endRound (P := P) none hl3
        exact ⟨_, _, hr, rfl, ⟨hI.putObj _ hi3 (by omega) hl3 rfl, World.putObj_heap_same (Array.getElem?_eq_some_iff.1 hl3).1, (World.putObj_heap_other (by omega)).trans hk3⟩, hKt (hKt hK2 hkp) (hKb _ _ _ _ (by omega) hl3 rfl)⟩
      | ret => exact hp.elim
      | exit id => exact hp.elim
      | goto t => exact hp.elim
      | panic ch => exact hp.elim
      | outgrown => exact hp.elim
    · refine ⟨?_, hL1, hD1⟩
      rw [← hW1]; exact hI.alloc _ (hI.alloc _ h0)
    · rintro e W2 ⟨⟨v, rfl⟩, xs, hS, hi, hl, hk⟩
      refine ⟨none, _, run_endLoop (P := P) hl (by simp [rec']), ?_⟩
      exact hdone d xs _ (by omega) (hSb _ _ _ _ _ hS hl rfl) (hI.putObj _ hi (by omega) hl rfl) ((World.putObj_heap_other (by omega)).trans hk)
end
/-- 'make([]T, n)' inside a fence, one cell an element. -/
theorem mkNI {F : Fence} {n1 : Nat} {P : Program} {t e : TypeId} {z : Value} {bytes : Nat} {ops : Array Oper} {rest : List Oper} {o : Oper} {a : Act} {Q : Exit → Act → World → Prop} (hE : ElemOk P t e z 1 bytes) (hgd : o.guard = none) (l c : Operand) (ho : o.op = Op.makeSlice t l c) {w : World} (n : Nat) {kl kc : IntKind} {L C : Int}
    (hl : a.eval l = .int kl L) (hc : a.eval c = .int kc C) (hL : L = (n : Int)) (hC : C = (n : Int)) (hn : bytes * n ≤ 281474976710656) (hn' : n ≤ maxLen) (hz1 : z.cells = #[z])
    (h : ∀ w', w'.ownsRow w.heap.size e 1 (.slice (some ⟨w.heap.size, 0, none⟩) n n) n (List.replicate n z) → w.grownBy w' none → wpListIn F n1 P ops Q rest (a.put o.dst (.slice (some ⟨w.heap.size, 0, none⟩) n n)) w') :
    wpListIn F n1 P ops Q (o :: rest) a w := by
  obtain ⟨i, hi, hz, hsz, hby⟩ := hE.info
  refine wpListIn_plain hgd fun K hK' => ?_
  obtain ⟨w', hrun, r1, r2⟩ := run_make_full (P := P) w w.heap.size t e i z 1 hE.und hi hz hsz kl kc n (by rw [hby]; exact hn) hn' (Nat.le_refl _)
  subst hL
  subst hC
  unfold Oper.wpIn
  refine ⟨?_, ?_⟩
  · simp [Oper.about, ho]
  · rw [Oper.semAt_plain F _ _ (by rw [ho]; intro c hc'; cases hc')]
    simp [execOp, ho, hl, hc, hrun, Result.andThen]
    refine hK' _ _ (h w' (ownsRow_cast r1 rfl ?_) r2)
    rw [hz1, Nat.mul_one]
    apply List.ext_getElem <;> simp [madeCells, Nat.mod_one]
end Go.Proofs.YtajkhbpffakmfaaGreatDoor

namespace Go.Proofs.YtajkhbpffakmfaaGreatDoor
open Go.RowKit
set_option maxRecDepth 100000

theorem g2' : Good ⟨#[50]⟩ 2 := good_lit (by decide) (by decide)
theorem fmod_small {x y : Int} (h : x ≠ 0) (hx : big x = false) : big (Int.fmod y x) = false :=
  (big_iff _).2 (Nat.lt_trans (fmod_abs y x h) ((big_iff _).1 hx))
set_option maxHeartbeats 400000 in
theorem aorder_any (w : World) (s t : ByteArray) (x y : Int) (hx : Good s x) (hy : Good t y) :
    Calls Tryz.prog 57 #[.string s, .string t] w (Rets fun v w' => v = .int .i64 (x - y).sign ∧ Below w.heap.size w w') := by
  have HX := Lib.hid hx; have HY := Lib.hid hy
  clear hx hy
  go_enter Tryz.func57, Tryz.ntmps57
  go_wp2_with (go_at_call 29; (with_reducible refine (Compare_ok _ s t x y HX.out HY.out).mono ?_); rintro e w1 ⟨v, rfl, rfl, hb1⟩)
  go_ret
  exact ⟨_, rfl, rfl, hb1⟩
set_option maxHeartbeats 400000 in
theorem adivides_any (w : World) (s t : ByteArray) (x y : Int) (hx : Good s x) (hy : Good t y) (h0 : x ≠ 0) (he : Env w) :
    Calls Tryz.prog 106 #[.string s, .string t] w (Rets fun v w' => v = .bool (decide (Int.fmod y x = 0)) ∧ Below w.heap.size w w') := by
  have hb := fmod_small (y := y) h0 hx.2
  have hr := resV_eq (Int.fmod y x)
  rw [resT_ok hb, resK_ok hb] at hr
  have HR := Lib.hid hr; have HX := Lib.hid hx; have HY := Lib.hid hy; have HE := Lib.hid he; have H0 := Lib.hid h0
  clear hb hr hx hy he h0
  by_cases hm : Int.fmod y x = 0
  · have hz : ((txt (Int.fmod y x)).toList == [48]) = true := by rw [hm, txt_list, itoa0]; rfl
    have HD := Lib.hid (show decide (Int.fmod y x = 0) = true by simp [hm])
    clear hm
    go_enter Tryz.func106, Tryz.ntmps106
    go_wp2_with (go_at_call 31; (with_reducible refine (Rem_ok _ t s y x HY.out HX.out H0.out HE.out).mono ?_); rintro e w1 ⟨v, rfl, rfl, hb1⟩; rw [HR.out])
    go_ret
    exact ⟨_, rfl, by rw [HD.out]; rfl, hb1⟩
  · have hz := txt_ne0 hm
    have HD := Lib.hid (show decide (Int.fmod y x = 0) = false by simp [hm])
    clear hm
    go_enter Tryz.func106, Tryz.ntmps106
    go_wp2_with (go_at_call 31; (with_reducible refine (Rem_ok _ t s y x HY.out HX.out H0.out HE.out).mono ?_); rintro e w1 ⟨v, rfl, rfl, hb1⟩; rw [HR.out])
    go_ret
    exact ⟨_, rfl, by rw [HD.out]; rfl, hb1⟩

theorem before_succ (xs : List ByteArray) (k : Nat) (h : k < xs.length) : before xs (k + 1) = some xs[k] := by simp [before, h]
/-- What the check of a group holds at its k-th number. -/
structure At (xs : List ByteArray) (k : Nat) : Prop where
  le : k ≤ xs.length
  eq : gchk xs = gstep (before xs k) (xs.drop k)
  prev : ∀ h : 0 < k, ∃ z, Good (xs[k - 1]'(by omega)) z ∧ 2 ≤ z
theorem At.start {xs : List ByteArray} (h : xs.length ≤ 16) : At xs 0 := ⟨Nat.zero_le _, by unfold gchk; rw [if_neg (by omega)]; rfl, fun h => absurd h (by omega)⟩
theorem At.next {xs : List ByteArray} {k : Nat} (h : At xs k) (hk : k < xs.length) (h0 : chk xs[k].data.toList = 0) (h2 : ¬ num xs[k] < 2) (hf : fits (before xs k) xs[k] = true) : At xs (k + 1) :=
  ⟨hk, by rw [h.eq, List.drop_eq_getElem_cons hk, gstep, if_pos h0, if_neg h2, if_pos hf, before_succ xs k hk], fun _ => ⟨num xs[k], by simpa using good_num h0, by omega⟩⟩
theorem At.val {xs : List ByteArray} {k : Nat} (h : At xs k) (hk : k < xs.length) : gchk xs = if chk xs[k].data.toList = 0 then (if num xs[k] < 2 then 2 else if fits (before xs k) xs[k] then gstep (some xs[k]) (xs.drop (k + 1)) else 9) else chk xs[k].data.toList := by
  rw [h.eq, List.drop_eq_getElem_cons hk, gstep]
theorem At.done {xs : List ByteArray} (h : At xs xs.length) : gchk xs = 0 := by rw [h.eq, List.drop_length]; cases before xs xs.length <;> rfl

set_option maxHeartbeats 2000000 in
theorem ACheck_any (w : World) (v : Value) (xs : List ByteArray) (hv : Sl eS w v xs) (hsz : xs.length ≤ 16 → ∀ s ∈ xs, s.size ≤ 1000000) (he : Env w) :
    Calls Tryz.prog 56 #[v] w (Rets fun v w' => v = .int .i64 (gchk xs) ∧ Below w.heap.size w w') := by
  obtain ⟨a, b, o, c, rfl, hi, hp, hc, hm⟩ := hv.open elemStr
  have HE := Lib.hid he
  clear hv he
  unfold maxLen at hm
  by_cases h16 : 16 < xs.length
  · have HG := Lib.hid (show gchk xs = 5 by unfold gchk; rw [if_pos h16])
    clear hsz
    go_enter Tryz.func56, Tryz.ntmps56
    go_wp2
    go_ret
    exact ⟨_, rfl, by rw [HG.out]; rfl, Below.refl _ _⟩
  · have hs := hsz (by omega)
    have HS := Lib.hid hs
    have hl : xs.length ≤ 16 := by omega
    clear hsz hs
    go_enter Tryz.func56, Tryz.ntmps56
    go_wp2
    go_loopw [11] (fun i wr => ∃ k : Nat, k ≤ xs.length ∧ i = .int .i64 k ∧ Hid (At xs k) ∧ Below w.heap.size w wr) (fun i _ => xs.length - (intOf i).toNat)
    case atStart => exact ⟨0, Nat.zero_le _, rfl, Lib.hid (At.start hl), Below.refl _ _⟩
    case round =>
      obtain ⟨k, hk, rfl, hA, hb⟩ := hrel
      by_cases hkn : k < xs.length
      · have h1 : wr.cell? ⟨b, o + k, none⟩ = some (.string xs[k]) := hp.at hb (Nat.le_refl _) k hkn
        have hV := hA.out.val hkn
        have hsk := HS.out _ (List.getElem_mem hkn)
        by_cases h0 : chk xs[k].data.toList = 0
        · rw [if_pos h0] at hV
          have hG := good_num h0
          have HC := Lib.hid h0
          have HGK := Lib.hid hG
          by_cases h2 : num xs[k] < 2
          · rw [if_pos h2] at hV
            have HV := Lib.hid hV
            have HS2 := Lib.hid (show (num xs[k] - 2).sign = -1 from Int.sign_eq_neg_one_of_neg (by omega))
            clear hV hG h0 h2
            go_wp2_with (first
              | (go_at_call 45; (with_reducible refine (check_any _ _ hsk).mono ?_); rintro e w1 ⟨v, rfl, rfl, hb1⟩; rw [HC.out]; have b1 := hb.trans (hb1.mono hb.size))
              | (go_at_call 57; (with_reducible refine (aorder_any _ _ _ _ 2 HGK.out g2').mono ?_); rintro e w2 ⟨v, rfl, rfl, hb2⟩; rw [HS2.out]; have b2 := b1.trans (hb2.mono b1.size)))
            go_ret
            exact ⟨_, rfl, by rw [HV.out]; rfl, b2⟩
          · rw [if_neg h2] at hV
            obtain ⟨u, hu, hu0⟩ : ∃ u, (num xs[k] - 2).sign = u ∧ 0 ≤ u := ⟨_, rfl, by
              rcases Int.lt_or_eq_of_le (show 2 ≤ num xs[k] by omega) with h | h
              · rw [Int.sign_eq_one_of_pos (by omega)]; omega
              · rw [← h]; decide⟩
            have HU := Lib.hid hu
            rcases k with _ | k
            · rw [Nat.add_zero] at h1
              have HN := Lib.hid (hA.out.next hkn h0 h2 rfl)
              clear hV hG h0 h2 hu
              go_wp2_with (first
                | (go_at_call 45; (with_reducible refine (check_any _ _ hsk).mono ?_); rintro e w1 ⟨v, rfl, rfl, hb1⟩; rw [HC.out]; have b1 := hb.trans (hb1.mono hb.size))
                | (go_at_call 57; (with_reducible refine (aorder_any _ _ _ _ 2 HGK.out g2').mono ?_); rintro e w2 ⟨v, rfl, rfl, hb2⟩; rw [HU.out]; have b2 := b1.trans (hb2.mono b1.size)))
              go_roundw
              case rel => exact ⟨1, by omega, rfl, HN, b2⟩
              case measure => simp [intOf]; omega
            · have hkp : k < xs.length := by omega
              have h3 : wr.cell? ⟨b, o + k, none⟩ = some (.string xs[k]) := hp.at hb (Nat.le_refl _) k hkp
              obtain ⟨z, hz, hz2⟩ := hA.out.prev (by omega)
              have hz : Good xs[k] z := by simpa using hz
              have hbf : fits (before xs (k + 1)) xs[k + 1] = decide (Int.fmod (num xs[k + 1]) z = 0) := by rw [before_succ xs k hkp]; simp only [fits]; rw [hz.num]
              have HZ := Lib.hid hz; have HZ0 := Lib.hid (show z ≠ 0 by omega)
              by_cases hf : Int.fmod (num xs[k + 1]) z = 0
              · have HD := Lib.hid (show decide (Int.fmod (num xs[k + 1]) z = 0) = true by simp [hf])
                have HN := Lib.hid (hA.out.next hkn h0 h2 (by rw [hbf, HD.out]))
                clear hV hG h0 h2 hu hz hbf hf
                go_wp2_with (first
                  | (go_at_call 45; (with_reducible refine (check_any _ _ hsk).mono ?_); rintro e w1 ⟨v, rfl, rfl, hb1⟩; rw [HC.out]; have b1 := hb.trans (hb1.mono hb.size))
                  | (go_at_call 57; (with_reducible refine (aorder_any _ _ _ _ 2 HGK.out g2').mono ?_); rintro e w2 ⟨v, rfl, rfl, hb2⟩; rw [HU.out]; have b2 := b1.trans (hb2.mono b1.size); have h4 : w2.cell? ⟨b, o + k, none⟩ = some (.string xs[k]) := hp.at b2 (Nat.le_refl _) k hkp)
                  | (go_at_call 106; (with_reducible refine (adivides_any _ _ _ z _ HZ.out HGK.out HZ0.out (HE.out.below b2 (Nat.le_refl _))).mono ?_); rintro e w3 ⟨v, rfl, rfl, hb3⟩; rw [HD.out]; have b3 := b2.trans (hb3.mono b2.size)))
                go_roundw
                case rel => exact ⟨k + 2, by omega, by go_num, HN, b3⟩
                case measure => simp [intOf]; omega
              · have HD := Lib.hid (show decide (Int.fmod (num xs[k + 1]) z = 0) = false by simp [hf])
                rw [hbf, HD.out] at hV
                have HV := Lib.hid hV
                clear hV hG h0 h2 hu hz hbf hf
                go_wp2_with (first
                  | (go_at_call 45; (with_reducible refine (check_any _ _ hsk).mono ?_); rintro e w1 ⟨v, rfl, rfl, hb1⟩; rw [HC.out]; have b1 := hb.trans (hb1.mono hb.size))
                  | (go_at_call 57; (with_reducible refine (aorder_any _ _ _ _ 2 HGK.out g2').mono ?_); rintro e w2 ⟨v, rfl, rfl, hb2⟩; rw [HU.out]; have b2 := b1.trans (hb2.mono b1.size); have h4 : w2.cell? ⟨b, o + k, none⟩ = some (.string xs[k]) := hp.at b2 (Nat.le_refl _) k hkp)
                  | (go_at_call 106; (with_reducible refine (adivides_any _ _ _ z _ HZ.out HGK.out HZ0.out (HE.out.below b2 (Nat.le_refl _))).mono ?_); rintro e w3 ⟨v, rfl, rfl, hb3⟩; rw [HD.out]; have b3 := b2.trans (hb3.mono b2.size)))
                go_ret
                exact ⟨_, rfl, by rw [HV.out]; rfl, b3⟩
        · rw [if_neg h0] at hV
          have hne : (chk xs[k].data.toList != 0) = true := by simp [h0]
          have HV := Lib.hid hV
          clear hV h0
          go_wp2_with (go_at_call 45; (with_reducible refine (check_any _ _ hsk).mono ?_); rintro e w1 ⟨v, rfl, rfl, hb1⟩; have b1 := hb.trans (hb1.mono hb.size))
          go_ret
          exact ⟨_, rfl, by rw [HV.out]; rfl, b1⟩
      · obtain rfl : k = xs.length := by omega
        have HV := Lib.hid hA.out.done
        go_wp2
        go_ret
        exact ⟨_, rfl, by rw [HV.out]; rfl, hb⟩
end Go.Proofs.YtajkhbpffakmfaaGreatDoor

namespace Go.Proofs.YtajkhbpffakmfaaGreatDoor
open Go.RowKit
set_option maxRecDepth 100000

theorem Boxes.both {w w1 : World} {m : Bool} {a : Option Addr} {n c : Nat} {m' : Bool} {a' : Option Addr} {n' c' : Nat} (h : Boxes w m a n c m' a' n' c' w1) : Boxes w m a n c m' a' n' c' w1 ∧ (w1.cell? ⟨w.heap.size, 0, none⟩ = some (.bool m) ∧ w1.cell? ⟨w.heap.size, 1, none⟩ = some (.slice a n c) ∧ w1.cell? ⟨w.heap.size + 1, 0, none⟩ = some (.bool m') ∧ w1.cell? ⟨w.heap.size + 1, 1, none⟩ = some (.slice a' n' c')) := ⟨h, h.facts⟩

set_option maxHeartbeats 1000000 in
theorem sub1_any (w : World) (x y : Value) (s t : Int) (hx : Num w x s) (hy : Num w y t) (hl : wl s ≤ 1000000000000) (hl' : wl t ≤ 1000000000000) :
    Calls Tryz.prog 154 #[x, y] w (Rets fun v w' => Num w' v (s - t) ∧ Below w.heap.size w w') := by
  obtain ⟨m, a, n, c, rfl, hm, hs⟩ := hx
  obtain ⟨m', a', n', c', rfl, hm', hs'⟩ := hy
  have HX := Lib.hid hs; have HY := Lib.hid hs'; have HM := Lib.hid hm; have HM' := Lib.hid hm'
  have HBX := Lib.hid (Boxes.made w m a n c m' a' n' c')
  have HL := Lib.hid hl; have HL' := Lib.hid (show wl (-t) ≤ 1000000000000 by rw [wl_neg]; exact hl')
  clear hs hs' hm hm' hl hl'
  go_enter Tryz.func154, Tryz.ntmps154
  go_wp2_with fail
  go_region_held3 (fun w' => Boxes w m a n c m' a' n' c' w' ∧ (w'.cell? ⟨w.heap.size, 0, none⟩ = some (.bool m) ∧ w'.cell? ⟨w.heap.size, 1, none⟩ = some (.slice a n c) ∧ w'.cell? ⟨w.heap.size + 1, 0, none⟩ = some (.bool m') ∧ w'.cell? ⟨w.heap.size + 1, 1, none⟩ = some (.slice a' n' c')))
    (((with_reducible refine Boxes.both ?_); first
      | with_reducible exact HBX.out.drew
      | with_reducible refine Boxes.store (And.left (by assumption)) _ _ _ _
      | with_reducible refine Boxes.keep (And.left (by assumption)) (by assumption)))
    (first
      | (go_at_call 48; refine (neg_any _ _ t ⟨_, _, _, _, rfl, HM'.out, HY.out.below (Boxes.below' (by assumption)) (Nat.le_refl _)⟩).mono ?_; rintro e w2 ⟨v, rfl, hn2, hb2⟩; have HN2 := Lib.hid hn2; clear hn2)
      | (go_at_call 41; refine (sum_any _ _ _ s (-t) ⟨_, _, _, _, rfl, HM.out, HX.out.below (Boxes.below' (by assumption)) (Nat.le_refl _)⟩ HN2.out HL.out HL'.out).mono ?_; rintro e w3 ⟨v, rfl, ⟨m1, a1, n1, c1, rfl, hm1, hs1⟩, hb⟩; have HM1 := Lib.hid hm1; clear hm1; have hk := Boxes.keep (And.left (by assumption)) hb; obtain ⟨p, q, hk0, hk1, hf0, hf1⟩ := hk.res))
  all_goals
    obtain ⟨g1, r0, r1, hst⟩ := hk.stored (r := m1) hs1
    have HG := Lib.hid g1; have HST := Lib.hid hst
    clear g1 hst hs1
    go_wp2
    refine bodyPost_ret (v := .agg #[.bool m1, .slice a1 n1 c1]) (by simp [results, Tryz.results154, go_sem, r0, r1]) rfl ?_
    exact ⟨_, rfl, ⟨_, _, _, _, rfl, by rw [Int.sub_eq_add_neg]; exact HM1.out, by rw [Int.sub_eq_add_neg]; exact HG.out⟩, HST.out⟩
theorem wl_sub (x y : Int) : wl (x - y) ≤ max (wl x) (wl y) + 1 := by
  rw [Int.sub_eq_add_neg]; have := wl_add x (-y); rwa [wl_neg] at this
set_option maxHeartbeats 400000 in
theorem both_sub (w : World) (s t : ByteArray) (x y : Int) (hx : Good s x) (hy : Good t y) (he : Env w) :
    Calls Tryz.prog 39 #[.string s, .string t, .func (.func 154) #[] #[]] w (Rets fun v w' => v = resV (x - y) ∧ Below w.heap.size w w') := by
  have h0 : chks [s, t] = 0 := by rw [chks_pair, hx.chk, hy.chk]; rfl
  have hb0 : Below w.heap.size w (w.alloc (.cells #[.string s, .string t] 26)) := (Below.refl _ w).alloc (Nat.le_refl _) _
  obtain ⟨tt, k, hr, -, -⟩ := resV_cases (x - y)
  have hwl := wl_sub x y
  have HWL := Lib.hid hwl
  have HB0 := Lib.hid hb0; have H0 := Lib.hid h0; have HX := Lib.hid hx; have HY := Lib.hid hy; have HR := Lib.hid hr; have HE := Lib.hid he
  have HSZ := Lib.hid (show ∀ x ∈ [s, t], x.size ≤ 1000000 by intro x h; simp at h; rcases h with rfl | rfl; (have := hx.size; omega); (have := hy.size; omega))
  clear h0 hb0 hx hy hr he hwl
  go_enter Tryz.func39, Tryz.ntmps39
  go_wp2_with (first
    | (go_at_call 70; refine (checked_any _ _ _ (Sl.pair w s t _) HSZ.out (by simp)).mono ?_; rintro e w1 ⟨v, rfl, rfl, hb1⟩; rw [H0.out]; have b1 := HB0.out.trans (hb1.mono (by simp)))
    | (go_at_call_of 47 (Value.string s); refine (read_any _ _ x HX.out.1 (by have := HX.out.size; omega)).mono ?_; rintro e w2 ⟨v, rfl, hn2, hb2⟩; have HN2 := Lib.hid hn2; clear hn2; have b2 := b1.trans (hb2.mono b1.size))
    | (go_at_call_of 47 (Value.string t); refine (read_any _ _ y HY.out.1 (by have := HY.out.size; omega)).mono ?_; rintro e w3 ⟨v, rfl, hn3, hb3⟩; have HN3 := Lib.hid hn3; clear hn3; have b3 := b2.trans (hb3.mono b2.size))
    | (go_at_call 154; refine (sub1_any _ _ _ x y (HN2.out.below hb3 (Nat.le_refl _)) HN3.out (by have := HX.out.wl; omega) (by have := HY.out.wl; omega)).mono ?_; rintro e w5 ⟨v, rfl, hn5, hb5⟩; have HN5 := Lib.hid hn5; clear hn5; have b5 := b3.trans (hb5.mono b3.size))
    | (go_at_call 46; refine (result_any _ _ _ HN5.out (by have := HX.out.wl; have := HY.out.wl; have := HWL.out; omega) (HE.out.below b5 (Nat.le_refl _))).mono ?_; rintro e w6 ⟨v, rfl, rfl, hb6⟩; rw [HR.out]))
  go_ret2
  exact ⟨_, rfl, by rw [HR.out]; rfl, b5.trans (hb6.mono b5.size)⟩
set_option maxHeartbeats 400000 in
theorem Sub_err (w : World) (s t : ByteArray) (hs : s.size ≤ 1000000) (ht : t.size ≤ 1000000) (h : chks [s, t] ≠ 0) :
    Calls Tryz.prog 140 #[.string s, .string t] w (Rets fun v w' => v = .tuple #[.string ⟨#[]⟩, .int .i64 (chks [s, t])] ∧ Below w.heap.size w w') := by
  go_enter Tryz.func140, Tryz.ntmps140
  go_wp2_with (go_at_call 39; refine (both_err _ _ _ _ hs ht h).mono ?_; rintro e w' ⟨v, rfl, rfl, hb⟩)
  go_ret2
  exact ⟨_, rfl, rfl, hb⟩
set_option maxHeartbeats 400000 in
theorem Sub_ok (w : World) (s t : ByteArray) (x y : Int) (hx : Good s x) (hy : Good t y) (he : Env w) :
    Calls Tryz.prog 140 #[.string s, .string t] w (Rets fun v w' => v = resV (x - y) ∧ Below w.heap.size w w') := by
  obtain ⟨tt, k, hr, -, -⟩ := resV_cases (x - y)
  have HR := Lib.hid hr; have HX := Lib.hid hx; have HY := Lib.hid hy; have HE := Lib.hid he
  clear hr hx hy he
  go_enter Tryz.func140, Tryz.ntmps140
  go_wp2_with (go_at_call 39; refine (both_sub _ _ _ x y HX.out HY.out HE.out).mono ?_; rintro e w' ⟨v, rfl, rfl, hb⟩; rw [HR.out])
  go_ret2
  exact ⟨_, rfl, by rw [HR.out]; rfl, hb⟩

end Go.Proofs.YtajkhbpffakmfaaGreatDoor

namespace Go.Proofs.YtajkhbpffakmfaaGreatDoor
open Go.RowKit
set_option maxRecDepth 100000

/-- Is a text short, or at fault and not too long? -/
def few (s : ByteArray) : Bool := decide (s.size ≤ 60) || (decide (s.size ≤ 2048) && (chk s.data.toList == 3))
theorem few_size {s : ByteArray} (h : few s = true) : s.size ≤ 2048 := by
  simp [few] at h; omega

end Go.Proofs.YtajkhbpffakmfaaGreatDoor

namespace Go.Proofs.YtajkhbpffakmfaaGreatDoor
open Go.RowKit
set_option maxRecDepth 100000

/-- Is it the text of 1? -/
def isOne (s : ByteArray) : Bool := s.toList == [49]
set_option maxHeartbeats 400000 in
theorem of1 (w : World) (s : ByteArray) :
    Calls Tryz.prog 108 #[.string s] w (Rets fun v w' => v = .bool (isOne s) ∧ w = w') := by
  unfold isOne
  go_enter Tryz.func108, Tryz.ntmps108
  go_wp2
  go_ret
  exact ⟨_, rfl, rfl, rfl⟩
set_option maxHeartbeats 1000000 in
theorem idx_one_none (w : World) (v : Value) (xs : List ByteArray) (hv : Sl eS w v xs) (h : ∀ s ∈ xs, (isOne s) = false) :
    Calls Tryz.prog 133 #[v, .func (.func 108) #[] #[]] w (Rets fun v w' => v = .int .i64 (-1) ∧ w = w') := by
  obtain ⟨a, b, o, c, rfl, hi, hp, hc, hm⟩ := hv.open elemStr
  have H := Lib.hid h
  clear hv h
  unfold maxLen at hm
  go_enter Tryz.func133, Tryz.ntmps133
  go_wp2
  go_loop [8] (fun i => ∃ k : Nat, k ≤ xs.length ∧ i = .int .i64 k) (fun i => xs.length - (intOf i).toNat)
  case atStart => exact ⟨0, Nat.zero_le _, rfl⟩
  case round =>
    obtain ⟨k, hk, rfl⟩ := hrel
    by_cases hkn : k < xs.length
    · have h1 : w.cell? ⟨b, o + k, none⟩ = some (.string xs[k]) := hp.2 k hkn
      have HB := Lib.hid (H.out _ (List.getElem_mem hkn))
      go_wp2_with (go_at_call 108; (with_reducible refine (of1 _ xs[k]).mono ?_); rintro e w1 ⟨v, rfl, rfl, rfl⟩; rw [HB.out])
      go_round
      case rel => exact ⟨k + 1, by omega, by go_num⟩
      case measure => simp [intOf]; omega
    · obtain rfl : k = xs.length := by omega
      go_wp2
      go_ret
      exact ⟨_, rfl, rfl, rfl⟩
set_option maxHeartbeats 1000000 in
theorem idx_one_some (w : World) (v : Value) (xs : List ByteArray) (hv : Sl eS w v xs) (m : Nat) (hm : m < xs.length) (h : (isOne xs[m]) = true) (h2 : ∀ j (hj : j < m), (isOne (xs[j]'(by omega))) = false) :
    Calls Tryz.prog 133 #[v, .func (.func 108) #[] #[]] w (Rets fun v w' => v = .int .i64 m ∧ w = w') := by
  obtain ⟨a, b, o, c, rfl, hi, hp, hc, hcm⟩ := hv.open elemStr
  have H := Lib.hid h; have H2 := Lib.hid h2
  clear hv h h2
  unfold maxLen at hcm
  go_enter Tryz.func133, Tryz.ntmps133
  go_wp2
  go_loop [8] (fun i => ∃ k : Nat, k ≤ m ∧ i = .int .i64 k) (fun i => xs.length - (intOf i).toNat)
  case atStart => exact ⟨0, Nat.zero_le _, rfl⟩
  case round =>
    obtain ⟨k, hk, rfl⟩ := hrel
    have hkn : k < xs.length := by omega
    have h1 : w.cell? ⟨b, o + k, none⟩ = some (.string xs[k]) := hp.2 k hkn
    by_cases hkm : k < m
    · have HB := Lib.hid (H2.out k hkm)
      go_wp2_with (go_at_call 108; (with_reducible refine (of1 _ xs[k]).mono ?_); rintro e w1 ⟨v, rfl, rfl, rfl⟩; rw [HB.out])
      go_round
      case rel => exact ⟨k + 1, by omega, by go_num⟩
      case measure => simp [intOf]; omega
    · obtain rfl : k = m := by omega
      go_wp2_with (go_at_call 108; (with_reducible refine (of1 _ xs[k]).mono ?_); rintro e w1 ⟨v, rfl, rfl, rfl⟩; rw [H.out])
      go_ret
      exact ⟨_, rfl, rfl, rfl⟩
theorem first_hit (p : ByteArray → Bool) : ∀ (xs : List ByteArray), xs.any p = true → ∃ m, ∃ h : m < xs.length, p xs[m] = true ∧ ∀ j (hj : j < m), p (xs[j]'(by omega)) = false
  | [], h => by simp at h
  | x :: l, h => by
    by_cases hx : p x = true
    · exact ⟨0, by simp, hx, fun j hj => absurd hj (by omega)⟩
    · obtain ⟨m, hm, h1, h2⟩ := first_hit p l (by simpa [hx] using h)
      refine ⟨m + 1, by simpa using hm, by simpa using h1, fun j hj => ?_⟩
      cases j with
      | zero => simpa using hx
      | succ j => simpa using h2 j (by omega)
/-- Has a list more than 20 texts, or a long one? -/
def bad (xs : List ByteArray) : Bool := decide (20 < xs.length) || xs.any fun s => !few s
/-- Is a group's number short, or at fault? -/
def ok05 (s : ByteArray) : Bool := decide (s.size ≤ 30) || (decide (s.size < 2048) && (chk s.data.toList != 0))
def few05 (xs : List ByteArray) : Bool := (xs.take 20).all ok05 && (decide (xs.length ≤ 8) || (decide (16 < xs.length) && decide (xs.length < 1000)))
theorem few05_step (xs : List ByteArray) (k : Nat) (h : k < xs.length) (h20 : k < 20) (ho : ok05 xs[k] = true) : ((xs.take 20).drop k).all ok05 = ((xs.take 20).drop (k + 1)).all ok05 := by
  have hk : k < (xs.take 20).length := by simp; omega
  rw [List.drop_eq_getElem_cons hk, List.all_cons, List.getElem_take, ho, Bool.true_and]
theorem few05_bad (xs : List ByteArray) (k : Nat) (h : k < xs.length) (h20 : k < 20) (ho : ok05 xs[k] = false) : few05 xs = false := by
  have hk : k < (xs.take 20).length := by simp; omega
  have : (xs.take 20).all ok05 = false := by
    rw [List.all_eq_false]
    exact ⟨xs[k], by rw [← List.getElem_take (h := hk)]; exact List.getElem_mem hk, by simp [ho]⟩
  simp [few05, this]
set_option maxHeartbeats 2000000 in
theorem Few05_any (w : World) (v : Value) (xs : List ByteArray) (hv : Sl eS w v xs) (hsz : ∀ s ∈ xs, s.size ≤ 9223372036854775807) :
    Calls Tryz.prog 14 #[v] w (Rets fun v w' => v = .bool (few05 xs) ∧ w = w') := by
  obtain ⟨a, b, o, c, rfl, hi, hp, hc, hcm⟩ := hv.open elemStr
  have HSZ := Lib.hid hsz
  have hlen := hv.len
  unfold maxLen at hcm hlen
  clear hv hsz
  go_enter Tryz.func14, Tryz.ntmps14
  go_wp2
  go_loop [3] (fun i => ∃ k : Nat, k ≤ xs.length ∧ k ≤ 20 ∧ i = .int .i64 k ∧ Hid ((xs.take 20).all ok05 = ((xs.take 20).drop k).all ok05)) (fun i => xs.length - (intOf i).toNat)
  case atStart => exact ⟨0, Nat.zero_le _, by omega, rfl, Lib.hid rfl⟩
  case round =>
    obtain ⟨k, hk, hk20, rfl, hall⟩ := hrel
    by_cases hgo : k < xs.length ∧ k < 20
    · obtain ⟨hkn, hkt⟩ := hgo
      have h1 : w.cell? ⟨b, o + k, none⟩ = some (.string xs[k]) := hp.2 k hkn
      have hss := HSZ.out xs[k] (List.getElem_mem hkn)
      have HST := Lib.hid (few05_step xs k hkn hkt); have HBD := Lib.hid (few05_bad xs k hkn hkt)
      obtain ⟨s, hs⟩ : ∃ s, xs[k] = s := ⟨_, rfl⟩
      rw [hs] at h1 hss HST HBD
      clear hs
      by_cases h30 : s.size ≤ 30
      · have HN := Lib.hid (HST.out (by simp [ok05, h30]))
        go_wp2
        go_round
        case rel => exact ⟨k + 1, by omega, by omega, by go_num, Lib.hid (by rw [hall.out, HN.out])⟩
        case measure => simp [intOf]; omega
      · by_cases h48 : s.size < 2048
        · by_cases hc0 : chk s.data.toList = 0
          · have HB := Lib.hid (HBD.out (by simp [ok05, h30, hc0]))
            have HC := Lib.hid hc0
            clear hc0
            go_wp2_with (go_at_call 7; (with_reducible refine (rCheck_any _ s (by omega)).mono ?_); rintro e w1 ⟨v, rfl, rfl, rfl⟩; rw [HC.out])
            go_ret
            exact ⟨_, rfl, by rw [HB.out]; rfl, rfl⟩
          · have HN := Lib.hid (HST.out (by simp [ok05, h48, hc0]))
            have hne : (chk s.data.toList != 0) = true := by simp [hc0]
            clear hc0
            go_wp2_with (go_at_call 7; (with_reducible refine (rCheck_any _ s (by omega)).mono ?_); rintro e w1 ⟨v, rfl, rfl, rfl⟩)
            go_round
            case rel => exact ⟨k + 1, by omega, by omega, by go_num, Lib.hid (by rw [hall.out, HN.out])⟩
            case measure => simp [intOf]; omega
        · have HB := Lib.hid (HBD.out (by simp [ok05, h30, h48]))
          go_wp2
          go_ret
          exact ⟨_, rfl, by rw [HB.out]; rfl, rfl⟩
    · have HE : Hid ((xs.take 20).all ok05 = true) := Lib.hid (by rw [hall.out, List.drop_of_length_le (by simp; omega)]; rfl)
      by_cases h8 : xs.length ≤ 8
      · have HF := Lib.hid (show few05 xs = true by simp only [few05, HE.out]; simp [h8])
        have hke : ¬ (k : Int) < (xs.length : Int) := by omega
        go_wp2
        go_ret
        exact ⟨_, rfl, by rw [HF.out]; rfl, rfl⟩
      · by_cases h16 : 16 < xs.length
        · rcases (show (k = xs.length ∧ xs.length < 1000) ∨ (k < xs.length ∧ k = 20 ∧ xs.length < 1000) ∨ (k < xs.length ∧ k = 20 ∧ ¬ xs.length < 1000) by omega) with ⟨hke, hq⟩ | ⟨hke, hke2, hq⟩ | ⟨hke, hke2, hq⟩
          · have HF := Lib.hid (show few05 xs = true by simp only [few05, HE.out]; simp [h16, hq])
            clear hgo
            go_wp2
            go_ret
            exact ⟨_, rfl, by rw [HF.out]; first | rfl | exact congrArg Value.bool (by simp; omega), rfl⟩
          · have HF := Lib.hid (show few05 xs = true by simp only [few05, HE.out]; simp [h16, hq])
            clear hgo
            go_wp2
            go_ret
            exact ⟨_, rfl, by rw [HF.out]; first | rfl | exact congrArg Value.bool (by simp; omega), rfl⟩
          · have HF := Lib.hid (show few05 xs = false by simp only [few05, HE.out]; simp [h8, hq])
            clear hgo
            go_wp2
            go_ret
            exact ⟨_, rfl, by rw [HF.out]; first | rfl | exact congrArg Value.bool (by simp; omega), rfl⟩
        · have HF := Lib.hid (show few05 xs = false by simp only [few05, HE.out]; simp [h8, h16])
          have hke : ¬ (k : Int) < (xs.length : Int) := by omega
          go_wp2
          go_ret
          exact ⟨_, rfl, by rw [HF.out]; first | rfl | exact congrArg Value.bool (by simp; omega), rfl⟩
end Go.Proofs.YtajkhbpffakmfaaGreatDoor

namespace Go.Proofs.YtajkhbpffakmfaaGreatDoor
open Go.RowKit
set_option maxRecDepth 100000

section
variable {P : Program} {ops : Array Oper} {Q : Exit → Act → World → Prop} {md : Region.Mode} {S : World → Prop} {A : Nat → Bool}

/-- Before operation i comes up no late one does. -/
def early (md : Region.Mode) (ops : Array Oper) (A : Nat → Bool) (i : Nat) : Nat → Array Bool → Bool
  | 0, _ => true
  | n + 1, l => (Region.ready md ops l).all fun j => j == i || (A j && early md ops A i n (l.setIfInBounds j true))

/-- Whatever order is picked, and S holds behind every operation that is not late. -/
def wpAnyJ (P : Program) (md : Region.Mode) (ops : Array Oper) (Q : Exit → Act → World → Prop) (S : World → Prop) (A : Nat → Bool) : Nat → Array Bool → Act → World → Prop
  | 0, listed, a, w => Region.ready md ops listed = [] ∧ Q .normal a w
  | fuel + 1, listed, a, w =>
    (Region.ready md ops listed = [] → Q .normal a w) ∧
    ∀ i ∈ Region.ready md ops listed, wpOp P ops Q i (fun a' w' => (A i = true → S w') ∧ wpAnyJ P md ops Q S A fuel (listed.setIfInBounds i true) a' w') a w
theorem wpAny_ofJ : ∀ (fuel : Nat) (listed : Array Bool) (a : Act) (w : World), wpAnyJ P md ops Q S A fuel listed a w → wpAny P md ops Q fuel listed a w
  | 0, _, _, _, h => h
  | fuel + 1, _, _, _, h => ⟨h.1, fun i hi => wpOp_mono (fun a' w' h' => wpAny_ofJ fuel _ a' w' h'.2) (h.2 i hi)⟩

theorem wpAnyJ_first {i : Nat} {oi : Oper} {v : Value} (hi : ops[i]? = some oi) (hsel : ∀ (j : Nat) (o : Oper) cs b, ops[j]? = some o → o.op ≠ .select cs b)
    (hQ : ∀ c a w, Q (.panic c) (a.put oi.dst v) w → Q (.panic c) a w) :
    ∀ (fuel : Nat) (listed : Array Bool) (a : Act) (w : World),
      (∀ j oj, ops[j]? = some oj → j ≠ i → listed.getD j true = false → (∀ e ∈ oj.after, Region.binds md e = true → e.on ≠ i) → oi.apart ops oj = true) →
      i ∈ Region.ready md ops listed → early md ops A i (fuel + 1) listed = true → YieldsIf P ops S oi v a → S w →
      wpAnyJ P md ops Q S A fuel (listed.setIfInBounds i true) (a.put oi.dst v) w → wpAnyJ P md ops Q S A (fuel + 1) listed a w := by
  intro fuel
  induction fuel with
  | zero =>
    intro listed a w _ hr _ hy hS H
    refine ⟨fun h => (by rw [h] at hr; cases hr), fun j hj => ?_⟩
    by_cases hji : j = i
    · subst hji; exact hy.wpOp hi hS ⟨fun _ => hS, H⟩
    · have := ready_mono hj hji
      rw [H.1] at this
      cases this
  | succ fuel ih =>
    intro listed a w hfree hr hE hy hS H
    refine ⟨fun h => (by rw [h] at hr; cases hr), fun j hj => ?_⟩
    by_cases hji : j = i
    · subst hji; exact hy.wpOp hi hS ⟨fun _ => hS, H⟩
    · have hE1 := hE
      unfold early at hE1
      have hE2 := List.all_eq_true.1 hE1 j hj
      simp only [Bool.or_eq_true, beq_iff_eq, hji, false_or, Bool.and_eq_true] at hE2
      have h1 := H.2 j (ready_mono hj hji)
      obtain ⟨hjun, oj, hoj, hall⟩ := mem_ready.1 hj
      have hnot : ∀ e ∈ oj.after, Region.binds md e = true → e.on ≠ i := fun e he hb heq => by
        have h1 := hall e he hb
        have h0 := (mem_ready.1 hr).1
        rw [heq] at h1
        rcases Nat.lt_or_ge i listed.size with h' | h'
        · simp [h'] at h0 h1; rw [h0] at h1; cases h1
        · simp [Array.getElem?_eq_none h'] at h1
      have h2 := wpOp_putIf hoj (hfree j oj hoj hji hjun hnot) (fun cs b => hsel i oi cs b hi) (fun cs b => hsel j oj cs b hoj) hQ hy h1
      have hfree' : ∀ k ok, ops[k]? = some ok → k ≠ i → (listed.setIfInBounds j true).getD k true = false →
          (∀ e ∈ ok.after, Region.binds md e = true → e.on ≠ i) → oi.apart ops ok = true := fun k ok hk hki hun hno => by
        refine hfree k ok hk hki ?_ hno
        by_cases hjk : j = k
        · subst hjk; exact hjun
        · rw [getD_set_ne true hjk] at hun; exact hun
      refine wpOp_mono (fun a' w' h3 => ⟨h3.2.1, ih (listed.setIfInBounds j true) a' w' hfree' (ready_mono hr (Ne.symm hji)) hE2.2 h3.1 (h3.2.1 hE2.1) ?_⟩) h2
      rw [Array.setIfInBounds_comm _ _ hji]
      exact h3.2.2
theorem wpAnyJ_take {i : Nat} {oi : Oper} {v : Value} {fuel : Nat} {listed : Array Bool} {a : Act} {w : World} (hi : ops[i]? = some oi)
    (hs : Region.noSelect ops = true) (hf : Region.free md ops listed i = true) (hr : (Region.ready md ops listed).contains i = true) (hE : early md ops A i (fuel + 1) listed = true)
    (hQ : ∀ c a w, Q (.panic c) (a.put oi.dst v) w → Q (.panic c) a w) (hy : YieldsIf P ops S oi v a) (hS : S w)
    (h : wpAnyJ P md ops Q S A fuel (listed.setIfInBounds i true) (a.put oi.dst v) w) : wpAnyJ P md ops Q S A (fuel + 1) listed a w :=
  wpAnyJ_first hi (Region.noSelect_spec hs) hQ fuel listed a w (Region.free_spec hi hf) (by simpa using hr) hE hy hS h
/-- One operation alone may come up. -/
theorem wpAnyJ_only {i : Nat} {o : Oper} {fuel : Nat} {listed : Array Bool} {a : Act} {w : World} (hr : Region.ready md ops listed = [i]) (ho : ops[i]? = some o)
    (h : ∀ K' : Act → World → Prop, Shut (∀ a w, (A i = true → S w) → wpAnyJ P md ops Q S A fuel (listed.setIfInBounds i true) a w → K' a w) → if Region.wanted o (yielded ops a.tmps) = true then Oper.wp P o a w K' Q else K' (a.put o.dst undef) w) :
    wpAnyJ P md ops Q S A (fuel + 1) listed a w :=
  ⟨fun h0 => absurd (hr ▸ h0) (by simp), by
    rw [hr]
    intro j hj
    rw [List.mem_singleton] at hj
    subst hj
    exact wpOp_step ho (fun K' hK => h K' (fun a w hS hW => hK a w ⟨hS, hW⟩))⟩
theorem wpAnyJ_done {listed : Array Bool} {a : Act} {w : World} (hr : Region.ready md ops listed = []) (h : Q .normal a w) :
    ∀ fuel, wpAnyJ P md ops Q S A fuel listed a w
  | 0 => ⟨hr, h⟩
  | _ + 1 => ⟨fun _ => h, by rw [hr]; simp⟩
theorem wp_regionJ {id : Nat} {a : Act} {w : World} (hm : P.follows .mixedOrders = true)
    (h : wpAnyJ P .any ops Q S A ops.size (Array.replicate ops.size false) a w.drew) : (Code.region id ops true).wp P Q a w :=
  wp_region_any hm (wpAny_ofJ _ _ _ _ h)
end
end Go.Proofs.YtajkhbpffakmfaaGreatDoor
