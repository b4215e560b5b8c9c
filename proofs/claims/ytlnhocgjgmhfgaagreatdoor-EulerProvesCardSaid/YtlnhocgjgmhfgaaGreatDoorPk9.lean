/- The walk of the reference's Singles. The walk of euler's arcs, and of Ends. A region that draws its order: a condition on the world that holds till the late operations come. The condition 'early' of XJ by one closure in place of all orders. Rows of numbers behind a slice of slices: each row owned. The walk of euler's degrees. The walk of euler's reached: a depth-first search by a closure that calls itself. -/
import Derived.Test.YtlnhocgjgmhfgaaGreatDoorPk8
import Derived.Test.YtlnhocgjgmhfgaaGreatDoorPk7
import Derived.Maps.AppendAt
import Derived.Test.YtlnhocgjgmhfgaaGreatDoorPk1
namespace Go.Proofs.YtlnhocgjgmhfgaaGreatDoor
open Go.RowKit
set_option maxRecDepth 100000

set_option maxHeartbeats 4000000 in
theorem rSingles_any (w : World) (n : Int) (v : Value) (ns : List (Nat × Nat × Nat)) (hv : SlK e3 3 w v (ns.map n3)) (hm : ∀ x ∈ ns, x.2.2 ≤ 50) (hl : ns.length ≤ 100000) :
    Calls Tryz.prog 28 #[.agg #[.int .i64 n, v]] w (Rets fun r w' => w'.ownsRow w.heap.size 60 2 r (sgl ns).length ((sgl ns).flatMap p2) ∧ Below w.heap.size w w') := by
  obtain ⟨ad, b, o, c, rfl, hi, hp, hc, hcm⟩ := hv.open elemArc
  have hnl : (ns.map n3).length = ns.length := List.length_map _
  rw [hnl] at hi hc ⊢
  unfold maxLen at hcm
  have HSL := Lib.hid (sgl_le ns hm); have HM := Lib.hid hm; have HNL := Lib.hid hnl
  have HQ := Lib.hid ((Below.refl w.heap.size w).alloc (Nat.le_refl _) (.cells #[.int .i64 n, .slice ad ns.length c] 28))
  have HG := Lib.hid (Blk.new w [.int .i64 n, .slice ad ns.length c] 28)
  obtain ⟨W, hW⟩ : ∃ W, w.alloc (.cells #[.int .i64 n, .slice ad ns.length c] 28) = W := ⟨_, rfl⟩
  rw [show [Value.int .i64 n, .slice ad ns.length c].toArray = #[Value.int .i64 n, .slice ad ns.length c] from rfl, hW] at HG
  rw [hW] at HQ
  have HW := Lib.hid hW
  have B0 := Lib.hid (Below.refl W.heap.size W)
  clear hW hv hm hnl
  go_enter Tryz.func28, Tryz.ntmps28
  go_wp2
  rw [HW.out]
  have O0 : Hid (W.ownsRow W.heap.size 60 2 (.slice none 0 0) (sgl (ns.take 0)).length ((sgl (ns.take 0)).flatMap p2)) := Lib.hid (World.ownsRow_nil _ _ _ _)
  go_loopw [3, 4] (fun out i wr => ∃ k : Nat, k ≤ ns.length ∧ i = .int .i64 k ∧ Hid (wr.ownsRow W.heap.size 60 2 out (sgl (ns.take k)).length ((sgl (ns.take k)).flatMap p2)) ∧ Hid (Below W.heap.size W wr)) (fun _ i _ => ns.length - (intOf i).toNat)
  case atStart => exact ⟨0, Nat.zero_le _, rfl, O0, B0⟩
  case round =>
    clear O0 B0
    obtain ⟨k, hk, rfl, hO, hB⟩ := hrel
    have hGr := HG.out.below hB.out (Nat.le_refl _)
    have g1 := hGr.cell 1 _ rfl
    have hlg := hGr.lt
    have HQW := Lib.hid (HQ.out.trans (hB.out.mono HQ.out.size))
    clear hGr
    by_cases hkn : k < ns.length
    · obtain ⟨⟨p, q, m⟩, hx⟩ : ∃ x, ns[k] = x := ⟨_, rfl⟩
      have hkm : k < (ns.map n3).length := by rw [HNL.out]; exact hkn
      have hx3 : (ns.map n3)[k] = n3 (p, q, m) := by rw [List.getElem_map, hx]
      have HA := Lib.hid (fun (w' : World) (hb' : Below w.heap.size w w') => (⟨hp.at hb' (Nat.le_refl _) k hkm 0 (.int .i64 (p : Nat)) (by rw [hx3]; rfl), hp.at hb' (Nat.le_refl _) k hkm 1 (.int .i64 (q : Nat)) (by rw [hx3]; rfl), hp.at hb' (Nat.le_refl _) k hkm 2 (.int .i64 (m : Nat)) (by rw [hx3]; rfl)⟩ : w'.cell? ⟨b, o + k * 3, none⟩ = some (.int .i64 (p : Nat)) ∧ w'.cell? ⟨b, o + k * 3 + 1, none⟩ = some (.int .i64 (q : Nat)) ∧ w'.cell? ⟨b, o + k * 3 + 2, none⟩ = some (.int .i64 (m : Nat))))
      have hm50 : m ≤ 50 := by have := HM.out ns[k] (List.getElem_mem hkn); rw [hx] at this; exact this
      have HTK := Lib.hid (sgl_take ns k hkn)
      rw [hx] at HTK
      have hsl := HSL.out k
      obtain ⟨S, hS⟩ : ∃ S, sgl (ns.take k) = S := ⟨_, rfl⟩
      rw [hS] at hO HTK hsl
      simp only at HTK
      clear hx hx3 hS
      obtain ⟨ua, uc, rfl⟩ := own_formK hO.out
      have O1 : Hid (wr.ownsRow W.heap.size 60 2 (.slice ua S.length uc) (S ++ List.replicate 0 (p, q)).length ((S ++ List.replicate 0 (p, q)).flatMap p2)) := Lib.hid (by simpa using hO.out)
      have HGB := Lib.hid (fun (w' : World) (hb' : Below W.heap.size W w') => (HG.out.below hb' (Nat.le_refl _)).cell 1 _ rfl)
      go_wp2
      clear g1
      go_loopw [3, 5] (fun out j w2 => ∃ i : Nat, i ≤ m ∧ j = .int .i64 i ∧ Hid (w2.ownsRow W.heap.size 60 2 out (S ++ List.replicate i (p, q)).length ((S ++ List.replicate i (p, q)).flatMap p2)) ∧ Hid (Below W.heap.size W w2)) (fun _ j _ => m - (intOf j).toNat)
      case atStart => exact ⟨0, Nat.zero_le _, rfl, O1, hB⟩
      case round =>
        clear O1 hO hB HQW
        obtain ⟨i, hi9, rfl, hO, hB⟩ := hrel
        obtain ⟨ua2, uc2, rfl⟩ := own_formK hO.out
        have HTN := Lib.hid (rep_snoc S i (p, q))
        have hlen : (S ++ List.replicate i (p, q)).length ≤ 50 * ns.length + 50 := by rw [List.length_append, List.length_replicate]; omega
        obtain ⟨T, hT⟩ : ∃ T, S ++ List.replicate i (p, q) = T := ⟨_, rfl⟩
        rw [hT] at hO HTN hlen ⊢
        have HT := Lib.hid hT
        have HQW := Lib.hid (HQ.out.trans (hB.out.mono HQ.out.size))
        have g1 := HGB.out _ hB.out
        obtain ⟨a0, a1, a2⟩ := HA.out _ HQW.out
        have hlg : w.heap.size < wr.heap.size := Nat.lt_of_lt_of_le (by have := HG.out.lt; exact this) hB.out.size
        clear hT
        by_cases him : i < m
        · have q1 : (0 : Int) ≤ (k : Int) := by omega
          have q2 : (k : Int) < (ns.length : Int) := by omega
          have HH := Lib.hid (fun (w' : World) (hb' : Below W.heap.size W w') => (⟨hb', HGB.out _ hb', (HA.out _ (HQ.out.trans (hb'.mono HQ.out.size))).1, (HA.out _ (HQ.out.trans (hb'.mono HQ.out.size))).2.1⟩ : Below W.heap.size W w' ∧ w'.cell? ⟨w.heap.size, 1, none⟩ = some (.slice ad ns.length c) ∧ w'.cell? ⟨b, o + k * 3, none⟩ = some (.int .i64 (p : Nat)) ∧ w'.cell? ⟨b, o + k * 3 + 1, none⟩ = some (.int .i64 (q : Nat))))
          have hwd : Below W.heap.size W wr.drew := hB.out.drew
          have HWD := Lib.hid hwd
          clear hwd
          go_wp2_with fail
          go_region_held3 (fun w' => Below W.heap.size W w' ∧ w'.cell? ⟨w.heap.size, 1, none⟩ = some (.slice ad ns.length c) ∧ w'.cell? ⟨b, o + k * 3, none⟩ = some (.int .i64 (p : Nat)) ∧ w'.cell? ⟨b, o + k * 3 + 1, none⟩ = some (.int .i64 (q : Nat)))
            (((refine HH.out _ ?_); first
              | with_reducible exact HWD.out
              | with_reducible exact (hB.out.alloc hB.out.size _).drew
              | with_reducible exact HWD.out.alloc HWD.out.size _
              | with_reducible assumption))
            ((refine appM_step (w0 := wr.drew) (m := 1) (news := p2 (p, q)) (B := W.heap.size) (W := W) (base := W.heap.size) elemEnds rfl (.tmp 23) (.tmp 37) rfl (by rfl) (by rfl) hO.out HWD.out (Nat.le_refl _) HWD.out.size rfl (p2_one _) (by omega) (by unfold maxLen; omega) ?_; intro v' w5 hown' hb'))
          all_goals
            go_wp2
            go_roundw
            case rel => exact ⟨i + 1, by omega, by go_num, Lib.hid (by rw [HTN.out, List.length_append, flat_snoc]; exact hown'), Lib.hid hb'⟩
            case measure => simp [intOf]; omega
        · obtain rfl : i = m := by omega
          go_wp2
          go_roundw
          case rel => exact ⟨k + 1, by omega, by go_num, Lib.hid (by rw [HTK.out, HT.out]; exact hO.out), hB⟩
          case measure => simp [intOf]; omega
    · obtain rfl : k = ns.length := by omega
      rw [List.take_length] at hO
      have HO := Lib.hid hO.out
      clear hO
      obtain ⟨ua, uc, rfl⟩ := own_formK HO.out
      go_wp2
      go_ret
      exact ⟨_, rfl, own_baseK HO.out HQ.out.size, HQW.out⟩
end Go.Proofs.YtlnhocgjgmhfgaaGreatDoor

namespace Go.Proofs.YtlnhocgjgmhfgaaGreatDoor
open Go.RowKit
set_option maxRecDepth 100000

section
variable {P : Program} {t e : TypeId} {z : Value} {size bytes : Nat} {ops : Array Oper} {rest : List Oper} {o : Oper} {a : Act} {Q : Exit → Act → World → Prop}
/-- appM, with what turned and where the row lies. -/
theorem appMG (hE : ElemOk P t e z size bytes) (hgd : o.guard = none) (s x : Operand) (ho : o.op = .call { callee := .builtin .append, args := #[s, x], argTypes := #[t, t] })
    {v : Value} {n m c base B : Nat} {xs news : List Value} {w0 W : World} (hs : a.eval s = v) (hx : a.eval x = .slice (some ⟨w0.heap.size, 0, none⟩) m c)
    (hown : w0.ownsRow base e size v n xs) (hb : Below B W w0) (hB : B ≤ base) (hbase : base ≤ w0.heap.size) (hl : news.length = m * size) (h1 : ∀ u ∈ news, u.oneCell' = true)
    (hn : (n + m) * bytes ≤ 140737488355328) (hn' : n + m ≤ maxLen)
    (h : ∀ v' w', w'.ownsRow base e size v' (n + m) (xs ++ news) → Below B W w' → (w0.alloc (.cells news.toArray e)).grownBy w' v.ownBlock → (v'.ownBlock = v.ownBlock ∨ v'.ownBlock = some (w0.heap.size + 1)) → wpList P ops Q rest (a.put o.dst v') w') :
    wpList P ops Q (o :: rest) a (w0.alloc (.cells news.toArray e)) := by
  obtain ⟨i, hi, hz, hsz, hby⟩ := hE.info
  refine wpList_append_own_at _ hgd s x t ho base e i z size bytes hE.und hi hz hsz hby hE.cells hE.pos v n xs hs (hown.alloc _) ⟨w0.heap.size, 0, none⟩ m c news hx (by rw [hl]) ?_ h1 hn' hn (by simp; omega) ?_
  · intro j u hj
    rw [addr0]
    rw [cell_of_row _ w0.heap.size j news.toArray e (0, 0) (heap_alloc_new w0 _)]
    simpa using hj
  · intro v' w' ho' hg _ hat
    rw [World.size_alloc] at hat
    exact h v' w' ho' ((hb.alloc (by omega) _).grown hg (by simp; omega) (fun j hj => by have := (hown.lt j hj).1; omega)) hg hat
end
theorem own_ne {w : World} {b e s n g : Nat} {v : Value} {ys : List Value} (h : w.ownsRow b e s v n ys) (hg : w.heap.size ≤ g) : v.ownBlock ≠ some g := fun e => by
  have := (h.lt g e).2; omega

set_option maxHeartbeats 4000000 in
theorem arcs_ok (w : World) (n : Int) (v : Value) (ns : List (Nat × Nat × Nat)) (hv : SlK e3 3 w v (ns.map n3)) (hm : ∀ x ∈ ns, x.2.2 ≤ 50) (hl : ns.length ≤ 100000) :
    Calls Tryz.prog 43 #[.agg #[.int .i64 n, v]] w (Rets fun r w' => w'.ownsRow w.heap.size 60 2 r (sgl ns).length ((sgl ns).flatMap p2) ∧ Below w.heap.size w w') := by
  obtain ⟨ad, b, o, c, rfl, hi, hp, hc, hcm⟩ := hv.open elemArc
  have hnl : (ns.map n3).length = ns.length := List.length_map _
  rw [hnl] at hi hc ⊢
  unfold maxLen at hcm
  have HSL := Lib.hid (sgl_le ns hm); have HM := Lib.hid hm; have HNL := Lib.hid hnl
  have HQ := Lib.hid ((Below.refl w.heap.size w).alloc (Nat.le_refl _) (.cells #[.int .i64 n, .slice ad ns.length c] 28))
  have HG := Lib.hid (Blk.new w [.int .i64 n, .slice ad ns.length c] 28)
  obtain ⟨W, hW⟩ : ∃ W, w.alloc (.cells #[.int .i64 n, .slice ad ns.length c] 28) = W := ⟨_, rfl⟩
  rw [show [Value.int .i64 n, .slice ad ns.length c].toArray = #[Value.int .i64 n, .slice ad ns.length c] from rfl, hW] at HG
  rw [hW] at HQ
  have HW := Lib.hid hW
  have B0 := Lib.hid (Below.refl W.heap.size W)
  clear hW hv hm hnl
  go_enter Tryz.func43, Tryz.ntmps43
  go_wp2
  rw [HW.out]
  have O0 : Hid (W.ownsRow W.heap.size 60 2 (.slice none 0 0) (sgl (ns.take 0)).length ((sgl (ns.take 0)).flatMap p2)) := Lib.hid (World.ownsRow_nil _ _ _ _)
  go_loopw [3, 9] (fun out i wr => ∃ k : Nat, k ≤ ns.length ∧ i = .int .i64 k ∧ Hid (wr.ownsRow W.heap.size 60 2 out (sgl (ns.take k)).length ((sgl (ns.take k)).flatMap p2)) ∧ Hid (Below W.heap.size W wr)) (fun _ i _ => ns.length - (intOf i).toNat)
  case atStart => exact ⟨0, Nat.zero_le _, rfl, O0, B0⟩
  case round =>
    clear O0 B0
    obtain ⟨k, hk, rfl, hO, hB⟩ := hrel
    obtain ⟨wq, hwq⟩ : ∃ wq, wq = wr := ⟨_, rfl⟩
    subst hwq
    have HQW := Lib.hid (HQ.out.trans (hB.out.mono HQ.out.size))
    by_cases hkn : k < ns.length
    · obtain ⟨⟨p, q, m⟩, hx⟩ : ∃ x, ns[k] = x := ⟨_, rfl⟩
      have hkm : k < (ns.map n3).length := by rw [HNL.out]; exact hkn
      have hx3 : (ns.map n3)[k] = n3 (p, q, m) := by rw [List.getElem_map, hx]
      have a0 : wq.cell? ⟨b, o + k * 3, none⟩ = some (.int .i64 (p : Nat)) := hp.at HQW.out (Nat.le_refl _) k hkm 0 _ (by rw [hx3]; rfl)
      have a1 : wq.cell? ⟨b, o + k * 3 + 1, none⟩ = some (.int .i64 (q : Nat)) := hp.at HQW.out (Nat.le_refl _) k hkm 1 _ (by rw [hx3]; rfl)
      have a2 : wq.cell? ⟨b, o + k * 3 + 2, none⟩ = some (.int .i64 (m : Nat)) := hp.at HQW.out (Nat.le_refl _) k hkm 2 _ (by rw [hx3]; rfl)
      have hm50 : m ≤ 50 := by have := HM.out ns[k] (List.getElem_mem hkn); rw [hx] at this; exact this
      have HTK := Lib.hid (sgl_take ns k hkn)
      rw [hx] at HTK
      have hsl := HSL.out k
      have hlb := (hp.below HQW.out (Nat.le_refl _)).1 (by omega)
      obtain ⟨S, hS⟩ : ∃ S, sgl (ns.take k) = S := ⟨_, rfl⟩
      rw [hS] at hO HTK hsl
      simp only at HTK
      clear hx hx3 hS
      obtain ⟨ua, uc, rfl⟩ := own_formK hO.out
      have O1 : Hid ((wq.alloc (.cells #[.int .i64 p, .int .i64 q, .int .i64 m] 83)).ownsRow W.heap.size 60 2 (.slice ua S.length uc) (S ++ List.replicate 0 (p, q)).length ((S ++ List.replicate 0 (p, q)).flatMap p2)) := Lib.hid (by simpa using hO.out.alloc _)
      have B1 := Lib.hid (hB.out.alloc hB.out.size (.cells #[.int .i64 p, .int .i64 q, .int .i64 m] 83))
      have X1 := Lib.hid (Blk.new wq [.int .i64 p, .int .i64 q, .int .i64 m] 83)
      have NB := Lib.hid (own_ne hO.out (Nat.le_refl _))
      have hws := hB.out.size
      go_wp2
      clear a0 a1 a2 hlb
      go_loopw [3, 15] (fun out j w2 => ∃ i : Nat, i ≤ m ∧ j = .int .i64 i ∧ Hid (w2.ownsRow W.heap.size 60 2 out (S ++ List.replicate i (p, q)).length ((S ++ List.replicate i (p, q)).flatMap p2)) ∧ Hid (Below W.heap.size W w2) ∧ Hid (Blk w2 wq.heap.size [.int .i64 p, .int .i64 q, .int .i64 m] 83) ∧ Hid (out.ownBlock ≠ some wq.heap.size)) (fun _ j _ => m - (intOf j).toNat)
      case atStart => exact ⟨0, Nat.zero_le _, rfl, O1, B1, X1, NB⟩
      case round =>
        clear O1 B1 X1 NB hO hB HQW
        obtain ⟨i, hi9, rfl, hO, hB, hX, hN⟩ := hrel
        obtain ⟨ua2, uc2, rfl⟩ := own_formK hO.out
        have HTN := Lib.hid (rep_snoc S i (p, q))
        have hlen : (S ++ List.replicate i (p, q)).length ≤ 50 * ns.length + 50 := by rw [List.length_append, List.length_replicate]; omega
        obtain ⟨T, hT⟩ : ∃ T, S ++ List.replicate i (p, q) = T := ⟨_, rfl⟩
        rw [hT] at hO HTN hlen hN ⊢
        have HT := Lib.hid hT
        have x0 := hX.out.cell 0 _ rfl
        have x1 := hX.out.cell 1 _ rfl
        have x2 := hX.out.cell 2 _ rfl
        have hxl := hX.out.lt
        clear hT
        by_cases him : i < m
        · go_wp2_with (at_builtin; go_loud (refine appMG (w0 := wr) (m := 1) (news := p2 (p, q)) (B := W.heap.size) (W := W) (base := W.heap.size) elemEnds rfl (.tmp 17) (.tmp 23) rfl (by rfl) (by rfl) hO.out hB.out (Nat.le_refl _) hB.out.size rfl (p2_one _) (by omega) (by unfold maxLen; omega) ?_); intro v' w5 hown' hb' hg' hat')
          have HG5 := Lib.hid hg'; have HA5 := Lib.hid hat'
          clear hg' hat'
          go_wp2
          go_roundw
          case rel => exact ⟨i + 1, by omega, by go_num, Lib.hid (by rw [HTN.out, List.length_append, flat_snoc]; exact hown'), Lib.hid hb', Lib.hid ((HG5.out.block wq.heap.size (by simp; omega) (fun e => hN.out e.symm)).trans (hX.out.alloc _)), Lib.hid (fun e => by rcases HA5.out with h | h <;> rw [h] at e; exact hN.out e; (have e2 : wr.heap.size + 1 = wq.heap.size := by simpa using e); omega)⟩
          case measure => simp [intOf]; omega
        · obtain rfl : i = m := by omega
          go_wp2
          go_roundw
          case rel => exact ⟨k + 1, by omega, by go_num, Lib.hid (by rw [HTK.out, HT.out]; exact hO.out), hB⟩
          case measure => simp [intOf]; omega
    · obtain rfl : k = ns.length := by omega
      rw [List.take_length] at hO
      have HO := Lib.hid hO.out
      clear hO
      obtain ⟨ua, uc, rfl⟩ := own_formK HO.out
      go_wp2
      go_ret
      exact ⟨_, rfl, own_baseK HO.out HQ.out.size, HQW.out⟩
end Go.Proofs.YtlnhocgjgmhfgaaGreatDoor

namespace Go.Proofs.YtlnhocgjgmhfgaaGreatDoor
open Go.RowKit
set_option maxRecDepth 100000

section
variable {P : Program} {ops : Array Oper} {Q : Exit → Act → World → Prop} {md : Region.Mode} {S : World → Prop} {A : Nat → Bool}

/-- Before operation i comes up no late one does. -/
def early (md : Region.Mode) (ops : Array Oper) (A : Nat → Bool) (i : Nat) : Nat → Array Bool → Bool
  | 0, _ => true
  | n + 1, l => (Region.ready md ops l).all fun j => j == i || (A j && early md ops A i n (l.setIfInBounds j true))

/-- Whatever order is picked, and S holds behind every operation that is not late. -/
def wpAnyJ (P : Program) (md : Region.Mode) (ops : Array Oper) (Q : Exit → Act → World → Prop) (S : World → Prop) (A : Nat → Bool) : Nat → Array Bool → Act → World → Prop
  | 0, listed, a, w => Region.ready md ops listed = [] ∧ Q .normal a w
  | fuel + 1, listed, a, w =>
    (Region.ready md ops listed = [] → Q .normal a w) ∧
    ∀ i ∈ Region.ready md ops listed, wpOp P ops Q i (fun a' w' => (A i = true → S w') ∧ wpAnyJ P md ops Q S A fuel (listed.setIfInBounds i true) a' w') a w
theorem wpAny_ofJ : ∀ (fuel : Nat) (listed : Array Bool) (a : Act) (w : World), wpAnyJ P md ops Q S A fuel listed a w → wpAny P md ops Q fuel listed a w
  | 0, _, _, _, h => h
  | fuel + 1, _, _, _, h => ⟨h.1, fun i hi => wpOp_mono (fun a' w' h' => wpAny_ofJ fuel _ a' w' h'.2) (h.2 i hi)⟩

theorem wpAnyJ_first {i : Nat} {oi : Oper} {v : Value} (hi : ops[i]? = some oi) (hsel : ∀ (j : Nat) (o : Oper) cs b, ops[j]? = some o → o.op ≠ .select cs b)
    (hQ : ∀ c a w, Q (.panic c) (a.put oi.dst v) w → Q (.panic c) a w) :
    ∀ (fuel : Nat) (listed : Array Bool) (a : Act) (w : World),
      (∀ j oj, ops[j]? = some oj → j ≠ i → listed.getD j true = false → (∀ e ∈ oj.after, Region.binds md e = true → e.on ≠ i) → oi.apart ops oj = true) →
      i ∈ Region.ready md ops listed → early md ops A i (fuel + 1) listed = true → YieldsIf P ops S oi v a → S w →
      wpAnyJ P md ops Q S A fuel (listed.setIfInBounds i true) (a.put oi.dst v) w → wpAnyJ P md ops Q S A (fuel + 1) listed a w := by
  intro fuel
  induction fuel with
  | zero =>
    intro listed a w _ hr _ hy hS H
    refine ⟨fun h => (by rw [h] at hr; cases hr), fun j hj => ?_⟩
    by_cases hji : j = i
    · subst hji; exact hy.wpOp hi hS ⟨fun _ => hS, H⟩
    · have := ready_mono hj hji
      rw [H.1] at this
      cases this
  | succ fuel ih =>
    intro listed a w hfree hr hE hy hS H
    refine ⟨fun h => (by rw [h] at hr; cases hr), fun j hj => ?_⟩
    by_cases hji : j = i
    · subst hji; exact hy.wpOp hi hS ⟨fun _ => hS, H⟩
    · have hE1 := hE
      unfold early at hE1
      have hE2 := List.all_eq_true.1 hE1 j hj
      simp only [Bool.or_eq_true, beq_iff_eq, hji, false_or, Bool.and_eq_true] at hE2
      have h1 := H.2 j (ready_mono hj hji)
      obtain ⟨hjun, oj, hoj, hall⟩ := mem_ready.1 hj
      have hnot : ∀ e ∈ oj.after, Region.binds md e = true → e.on ≠ i := fun e he hb heq => by
        have h1 := hall e he hb
        have h0 := (mem_ready.1 hr).1
        rw [heq] at h1
        rcases Nat.lt_or_ge i listed.size with h' | h'
        · simp [h'] at h0 h1; rw [h0] at h1; cases h1
        · simp [Array.getElem?_eq_none h'] at h1
      have h2 := wpOp_putIf hoj (hfree j oj hoj hji hjun hnot) (fun cs b => hsel i oi cs b hi) (fun cs b => hsel j oj cs b hoj) hQ hy h1
      have hfree' : ∀ k ok, ops[k]? = some ok → k ≠ i → (listed.setIfInBounds j true).getD k true = false →
          (∀ e ∈ ok.after, Region.binds md e = true → e.on ≠ i) → oi.apart ops ok = true := fun k ok hk hki hun hno => by
        refine hfree k ok hk hki ?_ hno
        by_cases hjk : j = k
        · subst hjk; exact hjun
        · rw [getD_set_ne true hjk] at hun; exact hun
      refine wpOp_mono (fun a' w' h3 => ⟨h3.2.1, ih (listed.setIfInBounds j true) a' w' hfree' (ready_mono hr (Ne.symm hji)) hE2.2 h3.1 (h3.2.1 hE2.1) ?_⟩) h2
      rw [Array.setIfInBounds_comm _ _ hji]
      exact h3.2.2
theorem wpAnyJ_take {i : Nat} {oi : Oper} {v : Value} {fuel : Nat} {listed : Array Bool} {a : Act} {w : World} (hi : ops[i]? = some oi)
    (hs : Region.noSelect ops = true) (hf : Region.free md ops listed i = true) (hr : (Region.ready md ops listed).contains i = true) (hE : early md ops A i (fuel + 1) listed = true)
    (hQ : ∀ c a w, Q (.panic c) (a.put oi.dst v) w → Q (.panic c) a w) (hy : YieldsIf P ops S oi v a) (hS : S w)
    (h : wpAnyJ P md ops Q S A fuel (listed.setIfInBounds i true) (a.put oi.dst v) w) : wpAnyJ P md ops Q S A (fuel + 1) listed a w :=
  wpAnyJ_first hi (Region.noSelect_spec hs) hQ fuel listed a w (Region.free_spec hi hf) (by simpa using hr) hE hy hS h
/-- One operation alone may come up. -/
theorem wpAnyJ_only {i : Nat} {o : Oper} {fuel : Nat} {listed : Array Bool} {a : Act} {w : World} (hr : Region.ready md ops listed = [i]) (ho : ops[i]? = some o)
    (h : ∀ K' : Act → World → Prop, Shut (∀ a w, (A i = true → S w) → wpAnyJ P md ops Q S A fuel (listed.setIfInBounds i true) a w → K' a w) → if Region.wanted o (yielded ops a.tmps) = true then Oper.wp P o a w K' Q else K' (a.put o.dst undef) w) :
    wpAnyJ P md ops Q S A (fuel + 1) listed a w :=
  ⟨fun h0 => absurd (hr ▸ h0) (by simp), by
    rw [hr]
    intro j hj
    rw [List.mem_singleton] at hj
    subst hj
    exact wpOp_step ho (fun K' hK => h K' (fun a w hS hW => hK a w ⟨hS, hW⟩))⟩
theorem wpAnyJ_done {listed : Array Bool} {a : Act} {w : World} (hr : Region.ready md ops listed = []) (h : Q .normal a w) :
    ∀ fuel, wpAnyJ P md ops Q S A fuel listed a w
  | 0 => ⟨hr, h⟩
  | _ + 1 => ⟨fun _ => h, by rw [hr]; simp⟩
theorem wp_regionJ {id : Nat} {a : Act} {w : World} (hm : P.follows .mixedOrders = true)
    (h : wpAnyJ P .any ops Q S A ops.size (Array.replicate ops.size false) a w.drew) : (Code.region id ops true).wp P Q a w :=
  wp_region_any hm (wpAny_ofJ _ _ _ _ h)
end
end Go.Proofs.YtlnhocgjgmhfgaaGreatDoor

namespace Go.Proofs.YtlnhocgjgmhfgaaGreatDoor
open Go.RowKit
set_option maxRecDepth 100000

section
variable {ops : Array Oper} {md : Region.Mode} {A : Nat → Bool}
def gro1 (i : Nat) (L : Array Bool) (j : Nat) : Array Bool := if j == i then L else L.setIfInBounds j true
def grow (i : Nat) (rs : List Nat) (L : Array Bool) : Array Bool := rs.foldl (fun L j => gro1 i L j) L
/-- All that can come up before i is not late: the closure of what is ready without i. -/
def sat (md : Region.Mode) (ops : Array Oper) (A : Nat → Bool) (i : Nat) : Nat → Array Bool → Bool
  | 0, _ => true
  | n + 1, L => (Region.ready md ops L).all (fun j => j == i || A j) && sat md ops A i n (grow i (Region.ready md ops L) L)
theorem getD_setB (L : Array Bool) (j k : Nat) : (L.setIfInBounds j true).getD k false = if k = j ∧ j < L.size then true else L.getD k false := by
  simp only [Array.getD_eq_getD_getElem?, Array.getElem?_setIfInBounds]
  by_cases h : j = k
  · subst h
    by_cases hj : j < L.size
    · simp [hj]
    · simp [hj]
  · simp [h, Ne.symm h]
theorem grow_size (i : Nat) : ∀ (rs : List Nat) (L : Array Bool), (grow i rs L).size = L.size
  | [], _ => rfl
  | j :: rs, L => by
    show (grow i rs _).size = _
    rw [grow_size]
    show (gro1 i L j).size = _
    unfold gro1; split <;> simp
theorem grow_mono (i : Nat) : ∀ (rs : List Nat) (L : Array Bool) (k : Nat), L.getD k false = true → (grow i rs L).getD k false = true
  | [], _, _, h => h
  | j :: rs, L, k, h => by
    show (grow i rs _).getD k false = true
    refine grow_mono i rs _ k ?_
    show (gro1 i L j).getD k false = true
    unfold gro1
    split
    · exact h
    · rw [getD_setB]; split <;> simp_all
theorem grow_mem (i : Nat) : ∀ (rs : List Nat) (L : Array Bool) (j : Nat), j ∈ rs → j ≠ i → j < L.size → (grow i rs L).getD j false = true
  | [], _, _, h, _, _ => by cases h
  | q :: rs, L, j, h, hji, hj => by
    show (grow i rs _).getD j false = true
    rcases List.mem_cons.1 h with rfl | h
    · refine grow_mono i rs _ j ?_
      show (gro1 i L j).getD j false = true
      unfold gro1
      rw [if_neg (by simpa using hji), getD_setB, if_pos ⟨rfl, hj⟩]
    · refine grow_mem i rs _ j h hji ?_
      show j < (gro1 i L q).size
      unfold gro1
      split
      · exact hj
      · simpa using hj
theorem grow_true (i : Nat) : ∀ (rs : List Nat) (L : Array Bool) (k : Nat), (grow i rs L).getD k false = true → L.getD k false = true ∨ (k ∈ rs ∧ k ≠ i)
  | [], _, _, h => Or.inl h
  | q :: rs, L, k, h => by
    rcases grow_true i rs _ k h with h1 | ⟨h1, h2⟩
    · have h1 : (gro1 i L q).getD k false = true := h1
      unfold gro1 at h1
      by_cases hq : q == i
      · rw [if_pos hq] at h1; exact Or.inl h1
      · rw [if_neg hq, getD_setB] at h1
        by_cases e : k = q ∧ q < L.size
        · refine Or.inr ⟨by rw [e.1]; exact List.mem_cons_self, ?_⟩
          rw [e.1]; simpa using hq
        · rw [if_neg e] at h1; exact Or.inl h1
    · exact Or.inr ⟨List.mem_cons_of_mem _ h1, h2⟩
theorem un_lt {l : Array Bool} {j : Nat} (h : l.getD j true = false) : j < l.size ∧ l.getD j false = false := by
  rcases Nat.lt_or_ge j l.size with h' | h'
  · refine ⟨h', ?_⟩
    simp [Array.getD_eq_getD_getElem?, h'] at h ⊢
    exact h
  · simp [Array.getD_eq_getD_getElem?, Array.getElem?_eq_none h'] at h
theorem un_of {l : Array Bool} {j : Nat} (h : j < l.size) (h0 : l.getD j false = false) : l.getD j true = false := by
  simp [Array.getD_eq_getD_getElem?, h] at h0 ⊢
  exact h0
theorem early_of (i : Nat) : ∀ (n : Nat) (l L : Array Bool), sat md ops A i n L = true → l.size = L.size → (∀ k, l.getD k false = true → L.getD k false = true) →
    (∀ k, L.getD k false = true → l.getD k false = true ∨ A k = true) → early md ops A i n l = true
  | 0, _, _, _, _, _, _ => rfl
  | n + 1, l, L, h, hsz, hsub, hA => by
    unfold sat at h
    simp only [Bool.and_eq_true] at h
    obtain ⟨h1, h2⟩ := h
    have h1 := List.all_eq_true.1 h1
    unfold early
    refine List.all_eq_true.2 fun j hj => ?_
    by_cases hji : j = i
    · simp [hji]
    · have hm := mem_ready.1 hj
      obtain ⟨hu, o, ho, hall⟩ := hm
      obtain ⟨hjl, hjf⟩ := un_lt hu
      have hrd : L.getD j false = false → j ∈ Region.ready md ops L := fun e => mem_ready.2 ⟨un_of (by omega) e, o, ho, fun e' he hb => hsub _ (hall e' he hb)⟩
      have hAj : A j = true := by
        by_cases e : L.getD j false = true
        · rcases hA j e with e' | e'
          · rw [hjf] at e'; cases e'
          · exact e'
        · have := h1 j (hrd (by simpa using e))
          simpa [hji] using this
      simp only [Bool.or_eq_true, Bool.and_eq_true]
      refine Or.inr ⟨hAj, early_of i n _ (grow i (Region.ready md ops L) L) h2 (by rw [grow_size]; simpa using hsz) (fun k hk => ?_) (fun k hk => ?_)⟩
      · rw [getD_setB] at hk
        by_cases e : k = j ∧ j < l.size
        · obtain ⟨rfl, -⟩ := e
          by_cases e : L.getD k false = true
          · exact grow_mono i _ _ _ e
          · exact grow_mem i _ _ _ (hrd (by simpa using e)) hji (by omega)
        · rw [if_neg e] at hk; exact grow_mono i _ _ _ (hsub k hk)
      · rcases grow_true i _ _ k hk with e | ⟨e, e'⟩
        · rcases hA k e with e2 | e2
          · left; rw [getD_setB]; split
            · rfl
            · exact e2
          · exact Or.inr e2
        · have := h1 k e
          right
          simpa [e'] using this
theorem early_sat {i n : Nat} {l : Array Bool} (h : sat md ops A i n l = true) : early md ops A i n l = true := early_of i n l l h rfl (fun _ h => h) (fun _ h => Or.inl h)
end
end Go.Proofs.YtlnhocgjgmhfgaaGreatDoor

namespace Go.Proofs.YtlnhocgjgmhfgaaGreatDoor
open Go.RowKit
set_option maxRecDepth 100000

def i1 (x : Nat) : List Value := [.int .i64 (x : Nat)]
def ints (l : List Nat) : List Value := l.map fun x => .int .i64 (x : Nat)
theorem blk_of_own {w : World} {b e g n : Nat} {xs : List Value} (h : w.ownsRow b e 1 (.slice (some ⟨g, 0, none⟩) n n) n xs) : Blk w g xs e := by
  rcases h.2 with ⟨h0, -⟩ | ⟨g', cap, cur, h1, -, h3, -, -, h5, h6⟩
  · simp at h0
  · simp only [Value.slice.injEq, Option.some.injEq, Addr.mk.injEq] at h1
    obtain ⟨⟨rfl, -⟩, -, rfl⟩ := h1
    unfold Blk
    rw [h3, ← h6, List.take_of_length_le (by simp [h5])]
theorem own_keepG {w w' : World} {b e s n : Nat} {v : Value} {ys : List Value} {r : Option Nat} (h : w.ownsRow b e s v n ys) (hk : w.grownBy w' r) (hne : ∀ g, v.ownBlock = some g → r ≠ some g) : w'.ownsRow b e s v n ys := by
  refine ⟨h.1, h.2.imp_right fun ⟨g', cap, cur, h1, h2, h3, r3⟩ => ⟨g', cap, cur, h1, h2, ?_, r3⟩⟩
  have := hne g' (by rw [h1]; rfl)
  rw [hk.block g' (Array.getElem?_eq_some_iff.1 h3).1 (fun e => this e.symm)]; exact h3
/-- The rows ls lie behind the block L of slice values vs; each is owned, no two share a block. -/
structure Rws (w : World) (L C : Nat) (vs : List Value) (ls : List (List Nat)) : Prop where
  blk : Blk w L vs 36
  len : vs.length = ls.length
  base : L < C
  own : ∀ i (h : i < vs.length) (h' : i < ls.length), w.ownsRow C 3 1 vs[i] ls[i].length (ints ls[i])
  dis : ∀ i j (hi : i < vs.length) (hj : j < vs.length), i ≠ j → ∀ g, vs[i].ownBlock = some g → vs[j].ownBlock ≠ some g
theorem Rws.alloc {w : World} {L C : Nat} {vs : List Value} {ls : List (List Nat)} (h : Rws w L C vs ls) (o : Obj) : Rws (w.alloc o) L C vs ls :=
  ⟨h.blk.alloc o, h.len, h.base, fun i hi hi' => (h.own i hi hi').alloc o, h.dis⟩
theorem Rws.drew {w : World} {L C : Nat} {vs : List Value} {ls : List (List Nat)} (h : Rws w L C vs ls) : Rws w.drew L C vs ls := ⟨h.blk, h.len, h.base, h.own, h.dis⟩
theorem own_belowK {w w' : World} {b e s n B : Nat} {v : Value} {ys : List Value} (h : w.ownsRow b e s v n ys) (hb : Below B w w') (hB : w.heap.size ≤ B) : w'.ownsRow b e s v n ys := by
  refine ⟨h.1, h.2.imp_right fun ⟨g', cap, cur, h1, h2, h3, r3⟩ => ⟨g', cap, cur, h1, h2, ?_, r3⟩⟩
  rw [hb.block g' (Nat.lt_of_lt_of_le (Array.getElem?_eq_some_iff.1 h3).1 hB)]; exact h3
theorem Rws.below {w w' : World} {L C B : Nat} {vs : List Value} {ls : List (List Nat)} (h : Rws w L C vs ls) (hb : Below B w w') (hB : w.heap.size ≤ B) : Rws w' L C vs ls :=
  ⟨h.blk.below hb hB, h.len, h.base, fun i hi hi' => own_belowK (h.own i hi hi') hb hB, h.dis⟩
theorem Rws.new {w : World} {L C n : Nat} (h : Blk w L (List.replicate n (.slice none 0 0)) 36) (hB : L < C) : Rws w L C (List.replicate n (.slice none 0 0)) (List.replicate n []) :=
  ⟨h, by simp, hB, fun i hi hi' => by simp only [List.getElem_replicate]; exact World.ownsRow_nil _ _ _ _, fun i j hi hj _ g hg => by simp [Value.ownBlock] at hg⟩
theorem Rws.step {w w' : World} {L C i s0 : Nat} {vs : List Value} {ls : List (List Nat)} {v' : Value} {l : List Nat} (h : Rws w L C vs ls) (hi : i < vs.length) (hg : w.grownBy w' vs[i].ownBlock)
    (ho : w'.ownsRow C 3 1 v' l.length (ints l)) (hat : v'.ownBlock = vs[i].ownBlock ∨ v'.ownBlock = some s0) (hs : w.heap.size ≤ s0) :
    Rws (w'.setCell ⟨L, i, none⟩ v') L C (vs.set i v') (ls.set i l) := by
  have hi' : i < ls.length := by rw [← h.len]; exact hi
  have hL : Blk w' L vs 36 := (hg.block L h.blk.lt (fun e => by have := own_ge (h.own i hi hi') _ e.symm; have := h.base; omega)).trans h.blk
  have hself : ∀ {v : Value} {n : Nat} {ys : List Value}, w'.ownsRow C 3 1 v n ys → (w'.setCell ⟨L, i, none⟩ v').ownsRow C 3 1 v n ys := fun hh => own_otherK hh (fun e => by have := own_ge hh _ e; have := h.base; omega)
  refine ⟨hL.set i v', by simp [h.len], h.base, fun j hj hj' => ?_, fun a b ha hb hab g hga hgb => ?_⟩
  · simp only [List.length_set] at hj hj'
    by_cases e : i = j
    · subst e
      simp only [List.getElem_set_self]
      exact hself ho
    · simp only [List.getElem_set_ne e]
      exact hself (own_keepG (h.own j hj hj') hg (fun g hgj hgi => h.dis i j hi hj e g hgi hgj))
  · simp only [List.length_set] at ha hb
    have key : ∀ j (hj : j < vs.length), j ≠ i → ∀ g, v'.ownBlock = some g → vs[j].ownBlock ≠ some g := fun j hj hne g e1 e2 => by
      rcases hat with hat | hat
      · exact h.dis i j hi hj (fun e => hne e.symm) g (hat.symm.trans e1) e2
      · have h3 := (h.own j hj (by rw [← h.len]; exact hj)).lt g e2
        rw [hat] at e1
        simp only [Option.some.injEq] at e1
        omega
    by_cases ea : i = a
    · subst ea
      have hib : i ≠ b := hab
      simp only [List.getElem_set_self] at hga
      simp only [List.getElem_set_ne hib] at hgb
      exact key b hb (fun e => hib e.symm) g hga hgb
    · simp only [List.getElem_set_ne ea] at hga
      by_cases eb : i = b
      · subst eb
        simp only [List.getElem_set_self] at hgb
        exact key a ha (fun e => hab e) g hgb hga
      · simp only [List.getElem_set_ne eb] at hgb
        exact h.dis a b ha hb hab g hga hgb

section
variable {P : Program} {t e : TypeId} {z : Value} {size bytes : Nat} {ops : Array Oper} {o : Oper} {a : Act} {Q : Exit → Act → World → Prop} {K : Act → World → Prop} {E : Prop}
theorem appMG_step (hE : ElemOk P t e z size bytes) (hgd : o.guard = none) (s x : Operand) (ho : o.op = .call { callee := .builtin .append, args := #[s, x], argTypes := #[t, t] })
    {v : Value} {n m c base : Nat} {xs news : List Value} {w0 : World} (hs : a.eval s = v) (hx : a.eval x = .slice (some ⟨w0.heap.size, 0, none⟩) m c)
    (hown : w0.ownsRow base e size v n xs) (hbase : base ≤ w0.heap.size) (hl : news.length = m * size) (h1 : ∀ u ∈ news, u.oneCell' = true)
    (hn : (n + m) * bytes ≤ 140737488355328) (hn' : n + m ≤ maxLen)
    (h : ∀ v' w', w'.ownsRow base e size v' (n + m) (xs ++ news) → (w0.alloc (.cells news.toArray e)).grownBy w' v.ownBlock → (v'.ownBlock = v.ownBlock ∨ v'.ownBlock = some (w0.heap.size + 1)) → K (a.put o.dst v') w') :
    if Region.wanted o (yielded ops a.tmps) = true then Oper.wp P o a (w0.alloc (.cells news.toArray e)) K Q else E := by
  rw [if_pos (by simp [Region.wanted, hgd])]
  obtain ⟨i, hi, hz, hsz, hby⟩ := hE.info
  obtain ⟨v', w', hr, h2, h3, h4, h5⟩ := run_append_own_at (P := P) (w0.alloc (.cells news.toArray e)) base t o.type e i z size bytes hE.und hi hz hsz hby hE.cells hE.pos v n xs (hown.alloc _) ⟨w0.heap.size, 0, none⟩ m c news hl (fun j u hj => by
    rw [addr0]
    rw [cell_of_row _ w0.heap.size j news.toArray e (0, 0) (heap_alloc_new w0 _)]
    simpa using hj) h1 hn' hn (by simp; omega)
  unfold Oper.wp execOp
  simp only [ho, resolve, invoke, builtin, Sem.run_bind, Sem.run_pure, Result.andThen_ok, List.map_toArray, List.map_cons, List.map_nil, hs, hx, hr]
  rw [World.size_alloc] at h5
  exact h v' w' h2 h3 h5
end

/-- Which of the first k single arcs leave each of n vertices. -/
def outsAt (n : Nat) (ss : List (Nat × Nat)) (k : Nat) : List (List Nat) := (List.range n).map fun v => (List.range k).filter fun i => decide ((ss.getD i (0, 0)).1 = v)
def outs (n : Nat) (ss : List (Nat × Nat)) : List (List Nat) := outsAt n ss ss.length
theorem outsAt_len (n : Nat) (ss : List (Nat × Nat)) (k : Nat) : (outsAt n ss k).length = n := by simp [outsAt]
theorem outsAt_zero (n : Nat) (ss : List (Nat × Nat)) : outsAt n ss 0 = List.replicate n [] := by
  apply List.ext_getElem <;> simp [outsAt]
theorem outsAt_succ (n : Nat) (ss : List (Nat × Nat)) (k v : Nat) (hk : k < ss.length) (_ : v < n) (he : ss[k].1 = v) (h : v < (outsAt n ss k).length) : outsAt n ss (k + 1) = (outsAt n ss k).set v ((outsAt n ss k)[v] ++ [k]) := by
  have hg : ss.getD k (0, 0) = ss[k] := by simp [List.getD_eq_getElem?_getD, hk]
  apply List.ext_getElem (by simp [outsAt])
  intro i h1 h2
  have hin : i < n := by simpa [outsAt] using h1
  by_cases e : v = i
  · subst e
    rw [List.getElem_set_self]
    simp only [outsAt, List.getElem_map, List.getElem_range, List.range_succ, List.filter_append]
    simp [List.getD_eq_getElem?_getD, hk, he]
  · rw [List.getElem_set_ne e]
    simp only [outsAt, List.getElem_map, List.getElem_range, List.range_succ, List.filter_append]
    have : decide ((ss.getD k (0, 0)).1 = i) = false := by rw [hg, he]; simp [e]
    simp only [List.filter_cons, this, List.filter_nil, List.append_nil, Bool.false_eq_true, if_false]

theorem outsAt_all (n : Nat) (ss : List (Nat × Nat)) : outsAt n ss ss.length = outs n ss := rfl
theorem sgl_rng {n : Nat} {ns : List (Nat × Nat × Nat)} (hR : RD n ns) : ∀ x ∈ sgl ns, x.1 < n ∧ x.2 < n := by
  intro x hx
  simp only [sgl, List.mem_flatMap] at hx
  obtain ⟨y, hy, h2⟩ := hx
  have h3 := List.eq_of_mem_replicate h2
  have h4 := hR.rng y hy
  rw [h3]; exact ⟨h4.1, h4.2.1⟩

set_option maxHeartbeats 4000000 in
theorem leaving_ok (w : World) (n : Nat) (v : Value) (ns : List (Nat × Nat × Nat)) (hR : RD n ns) (hv : SlK e3 3 w v (ns.map n3)) (hl : ns.length ≤ 1000) :
    Calls Tryz.prog 42 #[.agg #[.int .i64 (n : Nat), v]] w (Rets fun r w' => ∃ vs L C, r = .slice (some ⟨L, 0, none⟩) n n ∧ Rws w' L C vs (outs n (sgl ns)) ∧ w.heap.size ≤ L ∧ Below w.heap.size w w') := by
  obtain ⟨ad, c, rfl⟩ := hv.form
  have hnl : (ns.map n3).length = ns.length := List.length_map _
  rw [hnl] at hv ⊢
  have n12 := hR.le
  have n1 := hR.pos
  have HM := Lib.hid (show ∀ x ∈ ns, x.2.2 ≤ 50 from fun x hx => (hR.rng x hx).2.2.2)
  have hsl := sgl_le ns HM.out ns.length
  rw [List.take_length] at hsl
  have HSR := Lib.hid (show ∀ x ∈ sgl ns, x.1 < n ∧ x.2 < n from sgl_rng hR)
  have HV := Lib.hid hv; have HNL := Lib.hid hnl
  have HQ := Lib.hid ((Below.refl w.heap.size w).alloc (Nat.le_refl _) (.cells #[.int .i64 (n : Nat), .slice ad ns.length c] 28))
  have HG := Lib.hid (Blk.new w [.int .i64 (n : Nat), .slice ad ns.length c] 28)
  obtain ⟨W, hW⟩ : ∃ W, w.alloc (.cells #[.int .i64 (n : Nat), .slice ad ns.length c] 28) = W := ⟨_, rfl⟩
  have hWs : W.heap.size = w.heap.size + 1 := by rw [← hW]; simp
  rw [show [Value.int .i64 (n : Nat), .slice ad ns.length c].toArray = #[Value.int .i64 (n : Nat), .slice ad ns.length c] from rfl, hW] at HG
  rw [hW] at HQ
  have HW := Lib.hid hW; have HWS := Lib.hid hWs
  clear hW hv hnl hR hWs
  go_enter Tryz.func42, Tryz.ntmps42
  go_wp2_with (first
    | (at_make; rw [HW.out]; refine mkN elemII rfl _ _ rfl n rfl rfl rfl rfl (by omega) (by unfold maxLen; omega) (Below.refl _ _) (Nat.le_refl _) rfl ?_; intro w1 hown hb hb2; clear hb2; have HO1 := Lib.hid (blk_of_own hown); have HB1 := Lib.hid hb; clear hown hb; have HG1 := Lib.hid (HG.out.below HB1.out (Nat.le_refl _)); have g0 := HG1.out.cell 0 _ rfl; have g1 := HG1.out.cell 1 _ rfl; have hlg := HG1.out.lt)
    | (go_at_call 43; (with_reducible refine (arcs_ok _ n _ ns (HV.out.below (HQ.out.trans (HB1.out.mono HQ.out.size)) (Nat.le_refl _)) HM.out (by omega)).mono ?_); rintro e w2 ⟨v, rfl, hO, hb⟩; obtain ⟨ea, ec, rfl⟩ := own_formK hO; have HE := Lib.hid hO; have HB2 := Lib.hid hb; clear hO hb g0 g1 hlg))
  obtain ⟨SS, hSS⟩ : ∃ SS, sgl ns = SS := ⟨_, rfl⟩
  rw [hSS] at HE hsl HSR ⊢
  have HSS := Lib.hid hSS
  have HO2 := Lib.hid (HO1.out.below HB2.out (Nat.le_refl _))
  have R0 := Lib.hid (Rws.new HO2.out (show W.heap.size < w2.heap.size from HO2.out.lt))
  rw [← outsAt_zero n SS] at R0
  have HBW := Lib.hid (HB1.out.trans (HB2.out.mono HB1.out.size))
  have HE0 := Lib.hid HE.out
  have HW1 := Lib.hid HO1.out.lt
  have HS2 := Lib.hid HB2.out.size
  clear hSS
  go_loopw [12] (fun i wr => ∃ (k : Nat) (vs : List Value), k ≤ SS.length ∧ i = .int .i64 k ∧ Hid (Rws wr W.heap.size w2.heap.size vs (outsAt n SS k)) ∧ Hid (wr.ownsRow w1.heap.size 60 2 (.slice ea SS.length ec) SS.length (SS.flatMap p2)) ∧ Hid (Below W.heap.size W wr) ∧ Hid (w2.heap.size ≤ wr.heap.size)) (fun i _ => SS.length - (intOf i).toNat)
  case atStart => exact ⟨0, _, Nat.zero_le _, rfl, R0, HE0, HBW, Lib.hid (Nat.le_refl _)⟩
  case round =>
    clear R0 HE0 HBW
    obtain ⟨k, vs, hk, rfl, hR, hE, hB, hZ⟩ := hrel
    by_cases hkn : k < SS.length
    · have hES := SlK.ofOwns p2_len hE.out rfl
      obtain ⟨ea', b, o, ec', hform, hi, hp, hc, hcm⟩ := hES.open elemEnds
      simp only [Value.slice.injEq, true_and] at hform
      obtain ⟨rfl, rfl⟩ := hform
      obtain ⟨⟨p, q⟩, hx⟩ : ∃ x, SS[k] = x := ⟨_, rfl⟩
      have hrg := HSR.out _ (List.getElem_mem hkn)
      rw [hx] at hrg
      have a0 : wr.cell? ⟨b, o + k * 2, none⟩ = some (.int .i64 (p : Nat)) := hp.2 k hkn 0 _ (by rw [hx]; rfl)
      have a1 : wr.cell? ⟨b, o + k * 2 + 1, none⟩ = some (.int .i64 (q : Nat)) := hp.2 k hkn 1 _ (by rw [hx]; rfl)
      have hlb := hp.1 (by omega)
      have hrl := hR.out.len
      rw [outsAt_len] at hrl
      have hpv : p < vs.length := by rw [hrl]; exact hrg.1
      have hpo : p < (outsAt n SS k).length := by rw [outsAt_len]; exact hrg.1
      have hpn : p < n := hrg.1
      have HT := Lib.hid (outsAt_succ n SS k p hkn hrg.1 (by rw [hx]) hpo)
      have hown := hR.out.own p hpv hpo
      obtain ⟨T, hT⟩ : ∃ T, (outsAt n SS k)[p] = T := ⟨_, rfl⟩
      rw [hT] at HT hown
      have hTl : T.length ≤ SS.length := by
        rw [← hT]; simp only [outsAt, List.getElem_map, List.getElem_range]
        exact Nat.le_trans (List.length_filter_le _ _) (by simp; omega)
      obtain ⟨ua, uc, hu⟩ := own_formK hown
      have hvp : vs[p]? = some (.slice ua T.length uc) := by rw [← hu]; simp [hpv]
      have c1 := hR.out.blk.cell p _ hvp
      have f1 := hR.out.blk.free p
      rw [hu] at hown
      have HOW := Lib.hid hown
      have HU := Lib.hid hu
      have hll := hR.out.blk.lt
      have HE1 := Lib.hid hE.out
      clear hT hx hE hown hu hvp
      have hhm := fun (w' : World) (h1 : w'.heap[wr.heap.size]? = (wr.alloc (.cells #[.int .i64 p, .int .i64 q] 60)).heap[wr.heap.size]?) (h2 : w'.heap[W.heap.size]? = wr.heap[W.heap.size]?) => (⟨(World.cell?_of_block (a := ⟨wr.heap.size, 0, none⟩) h1).trans ((Blk.new wr [.int .i64 p, .int .i64 q] 60).cell 0 _ rfl), (World.cell?_of_block (a := ⟨W.heap.size, p, none⟩) h2).trans c1⟩ : w'.cell? ⟨wr.heap.size, 0, none⟩ = some (.int .i64 (p : Nat)) ∧ w'.cell? ⟨W.heap.size, p, none⟩ = some (.slice ua T.length uc))
      have HH0 := Lib.hid (hhm (wr.alloc (.cells #[.int .i64 p, .int .i64 q] 60)).drew rfl (Below.heap_alloc wr _ _ hll))
      have HH1 := Lib.hid (hhm ((wr.alloc (.cells #[.int .i64 p, .int .i64 q] 60)).alloc (.cells #[.int .i64 k] 3)).drew (Below.heap_alloc _ _ _ (by simp)) ((Below.heap_alloc _ _ _ (by simp; omega)).trans (Below.heap_alloc wr _ _ hll)))
      have HHM := Lib.hid hhm
      have HOA := Lib.hid (HOW.out.alloc (.cells #[.int .i64 p, .int .i64 q] 60))
      clear hhm
      have q1 : (0 : Int) ≤ (p : Int) := by omega
      have q2 : (p : Int) < (n : Int) := by omega
      have q3 : wr.heap.size < wr.heap.size + 1 := by omega
      have h63 : (T.length + 1) * 8 ≤ 140737488355328 := by omega
      have h64 : T.length + 1 ≤ maxLen := by unfold maxLen; omega
      have hbs : w2.heap.size ≤ (wr.alloc (.cells #[.int .i64 p, .int .i64 q] 60)).drew.heap.size := by have := hZ.out; simp [World.drew]; omega
      have HBS := Lib.hid hbs
      have HXS := Lib.hid (show (wr.alloc (.cells #[.int .i64 p, .int .i64 q] 60)).drew.heap.size = wr.heap.size + 1 by simp [World.drew])
      have HBK := Lib.hid (fun (w' : World) (r : Option Nat) (hr : ∀ g, r = some g → w2.heap.size ≤ g ∧ g < wr.heap.size) (hg : ((wr.alloc (.cells #[.int .i64 p, .int .i64 q] 60)).drew.alloc (.cells (i1 k).toArray 3)).grownBy w' r) => by
        have e1 := hg.block wr.heap.size (by simp [World.drew]; omega) (fun e => by have := hr _ e.symm; omega)
        have e2 := hg.block W.heap.size (by simp [World.drew]; omega) (fun e => by have := hr _ e.symm; have := HW1.out; have := HS2.out; omega)
        have e3 : w'.heap[wr.heap.size]? = (wr.alloc (.cells #[.int .i64 p, .int .i64 q] 60)).heap[wr.heap.size]? := e1.trans (Below.heap_alloc _ _ _ (by simp [World.drew]))
        have e4 : w'.heap[W.heap.size]? = wr.heap[W.heap.size]? := e2.trans ((Below.heap_alloc _ _ _ (by simp [World.drew]; omega)).trans (Below.heap_alloc wr _ _ hll))
        exact (⟨e3, e4, (World.frozen?_of_block (a := ⟨W.heap.size, p, none⟩) e4).trans f1⟩ : w'.heap[wr.heap.size]? = (wr.alloc (.cells #[.int .i64 p, .int .i64 q] 60)).heap[wr.heap.size]? ∧ w'.heap[W.heap.size]? = wr.heap[W.heap.size]? ∧ w'.frozen? ⟨W.heap.size, p, none⟩ = false))
      have HLT := Lib.hid (fun g (e : (Value.slice ua T.length uc).ownBlock = some g) => HOW.out.lt g e)
      clear hbs
      go_wp2_with fail
      -- REGION
      refine wp_regionJ (S := fun w' => w'.cell? ⟨wr.heap.size, 0, none⟩ = some (.int .i64 (p : Nat)) ∧ w'.cell? ⟨W.heap.size, p, none⟩ = some (.slice ua T.length uc)) (A := fun i => decide (i < 12)) (by kernel_rfl) ?_
      refine wpAnyJ_take (i := 0) (oi := { dst := some 17, op := .move (.tmp 3), type := _, pos := _, after := _, guard := _ }) (v := ?_) rfl (by kernel_rfl) (by kernel_rfl) (by kernel_rfl) (early_sat (by kernel_rfl)) (fun _ _ _ h => h) (Or.inl ⟨by rfl, ?_⟩) HH0.out ?_
      rotate_left
      · intro wl hSw
        obtain ⟨s0, s1⟩ := hSw
        go_simp
        with_reducible rfl
      simp only [Act.put, List.setIfInBounds_toArray, List.set_cons_zero, List.set_cons_succ]
      refine wpAnyJ_take (i := 1) (oi := { dst := some 18, op := .indexAddr _ (.tmp 5) _, type := _, pos := _, after := _, guard := _ }) (v := ?_) rfl (by kernel_rfl) (by kernel_rfl) (by kernel_rfl) (early_sat (by kernel_rfl)) (fun _ _ _ h => h) (Or.inl ⟨by rfl, ?_⟩) HH0.out ?_
      rotate_left
      · intro wl hSw
        obtain ⟨s0, s1⟩ := hSw
        go_simp
        with_reducible rfl
      simp only [Act.put, List.setIfInBounds_toArray, List.set_cons_zero, List.set_cons_succ]
      refine wpAnyJ_take (i := 2) (oi := { dst := some 19, op := .load _ (.tmp 18), type := _, pos := _, after := _, guard := _ }) (v := ?_) rfl (by kernel_rfl) (by kernel_rfl) (by kernel_rfl) (early_sat (by kernel_rfl)) (fun _ _ _ h => h) (Or.inl ⟨by rfl, ?_⟩) HH0.out ?_
      rotate_left
      · intro wl hSw
        obtain ⟨s0, s1⟩ := hSw
        go_simp
        with_reducible rfl
      simp only [Act.put, List.setIfInBounds_toArray, List.set_cons_zero, List.set_cons_succ]
      refine wpAnyJ_take (i := 3) (oi := { dst := some 20, op := .move (.tmp 3), type := _, pos := _, after := _, guard := _ }) (v := ?_) rfl (by kernel_rfl) (by kernel_rfl) (by kernel_rfl) (early_sat (by kernel_rfl)) (fun _ _ _ h => h) (Or.inl ⟨by rfl, ?_⟩) HH0.out ?_
      rotate_left
      · intro wl hSw
        obtain ⟨s0, s1⟩ := hSw
        go_simp
        with_reducible rfl
      simp only [Act.put, List.setIfInBounds_toArray, List.set_cons_zero, List.set_cons_succ]
      refine wpAnyJ_take (i := 4) (oi := { dst := some 21, op := .indexAddr _ (.tmp 5) _, type := _, pos := _, after := _, guard := _ }) (v := ?_) rfl (by kernel_rfl) (by kernel_rfl) (by kernel_rfl) (early_sat (by kernel_rfl)) (fun _ _ _ h => h) (Or.inl ⟨by rfl, ?_⟩) HH0.out ?_
      rotate_left
      · intro wl hSw
        obtain ⟨s0, s1⟩ := hSw
        go_simp
        with_reducible rfl
      simp only [Act.put, List.setIfInBounds_toArray, List.set_cons_zero, List.set_cons_succ]
      refine wpAnyJ_take (i := 5) (oi := { dst := some 22, op := .load _ (.tmp 21), type := _, pos := _, after := _, guard := _ }) (v := ?_) rfl (by kernel_rfl) (by kernel_rfl) (by kernel_rfl) (early_sat (by kernel_rfl)) (fun _ _ _ h => h) (Or.inl ⟨by rfl, ?_⟩) HH0.out ?_
      rotate_left
      · intro wl hSw
        obtain ⟨s0, s1⟩ := hSw
        go_simp
        with_reducible rfl
      simp only [Act.put, List.setIfInBounds_toArray, List.set_cons_zero, List.set_cons_succ]
      refine wpAnyJ_take (i := 6) (oi := { dst := some 23, op := .indexAddr _ (.tmp 20) (.tmp 22), type := _, pos := _, after := _, guard := _ }) (v := ?_) rfl (by kernel_rfl) (by kernel_rfl) (by kernel_rfl) (early_sat (by kernel_rfl)) (fun _ _ _ h => h) (Or.inl ⟨by rfl, ?_⟩) HH0.out ?_
      rotate_left
      · intro wl hSw
        obtain ⟨s0, s1⟩ := hSw
        go_simp
        with_reducible rfl
      simp only [Act.put, List.setIfInBounds_toArray, List.set_cons_zero, List.set_cons_succ]
      refine wpAnyJ_take (i := 7) (oi := { dst := some 24, op := .load _ (.tmp 23), type := _, pos := _, after := _, guard := _ }) (v := ?_) rfl (by kernel_rfl) (by kernel_rfl) (by kernel_rfl) (early_sat (by kernel_rfl)) (fun _ _ _ h => h) (Or.inl ⟨by rfl, ?_⟩) HH0.out ?_
      rotate_left
      · intro wl hSw
        obtain ⟨s0, s1⟩ := hSw
        go_simp
        with_reducible rfl
      simp only [Act.put, List.setIfInBounds_toArray, List.set_cons_zero, List.set_cons_succ]
      refine wpAnyJ_take (i := 8) (oi := { dst := some 25, op := .move (.tmp 4), type := _, pos := _, after := _, guard := _ }) (v := ?_) rfl (by kernel_rfl) (by kernel_rfl) (by kernel_rfl) (early_sat (by kernel_rfl)) (fun _ _ _ h => h) (Or.inl ⟨by rfl, ?_⟩) HH0.out ?_
      rotate_left
      · intro wl hSw
        obtain ⟨s0, s1⟩ := hSw
        go_simp
        with_reducible rfl
      simp only [Act.put, List.setIfInBounds_toArray, List.set_cons_zero, List.set_cons_succ]
      refine wpAnyJ_only (i := 9) (o := { dst := some 26, op := _, type := _, pos := _, after := _, guard := _ }) (by kernel_rfl) rfl (fun K hK => ?_)
      go_simp
      refine hK.out _ _ (fun _ => HH1.out) ?_
      try simp only [Act.put, List.setIfInBounds_toArray, List.set_cons_zero, List.set_cons_succ]
      clear hK K
      refine wpAnyJ_only (i := 10) (o := { dst := some 27, op := _, type := _, pos := _, after := _, guard := _ }) (by kernel_rfl) rfl (fun K hK => ?_)
      refine appMG_step (w0 := (wr.alloc (.cells #[.int .i64 p, .int .i64 q] 60)).drew) (m := 1) (news := i1 k) (base := w2.heap.size) elemI rfl (.tmp 24) (.tmp 26) rfl (by rfl) (by rw [HXS.out]; rfl) HOA.out HBS.out rfl (by intro u hu; simp [i1] at hu; subst hu; rfl) h63 h64 ?_
      intro v' w5 hown' hg' hat'
      obtain ⟨va, vc, rfl⟩ := own_formK hown'
      have HN5 := Lib.hid hown'; have HG5 := Lib.hid hg'; have HA5 := Lib.hid hat'
      clear hown' hg' hat'
      have hb5 := HBK.out w5 _ HLT.out HG5.out
      have hh5 := HHM.out w5 hb5.1 hb5.2.1
      have fz5 := hb5.2.2
      clear hb5
      refine hK.out _ _ (fun _ => hh5) ?_
      try simp only [Act.put, List.setIfInBounds_toArray, List.set_cons_zero, List.set_cons_succ]
      clear hK K
      refine wpAnyJ_only (i := 11) (o := { dst := some 28, op := .indexAddr _ (.tmp 17) (.tmp 19), type := _, pos := _, after := _, guard := _ }) (by kernel_rfl) rfl (fun K hK => ?_)
      go_simp
      refine hK.out _ _ (fun _ => hh5) ?_
      try simp only [Act.put, List.setIfInBounds_toArray, List.set_cons_zero, List.set_cons_succ]
      clear hK K
      refine wpAnyJ_only (i := 12) (o := { dst := none, op := .store _ (.tmp 28) (.tmp 27), type := _, pos := _, after := _, guard := _ }) (by kernel_rfl) rfl (fun K hK => ?_)
      go_simp
      refine hK.out _ _ (fun h => absurd h (by decide)) ?_
      try simp only [Act.put, List.setIfInBounds_toArray, List.set_cons_zero, List.set_cons_succ]
      clear hK K
      refine wpAnyJ_done (by kernel_rfl) ?_ _
      -- END
      go_wp2
      clear hh5 fz5
      go_roundw
      case rel =>
        have ho5 : w5.ownsRow w2.heap.size 3 1 (.slice va (T.length + 1) vc) (T ++ [k]).length (ints (T ++ [k])) := by
          have e1 : (T ++ [k]).length = T.length + 1 := by simp
          have e2 : ints (T ++ [k]) = ints T ++ i1 k := by simp [ints, i1]
          rw [e1, e2]; exact HN5.out
        have hR2 : Rws ((wr.alloc (.cells #[.int .i64 p, .int .i64 q] 60)).drew.alloc (.cells (i1 k).toArray 3)) W.heap.size w2.heap.size vs (outsAt n SS k) := (hR.out.alloc (.cells #[.int .i64 p, .int .i64 q] 60)).drew.alloc (.cells (i1 k).toArray 3)
        have hg5 := HG5.out
        have ha5 := HA5.out
        rw [← HU.out] at hg5 ha5
        refine ⟨k + 1, vs.set p (.slice va (T.length + 1) vc), by omega, by go_num, Lib.hid (by rw [HT.out]; exact hR2.step hpv hg5 ho5 ha5 (by simp [World.drew])), ?_, ?_, ?_⟩
        · have h0 : ((wr.alloc (.cells #[.int .i64 p, .int .i64 q] 60)).drew.alloc (.cells (i1 k).toArray 3)).ownsRow w1.heap.size 60 2 (.slice ea SS.length ec) SS.length (SS.flatMap p2) := World.ownsRow.alloc (w := (wr.alloc (.cells #[.int .i64 p, .int .i64 q] 60)).drew) (HE1.out.alloc _) _
          exact Lib.hid (own_otherK (own_keepG h0 HG5.out (fun g e e2 => by have h1 := HE.out.lt g e; have h2 := HLT.out g e2; omega)) (fun e => by have h1 := HE.out.lt _ e; have h2 := HW1.out; omega))
        · have hd : Below W.heap.size W (wr.alloc (.cells #[.int .i64 p, .int .i64 q] 60)).drew := (hB.out.alloc hB.out.size _).drew
          exact Lib.hid (((hd.alloc hd.size _).grown HG5.out (Nat.le_trans hB.out.size (by simp [World.drew]; omega)) (fun g e => by have h2 := HLT.out g e; have := HW1.out; have := HS2.out; omega)).setCell (p := ⟨W.heap.size, p, none⟩) (Nat.le_refl _) _)
        · exact Lib.hid (Nat.le_trans hZ.out (Nat.le_trans (show wr.heap.size ≤ w5.heap.size from Nat.le_trans (by simp [World.drew]; omega) HG5.out.size) (by simp)))
      case measure => simp [intOf]; omega
    · obtain rfl : k = SS.length := by omega
      have HRr := Lib.hid hR.out
      have hbo := hB.out
      have HBo := Lib.hid (HQ.out.trans (hbo.mono HQ.out.size))
      clear hR hB hbo hE
      go_wp2
      go_ret
      exact ⟨_, rfl, vs, W.heap.size, w2.heap.size, rfl, by rw [HSS.out]; exact HRr.out, HQ.out.size, HBo.out⟩
end Go.Proofs.YtlnhocgjgmhfgaaGreatDoor

namespace Go.Proofs.YtlnhocgjgmhfgaaGreatDoor
open Go.RowKit
set_option maxRecDepth 100000

/-- The sum of the multiplicities of those of the first k arcs that a key takes to each vertex. -/
def degAt (f : Nat × Nat × Nat → Nat) (n : Nat) (ns : List (Nat × Nat × Nat)) (k : Nat) : List Nat := (List.range n).map fun v => (((ns.take k).filter fun x => decide (f x = v)).map fun x => x.2.2).sum
theorem degAt_len (f : Nat × Nat × Nat → Nat) (n : Nat) (ns : List (Nat × Nat × Nat)) (k : Nat) : (degAt f n ns k).length = n := by simp [degAt]
theorem degAt_zero (f : Nat × Nat × Nat → Nat) (n : Nat) (ns : List (Nat × Nat × Nat)) : degAt f n ns 0 = List.replicate n 0 := by
  apply List.ext_getElem <;> simp [degAt]
theorem degAt_succ (f : Nat × Nat × Nat → Nat) (n : Nat) (ns : List (Nat × Nat × Nat)) (k v : Nat) (hk : k < ns.length) (he : f ns[k] = v) (h : v < (degAt f n ns k).length) : degAt f n ns (k + 1) = (degAt f n ns k).set v ((degAt f n ns k)[v] + ns[k].2.2) := by
  apply List.ext_getElem (by simp [degAt])
  intro i h1 h2
  by_cases e : v = i
  · subst e
    rw [List.getElem_set_self]
    simp only [degAt, List.getElem_map, List.getElem_range, List.take_succ_eq_append_getElem hk, List.filter_append, List.map_append, List.sum_append]
    simp [he]
  · rw [List.getElem_set_ne e]
    simp only [degAt, List.getElem_map, List.getElem_range, List.take_succ_eq_append_getElem hk, List.filter_append, List.map_append, List.sum_append]
    have : decide (f ns[k] = i) = false := by rw [he]; simp [e]
    simp [this]
theorem degAt_le (f : Nat × Nat × Nat → Nat) (n : Nat) (ns : List (Nat × Nat × Nat)) (hm : ∀ x ∈ ns, x.2.2 ≤ 50) (k v : Nat) (h : v < (degAt f n ns k).length) : (degAt f n ns k)[v] ≤ 50 * ns.length := by
  simp only [degAt, List.getElem_map, List.getElem_range]
  have key : ∀ l : List (Nat × Nat × Nat), (∀ x ∈ l, x.2.2 ≤ 50) → ((l.filter fun x => decide (f x = v)).map fun x => x.2.2).sum ≤ 50 * l.length := by
    intro l
    induction l with
    | nil => intro _; simp
    | cons x l ih =>
      intro hl
      have h1 := hl x (by simp)
      have h2 := ih fun y hy => hl y (by simp [hy])
      rw [List.filter_cons]
      split
      · simp only [List.map_cons, List.sum_cons, List.length_cons]; omega
      · simp only [List.length_cons]; omega
  have h1 := key (ns.take k) fun x hx => hm x (List.mem_of_mem_take hx)
  have h2 : (ns.take k).length ≤ ns.length := by simp; omega
  omega
theorem ints_at (l : List Nat) (i : Nat) (h : i < l.length) : (ints l)[i]? = some (.int .i64 (l[i] : Nat)) := by simp [ints, h]
theorem ints_set (l : List Nat) (i x : Nat) : (ints l).set i (.int .i64 (x : Nat)) = ints (l.set i x) := by simp [ints, List.map_set]
theorem ints_rep (n : Nat) : List.replicate n (.int .i64 0) = ints (List.replicate n 0) := by simp [ints]

/-- What 'make([]T, n)' comes to, as an equation. -/
theorem mk_run {P : Program} {t e : TypeId} {z : Value} {bytes : Nat} (hE : ElemOk P t e z 1 bytes) (hz1 : z.cells = #[z]) (n : Nat) (hn : bytes * n ≤ 281474976710656) (hn' : n ≤ maxLen) :
    ∀ W : World, (Instr.makeSlice t (.int .i64 (n : Int)) (.int .i64 (n : Int))).run P W = .ok (.slice (some ⟨W.heap.size, 0, none⟩) n n) (W.alloc (.cells (List.replicate n z).toArray e)) := by
  intro W
  obtain ⟨i, hi, hz, hsz, hby⟩ := hE.info
  have h63' : (n : Int) ≤ 9223372036854775807 := by
    have h := hn'
    simp [maxLen] at h
    omega
  have hb' : ((i.bytes * n : Nat) : Int) ≤ 281474976710656 := by rw [hby]; omega
  rw [Int.natCast_mul] at hb'
  have hr := run_make (P := P) W t e i z hE.und hi hz .i64 .i64 n n (by omega) (Int.le_refl _) hb' h63'
  rw [hr]
  simp only [Int.toNat_natCast, hsz, Nat.mul_one]
  congr 3
  apply Array.toList_inj.1
  rw [hz1, toList_madeCells_one]

set_option maxHeartbeats 4000000 in
theorem degrees_ok (w : World) (n : Nat) (v : Value) (ns : List (Nat × Nat × Nat)) (hR : RD n ns) (hv : SlK e3 3 w v (ns.map n3)) (hl : ns.length ≤ 1000) :
    Calls Tryz.prog 53 #[.agg #[.int .i64 (n : Nat), v]] w (Rets fun r w' => ∃ A B, r = .tuple #[.slice (some ⟨A, 0, none⟩) n n, .slice (some ⟨B, 0, none⟩) n n] ∧ Blk w' A (ints (degAt (·.1) n ns ns.length)) 3 ∧ Blk w' B (ints (degAt (·.2.1) n ns ns.length)) 3 ∧ w.heap.size ≤ A ∧ w.heap.size ≤ B ∧ Below w.heap.size w w') := by
  obtain ⟨ad, b, o, c, rfl, hi, hp, hc, hcm⟩ := hv.open elemArc
  have hnl : (ns.map n3).length = ns.length := List.length_map _
  rw [hnl] at hv hi hc ⊢
  unfold maxLen at hcm
  have n12 := hR.le
  have n1 := hR.pos
  have HR := Lib.hid hR; have HNL := Lib.hid hnl
  have HM := Lib.hid (show ∀ x ∈ ns, x.2.2 ≤ 50 from fun x hx => (hR.rng x hx).2.2.2)
  have HQ := Lib.hid ((Below.refl w.heap.size w).alloc (Nat.le_refl _) (.cells #[.int .i64 (n : Nat), .slice ad ns.length c] 28))
  have HG := Lib.hid (Blk.new w [.int .i64 (n : Nat), .slice ad ns.length c] 28)
  obtain ⟨W, hW⟩ : ∃ W, w.alloc (.cells #[.int .i64 (n : Nat), .slice ad ns.length c] 28) = W := ⟨_, rfl⟩
  have hWs : W.heap.size = w.heap.size + 1 := by rw [← hW]; simp
  rw [show [Value.int .i64 (n : Nat), .slice ad ns.length c].toArray = #[Value.int .i64 (n : Nat), .slice ad ns.length c] from rfl, hW] at HG
  rw [hW] at HQ
  have HW := Lib.hid hW; have HWS := Lib.hid hWs
  have g0 := HG.out.cell 0 _ rfl
  have hlg := HG.out.lt
  clear hW hv hnl hR hWs
  go_enter Tryz.func53, Tryz.ntmps53
  have hmk := mk_run (t := 36) elemI rfl n (by omega) (by unfold maxLen; omega)
  go_wp2_with fail
  rw [HW.out]
  go_region
  · skip
    have hw1 : Below W.heap.size W ((W.alloc (.cells (List.replicate n (.int .i64 0)).toArray 3)).alloc (.cells (List.replicate n (.int .i64 0)).toArray 3)).drew := (((Below.refl W.heap.size W).alloc (Nat.le_refl _) _).alloc (by simp) _).drew
    have hb0 : Blk ((W.alloc (.cells (List.replicate n (.int .i64 0)).toArray 3)).alloc (.cells (List.replicate n (.int .i64 0)).toArray 3)).drew W.heap.size (List.replicate n (.int .i64 0)) 3 := (Blk.new W _ _).alloc _
    have hb1 : Blk ((W.alloc (.cells (List.replicate n (.int .i64 0)).toArray 3)).alloc (.cells (List.replicate n (.int .i64 0)).toArray 3)).drew (W.heap.size + 1) (List.replicate n (.int .i64 0)) 3 := by
      have := Blk.new (W.alloc (.cells (List.replicate n (.int .i64 0)).toArray 3)) (List.replicate n (.int .i64 0)) 3
      rw [World.size_alloc] at this; exact this
    have hE0 : Hid (W.heap.size ≤ W.heap.size) := Lib.hid (Nat.le_refl _)
    have hE1 : Hid (W.heap.size ≤ W.heap.size + 1) := Lib.hid (Nat.le_succ _)
    have HWW : ((W.alloc (.cells (List.replicate n (.int .i64 0)).toArray 3)).alloc (.cells (List.replicate n (.int .i64 0)).toArray 3)).drew = ((W.alloc (.cells (Array.replicate n (.int .i64 0)) 3)).alloc (.cells (Array.replicate n (.int .i64 0)) 3)).drew := by simp
    rw [HWW] at hw1 hb0 hb1
    clear HWW
    generalize ((W.alloc (.cells (Array.replicate n (.int .i64 0)) 3)).alloc (.cells (Array.replicate n (.int .i64 0)) 3)).drew = w1 at hw1 hb0 hb1 ⊢
    obtain ⟨A, hEA⟩ : ∃ A, W.heap.size = A := ⟨_, rfl⟩
    obtain ⟨B, hEB⟩ : ∃ B, W.heap.size + 1 = B := ⟨_, rfl⟩
    have hAB : A ≠ B := by omega
    have hBA : B ≠ A := by omega
    have HAW := Lib.hid (show W.heap.size ≤ A by omega)
    have HBW := Lib.hid (show W.heap.size ≤ B by omega)
    have hA := hb0
    have hB := hb1
    rw [hEA] at hA
    rw [hEB] at hB
    rw [hEB, hEA]
    clear hb0 hb1 hE0 hE1 hEA hEB
    have HAB := Lib.hid hAB; have HBA := Lib.hid hBA
    have hd0 : Hid (Blk w1 A (ints (degAt (·.1) n ns 0)) 3) := Lib.hid (by rw [degAt_zero, ← ints_rep]; exact hA)
    have hd1 : Hid (Blk w1 B (ints (degAt (·.2.1) n ns 0)) 3) := Lib.hid (by rw [degAt_zero, ← ints_rep]; exact hB)
    have HW1 := Lib.hid hw1
    have hg1 := (HG.out.below hw1 (Nat.le_refl _))
    have g1 := hg1.cell 1 _ rfl
    have hlg := hg1.lt
    clear hA hB hw1 hg1
    go_wp2
    go_loopw [17] (fun i wr => ∃ k : Nat, k ≤ ns.length ∧ i = .int .i64 k ∧ Hid (Blk wr A (ints (degAt (·.1) n ns k)) 3) ∧ Hid (Blk wr B (ints (degAt (·.2.1) n ns k)) 3) ∧ Hid (Below W.heap.size W wr)) (fun i _ => ns.length - (intOf i).toNat)
    case atStart => exact ⟨0, Nat.zero_le _, rfl, hd0, hd1, HW1⟩
    case round =>
      clear hd0 hd1 g1 hlg
      obtain ⟨k, hk, rfl, hD0, hD1, hB⟩ := hrel
      by_cases hkn : k < ns.length
      · have hqw := HQ.out.trans (hB.out.mono HQ.out.size)
        have hkm : k < (ns.map n3).length := by rw [HNL.out]; exact hkn
        have hrg := HR.out.rng _ (List.getElem_mem hkn)
        have hl0 := degAt_len (·.1) n ns k
        have hl1 := degAt_len (·.2.1) n ns k
        have hs0 := degAt_succ (·.1) n ns k ns[k].1 hkn rfl (by rw [hl0]; exact hrg.1)
        have hs1 := degAt_succ (·.2.1) n ns k ns[k].2.1 hkn rfl (by rw [hl1]; exact hrg.2.1)
        have hb0 := degAt_le (·.1) n ns HM.out k ns[k].1 (by rw [hl0]; exact hrg.1)
        have hb1 := degAt_le (·.2.1) n ns HM.out k ns[k].2.1 (by rw [hl1]; exact hrg.2.1)
        obtain ⟨D0, e0⟩ : ∃ D0, degAt (·.1) n ns k = D0 := ⟨_, rfl⟩
        obtain ⟨D1, e1⟩ : ∃ D1, degAt (·.2.1) n ns k = D1 := ⟨_, rfl⟩
        simp only [e0] at hl0 hs0 hb0 hD0
        simp only [e1] at hl1 hs1 hb1 hD1
        obtain ⟨⟨p, q, m⟩, hx⟩ : ∃ x, ns[k] = x := ⟨_, rfl⟩
        simp only [hx] at hrg hs0 hs1 hb0 hb1
        have hx3 : (ns.map n3)[k] = n3 (p, q, m) := by rw [List.getElem_map, hx]
        have a0 : wr.cell? ⟨b, o + k * 3, none⟩ = some (.int .i64 (p : Nat)) := hp.at hqw (Nat.le_refl _) k hkm 0 _ (by rw [hx3]; rfl)
        have a1 : wr.cell? ⟨b, o + k * 3 + 1, none⟩ = some (.int .i64 (q : Nat)) := hp.at hqw (Nat.le_refl _) k hkm 1 _ (by rw [hx3]; rfl)
        have a2 : wr.cell? ⟨b, o + k * 3 + 2, none⟩ = some (.int .i64 (m : Nat)) := hp.at hqw (Nat.le_refl _) k hkm 2 _ (by rw [hx3]; rfl)
        have hlb := (hp.below hqw (Nat.le_refl _)).1 (by omega)
        obtain ⟨r1, r2, r3, r4⟩ := hrg
        have hp0 : p < D0.length := by rw [hl0]; exact r1
        have hq1 : q < D1.length := by rw [hl1]; exact r2
        obtain ⟨x, hxx⟩ : ∃ x, D0[p] = x := ⟨_, rfl⟩
        obtain ⟨y, hyy⟩ : ∃ y, D1[q] = y := ⟨_, rfl⟩
        rw [hxx] at hs0 hb0
        rw [hyy] at hs1 hb1
        have c0 : wr.cell? ⟨A, p, none⟩ = some (.int .i64 (x : Nat)) := hD0.out.cell p _ (by rw [ints_at _ _ hp0, hxx])
        have c1 : wr.cell? ⟨B, q, none⟩ = some (.int .i64 (y : Nat)) := hD1.out.cell q _ (by rw [ints_at _ _ hq1, hyy])
        have f0 := hD0.out.free p
        have f1 := hD1.out.free q
        have hla := hD0.out.lt
        have hlB := hD1.out.lt
        have p0 : (0 : Int) ≤ (p : Int) := by omega
        have p1 : (p : Int) < (n : Int) := by omega
        have q0 : (0 : Int) ≤ (q : Int) := by omega
        have q1 : (q : Int) < (n : Int) := by omega
        have hab := HAB.out
        have hba := HBA.out
        have HS0 := Lib.hid hs0; have HS1 := Lib.hid hs1
        have HX3 := Lib.hid hkm
        clear hx hx3 e0 e1 hxx hyy hs0 hs1 hqw hkm
        go_wp2_with fail
        go_region
        go_wp2_with fail
        go_region
        go_wp2
        go_roundw
        case rel =>
          have ex : Value.int .i64 ((x : Int) + (m : Int)) = .int .i64 ((x + m : Nat) : Int) := by simp
          have ey : Value.int .i64 ((y : Int) + (m : Int)) = .int .i64 ((y + m : Nat) : Int) := by simp
          have t0 := ((hD0.out.set p (.int .i64 ((x : Int) + (m : Int)))).setCell (j := q) hab (.int .i64 ((y : Int) + (m : Int)))).alloc (.cells #[.int .i64 p, .int .i64 q, .int .i64 m] 83)
          have t1 := ((hD1.out.setCell (j := p) hba (.int .i64 ((x : Int) + (m : Int)))).set q (.int .i64 ((y : Int) + (m : Int)))).alloc (.cells #[.int .i64 p, .int .i64 q, .int .i64 m] 83)
          have t2 := ((hB.out.setCell (p := ⟨A, p, none⟩) HAW.out (.int .i64 ((x : Int) + (m : Int)))).setCell (p := ⟨B, q, none⟩) HBW.out (.int .i64 ((y : Int) + (m : Int))))
          have t3 := (t2.alloc t2.size (.cells #[.int .i64 p, .int .i64 q, .int .i64 m] 83)).drew.drew
          have d0 : (ints D0).set p (.int .i64 ((x : Int) + (m : Int))) = ints (degAt (·.1) n ns (k + 1)) := by rw [ex, ints_set, HS0.out]
          have d1 : (ints D1).set q (.int .i64 ((y : Int) + (m : Int))) = ints (degAt (·.2.1) n ns (k + 1)) := by rw [ey, ints_set, HS1.out]
          rw [d0] at t0
          rw [d1] at t1
          exact ⟨k + 1, by omega, by go_num, Lib.hid t0, Lib.hid t1, Lib.hid t3⟩
        case measure => simp [intOf]; omega
      · obtain rfl : k = ns.length := by omega
        have HQB := Lib.hid (HQ.out.trans (hB.out.mono HQ.out.size))
        clear hB
        go_wp2
        have Q1 := hD0.out; have Q2 := hD1.out
        go_ret2
        exact ⟨_, rfl, A, B, rfl, Q1, Q2, Nat.le_trans HQ.out.size HAW.out, Nat.le_trans HQ.out.size HBW.out, HQB.out⟩
  · skip
    have hw1 : Below W.heap.size W ((W.alloc (.cells (List.replicate n (.int .i64 0)).toArray 3)).alloc (.cells (List.replicate n (.int .i64 0)).toArray 3)).drew := (((Below.refl W.heap.size W).alloc (Nat.le_refl _) _).alloc (by simp) _).drew
    have hb0 : Blk ((W.alloc (.cells (List.replicate n (.int .i64 0)).toArray 3)).alloc (.cells (List.replicate n (.int .i64 0)).toArray 3)).drew W.heap.size (List.replicate n (.int .i64 0)) 3 := (Blk.new W _ _).alloc _
    have hb1 : Blk ((W.alloc (.cells (List.replicate n (.int .i64 0)).toArray 3)).alloc (.cells (List.replicate n (.int .i64 0)).toArray 3)).drew (W.heap.size + 1) (List.replicate n (.int .i64 0)) 3 := by
      have := Blk.new (W.alloc (.cells (List.replicate n (.int .i64 0)).toArray 3)) (List.replicate n (.int .i64 0)) 3
      rw [World.size_alloc] at this; exact this
    have hE0 : Hid (W.heap.size ≤ W.heap.size) := Lib.hid (Nat.le_refl _)
    have hE1 : Hid (W.heap.size ≤ W.heap.size + 1) := Lib.hid (Nat.le_succ _)
    have HWW : ((W.alloc (.cells (List.replicate n (.int .i64 0)).toArray 3)).alloc (.cells (List.replicate n (.int .i64 0)).toArray 3)).drew = ((W.alloc (.cells (Array.replicate n (.int .i64 0)) 3)).alloc (.cells (Array.replicate n (.int .i64 0)) 3)).drew := by simp
    rw [HWW] at hw1 hb0 hb1
    clear HWW
    generalize ((W.alloc (.cells (Array.replicate n (.int .i64 0)) 3)).alloc (.cells (Array.replicate n (.int .i64 0)) 3)).drew = w1 at hw1 hb0 hb1 ⊢
    obtain ⟨A, hEA⟩ : ∃ A, W.heap.size + 1 = A := ⟨_, rfl⟩
    obtain ⟨B, hEB⟩ : ∃ B, W.heap.size = B := ⟨_, rfl⟩
    have hAB : A ≠ B := by omega
    have hBA : B ≠ A := by omega
    have HAW := Lib.hid (show W.heap.size ≤ A by omega)
    have HBW := Lib.hid (show W.heap.size ≤ B by omega)
    have hA := hb1
    have hB := hb0
    rw [hEA] at hA
    rw [hEB] at hB
    rw [hEA, hEB]
    clear hb0 hb1 hE0 hE1 hEA hEB
    have HAB := Lib.hid hAB; have HBA := Lib.hid hBA
    have hd0 : Hid (Blk w1 A (ints (degAt (·.1) n ns 0)) 3) := Lib.hid (by rw [degAt_zero, ← ints_rep]; exact hA)
    have hd1 : Hid (Blk w1 B (ints (degAt (·.2.1) n ns 0)) 3) := Lib.hid (by rw [degAt_zero, ← ints_rep]; exact hB)
    have HW1 := Lib.hid hw1
    have hg1 := (HG.out.below hw1 (Nat.le_refl _))
    have g1 := hg1.cell 1 _ rfl
    have hlg := hg1.lt
    clear hA hB hw1 hg1
    go_wp2
    go_loopw [17] (fun i wr => ∃ k : Nat, k ≤ ns.length ∧ i = .int .i64 k ∧ Hid (Blk wr A (ints (degAt (·.1) n ns k)) 3) ∧ Hid (Blk wr B (ints (degAt (·.2.1) n ns k)) 3) ∧ Hid (Below W.heap.size W wr)) (fun i _ => ns.length - (intOf i).toNat)
    case atStart => exact ⟨0, Nat.zero_le _, rfl, hd0, hd1, HW1⟩
    case round =>
      clear hd0 hd1 g1 hlg
      obtain ⟨k, hk, rfl, hD0, hD1, hB⟩ := hrel
      by_cases hkn : k < ns.length
      · have hqw := HQ.out.trans (hB.out.mono HQ.out.size)
        have hkm : k < (ns.map n3).length := by rw [HNL.out]; exact hkn
        have hrg := HR.out.rng _ (List.getElem_mem hkn)
        have hl0 := degAt_len (·.1) n ns k
        have hl1 := degAt_len (·.2.1) n ns k
        have hs0 := degAt_succ (·.1) n ns k ns[k].1 hkn rfl (by rw [hl0]; exact hrg.1)
        have hs1 := degAt_succ (·.2.1) n ns k ns[k].2.1 hkn rfl (by rw [hl1]; exact hrg.2.1)
        have hb0 := degAt_le (·.1) n ns HM.out k ns[k].1 (by rw [hl0]; exact hrg.1)
        have hb1 := degAt_le (·.2.1) n ns HM.out k ns[k].2.1 (by rw [hl1]; exact hrg.2.1)
        obtain ⟨D0, e0⟩ : ∃ D0, degAt (·.1) n ns k = D0 := ⟨_, rfl⟩
        obtain ⟨D1, e1⟩ : ∃ D1, degAt (·.2.1) n ns k = D1 := ⟨_, rfl⟩
        simp only [e0] at hl0 hs0 hb0 hD0
        simp only [e1] at hl1 hs1 hb1 hD1
        obtain ⟨⟨p, q, m⟩, hx⟩ : ∃ x, ns[k] = x := ⟨_, rfl⟩
        simp only [hx] at hrg hs0 hs1 hb0 hb1
        have hx3 : (ns.map n3)[k] = n3 (p, q, m) := by rw [List.getElem_map, hx]
        have a0 : wr.cell? ⟨b, o + k * 3, none⟩ = some (.int .i64 (p : Nat)) := hp.at hqw (Nat.le_refl _) k hkm 0 _ (by rw [hx3]; rfl)
        have a1 : wr.cell? ⟨b, o + k * 3 + 1, none⟩ = some (.int .i64 (q : Nat)) := hp.at hqw (Nat.le_refl _) k hkm 1 _ (by rw [hx3]; rfl)
        have a2 : wr.cell? ⟨b, o + k * 3 + 2, none⟩ = some (.int .i64 (m : Nat)) := hp.at hqw (Nat.le_refl _) k hkm 2 _ (by rw [hx3]; rfl)
        have hlb := (hp.below hqw (Nat.le_refl _)).1 (by omega)
        obtain ⟨r1, r2, r3, r4⟩ := hrg
        have hp0 : p < D0.length := by rw [hl0]; exact r1
        have hq1 : q < D1.length := by rw [hl1]; exact r2
        obtain ⟨x, hxx⟩ : ∃ x, D0[p] = x := ⟨_, rfl⟩
        obtain ⟨y, hyy⟩ : ∃ y, D1[q] = y := ⟨_, rfl⟩
        rw [hxx] at hs0 hb0
        rw [hyy] at hs1 hb1
        have c0 : wr.cell? ⟨A, p, none⟩ = some (.int .i64 (x : Nat)) := hD0.out.cell p _ (by rw [ints_at _ _ hp0, hxx])
        have c1 : wr.cell? ⟨B, q, none⟩ = some (.int .i64 (y : Nat)) := hD1.out.cell q _ (by rw [ints_at _ _ hq1, hyy])
        have f0 := hD0.out.free p
        have f1 := hD1.out.free q
        have hla := hD0.out.lt
        have hlB := hD1.out.lt
        have p0 : (0 : Int) ≤ (p : Int) := by omega
        have p1 : (p : Int) < (n : Int) := by omega
        have q0 : (0 : Int) ≤ (q : Int) := by omega
        have q1 : (q : Int) < (n : Int) := by omega
        have hab := HAB.out
        have hba := HBA.out
        have HS0 := Lib.hid hs0; have HS1 := Lib.hid hs1
        have HX3 := Lib.hid hkm
        clear hx hx3 e0 e1 hxx hyy hs0 hs1 hqw hkm
        go_wp2_with fail
        go_region
        go_wp2_with fail
        go_region
        go_wp2
        go_roundw
        case rel =>
          have ex : Value.int .i64 ((x : Int) + (m : Int)) = .int .i64 ((x + m : Nat) : Int) := by simp
          have ey : Value.int .i64 ((y : Int) + (m : Int)) = .int .i64 ((y + m : Nat) : Int) := by simp
          have t0 := ((hD0.out.set p (.int .i64 ((x : Int) + (m : Int)))).setCell (j := q) hab (.int .i64 ((y : Int) + (m : Int)))).alloc (.cells #[.int .i64 p, .int .i64 q, .int .i64 m] 83)
          have t1 := ((hD1.out.setCell (j := p) hba (.int .i64 ((x : Int) + (m : Int)))).set q (.int .i64 ((y : Int) + (m : Int)))).alloc (.cells #[.int .i64 p, .int .i64 q, .int .i64 m] 83)
          have t2 := ((hB.out.setCell (p := ⟨A, p, none⟩) HAW.out (.int .i64 ((x : Int) + (m : Int)))).setCell (p := ⟨B, q, none⟩) HBW.out (.int .i64 ((y : Int) + (m : Int))))
          have t3 := (t2.alloc t2.size (.cells #[.int .i64 p, .int .i64 q, .int .i64 m] 83)).drew.drew
          have d0 : (ints D0).set p (.int .i64 ((x : Int) + (m : Int))) = ints (degAt (·.1) n ns (k + 1)) := by rw [ex, ints_set, HS0.out]
          have d1 : (ints D1).set q (.int .i64 ((y : Int) + (m : Int))) = ints (degAt (·.2.1) n ns (k + 1)) := by rw [ey, ints_set, HS1.out]
          rw [d0] at t0
          rw [d1] at t1
          exact ⟨k + 1, by omega, by go_num, Lib.hid t0, Lib.hid t1, Lib.hid t3⟩
        case measure => simp [intOf]; omega
      · obtain rfl : k = ns.length := by omega
        have HQB := Lib.hid (HQ.out.trans (hB.out.mono HQ.out.size))
        clear hB
        go_wp2
        have Q1 := hD0.out; have Q2 := hD1.out
        go_ret2
        exact ⟨_, rfl, A, B, rfl, Q1, Q2, Nat.le_trans HQ.out.size HAW.out, Nat.le_trans HQ.out.size HBW.out, HQB.out⟩
end Go.Proofs.YtlnhocgjgmhfgaaGreatDoor

namespace Go.Proofs.YtlnhocgjgmhfgaaGreatDoor
open Go.RowKit
set_option maxRecDepth 100000

def b1 (x : Bool) : List Value := [.bool x]
theorem b1_len (x : Bool) : (b1 x).length = 1 := rfl
def bools (l : List Bool) : List Value := l.map .bool
def Tr (l : List Bool) (j : Nat) : Prop := l[j]? = some true
/-- What is marked grows from l to l', and all that is new is closed along the arcs that are left. -/
structure Ext (SS : List (Nat × Nat)) (us : List Bool) (l l' : List Bool) : Prop where
  len : l'.length = l.length
  mono : ∀ j, Tr l j → Tr l' j
  clo : ∀ (i : Nat) (x : Nat × Nat), SS[i]? = some x → us[i]? = some false → Tr l' x.1 → ¬ Tr l x.1 → Tr l' x.2
  cnt : l'.count false ≤ l.count false
theorem Ext.refl (SS : List (Nat × Nat)) (us l : List Bool) : Ext SS us l l := ⟨rfl, fun _ h => h, fun _ _ _ _ h h' => absurd h h', Nat.le_refl _⟩
theorem Ext.trans {SS : List (Nat × Nat)} {us l l' l'' : List Bool} (h : Ext SS us l l') (h' : Ext SS us l' l'') : Ext SS us l l'' :=
  ⟨h'.len.trans h.len, fun j hj => h'.mono j (h.mono j hj), fun i x hx hu h1 h2 => by
    by_cases h3 : Tr l' x.1
    · exact h'.mono _ (h.clo i x hx hu h3 h2)
    · exact h'.clo i x hx hu h1 h3, Nat.le_trans h'.cnt h.cnt⟩
/-- A set of vertices that is closed along the arcs that are left. -/
def Clo (SS : List (Nat × Nat)) (us : List Bool) (S : Nat → Prop) : Prop := ∀ (i : Nat) (x : Nat × Nat), SS[i]? = some x → us[i]? = some false → S x.1 → S x.2
/-- What is new lies in every closed set with v. -/
def Lea (SS : List (Nat × Nat)) (us l l' : List Bool) (v : Nat) : Prop := ∀ S, Clo SS us S → S v → ∀ j, Tr l' j → Tr l j ∨ S j
theorem tr_set (l : List Bool) (v j : Nat) (hv : v < l.length) : Tr (l.set v true) j ↔ j = v ∨ Tr l j := by
  unfold Tr
  by_cases e : v = j
  · subst e; simp [hv]
  · rw [List.getElem?_set_ne e]
    constructor
    · exact .inr
    · rintro (rfl | h)
      · exact absurd rfl e
      · exact h
theorem cnt_set (l : List Bool) (v : Nat) (hv : v < l.length) (hf : l[v] = false) : (l.set v true).count false + 1 = l.count false := by
  rw [List.count_set hv, hf]
  have : 0 < l.count false := List.count_pos_iff.2 (by rw [← hf]; exact List.getElem_mem hv)
  simp; omega
theorem Ext.root {SS : List (Nat × Nat)} {us l l' : List Bool} {v : Nat} (hv : v < l.length) (hf : l[v] = false) (h : Ext SS us (l.set v true) l') (hr : ∀ (i : Nat) (x : Nat × Nat), SS[i]? = some x → us[i]? = some false → x.1 = v → Tr l' x.2) : Ext SS us l l' := by
  refine ⟨by rw [h.len, List.length_set], fun j hj => h.mono j ((tr_set l v j hv).2 (.inr hj)), fun i x hx hu h1 h2 => ?_, ?_⟩
  · by_cases e : x.1 = v
    · exact hr i x hx hu e
    · exact h.clo i x hx hu h1 (fun h3 => by
        rcases (tr_set l v _ hv).1 h3 with h4 | h4
        · exact e h4
        · exact h2 h4)
  · have := h.cnt; have := cnt_set l v hv hf; omega
theorem bools_at (l : List Bool) (i : Nat) (h : i < l.length) : (bools l)[i]? = some (.bool l[i]) := by simp [bools, h]
theorem bools_set (l : List Bool) (i : Nat) (x : Bool) : (bools l).set i (.bool x) = bools (l.set i x) := by simp [bools, List.map_set]

/-- The boxes that the closure reads. -/
structure RB (w : World) (n sb eb ub fb G b o b2 o2 : Nat) (ea ua : Option Addr) (ec uc : Nat) (SS : List (Nat × Nat)) (us : List Bool) : Prop where
  s : Blk w sb [.slice (some ⟨G, 0, none⟩) n n] 102
  e : Blk w eb [.slice ea SS.length ec] 54
  u : Blk w ub [.slice ua us.length uc] 102
  f : Blk w fb [.func (.func 93) #[] #[.pointer (some ⟨sb, 0, none⟩), .pointer (some ⟨eb, 0, none⟩), .pointer (some ⟨ub, 0, none⟩), .pointer (some ⟨fb, 0, none⟩)]] 154
  hs : sb ≠ G
  he : eb ≠ G
  hu : ub ≠ G
  hf : fb ≠ G
  c : CellsK p2 2 w b o SS
  d : CellsK b1 1 w b2 o2 us
  hb : 0 < SS.length → b ≠ G
  hb2 : 0 < us.length → b2 ≠ G
theorem CellsK.grown {α : Type} {enc : α → List Value} {k : Nat} {w w' : World} {b o : Nat} {xs : List α} {r : Option Nat} (h : CellsK enc k w b o xs) (hg : w.grownBy w' r) (hne : 0 < xs.length → r ≠ some b) : CellsK enc k w' b o xs :=
  ⟨fun h0 => Nat.lt_of_lt_of_le (h.1 h0) hg.size, fun i hi j u hu => by
    have h0 : 0 < xs.length := by omega
    rw [World.cell?_of_block (w := w) (a := ⟨b, o + i * k + j, none⟩) (hg.block b (h.1 h0) (fun e => hne h0 e.symm))]; exact h.2 i hi j u hu⟩
theorem Blk.grown {w w' : World} {g : Nat} {cs : List Value} {T : TypeId} {r : Option Nat} (h : Blk w g cs T) (hg : w.grownBy w' r) (hne : r ≠ some g) : Blk w' g cs T := (hg.block g h.lt (fun e => hne e.symm)).trans h
theorem RB.grown {w w' : World} {n sb eb ub fb G b o b2 o2 : Nat} {ea ua : Option Addr} {ec uc : Nat} {SS : List (Nat × Nat)} {us : List Bool} (h : RB w n sb eb ub fb G b o b2 o2 ea ua ec uc SS us) (hg : w.grownBy w' (some G)) : RB w' n sb eb ub fb G b o b2 o2 ea ua ec uc SS us :=
  ⟨h.s.grown hg (fun e => h.hs (by simpa using e.symm)), h.e.grown hg (fun e => h.he (by simpa using e.symm)), h.u.grown hg (fun e => h.hu (by simpa using e.symm)), h.f.grown hg (fun e => h.hf (by simpa using e.symm)), h.hs, h.he, h.hu, h.hf,
    h.c.grown hg (fun h0 e => h.hb h0 (by simpa using e.symm)), h.d.grown hg (fun h0 e => h.hb2 h0 (by simpa using e.symm)), h.hb, h.hb2⟩
theorem grown_refl (w : World) (r : Option Nat) : w.grownBy w r := ⟨rfl, rfl, rfl, Nat.le_refl _, fun _ _ _ => rfl⟩
theorem grown_trans {w w' w'' : World} {r : Option Nat} (h : w.grownBy w' r) (h' : w'.grownBy w'' r) : w.grownBy w'' r :=
  ⟨h'.os.trans h.os, h'.tape.trans h.tape, h'.output.trans h.output, Nat.le_trans h.size h'.size, fun k hk hne => (h'.block k (Nat.lt_of_lt_of_le hk h.size) hne).trans (h.block k hk hne)⟩
theorem grown_set {w w' : World} {g : Nat} (h : w.grownBy w' (some g)) (j : Nat) (u : Value) : w.grownBy (w'.setCell ⟨g, j, none⟩ u) (some g) :=
  ⟨h.os, h.tape, h.output, Nat.le_trans h.size (by simp), fun k hk hne => (Below.heap_setCell _ _ _ _ (fun e => hne (by rw [e]))).trans (h.block k hk hne)⟩
theorem grown_alloc {w w' : World} {r : Option Nat} (h : w.grownBy w' r) (o : Obj) : w.grownBy (w'.alloc o) r := grown_trans h (World.grownBy_alloc w' o r)

set_option maxHeartbeats 4000000 in
theorem walk_ok (n sb eb ub fb G b o b2 o2 : Nat) (ea ua : Option Addr) (ec uc : Nat) (SS : List (Nat × Nat)) (us : List Bool) (hus : us.length = SS.length) (hrg : ∀ x ∈ SS, x.1 < n ∧ x.2 < n) (_ : n ≤ 12) (hSS : SS.length ≤ 1000000)
    (hie : ∀ (m : Nat) (i : Int) (W : World), (Instr.indexAt 54 (.slice ea m ec) (.int .i64 i)).run Tryz.prog W = if 0 ≤ i ∧ i < m ∧ m ≤ SS.length then .ok (.pointer (some ⟨b, o + i.toNat * 2, none⟩)) W else oob Tryz.prog 54 (.slice ea m ec) i W)
    (hiu : ∀ (m : Nat) (i : Int) (W : World), (Instr.indexAt 102 (.slice ua m uc) (.int .i64 i)).run Tryz.prog W = if 0 ≤ i ∧ i < m ∧ m ≤ us.length then .ok (.pointer (some ⟨b2, o2 + i.toNat * 1, none⟩)) W else oob Tryz.prog 102 (.slice ua m uc) i W) :
    ∀ (f : Nat) (w : World) (l : List Bool) (v : Nat), RB w n sb eb ub fb G b o b2 o2 ea ua ec uc SS us → Blk w G (bools l) 4 → l.length = n → (hv : v < l.length) → l[v] = false → l.count false ≤ f →
      Calls Tryz.prog 93 #[.int .i64 (v : Nat), .pointer (some ⟨sb, 0, none⟩), .pointer (some ⟨eb, 0, none⟩), .pointer (some ⟨ub, 0, none⟩), .pointer (some ⟨fb, 0, none⟩)] w
        (Rets fun r w' => r = .tuple #[] ∧ ∃ l', Blk w' G (bools l') 4 ∧ Ext SS us l l' ∧ Tr l' v ∧ Lea SS us l l' v ∧ w.grownBy w' (some G)) := by
  intro f
  induction f with
  | zero =>
    intro w l v _ _ _ hv hf hc
    have : 0 < l.count false := List.count_pos_iff.2 (by rw [← hf]; exact List.getElem_mem hv)
    omega
  | succ f ih =>
    intro w l v hB hG hln hv hf hc
    have IH := Lib.hid ih
    have HUS := Lib.hid hus; have HRG := Lib.hid hrg; have HF := Lib.hid hf
    have s0 := hB.s.cell 0 _ rfl
    have hsl := hB.s.lt
    have hGl := hG.lt
    have e0 := hB.e.cell 0 _ rfl
    have hel := hB.e.lt
    have hul := hB.u.lt
    have hfl := hB.f.lt
    have hsG := hB.hs
    have heG := hB.he
    have huG := hB.hu
    have hfG := hB.hf
    have fz := hG.free v
    have c0 := hG.cell v _ (bools_at l v hv)
    have v0 : (0 : Int) ≤ (v : Int) := by omega
    have v1 : (v : Int) < (n : Int) := by omega
    have L0 := Lib.hid (show Blk (w.setCell ⟨G, v, none⟩ (.bool true)) G (bools (l.set v true)) 4 by rw [← bools_set]; exact hG.set v _)
    have G0 := Lib.hid (grown_set (grown_refl w (some G)) v (.bool true))
    have HB := Lib.hid hB
    clear hB hG ih hus hrg hf
    go_enter Tryz.func93, Tryz.ntmps93
    go_wp2
    have E0 := Lib.hid (Ext.refl SS us (l.set v true))
    have A0 : Hid (Lea SS us l (l.set v true) v) := Lib.hid (fun S _ hSv j hj => by
      rcases (tr_set l v j hv).1 hj with rfl | h
      · exact .inr hSv
      · exact .inl h)
    have hcl : (l.set v true).count false ≤ f := by have := cnt_set l v hv HF.out; omega
    have HCL := Lib.hid hcl
    have hls : (l.set v true).length = n := by rw [List.length_set, hln]
    have hlv : Tr (l.set v true) v := (tr_set l v v hv).2 (.inl rfl)
    have HLV := Lib.hid hlv
    clear c0 fz s0 e0 hcl hlv hsl hGl hel hul hfl
    go_loopw [13] (fun i wr => ∃ (k : Nat) (lc : List Bool), k ≤ SS.length ∧ i = .int .i64 k ∧ Hid (Blk wr G (bools lc) 4) ∧ Hid (Ext SS us (l.set v true) lc) ∧ Hid (∀ (i : Nat) (x : Nat × Nat), i < k → SS[i]? = some x → us[i]? = some false → x.1 = v → Tr lc x.2) ∧ Hid (Lea SS us l lc v) ∧ Hid (w.grownBy wr (some G))) (fun i _ => SS.length - (intOf i).toNat)
    case atStart => exact ⟨0, _, Nat.zero_le _, rfl, L0, E0, Lib.hid (fun i x h => absurd h (Nat.not_lt_zero _)), A0, G0⟩
    case round =>
      clear L0 E0 G0 A0
      obtain ⟨k, lc, hk, rfl, hL, hE, hX, hA, hg⟩ := hrel
      have hBr := HB.out.grown hg.out
      have hlc : lc.length = n := by rw [hE.out.len, hls]
      by_cases hkn : k < SS.length
      · obtain ⟨⟨p, q⟩, hx⟩ : ∃ x, SS[k] = x := ⟨_, rfl⟩
        have hrg := HRG.out _ (List.getElem_mem hkn)
        rw [hx] at hrg
        obtain ⟨r1, r2⟩ := hrg
        simp only at r1 r2
        have hku : k < us.length := by rw [HUS.out]; exact hkn
        obtain ⟨uk, huk⟩ : ∃ x, us[k] = x := ⟨_, rfl⟩
        have hql : q < lc.length := by rw [hlc]; exact r2
        obtain ⟨lq, hlq⟩ : ∃ x, lc[q] = x := ⟨_, rfl⟩
        have a0 : wr.cell? ⟨b, o + k * 2, none⟩ = some (.int .i64 (p : Nat)) := hBr.c.2 k hkn 0 _ (by rw [hx]; rfl)
        have a1 : wr.cell? ⟨b, o + k * 2 + 1, none⟩ = some (.int .i64 (q : Nat)) := hBr.c.2 k hkn 1 _ (by rw [hx]; rfl)
        have u0 : wr.cell? ⟨b2, o2 + k, none⟩ = some (.bool uk) := by
          have := hBr.d.2 k hku 0 (.bool uk) (by rw [huk]; rfl)
          rwa [Nat.mul_one, Nat.add_zero] at this
        have c0 : wr.cell? ⟨G, q, none⟩ = some (.bool lq) := by rw [← hlq]; exact hL.out.cell q _ (bools_at lc q hql)
        have s0 := hBr.s.cell 0 _ rfl
        have e0 := hBr.e.cell 0 _ rfl
        have t0 := hBr.u.cell 0 _ rfl
        have f0 := hBr.f.cell 0 _ rfl
        have hsl := hBr.s.lt
        have hel := hBr.e.lt
        have hul := hBr.u.lt
        have hfl := hBr.f.lt
        have hGl := hL.out.lt
        have hbl := hBr.c.1 (by omega)
        have hb2l := hBr.d.1 (by omega)
        have q0 : (0 : Int) ≤ (q : Int) := by omega
        have q1 : (q : Int) < (n : Int) := by omega
        have k1 : (k : Int) < (us.length : Int) := by omega
        have HBr := Lib.hid hBr
        have HSK := Lib.hid (show SS[k]? = some (p, q) by rw [List.getElem?_eq_getElem hkn, hx])
        have HUK := Lib.hid (show us[k]? = some uk by rw [List.getElem?_eq_getElem hku, huk])
        have HLQ := Lib.hid (show lc[q]? = some lq by rw [List.getElem?_eq_getElem hql, hlq])
        clear hx huk hlq hBr
        by_cases hpv : p = v
        · subst hpv
          have hpe : ((p : Int) == (p : Int)) = true := by simp
          cases uk
          · cases lq
            · have hql2 : q < lc.length := hql
              have hqf : lc[q] = false := by have := HLQ.out; rw [List.getElem?_eq_getElem hql] at this; simpa using this
              have hcn : lc.count false ≤ f := Nat.le_trans hE.out.cnt HCL.out
              have hRA := HBr.out.grown (World.grownBy_alloc wr (.cells #[.int .i64 p, .int .i64 q] 60) (some G))
              have hLA := hL.out.alloc (.cells #[.int .i64 p, .int .i64 q] 60)
              have CALL := Lib.hid (IH.out (wr.alloc (.cells #[.int .i64 p, .int .i64 q] 60)) lc q hRA hLA hlc hql hqf hcn)
              have HLC := Lib.hid hL.out; have HEC := Lib.hid hE.out; have HXC := Lib.hid hX.out; have HAC := Lib.hid hA.out; have HGC := Lib.hid hg.out
              clear hRA hLA hcn hqf hql2
              go_wp2_with (go_at_call 93; (with_reducible refine CALL.out.mono ?_); rintro e w2 ⟨v, rfl, rfl, l2, hL2, hE2, hT2, hA2, hg2⟩; have HA2 := Lib.hid hA2; clear hA2; have HL2 := Lib.hid hL2; have HE2 := Lib.hid hE2; have HT2 := Lib.hid hT2; have HG2 := Lib.hid hg2; clear hL2 hE2 hT2 hg2 a0 a1 u0 c0 s0 e0 t0 f0)
              go_roundw
              case rel => exact ⟨k + 1, l2, by omega, by go_num, HL2, Lib.hid (HEC.out.trans HE2.out), Lib.hid (fun i x hi h1 h2 h3 => by
                by_cases e : i = k
                · subst e
                  rw [HSK.out] at h1
                  simp only [Option.some.injEq] at h1
                  subst h1
                  exact HT2.out
                · exact HE2.out.mono _ (HXC.out i x (by omega) h1 h2 h3)), Lib.hid (fun S hC hS j hj => by
                rcases HA2.out S hC (hC k _ HSK.out HUK.out hS) j hj with h | h
                · exact HAC.out S hC hS j h
                · exact .inr h), Lib.hid (grown_trans (grown_alloc HGC.out _) HG2.out)⟩
              case measure => simp [intOf]; omega
            · go_wp2
              go_roundw
              case rel => exact ⟨k + 1, lc, by omega, by go_num, Lib.hid (hL.out.alloc _), hE, Lib.hid (fun i x hi h1 h2 h3 => by
                by_cases e : i = k
                · subst e
                  rw [HSK.out] at h1
                  simp only [Option.some.injEq] at h1
                  subst h1
                  exact HLQ.out
                · exact hX.out i x (by omega) h1 h2 h3), hA, Lib.hid (grown_alloc hg.out _)⟩
              case measure => simp [intOf]; omega
          · go_wp2
            go_roundw
            case rel => exact ⟨k + 1, lc, by omega, by go_num, Lib.hid (hL.out.alloc _), hE, Lib.hid (fun i x hi h1 h2 h3 => by
              by_cases e : i = k
              · subst e
                rw [HUK.out] at h2
                simp at h2
              · exact hX.out i x (by omega) h1 h2 h3), hA, Lib.hid (grown_alloc hg.out _)⟩
            case measure => simp [intOf]; omega
        · have hpe : ((p : Int) == (v : Int)) = false := by simp; omega
          go_wp2
          go_roundw
          case rel => exact ⟨k + 1, lc, by omega, by go_num, Lib.hid (hL.out.alloc _), hE, Lib.hid (fun i x hi h1 h2 h3 => by
            by_cases e : i = k
            · subst e
              rw [HSK.out] at h1
              simp only [Option.some.injEq] at h1
              subst h1
              exact absurd h3 hpv
            · exact hX.out i x (by omega) h1 h2 h3), hA, Lib.hid (grown_alloc hg.out _)⟩
          case measure => simp [intOf]; omega
      · obtain rfl : k = SS.length := by omega
        have hL1 := hL.out; have hA1 := hA.out; have hE1 := hE.out; have hg1 := hg.out
        have hroot := Ext.root hv HF.out hE1 (fun i x h1 h2 h3 => hX.out i x (List.getElem?_eq_some_iff.1 h1).1 h1 h2 h3)
        have HFIN := Lib.hid (show ∃ l', Blk wr G (bools l') 4 ∧ Ext SS us l l' ∧ Tr l' v ∧ Lea SS us l l' v ∧ w.grownBy wr (some G) from ⟨lc, hL1, hroot, hE1.mono _ HLV.out, hA1, hg1⟩)
        clear hL hE hX hg hA hL1 hE1 hA1 hg1 hroot hBr
        go_wp2
        exact bodyPost_ret (v := .tuple #[]) (by simp [results, Tryz.results93, go_sem]) rfl ⟨_, rfl, rfl, HFIN.out⟩
end Go.Proofs.YtlnhocgjgmhfgaaGreatDoor
