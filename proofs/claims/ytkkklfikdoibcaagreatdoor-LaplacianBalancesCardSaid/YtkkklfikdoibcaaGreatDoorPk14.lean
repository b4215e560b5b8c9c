/- Right digraphs: the walks of notation's Check and of euler's arcs. The walk of euler's arcs, and of Ends. Rows of numbers behind a slice of slices: each row owned. Images of small scripts, of sums and of scripts that are the same everywhere, in plain words. -/
import Derived.Test.YtkkklfikdoibcaaGreatDoorPk2
import Derived.Maps.AppendAt
import Derived.Test.YtkkklfikdoibcaaGreatDoorPk9
import Derived.Test.YtkkklfikdoibcaaGreatDoorPk10
import Derived.Test.YtkkklfikdoibcaaGreatDoorPk11
namespace Go.Proofs.YtkkklfikdoibcaaGreatDoor
open Go.RowKit
set_option maxRecDepth 100000

/-- A right digraph. -/
structure RD (n : Nat) (ns : List (Nat × Nat × Nat)) : Prop where
  pos : 1 ≤ n
  le : n ≤ 12
  rng : ∀ x ∈ ns, x.1 < n ∧ x.2.1 < n ∧ 1 ≤ x.2.2 ∧ x.2.2 ≤ 50
  asc : ns.Pairwise fun x y => x.1 < y.1 ∨ (x.1 = y.1 ∧ x.2.1 < y.2.1)
def lastN (ns : List (Nat × Nat × Nat)) (k : Nat) : Int × Int := lastE (ns.map n3) k
theorem lastN_lt {n : Nat} {ns : List (Nat × Nat × Nat)} (h : RD n ns) (k : Nat) (hk : k < ns.length) :
    (lastN ns k).1 < (ns[k].1 : Int) ∨ ((lastN ns k).1 = (ns[k].1 : Int) ∧ (lastN ns k).2 < (ns[k].2.1 : Int)) := by
  unfold lastN lastE
  split
  · left; simp only; omega
  · have hk1 : k - 1 < ns.length := by omega
    have := List.pairwise_iff_getElem.1 h.asc (k - 1) k hk1 hk (by omega)
    simp [List.getD_eq_getElem?_getD, hk1, n3]
    omega

theorem nwithin_any (w : World) (v lo hi : Int) (h1 : lo ≤ v) (h2 : v ≤ hi) : Calls Tryz.prog 167 #[.int .i64 v, .int .i64 lo, .int .i64 hi] w (Rets fun r w' => r = .bool true ∧ w = w') := by
  go_enter Tryz.func167, Tryz.ntmps167
  go_wp2
  go_ret
  exact ⟨_, rfl, rfl, rfl⟩

set_option maxHeartbeats 4000000 in
theorem NCheck_ok (w : World) (n : Nat) (v : Value) (ns : List (Nat × Nat × Nat)) (hR : RD n ns) (hv : SlK e3 3 w v (ns.map n3)) :
    Calls Tryz.prog 115 #[.agg #[.int .i64 (n : Nat), v]] w (Rets fun r w' => r = .int .i64 0 ∧ Below w.heap.size w w') := by
  obtain ⟨ad, b, o, c, rfl, hi, hp, hc, hm⟩ := hv.open elemArc
  have hnl : (ns.map n3).length = ns.length := List.length_map _
  rw [hnl] at hi hc ⊢
  unfold maxLen at hm
  have n1 : (1 : Int) ≤ (n : Int) := by have := hR.pos; omega
  have n12 : (n : Int) ≤ 12 := by have := hR.le; omega
  have HR := Lib.hid hR; have HNL := Lib.hid hnl
  have HG := Lib.hid (Blk.new w [.int .i64 (n : Nat), .slice ad ns.length c] 71)
  have HQ := Lib.hid ((Below.refl w.heap.size w).alloc (Nat.le_refl _) (.cells #[.int .i64 (n : Nat), .slice ad ns.length c] 71))
  obtain ⟨W, hW⟩ : ∃ W, w.alloc (.cells #[.int .i64 (n : Nat), .slice ad ns.length c] 71) = W := ⟨_, rfl⟩
  have hWs : W.heap.size = w.heap.size + 1 := by rw [← hW]; simp
  rw [show [Value.int .i64 (n : Nat), .slice ad ns.length c].toArray = #[Value.int .i64 (n : Nat), .slice ad ns.length c] from rfl, hW] at HG
  rw [hW] at HQ
  have HW := Lib.hid hW; have HWS := Lib.hid hWs
  have HL0 := Lib.hid (Blk.new W [.int .i64 (-1), .int .i64 (-1)] 100)
  have HB0 := Lib.hid ((Below.refl W.heap.size W).alloc (Nat.le_refl _) (.cells #[.int .i64 (-1), .int .i64 (-1)] 100))
  rw [HWS.out] at HL0
  have g0 := HG.out.cell 0 _ rfl
  have hlg := HG.out.lt
  clear hW hWs hv hR hnl
  go_enter Tryz.func115, Tryz.ntmps115
  clear g0 hlg
  go_wp2_with (go_at_call 167; (with_reducible refine (nwithin_any _ (n : Nat) 1 12 n1 n12).mono ?_); rintro e w' ⟨v, rfl, rfl, rfl⟩)
  rw [HW.out]
  go_loopw [15] (fun i wr => ∃ k : Nat, k ≤ ns.length ∧ i = .int .i64 k ∧ Hid (Blk wr (w.heap.size + 1) [.int .i64 (lastN ns k).1, .int .i64 (lastN ns k).2] 100) ∧ Hid (Below W.heap.size W wr)) (fun i _ => ns.length - (intOf i).toNat)
  case atStart => exact ⟨0, Nat.zero_le _, rfl, HL0, HB0⟩
  case round =>
    clear HL0 HB0
    obtain ⟨k, hk, rfl, hL, hB⟩ := hrel
    by_cases hkn : k < ns.length
    · have hqw := HQ.out.trans (hB.out.mono HQ.out.size)
      have hkm : k < (ns.map n3).length := by rw [HNL.out]; exact hkn
      have HLS := Lib.hid (show lastN ns (k + 1) = ((ns[k].1 : Int), (ns[k].2.1 : Int)) by unfold lastN; rw [lastE_succ _ k hkm, List.getElem_map]; rfl)
      have hlt := lastN_lt HR.out k hkn
      have hrg := HR.out.rng _ (List.getElem_mem hkn)
      obtain ⟨⟨p, q, m⟩, hx⟩ : ∃ x, ns[k] = x := ⟨_, rfl⟩
      have hx3 : (ns.map n3)[k] = n3 (p, q, m) := by rw [List.getElem_map, hx]
      have a0 : wr.cell? ⟨b, o + k * 3, none⟩ = some (.int .i64 (p : Nat)) := hp.at hqw (Nat.le_refl _) k hkm 0 _ (by rw [hx3]; rfl)
      have a1 : wr.cell? ⟨b, o + k * 3 + 1, none⟩ = some (.int .i64 (q : Nat)) := hp.at hqw (Nat.le_refl _) k hkm 1 _ (by rw [hx3]; rfl)
      have a2 : wr.cell? ⟨b, o + k * 3 + 2, none⟩ = some (.int .i64 (m : Nat)) := hp.at hqw (Nat.le_refl _) k hkm 2 _ (by rw [hx3]; rfl)
      have hGr := HG.out.below hB.out (Nat.le_refl _)
      have g0 := hGr.cell 0 _ rfl
      have l0 := hL.out.cell 0 _ rfl
      have l1 := hL.out.cell 1 _ rfl
      have hlb := (hp.below hqw (Nat.le_refl _)).1 (by omega)
      have hlg := hGr.lt
      have hll := hL.out.lt
      rw [hx] at HLS hlt hrg
      obtain ⟨⟨x1, x2⟩, hl⟩ : ∃ l, lastN ns k = l := ⟨_, rfl⟩
      rw [hl] at l0 l1 hL hlt
      simp only at HLS l0 l1 hlt hrg
      obtain ⟨r1, r2, r3, r4⟩ := hrg
      have hL2 : Hid (Blk wr (w.heap.size + 1) [.int .i64 x1, .int .i64 x2] 100) := Lib.hid hL.out
      obtain ⟨z, hz⟩ : ∃ z, cmpP x1 x2 p q = z := ⟨_, rfl⟩
      have hzz := cmpP_nonneg x1 x2 p q
      rw [hz] at hzz
      have HZ := Lib.hid hz
      have hz0 : z < 0 := by
        rcases Int.lt_or_le z 0 with h | h
        · exact h
        · exact absurd hlt (hzz.1 h)
      have hz2 : ¬ (0 : Int) ≤ z := by omega
      have p0 : (0 : Int) ≤ (p : Int) := by omega
      have p1 : (p : Int) ≤ (n : Int) - 1 := by omega
      have q0 : (0 : Int) ≤ (q : Int) := by omega
      have q1 : (q : Int) ≤ (n : Int) - 1 := by omega
      have m0 : (1 : Int) ≤ (m : Int) := by omega
      have m1 : (m : Int) ≤ 50 := by omega
      clear hx hx3 hGr hl hL hqw hzz hz hlt
      go_wp2_with (first
        | (go_at_call 167; (first | with_reducible refine (nwithin_any _ (p : Nat) 0 ((n : Nat) - 1) p0 p1).mono ?_ | with_reducible refine (nwithin_any _ (q : Nat) 0 ((n : Nat) - 1) q0 q1).mono ?_ | with_reducible refine (nwithin_any _ (m : Nat) 1 50 m0 m1).mono ?_); rintro e w' ⟨v, rfl, rfl, rfl⟩)
        | (go_at_call 168; (with_reducible refine (arrCmp_any _ x1 x2 p q).mono ?_); rintro e w2 ⟨v, rfl, rfl, hb2⟩; rw [HZ.out]; have HL3 := Lib.hid (((hL2.out.alloc (.cells #[.int .i64 p, .int .i64 q, .int .i64 m] 160)).alloc (.cells #[.int .i64 p, .int .i64 q] 100)).below hb2 (Nat.le_refl _)); have HP3 := Lib.hid ((show Blk ((wr.alloc (.cells #[.int .i64 p, .int .i64 q, .int .i64 m] 160)).alloc (.cells #[.int .i64 p, .int .i64 q] 100)) (wr.heap.size + 1) [.int .i64 p, .int .i64 q] 100 by have := Blk.new (wr.alloc (.cells #[.int .i64 p, .int .i64 q, .int .i64 m] 160)) [.int .i64 p, .int .i64 q] 100; rwa [World.size_alloc] at this).below hb2 (Nat.le_refl _)); have y0 := HL3.out.cell 0 _ rfl; have y1 := HL3.out.cell 1 _ rfl; have f0 := HL3.out.free 0; have f1 := HL3.out.free 1; have z0 := HP3.out.cell 0 _ rfl; have z1 := HP3.out.cell 1 _ rfl))
      have hbw : Below W.heap.size W w2 := ((hB.out.alloc hB.out.size _).alloc (Nat.le_trans hB.out.size (by simp)) _).trans (hb2.mono (Nat.le_trans hB.out.size (by simp; omega)))
      have HBW := Lib.hid hbw
      clear hbw hb2 y0 y1 f0 f1 z0 z1
      go_roundw
      case rel => exact ⟨k + 1, by omega, by go_num, Lib.hid (by rw [HLS.out]; exact (HL3.out.set 0 (.int .i64 p)).set 1 (.int .i64 q)), Lib.hid ((HBW.out.setCell (p := ⟨w.heap.size + 1, 0, none⟩) (by rw [HWS.out]; exact Nat.le_refl _) (.int .i64 p)).setCell (p := ⟨w.heap.size + 1, 1, none⟩) (by rw [HWS.out]; exact Nat.le_refl _) (.int .i64 q))⟩
      case measure => simp [intOf]; omega
    · obtain rfl : k = ns.length := by omega
      have q := HQ.out.trans (hB.out.mono HQ.out.size)
      clear hL hB
      go_wp2
      go_ret
      exact ⟨_, rfl, rfl, q⟩
end Go.Proofs.YtkkklfikdoibcaaGreatDoor

namespace Go.Proofs.YtkkklfikdoibcaaGreatDoor
open Go.RowKit
set_option maxRecDepth 100000

section
variable {P : Program} {t e : TypeId} {z : Value} {size bytes : Nat} {ops : Array Oper} {rest : List Oper} {o : Oper} {a : Act} {Q : Exit → Act → World → Prop}
/-- appM, with what turned and where the row lies. -/
theorem appMG (hE : ElemOk P t e z size bytes) (hgd : o.guard = none) (s x : Operand) (ho : o.op = .call { callee := .builtin .append, args := #[s, x], argTypes := #[t, t] })
    {v : Value} {n m c base B : Nat} {xs news : List Value} {w0 W : World} (hs : a.eval s = v) (hx : a.eval x = .slice (some ⟨w0.heap.size, 0, none⟩) m c)
    (hown : w0.ownsRow base e size v n xs) (hb : Below B W w0) (hB : B ≤ base) (hbase : base ≤ w0.heap.size) (hl : news.length = m * size) (h1 : ∀ u ∈ news, u.oneCell' = true)
    (hn : (n + m) * bytes ≤ 140737488355328) (hn' : n + m ≤ maxLen)
    (h : ∀ v' w', w'.ownsRow base e size v' (n + m) (xs ++ news) → Below B W w' → (w0.alloc (.cells news.toArray e)).grownBy w' v.ownBlock → (v'.ownBlock = v.ownBlock ∨ v'.ownBlock = some (w0.heap.size + 1)) → wpList P ops Q rest (a.put o.dst v') w') :
    wpList P ops Q (o :: rest) a (w0.alloc (.cells news.toArray e)) := by
  obtain ⟨i, hi, hz, hsz, hby⟩ := hE.info
  refine wpList_append_own_at _ hgd s x t ho base e i z size bytes hE.und hi hz hsz hby hE.cells hE.pos v n xs hs (hown.alloc _) ⟨w0.heap.size, 0, none⟩ m c news hx (by rw [hl]) ?_ h1 hn' hn (by simp; omega) ?_
  · intro j u hj
    rw [addr0]
    rw [cell_of_row _ w0.heap.size j news.toArray e (0, 0) (heap_alloc_new w0 _)]
    simpa using hj
  · intro v' w' ho' hg _ hat
    rw [World.size_alloc] at hat
    exact h v' w' ho' ((hb.alloc (by omega) _).grown hg (by simp; omega) (fun j hj => by have := (hown.lt j hj).1; omega)) hg hat
end
theorem own_ne {w : World} {b e s n g : Nat} {v : Value} {ys : List Value} (h : w.ownsRow b e s v n ys) (hg : w.heap.size ≤ g) : v.ownBlock ≠ some g := fun e => by
  have := (h.lt g e).2; omega

set_option maxHeartbeats 4000000 in
theorem arcs_ok (w : World) (n : Int) (v : Value) (ns : List (Nat × Nat × Nat)) (hv : SlK e3 3 w v (ns.map n3)) (hm : ∀ x ∈ ns, x.2.2 ≤ 50) (hl : ns.length ≤ 100000) :
    Calls Tryz.prog 112 #[.agg #[.int .i64 n, v]] w (Rets fun r w' => w'.ownsRow w.heap.size 100 2 r (sgl ns).length ((sgl ns).flatMap p2) ∧ Below w.heap.size w w') := by
  obtain ⟨ad, b, o, c, rfl, hi, hp, hc, hcm⟩ := hv.open elemArc
  have hnl : (ns.map n3).length = ns.length := List.length_map _
  rw [hnl] at hi hc ⊢
  unfold maxLen at hcm
  have HSL := Lib.hid (sgl_le ns hm); have HM := Lib.hid hm; have HNL := Lib.hid hnl
  have HQ := Lib.hid ((Below.refl w.heap.size w).alloc (Nat.le_refl _) (.cells #[.int .i64 n, .slice ad ns.length c] 71))
  have HG := Lib.hid (Blk.new w [.int .i64 n, .slice ad ns.length c] 71)
  obtain ⟨W, hW⟩ : ∃ W, w.alloc (.cells #[.int .i64 n, .slice ad ns.length c] 71) = W := ⟨_, rfl⟩
  rw [show [Value.int .i64 n, .slice ad ns.length c].toArray = #[Value.int .i64 n, .slice ad ns.length c] from rfl, hW] at HG
  rw [hW] at HQ
  have HW := Lib.hid hW
  have B0 := Lib.hid (Below.refl W.heap.size W)
  clear hW hv hm hnl
  go_enter Tryz.func112, Tryz.ntmps112
  go_wp2
  rw [HW.out]
  have O0 : Hid (W.ownsRow W.heap.size 100 2 (.slice none 0 0) (sgl (ns.take 0)).length ((sgl (ns.take 0)).flatMap p2)) := Lib.hid (World.ownsRow_nil _ _ _ _)
  go_loopw [3, 9] (fun out i wr => ∃ k : Nat, k ≤ ns.length ∧ i = .int .i64 k ∧ Hid (wr.ownsRow W.heap.size 100 2 out (sgl (ns.take k)).length ((sgl (ns.take k)).flatMap p2)) ∧ Hid (Below W.heap.size W wr)) (fun _ i _ => ns.length - (intOf i).toNat)
  case atStart => exact ⟨0, Nat.zero_le _, rfl, O0, B0⟩
  case round =>
    clear O0 B0
    obtain ⟨k, hk, rfl, hO, hB⟩ := hrel
    obtain ⟨wq, hwq⟩ : ∃ wq, wq = wr := ⟨_, rfl⟩
    subst hwq
    have HQW := Lib.hid (HQ.out.trans (hB.out.mono HQ.out.size))
    by_cases hkn : k < ns.length
    · obtain ⟨⟨p, q, m⟩, hx⟩ : ∃ x, ns[k] = x := ⟨_, rfl⟩
      have hkm : k < (ns.map n3).length := by rw [HNL.out]; exact hkn
      have hx3 : (ns.map n3)[k] = n3 (p, q, m) := by rw [List.getElem_map, hx]
      have a0 : wq.cell? ⟨b, o + k * 3, none⟩ = some (.int .i64 (p : Nat)) := hp.at HQW.out (Nat.le_refl _) k hkm 0 _ (by rw [hx3]; rfl)
      have a1 : wq.cell? ⟨b, o + k * 3 + 1, none⟩ = some (.int .i64 (q : Nat)) := hp.at HQW.out (Nat.le_refl _) k hkm 1 _ (by rw [hx3]; rfl)
      have a2 : wq.cell? ⟨b, o + k * 3 + 2, none⟩ = some (.int .i64 (m : Nat)) := hp.at HQW.out (Nat.le_refl _) k hkm 2 _ (by rw [hx3]; rfl)
      have hm50 : m ≤ 50 := by have := HM.out ns[k] (List.getElem_mem hkn); rw [hx] at this; exact this
      have HTK := Lib.hid (sgl_take ns k hkn)
      rw [hx] at HTK
      have hsl := HSL.out k
      have hlb := (hp.below HQW.out (Nat.le_refl _)).1 (by omega)
      obtain ⟨S, hS⟩ : ∃ S, sgl (ns.take k) = S := ⟨_, rfl⟩
      rw [hS] at hO HTK hsl
      simp only at HTK
      clear hx hx3 hS
      obtain ⟨ua, uc, rfl⟩ := own_formK hO.out
      have O1 : Hid ((wq.alloc (.cells #[.int .i64 p, .int .i64 q, .int .i64 m] 160)).ownsRow W.heap.size 100 2 (.slice ua S.length uc) (S ++ List.replicate 0 (p, q)).length ((S ++ List.replicate 0 (p, q)).flatMap p2)) := Lib.hid (by simpa using hO.out.alloc _)
      have B1 := Lib.hid (hB.out.alloc hB.out.size (.cells #[.int .i64 p, .int .i64 q, .int .i64 m] 160))
      have X1 := Lib.hid (Blk.new wq [.int .i64 p, .int .i64 q, .int .i64 m] 160)
      have NB := Lib.hid (own_ne hO.out (Nat.le_refl _))
      have hws := hB.out.size
      go_wp2
      clear a0 a1 a2 hlb
      go_loopw [3, 15] (fun out j w2 => ∃ i : Nat, i ≤ m ∧ j = .int .i64 i ∧ Hid (w2.ownsRow W.heap.size 100 2 out (S ++ List.replicate i (p, q)).length ((S ++ List.replicate i (p, q)).flatMap p2)) ∧ Hid (Below W.heap.size W w2) ∧ Hid (Blk w2 wq.heap.size [.int .i64 p, .int .i64 q, .int .i64 m] 160) ∧ Hid (out.ownBlock ≠ some wq.heap.size)) (fun _ j _ => m - (intOf j).toNat)
      case atStart => exact ⟨0, Nat.zero_le _, rfl, O1, B1, X1, NB⟩
      case round =>
        clear O1 B1 X1 NB hO hB HQW
        obtain ⟨i, hi9, rfl, hO, hB, hX, hN⟩ := hrel
        obtain ⟨ua2, uc2, rfl⟩ := own_formK hO.out
        have HTN := Lib.hid (rep_snoc S i (p, q))
        have hlen : (S ++ List.replicate i (p, q)).length ≤ 50 * ns.length + 50 := by rw [List.length_append, List.length_replicate]; omega
        obtain ⟨T, hT⟩ : ∃ T, S ++ List.replicate i (p, q) = T := ⟨_, rfl⟩
        rw [hT] at hO HTN hlen hN ⊢
        have HT := Lib.hid hT
        have x0 := hX.out.cell 0 _ rfl
        have x1 := hX.out.cell 1 _ rfl
        have x2 := hX.out.cell 2 _ rfl
        have hxl := hX.out.lt
        clear hT
        by_cases him : i < m
        · go_wp2_with (at_builtin; go_loud (refine appMG (w0 := wr) (m := 1) (news := p2 (p, q)) (B := W.heap.size) (W := W) (base := W.heap.size) elemEnds rfl (.tmp 17) (.tmp 23) rfl (by rfl) (by rfl) hO.out hB.out (Nat.le_refl _) hB.out.size rfl (p2_one _) (by omega) (by unfold maxLen; omega) ?_); intro v' w5 hown' hb' hg' hat')
          have HG5 := Lib.hid hg'; have HA5 := Lib.hid hat'
          clear hg' hat'
          go_wp2
          go_roundw
          case rel => exact ⟨i + 1, by omega, by go_num, Lib.hid (by rw [HTN.out, List.length_append, flat_snoc]; exact hown'), Lib.hid hb', Lib.hid ((HG5.out.block wq.heap.size (by simp; omega) (fun e => hN.out e.symm)).trans (hX.out.alloc _)), Lib.hid (fun e => by rcases HA5.out with h | h <;> rw [h] at e; exact hN.out e; (have e2 : wr.heap.size + 1 = wq.heap.size := by simpa using e); omega)⟩
          case measure => simp [intOf]; omega
        · obtain rfl : i = m := by omega
          go_wp2
          go_roundw
          case rel => exact ⟨k + 1, by omega, by go_num, Lib.hid (by rw [HTK.out, HT.out]; exact hO.out), hB⟩
          case measure => simp [intOf]; omega
    · obtain rfl : k = ns.length := by omega
      rw [List.take_length] at hO
      have HO := Lib.hid hO.out
      clear hO
      obtain ⟨ua, uc, rfl⟩ := own_formK HO.out
      go_wp2
      go_ret
      exact ⟨_, rfl, own_baseK HO.out HQ.out.size, HQW.out⟩
end Go.Proofs.YtkkklfikdoibcaaGreatDoor

namespace Go.Proofs.YtkkklfikdoibcaaGreatDoor
open Go.RowKit
set_option maxRecDepth 100000

def i1 (x : Nat) : List Value := [.int .i64 (x : Nat)]
def ints (l : List Nat) : List Value := l.map fun x => .int .i64 (x : Nat)
theorem blk_of_own {w : World} {b e g n : Nat} {xs : List Value} (h : w.ownsRow b e 1 (.slice (some ⟨g, 0, none⟩) n n) n xs) : Blk w g xs e := by
  rcases h.2 with ⟨h0, -⟩ | ⟨g', cap, cur, h1, -, h3, -, -, h5, h6⟩
  · simp at h0
  · simp only [Value.slice.injEq, Option.some.injEq, Addr.mk.injEq] at h1
    obtain ⟨⟨rfl, -⟩, -, rfl⟩ := h1
    unfold Blk
    rw [h3, ← h6, List.take_of_length_le (by simp [h5])]
theorem own_keepG {w w' : World} {b e s n : Nat} {v : Value} {ys : List Value} {r : Option Nat} (h : w.ownsRow b e s v n ys) (hk : w.grownBy w' r) (hne : ∀ g, v.ownBlock = some g → r ≠ some g) : w'.ownsRow b e s v n ys := by
  refine ⟨h.1, h.2.imp_right fun ⟨g', cap, cur, h1, h2, h3, r3⟩ => ⟨g', cap, cur, h1, h2, ?_, r3⟩⟩
  have := hne g' (by rw [h1]; rfl)
  rw [hk.block g' (Array.getElem?_eq_some_iff.1 h3).1 (fun e => this e.symm)]; exact h3
/-- The rows ls lie behind the block L of slice values vs; each is owned, no two share a block. -/
structure Rws (w : World) (L C : Nat) (vs : List Value) (ls : List (List Nat)) : Prop where
  blk : Blk w L vs 39
  len : vs.length = ls.length
  base : L < C
  own : ∀ i (h : i < vs.length) (h' : i < ls.length), w.ownsRow C 3 1 vs[i] ls[i].length (ints ls[i])
  dis : ∀ i j (hi : i < vs.length) (hj : j < vs.length), i ≠ j → ∀ g, vs[i].ownBlock = some g → vs[j].ownBlock ≠ some g
theorem Rws.alloc {w : World} {L C : Nat} {vs : List Value} {ls : List (List Nat)} (h : Rws w L C vs ls) (o : Obj) : Rws (w.alloc o) L C vs ls :=
  ⟨h.blk.alloc o, h.len, h.base, fun i hi hi' => (h.own i hi hi').alloc o, h.dis⟩
theorem Rws.drew {w : World} {L C : Nat} {vs : List Value} {ls : List (List Nat)} (h : Rws w L C vs ls) : Rws w.drew L C vs ls := ⟨h.blk, h.len, h.base, h.own, h.dis⟩
theorem own_belowK {w w' : World} {b e s n B : Nat} {v : Value} {ys : List Value} (h : w.ownsRow b e s v n ys) (hb : Below B w w') (hB : w.heap.size ≤ B) : w'.ownsRow b e s v n ys := by
  refine ⟨h.1, h.2.imp_right fun ⟨g', cap, cur, h1, h2, h3, r3⟩ => ⟨g', cap, cur, h1, h2, ?_, r3⟩⟩
  rw [hb.block g' (Nat.lt_of_lt_of_le (Array.getElem?_eq_some_iff.1 h3).1 hB)]; exact h3
theorem Rws.below {w w' : World} {L C B : Nat} {vs : List Value} {ls : List (List Nat)} (h : Rws w L C vs ls) (hb : Below B w w') (hB : w.heap.size ≤ B) : Rws w' L C vs ls :=
  ⟨h.blk.below hb hB, h.len, h.base, fun i hi hi' => own_belowK (h.own i hi hi') hb hB, h.dis⟩
theorem Rws.new {w : World} {L C n : Nat} (h : Blk w L (List.replicate n (.slice none 0 0)) 39) (hB : L < C) : Rws w L C (List.replicate n (.slice none 0 0)) (List.replicate n []) :=
  ⟨h, by simp, hB, fun i hi hi' => by simp only [List.getElem_replicate]; exact World.ownsRow_nil _ _ _ _, fun i j hi hj _ g hg => by simp [Value.ownBlock] at hg⟩
theorem Rws.step {w w' : World} {L C i s0 : Nat} {vs : List Value} {ls : List (List Nat)} {v' : Value} {l : List Nat} (h : Rws w L C vs ls) (hi : i < vs.length) (hg : w.grownBy w' vs[i].ownBlock)
    (ho : w'.ownsRow C 3 1 v' l.length (ints l)) (hat : v'.ownBlock = vs[i].ownBlock ∨ v'.ownBlock = some s0) (hs : w.heap.size ≤ s0) :
    Rws (w'.setCell ⟨L, i, none⟩ v') L C (vs.set i v') (ls.set i l) := by
  have hi' : i < ls.length := by rw [← h.len]; exact hi
  have hL : Blk w' L vs 39 := (hg.block L h.blk.lt (fun e => by have := own_ge (h.own i hi hi') _ e.symm; have := h.base; omega)).trans h.blk
  have hself : ∀ {v : Value} {n : Nat} {ys : List Value}, w'.ownsRow C 3 1 v n ys → (w'.setCell ⟨L, i, none⟩ v').ownsRow C 3 1 v n ys := fun hh => own_otherK hh (fun e => by have := own_ge hh _ e; have := h.base; omega)
  refine ⟨hL.set i v', by simp [h.len], h.base, fun j hj hj' => ?_, fun a b ha hb hab g hga hgb => ?_⟩
  · simp only [List.length_set] at hj hj'
    by_cases e : i = j
    · subst e
      simp only [List.getElem_set_self]
      exact hself ho
    · simp only [List.getElem_set_ne e]
      exact hself (own_keepG (h.own j hj hj') hg (fun g hgj hgi => h.dis i j hi hj e g hgi hgj))
  · simp only [List.length_set] at ha hb
    have key : ∀ j (hj : j < vs.length), j ≠ i → ∀ g, v'.ownBlock = some g → vs[j].ownBlock ≠ some g := fun j hj hne g e1 e2 => by
      rcases hat with hat | hat
      · exact h.dis i j hi hj (fun e => hne e.symm) g (hat.symm.trans e1) e2
      · have h3 := (h.own j hj (by rw [← h.len]; exact hj)).lt g e2
        rw [hat] at e1
        simp only [Option.some.injEq] at e1
        omega
    by_cases ea : i = a
    · subst ea
      have hib : i ≠ b := hab
      simp only [List.getElem_set_self] at hga
      simp only [List.getElem_set_ne hib] at hgb
      exact key b hb (fun e => hib e.symm) g hga hgb
    · simp only [List.getElem_set_ne ea] at hga
      by_cases eb : i = b
      · subst eb
        simp only [List.getElem_set_self] at hgb
        exact key a ha (fun e => hab e) g hgb hga
      · simp only [List.getElem_set_ne eb] at hgb
        exact h.dis a b ha hb hab g hga hgb

section
variable {P : Program} {t e : TypeId} {z : Value} {size bytes : Nat} {ops : Array Oper} {o : Oper} {a : Act} {Q : Exit → Act → World → Prop} {K : Act → World → Prop} {E : Prop}
theorem appMG_step (hE : ElemOk P t e z size bytes) (hgd : o.guard = none) (s x : Operand) (ho : o.op = .call { callee := .builtin .append, args := #[s, x], argTypes := #[t, t] })
    {v : Value} {n m c base : Nat} {xs news : List Value} {w0 : World} (hs : a.eval s = v) (hx : a.eval x = .slice (some ⟨w0.heap.size, 0, none⟩) m c)
    (hown : w0.ownsRow base e size v n xs) (hbase : base ≤ w0.heap.size) (hl : news.length = m * size) (h1 : ∀ u ∈ news, u.oneCell' = true)
    (hn : (n + m) * bytes ≤ 140737488355328) (hn' : n + m ≤ maxLen)
    (h : ∀ v' w', w'.ownsRow base e size v' (n + m) (xs ++ news) → (w0.alloc (.cells news.toArray e)).grownBy w' v.ownBlock → (v'.ownBlock = v.ownBlock ∨ v'.ownBlock = some (w0.heap.size + 1)) → K (a.put o.dst v') w') :
    if Region.wanted o (yielded ops a.tmps) = true then Oper.wp P o a (w0.alloc (.cells news.toArray e)) K Q else E := by
  rw [if_pos (by simp [Region.wanted, hgd])]
  obtain ⟨i, hi, hz, hsz, hby⟩ := hE.info
  obtain ⟨v', w', hr, h2, h3, h4, h5⟩ := run_append_own_at (P := P) (w0.alloc (.cells news.toArray e)) base t o.type e i z size bytes hE.und hi hz hsz hby hE.cells hE.pos v n xs (hown.alloc _) ⟨w0.heap.size, 0, none⟩ m c news hl (fun j u hj => by
    rw [addr0]
    rw [cell_of_row _ w0.heap.size j news.toArray e (0, 0) (heap_alloc_new w0 _)]
    simpa using hj) h1 hn' hn (by simp; omega)
  unfold Oper.wp execOp
  simp only [ho, resolve, invoke, builtin, Sem.run_bind, Sem.run_pure, Result.andThen_ok, List.map_toArray, List.map_cons, List.map_nil, hs, hx, hr]
  rw [World.size_alloc] at h5
  exact h v' w' h2 h3 h5
end

/-- Which of the first k single arcs leave each of n vertices. -/
def outsAt (n : Nat) (ss : List (Nat × Nat)) (k : Nat) : List (List Nat) := (List.range n).map fun v => (List.range k).filter fun i => decide ((ss.getD i (0, 0)).1 = v)
def outs (n : Nat) (ss : List (Nat × Nat)) : List (List Nat) := outsAt n ss ss.length
theorem outsAt_len (n : Nat) (ss : List (Nat × Nat)) (k : Nat) : (outsAt n ss k).length = n := by simp [outsAt]
theorem outsAt_zero (n : Nat) (ss : List (Nat × Nat)) : outsAt n ss 0 = List.replicate n [] := by
  apply List.ext_getElem <;> simp [outsAt]
theorem outsAt_succ (n : Nat) (ss : List (Nat × Nat)) (k v : Nat) (hk : k < ss.length) (_ : v < n) (he : ss[k].1 = v) (h : v < (outsAt n ss k).length) : outsAt n ss (k + 1) = (outsAt n ss k).set v ((outsAt n ss k)[v] ++ [k]) := by
  have hg : ss.getD k (0, 0) = ss[k] := by simp [List.getD_eq_getElem?_getD, hk]
  apply List.ext_getElem (by simp [outsAt])
  intro i h1 h2
  have hin : i < n := by simpa [outsAt] using h1
  by_cases e : v = i
  · subst e
    rw [List.getElem_set_self]
    simp only [outsAt, List.getElem_map, List.getElem_range, List.range_succ, List.filter_append]
    simp [List.getD_eq_getElem?_getD, hk, he]
  · rw [List.getElem_set_ne e]
    simp only [outsAt, List.getElem_map, List.getElem_range, List.range_succ, List.filter_append]
    have : decide ((ss.getD k (0, 0)).1 = i) = false := by rw [hg, he]; simp [e]
    simp only [List.filter_cons, this, List.filter_nil, List.append_nil, Bool.false_eq_true, if_false]

theorem outsAt_all (n : Nat) (ss : List (Nat × Nat)) : outsAt n ss ss.length = outs n ss := rfl
theorem sgl_rng {n : Nat} {ns : List (Nat × Nat × Nat)} (hR : RD n ns) : ∀ x ∈ sgl ns, x.1 < n ∧ x.2 < n := by
  intro x hx
  simp only [sgl, List.mem_flatMap] at hx
  obtain ⟨y, hy, h2⟩ := hx
  have h3 := List.eq_of_mem_replicate h2
  have h4 := hR.rng y hy
  rw [h3]; exact ⟨h4.1, h4.2.1⟩

set_option maxHeartbeats 4000000 in
theorem leaving_ok (w : World) (n : Nat) (v : Value) (ns : List (Nat × Nat × Nat)) (hR : RD n ns) (hv : SlK e3 3 w v (ns.map n3)) (hl : ns.length ≤ 1000) :
    Calls Tryz.prog 111 #[.agg #[.int .i64 (n : Nat), v]] w (Rets fun r w' => ∃ vs L C, r = .slice (some ⟨L, 0, none⟩) n n ∧ Rws w' L C vs (outs n (sgl ns)) ∧ w.heap.size ≤ L ∧ Below w.heap.size w w') := by
  obtain ⟨ad, c, rfl⟩ := hv.form
  have hnl : (ns.map n3).length = ns.length := List.length_map _
  rw [hnl] at hv ⊢
  have n12 := hR.le
  have n1 := hR.pos
  have HM := Lib.hid (show ∀ x ∈ ns, x.2.2 ≤ 50 from fun x hx => (hR.rng x hx).2.2.2)
  have hsl := sgl_le ns HM.out ns.length
  rw [List.take_length] at hsl
  have HSR := Lib.hid (show ∀ x ∈ sgl ns, x.1 < n ∧ x.2 < n from sgl_rng hR)
  have HV := Lib.hid hv; have HNL := Lib.hid hnl
  have HQ := Lib.hid ((Below.refl w.heap.size w).alloc (Nat.le_refl _) (.cells #[.int .i64 (n : Nat), .slice ad ns.length c] 71))
  have HG := Lib.hid (Blk.new w [.int .i64 (n : Nat), .slice ad ns.length c] 71)
  obtain ⟨W, hW⟩ : ∃ W, w.alloc (.cells #[.int .i64 (n : Nat), .slice ad ns.length c] 71) = W := ⟨_, rfl⟩
  have hWs : W.heap.size = w.heap.size + 1 := by rw [← hW]; simp
  rw [show [Value.int .i64 (n : Nat), .slice ad ns.length c].toArray = #[Value.int .i64 (n : Nat), .slice ad ns.length c] from rfl, hW] at HG
  rw [hW] at HQ
  have HW := Lib.hid hW; have HWS := Lib.hid hWs
  clear hW hv hnl hR hWs
  go_enter Tryz.func111, Tryz.ntmps111
  go_wp2_with (first
    | (at_make; rw [HW.out]; refine mkN elemII rfl _ _ rfl n rfl rfl rfl rfl (by omega) (by unfold maxLen; omega) (Below.refl _ _) (Nat.le_refl _) rfl ?_; intro w1 hown hb hb2; clear hb2; have HO1 := Lib.hid (blk_of_own hown); have HB1 := Lib.hid hb; clear hown hb; have HG1 := Lib.hid (HG.out.below HB1.out (Nat.le_refl _)); have g0 := HG1.out.cell 0 _ rfl; have g1 := HG1.out.cell 1 _ rfl; have hlg := HG1.out.lt)
    | (go_at_call 112; (with_reducible refine (arcs_ok _ n _ ns (HV.out.below (HQ.out.trans (HB1.out.mono HQ.out.size)) (Nat.le_refl _)) HM.out (by omega)).mono ?_); rintro e w2 ⟨v, rfl, hO, hb⟩; obtain ⟨ea, ec, rfl⟩ := own_formK hO; have HE := Lib.hid hO; have HB2 := Lib.hid hb; clear hO hb g0 g1 hlg))
  obtain ⟨SS, hSS⟩ : ∃ SS, sgl ns = SS := ⟨_, rfl⟩
  rw [hSS] at HE hsl HSR ⊢
  have HSS := Lib.hid hSS
  have HO2 := Lib.hid (HO1.out.below HB2.out (Nat.le_refl _))
  have R0 := Lib.hid (Rws.new HO2.out (show W.heap.size < w2.heap.size from HO2.out.lt))
  rw [← outsAt_zero n SS] at R0
  have HBW := Lib.hid (HB1.out.trans (HB2.out.mono HB1.out.size))
  have HE0 := Lib.hid HE.out
  have HW1 := Lib.hid HO1.out.lt
  have HS2 := Lib.hid HB2.out.size
  clear hSS
  go_loopw [12] (fun i wr => ∃ (k : Nat) (vs : List Value), k ≤ SS.length ∧ i = .int .i64 k ∧ Hid (Rws wr W.heap.size w2.heap.size vs (outsAt n SS k)) ∧ Hid (wr.ownsRow w1.heap.size 100 2 (.slice ea SS.length ec) SS.length (SS.flatMap p2)) ∧ Hid (Below W.heap.size W wr) ∧ Hid (w2.heap.size ≤ wr.heap.size)) (fun i _ => SS.length - (intOf i).toNat)
  case atStart => exact ⟨0, _, Nat.zero_le _, rfl, R0, HE0, HBW, Lib.hid (Nat.le_refl _)⟩
  case round =>
    clear R0 HE0 HBW
    obtain ⟨k, vs, hk, rfl, hR, hE, hB, hZ⟩ := hrel
    by_cases hkn : k < SS.length
    · have hES := SlK.ofOwns p2_len hE.out rfl
      obtain ⟨ea', b, o, ec', hform, hi, hp, hc, hcm⟩ := hES.open elemEnds
      simp only [Value.slice.injEq, true_and] at hform
      obtain ⟨rfl, rfl⟩ := hform
      obtain ⟨⟨p, q⟩, hx⟩ : ∃ x, SS[k] = x := ⟨_, rfl⟩
      have hrg := HSR.out _ (List.getElem_mem hkn)
      rw [hx] at hrg
      have a0 : wr.cell? ⟨b, o + k * 2, none⟩ = some (.int .i64 (p : Nat)) := hp.2 k hkn 0 _ (by rw [hx]; rfl)
      have a1 : wr.cell? ⟨b, o + k * 2 + 1, none⟩ = some (.int .i64 (q : Nat)) := hp.2 k hkn 1 _ (by rw [hx]; rfl)
      have hlb := hp.1 (by omega)
      have hrl := hR.out.len
      rw [outsAt_len] at hrl
      have hpv : p < vs.length := by rw [hrl]; exact hrg.1
      have hpo : p < (outsAt n SS k).length := by rw [outsAt_len]; exact hrg.1
      have hpn : p < n := hrg.1
      have HT := Lib.hid (outsAt_succ n SS k p hkn hrg.1 (by rw [hx]) hpo)
      have hown := hR.out.own p hpv hpo
      obtain ⟨T, hT⟩ : ∃ T, (outsAt n SS k)[p] = T := ⟨_, rfl⟩
      rw [hT] at HT hown
      have hTl : T.length ≤ SS.length := by
        rw [← hT]; simp only [outsAt, List.getElem_map, List.getElem_range]
        exact Nat.le_trans (List.length_filter_le _ _) (by simp; omega)
      obtain ⟨ua, uc, hu⟩ := own_formK hown
      have hvp : vs[p]? = some (.slice ua T.length uc) := by rw [← hu]; simp [hpv]
      have c1 := hR.out.blk.cell p _ hvp
      have f1 := hR.out.blk.free p
      rw [hu] at hown
      have HOW := Lib.hid hown
      have HU := Lib.hid hu
      have hll := hR.out.blk.lt
      have HE1 := Lib.hid hE.out
      clear hT hx hE hown hu hvp
      have hhm := fun (w' : World) (h1 : w'.heap[wr.heap.size]? = (wr.alloc (.cells #[.int .i64 p, .int .i64 q] 100)).heap[wr.heap.size]?) (h2 : w'.heap[W.heap.size]? = wr.heap[W.heap.size]?) => (⟨(World.cell?_of_block (a := ⟨wr.heap.size, 0, none⟩) h1).trans ((Blk.new wr [.int .i64 p, .int .i64 q] 100).cell 0 _ rfl), (World.cell?_of_block (a := ⟨W.heap.size, p, none⟩) h2).trans c1⟩ : w'.cell? ⟨wr.heap.size, 0, none⟩ = some (.int .i64 (p : Nat)) ∧ w'.cell? ⟨W.heap.size, p, none⟩ = some (.slice ua T.length uc))
      have HH0 := Lib.hid (hhm (wr.alloc (.cells #[.int .i64 p, .int .i64 q] 100)).drew rfl (Below.heap_alloc wr _ _ hll))
      have HH1 := Lib.hid (hhm ((wr.alloc (.cells #[.int .i64 p, .int .i64 q] 100)).alloc (.cells #[.int .i64 k] 3)).drew (Below.heap_alloc _ _ _ (by simp)) ((Below.heap_alloc _ _ _ (by simp; omega)).trans (Below.heap_alloc wr _ _ hll)))
      have HHM := Lib.hid hhm
      have HOA := Lib.hid (HOW.out.alloc (.cells #[.int .i64 p, .int .i64 q] 100))
      clear hhm
      have q1 : (0 : Int) ≤ (p : Int) := by omega
      have q2 : (p : Int) < (n : Int) := by omega
      have q3 : wr.heap.size < wr.heap.size + 1 := by omega
      have h63 : (T.length + 1) * 8 ≤ 140737488355328 := by omega
      have h64 : T.length + 1 ≤ maxLen := by unfold maxLen; omega
      have hbs : w2.heap.size ≤ (wr.alloc (.cells #[.int .i64 p, .int .i64 q] 100)).drew.heap.size := by have := hZ.out; simp [World.drew]; omega
      have HBS := Lib.hid hbs
      have HXS := Lib.hid (show (wr.alloc (.cells #[.int .i64 p, .int .i64 q] 100)).drew.heap.size = wr.heap.size + 1 by simp [World.drew])
      have HBK := Lib.hid (fun (w' : World) (r : Option Nat) (hr : ∀ g, r = some g → w2.heap.size ≤ g ∧ g < wr.heap.size) (hg : ((wr.alloc (.cells #[.int .i64 p, .int .i64 q] 100)).drew.alloc (.cells (i1 k).toArray 3)).grownBy w' r) => by
        have e1 := hg.block wr.heap.size (by simp [World.drew]; omega) (fun e => by have := hr _ e.symm; omega)
        have e2 := hg.block W.heap.size (by simp [World.drew]; omega) (fun e => by have := hr _ e.symm; have := HW1.out; have := HS2.out; omega)
        have e3 : w'.heap[wr.heap.size]? = (wr.alloc (.cells #[.int .i64 p, .int .i64 q] 100)).heap[wr.heap.size]? := e1.trans (Below.heap_alloc _ _ _ (by simp [World.drew]))
        have e4 : w'.heap[W.heap.size]? = wr.heap[W.heap.size]? := e2.trans ((Below.heap_alloc _ _ _ (by simp [World.drew]; omega)).trans (Below.heap_alloc wr _ _ hll))
        exact (⟨e3, e4, (World.frozen?_of_block (a := ⟨W.heap.size, p, none⟩) e4).trans f1⟩ : w'.heap[wr.heap.size]? = (wr.alloc (.cells #[.int .i64 p, .int .i64 q] 100)).heap[wr.heap.size]? ∧ w'.heap[W.heap.size]? = wr.heap[W.heap.size]? ∧ w'.frozen? ⟨W.heap.size, p, none⟩ = false))
      have HLT := Lib.hid (fun g (e : (Value.slice ua T.length uc).ownBlock = some g) => HOW.out.lt g e)
      clear hbs
      go_wp2_with fail
      -- REGION
      refine wp_regionJ (S := fun w' => w'.cell? ⟨wr.heap.size, 0, none⟩ = some (.int .i64 (p : Nat)) ∧ w'.cell? ⟨W.heap.size, p, none⟩ = some (.slice ua T.length uc)) (A := fun i => decide (i < 12)) (by kernel_rfl) ?_
      refine wpAnyJ_take (i := 0) (oi := { dst := some 17, op := .move (.tmp 3), type := _, pos := _, after := _, guard := _ }) (v := ?_) rfl (by kernel_rfl) (by kernel_rfl) (by kernel_rfl) (early_sat (by kernel_rfl)) (fun _ _ _ h => h) (Or.inl ⟨by rfl, ?_⟩) HH0.out ?_
      rotate_left
      · intro wl hSw
        obtain ⟨s0, s1⟩ := hSw
        go_simp
        with_reducible rfl
      simp only [Act.put, List.setIfInBounds_toArray, List.set_cons_zero, List.set_cons_succ]
      refine wpAnyJ_take (i := 1) (oi := { dst := some 18, op := .indexAddr _ (.tmp 5) _, type := _, pos := _, after := _, guard := _ }) (v := ?_) rfl (by kernel_rfl) (by kernel_rfl) (by kernel_rfl) (early_sat (by kernel_rfl)) (fun _ _ _ h => h) (Or.inl ⟨by rfl, ?_⟩) HH0.out ?_
      rotate_left
      · intro wl hSw
        obtain ⟨s0, s1⟩ := hSw
        go_simp
        with_reducible rfl
      simp only [Act.put, List.setIfInBounds_toArray, List.set_cons_zero, List.set_cons_succ]
      refine wpAnyJ_take (i := 2) (oi := { dst := some 19, op := .load _ (.tmp 18), type := _, pos := _, after := _, guard := _ }) (v := ?_) rfl (by kernel_rfl) (by kernel_rfl) (by kernel_rfl) (early_sat (by kernel_rfl)) (fun _ _ _ h => h) (Or.inl ⟨by rfl, ?_⟩) HH0.out ?_
      rotate_left
      · intro wl hSw
        obtain ⟨s0, s1⟩ := hSw
        go_simp
        with_reducible rfl
      simp only [Act.put, List.setIfInBounds_toArray, List.set_cons_zero, List.set_cons_succ]
      refine wpAnyJ_take (i := 3) (oi := { dst := some 20, op := .move (.tmp 3), type := _, pos := _, after := _, guard := _ }) (v := ?_) rfl (by kernel_rfl) (by kernel_rfl) (by kernel_rfl) (early_sat (by kernel_rfl)) (fun _ _ _ h => h) (Or.inl ⟨by rfl, ?_⟩) HH0.out ?_
      rotate_left
      · intro wl hSw
        obtain ⟨s0, s1⟩ := hSw
        go_simp
        with_reducible rfl
      simp only [Act.put, List.setIfInBounds_toArray, List.set_cons_zero, List.set_cons_succ]
      refine wpAnyJ_take (i := 4) (oi := { dst := some 21, op := .indexAddr _ (.tmp 5) _, type := _, pos := _, after := _, guard := _ }) (v := ?_) rfl (by kernel_rfl) (by kernel_rfl) (by kernel_rfl) (early_sat (by kernel_rfl)) (fun _ _ _ h => h) (Or.inl ⟨by rfl, ?_⟩) HH0.out ?_
      rotate_left
      · intro wl hSw
        obtain ⟨s0, s1⟩ := hSw
        go_simp
        with_reducible rfl
      simp only [Act.put, List.setIfInBounds_toArray, List.set_cons_zero, List.set_cons_succ]
      refine wpAnyJ_take (i := 5) (oi := { dst := some 22, op := .load _ (.tmp 21), type := _, pos := _, after := _, guard := _ }) (v := ?_) rfl (by kernel_rfl) (by kernel_rfl) (by kernel_rfl) (early_sat (by kernel_rfl)) (fun _ _ _ h => h) (Or.inl ⟨by rfl, ?_⟩) HH0.out ?_
      rotate_left
      · intro wl hSw
        obtain ⟨s0, s1⟩ := hSw
        go_simp
        with_reducible rfl
      simp only [Act.put, List.setIfInBounds_toArray, List.set_cons_zero, List.set_cons_succ]
      refine wpAnyJ_take (i := 6) (oi := { dst := some 23, op := .indexAddr _ (.tmp 20) (.tmp 22), type := _, pos := _, after := _, guard := _ }) (v := ?_) rfl (by kernel_rfl) (by kernel_rfl) (by kernel_rfl) (early_sat (by kernel_rfl)) (fun _ _ _ h => h) (Or.inl ⟨by rfl, ?_⟩) HH0.out ?_
      rotate_left
      · intro wl hSw
        obtain ⟨s0, s1⟩ := hSw
        go_simp
        with_reducible rfl
      simp only [Act.put, List.setIfInBounds_toArray, List.set_cons_zero, List.set_cons_succ]
      refine wpAnyJ_take (i := 7) (oi := { dst := some 24, op := .load _ (.tmp 23), type := _, pos := _, after := _, guard := _ }) (v := ?_) rfl (by kernel_rfl) (by kernel_rfl) (by kernel_rfl) (early_sat (by kernel_rfl)) (fun _ _ _ h => h) (Or.inl ⟨by rfl, ?_⟩) HH0.out ?_
      rotate_left
      · intro wl hSw
        obtain ⟨s0, s1⟩ := hSw
        go_simp
        with_reducible rfl
      simp only [Act.put, List.setIfInBounds_toArray, List.set_cons_zero, List.set_cons_succ]
      refine wpAnyJ_take (i := 8) (oi := { dst := some 25, op := .move (.tmp 4), type := _, pos := _, after := _, guard := _ }) (v := ?_) rfl (by kernel_rfl) (by kernel_rfl) (by kernel_rfl) (early_sat (by kernel_rfl)) (fun _ _ _ h => h) (Or.inl ⟨by rfl, ?_⟩) HH0.out ?_
      rotate_left
      · intro wl hSw
        obtain ⟨s0, s1⟩ := hSw
        go_simp
        with_reducible rfl
      simp only [Act.put, List.setIfInBounds_toArray, List.set_cons_zero, List.set_cons_succ]
      refine wpAnyJ_only (i := 9) (o := { dst := some 26, op := _, type := _, pos := _, after := _, guard := _ }) (by kernel_rfl) rfl (fun K hK => ?_)
      go_simp
      refine hK.out _ _ (fun _ => HH1.out) ?_
      try simp only [Act.put, List.setIfInBounds_toArray, List.set_cons_zero, List.set_cons_succ]
      clear hK K
      refine wpAnyJ_only (i := 10) (o := { dst := some 27, op := _, type := _, pos := _, after := _, guard := _ }) (by kernel_rfl) rfl (fun K hK => ?_)
      refine appMG_step (w0 := (wr.alloc (.cells #[.int .i64 p, .int .i64 q] 100)).drew) (m := 1) (news := i1 k) (base := w2.heap.size) elemI rfl (.tmp 24) (.tmp 26) rfl (by rfl) (by rw [HXS.out]; rfl) HOA.out HBS.out rfl (by intro u hu; simp [i1] at hu; subst hu; rfl) h63 h64 ?_
      intro v' w5 hown' hg' hat'
      obtain ⟨va, vc, rfl⟩ := own_formK hown'
      have HN5 := Lib.hid hown'; have HG5 := Lib.hid hg'; have HA5 := Lib.hid hat'
      clear hown' hg' hat'
      have hb5 := HBK.out w5 _ HLT.out HG5.out
      have hh5 := HHM.out w5 hb5.1 hb5.2.1
      have fz5 := hb5.2.2
      clear hb5
      refine hK.out _ _ (fun _ => hh5) ?_
      try simp only [Act.put, List.setIfInBounds_toArray, List.set_cons_zero, List.set_cons_succ]
      clear hK K
      refine wpAnyJ_only (i := 11) (o := { dst := some 28, op := .indexAddr _ (.tmp 17) (.tmp 19), type := _, pos := _, after := _, guard := _ }) (by kernel_rfl) rfl (fun K hK => ?_)
      go_simp
      refine hK.out _ _ (fun _ => hh5) ?_
      try simp only [Act.put, List.setIfInBounds_toArray, List.set_cons_zero, List.set_cons_succ]
      clear hK K
      refine wpAnyJ_only (i := 12) (o := { dst := none, op := .store _ (.tmp 28) (.tmp 27), type := _, pos := _, after := _, guard := _ }) (by kernel_rfl) rfl (fun K hK => ?_)
      go_simp
      refine hK.out _ _ (fun h => absurd h (by decide)) ?_
      try simp only [Act.put, List.setIfInBounds_toArray, List.set_cons_zero, List.set_cons_succ]
      clear hK K
      refine wpAnyJ_done (by kernel_rfl) ?_ _
      -- END
      go_wp2
      clear hh5 fz5
      go_roundw
      case rel =>
        have ho5 : w5.ownsRow w2.heap.size 3 1 (.slice va (T.length + 1) vc) (T ++ [k]).length (ints (T ++ [k])) := by
          have e1 : (T ++ [k]).length = T.length + 1 := by simp
          have e2 : ints (T ++ [k]) = ints T ++ i1 k := by simp [ints, i1]
          rw [e1, e2]; exact HN5.out
        have hR2 : Rws ((wr.alloc (.cells #[.int .i64 p, .int .i64 q] 100)).drew.alloc (.cells (i1 k).toArray 3)) W.heap.size w2.heap.size vs (outsAt n SS k) := (hR.out.alloc (.cells #[.int .i64 p, .int .i64 q] 100)).drew.alloc (.cells (i1 k).toArray 3)
        have hg5 := HG5.out
        have ha5 := HA5.out
        rw [← HU.out] at hg5 ha5
        refine ⟨k + 1, vs.set p (.slice va (T.length + 1) vc), by omega, by go_num, Lib.hid (by rw [HT.out]; exact hR2.step hpv hg5 ho5 ha5 (by simp [World.drew])), ?_, ?_, ?_⟩
        · have h0 : ((wr.alloc (.cells #[.int .i64 p, .int .i64 q] 100)).drew.alloc (.cells (i1 k).toArray 3)).ownsRow w1.heap.size 100 2 (.slice ea SS.length ec) SS.length (SS.flatMap p2) := World.ownsRow.alloc (w := (wr.alloc (.cells #[.int .i64 p, .int .i64 q] 100)).drew) (HE1.out.alloc _) _
          exact Lib.hid (own_otherK (own_keepG h0 HG5.out (fun g e e2 => by have h1 := HE.out.lt g e; have h2 := HLT.out g e2; omega)) (fun e => by have h1 := HE.out.lt _ e; have h2 := HW1.out; omega))
        · have hd : Below W.heap.size W (wr.alloc (.cells #[.int .i64 p, .int .i64 q] 100)).drew := (hB.out.alloc hB.out.size _).drew
          exact Lib.hid (((hd.alloc hd.size _).grown HG5.out (Nat.le_trans hB.out.size (by simp [World.drew]; omega)) (fun g e => by have h2 := HLT.out g e; have := HW1.out; have := HS2.out; omega)).setCell (p := ⟨W.heap.size, p, none⟩) (Nat.le_refl _) _)
        · exact Lib.hid (Nat.le_trans hZ.out (Nat.le_trans (show wr.heap.size ≤ w5.heap.size from Nat.le_trans (by simp [World.drew]; omega) HG5.out.size) (by simp)))
      case measure => simp [intOf]; omega
    · obtain rfl : k = SS.length := by omega
      have HRr := Lib.hid hR.out
      have hbo := hB.out
      have HBo := Lib.hid (HQ.out.trans (hbo.mono HQ.out.size))
      clear hR hB hbo hE
      go_wp2
      go_ret
      exact ⟨_, rfl, vs, W.heap.size, w2.heap.size, rfl, by rw [HSS.out]; exact HRr.out, HQ.out.size, HBo.out⟩
end Go.Proofs.YtkkklfikdoibcaaGreatDoor

namespace Go.Proofs.YtkkklfikdoibcaaGreatDoor
open Go.RowKit

theorem img_congr {n : Nat} {s t : Nat → Int} (h : ∀ k, k < n → s k = t k) (i : Nat) : ∀ {ns : List (Nat × Nat × Nat)}, (∀ x ∈ ns, x.1 < n ∧ x.2.1 < n) → img ns s i = img ns t i
  | [], _ => rfl
  | x :: l, hr => by
    obtain ⟨h1, h2⟩ := hr x (by simp)
    rw [img_cons, img_cons, img_congr h i fun y hy => hr y (by simp [hy])]
    unfold im1
    rw [h _ h1, h _ h2]
theorem getD_range (f : Nat → Int) (n k : Nat) : ((List.range n).map f).getD k 0 = if k < n then f k else 0 := by
  rw [List.getD_eq_getElem?_getD, List.getElem?_map]
  by_cases h : k < n
  · simp [h]
  · simp [h]
theorem getD_over {xs : List Int} {k : Nat} (h : xs.length ≤ k) : xs.getD k 0 = 0 := by
  rw [List.getD_eq_getElem?_getD, List.getElem?_eq_none h]; rfl
theorem inB_of {xs : List Int} (h : ∀ x ∈ xs, -1048576 ≤ x ∧ x ≤ 1048576) : inB xs = true := by
  unfold inB
  rw [List.all_eq_true]
  intro x hx
  have := h x hx
  simp only [outB, Bool.not_eq_true', Bool.or_eq_false_iff, decide_eq_false_iff_not]
  omega
theorem imgS_ok {n : Nat} {es : List (Int × Int × Int)} {ns : List (Nat × Nat × Nat)} (hR : RG (n : Int) es ns) (hc : chkG n es = 0) {xs : List Int} (hl : xs.length = n) (B : Int) (hB : ∀ k, -B ≤ xs.getD k 0 ∧ xs.getD k 0 ≤ B) (hs : (sgl ns).length ≤ 9) (hB2 : B ≤ 2000) :
    imgS (n : Int) es xs = (imgL n ns (fun k => xs.getD k 0), 0) := by
  have h0 := hB 0
  have hi : inB xs = true := inB_of fun x hx => by
    obtain ⟨k, hk, rfl⟩ := List.getElem_of_mem hx
    have := hB k
    rw [List.getD_eq_getElem?_getD, List.getElem?_eq_getElem hk] at this
    simp only [Option.getD_some] at this
    omega
  have hi2 : inB (imgL n ns fun k => xs.getD k 0) = true := inB_of fun x hx => by
    obtain ⟨i, -, rfl⟩ := List.mem_map.1 hx
    have h1 := img_le (fun k => xs.getD k 0) i B hB ns
    have h2 : ((sgl ns).length : Int) * (2 * B) ≤ 9 * (2 * B) := Int.mul_le_mul_of_nonneg_right (by omega) (by omega)
    omega
  unfold imgS
  rw [if_pos hc, if_pos (by rw [hl]), if_pos hi, hR.nsOf, Int.toNat_natCast, if_pos hi2]
/-- What the four images are. -/
theorem four_images {n : Nat} {es : List (Int × Int × Int)} {ns : List (Nat × Nat × Nat)} (hR : RG (n : Int) es ns) (hc : chkG n es = 0) {xs ys : List Int} (hx : xs.length = n) (hy : ys.length = n) (hs : (sgl ns).length ≤ 9)
    (bx : ∀ k (h : k < xs.length), -1000 ≤ xs[k] ∧ xs[k] ≤ 1000) (bY : ∀ k (h : k < ys.length), -1000 ≤ ys[k] ∧ ys[k] ≤ 1000) :
    imgS (n : Int) es xs = (imgL n ns (fun k => xs.getD k 0), 0) ∧ imgS (n : Int) es ys = (imgL n ns (fun k => ys.getD k 0), 0) ∧
    imgS (n : Int) es ((List.range n).map fun k => xs.getD k 0 + ys.getD k 0) = (imgL n ns (fun k => xs.getD k 0 + ys.getD k 0), 0) ∧
    imgS (n : Int) es ((List.range n).map fun _ => xs.getD 0 0) = (imgL n ns (fun _ => xs.getD 0 0), 0) ∧
    ∀ i, -18000 ≤ img ns (fun k => xs.getD k 0) i ∧ img ns (fun k => xs.getD k 0) i ≤ 18000 ∧ -18000 ≤ img ns (fun k => ys.getD k 0) i ∧ img ns (fun k => ys.getD k 0) i ≤ 18000 := by
  have hr : ∀ x ∈ ns, x.1 < n ∧ x.2.1 < n := fun x hm => by have := hR.rng x hm; omega
  have gx : ∀ k, -1000 ≤ xs.getD k 0 ∧ xs.getD k 0 ≤ 1000 := fun k => by
    rcases Nat.lt_or_ge k xs.length with h | h
    · have := bx k h
      rw [List.getD_eq_getElem?_getD, List.getElem?_eq_getElem h]
      exact this
    · rw [getD_over h]; omega
  have gy : ∀ k, -1000 ≤ ys.getD k 0 ∧ ys.getD k 0 ≤ 1000 := fun k => by
    rcases Nat.lt_or_ge k ys.length with h | h
    · have := bY k h
      rw [List.getD_eq_getElem?_getD, List.getElem?_eq_getElem h]
      exact this
    · rw [getD_over h]; omega
  refine ⟨imgS_ok hR hc hx 1000 gx hs (by omega), imgS_ok hR hc hy 1000 gy hs (by omega), ?_, ?_, fun i => ?_⟩
  · rw [imgS_ok hR hc (by simp) 2000 (fun k => by rw [getD_range]; split <;> (have := gx k; have := gy k; omega)) hs (by omega)]
    congr 1
    unfold imgL
    refine List.map_congr_left fun i _ => img_congr (fun k hk => ?_) i hr
    rw [getD_range, if_pos hk]
  · rw [imgS_ok hR hc (by simp) 1000 (fun k => by rw [getD_range]; split <;> (have := gx 0; omega)) hs (by omega)]
    congr 1
    unfold imgL
    refine List.map_congr_left fun i _ => img_congr (fun k hk => ?_) i hr
    rw [getD_range, if_pos hk]
  · have h1 := img_le (fun k => xs.getD k 0) i 1000 gx ns
    have h2 := img_le (fun k => ys.getD k 0) i 1000 gy ns
    omega
section
variable {P : Program} {t e : TypeId} {z : Value} {size bytes : Nat} {ops : Array Oper} {o : Oper} {a : Act} {Q : Exit → Act → World → Prop} {K : Act → World → Prop} {E : Prop}
/-- An append of what lies in a block that is known. -/
theorem appB_step (hE : ElemOk P t e z size bytes) (hgd : o.guard = none) (s x : Operand) (ho : o.op = .call { callee := .builtin .append, args := #[s, x], argTypes := #[t, t] })
    {v : Value} {n m c base g : Nat} {xs news : List Value} {w0 : World} (hs : a.eval s = v) (hx : a.eval x = .slice (some ⟨g, 0, none⟩) m c) (hblk : Blk w0 g news e)
    (hown : w0.ownsRow base e size v n xs) (hbase : base ≤ w0.heap.size) (hl : news.length = m * size) (h1 : ∀ u ∈ news, u.oneCell' = true)
    (hn : (n + m) * bytes ≤ 140737488355328) (hn' : n + m ≤ maxLen)
    (h : ∀ v' w', w'.ownsRow base e size v' (n + m) (xs ++ news) → w0.grownBy w' v.ownBlock → (v'.ownBlock = v.ownBlock ∨ v'.ownBlock = some w0.heap.size) → K (a.put o.dst v') w') :
    if Region.wanted o (yielded ops a.tmps) = true then Oper.wp P o a w0 K Q else E := by
  rw [if_pos (by simp [Region.wanted, hgd])]
  obtain ⟨i, hi, hz, hsz, hby⟩ := hE.info
  obtain ⟨v', w', hr, h2, h3, h4, h5⟩ := run_append_own_at (P := P) w0 base t o.type e i z size bytes hE.und hi hz hsz hby hE.cells hE.pos v n xs hown ⟨g, 0, none⟩ m c news hl (fun j u hj => by
    rw [addr0]
    exact hblk.cell j u hj) h1 hn' hn hbase
  unfold Oper.wp execOp
  simp only [ho, resolve, invoke, builtin, Sem.run_bind, Sem.run_pure, Result.andThen_ok, List.map_toArray, List.map_cons, List.map_nil, hs, hx, hr]
  exact h v' w' h2 h3 h5
end
set_option maxRecDepth 100000 in
theorem right_any (w : World) (n : Int) (v : Value) (es : List (Int × Int × Int)) (hv : SlK e3 3 w v es) :
    Calls Tryz.prog 30 #[.agg #[.int .i64 n, v]] w (Rets fun r w' => r = .bool (smallB n es 6 9 && decide (chkG n es = 0)) ∧ Below w.heap.size w w') := by
  have HV := Lib.hid hv
  obtain ⟨ad, c, rfl⟩ := hv.form
  have HK := Lib.hid (Blk.new w [.int .i64 n, .slice ad es.length c] 24)
  have q0 := (Below.refl w.heap.size w).alloc (Nat.le_refl _) (.cells #[.int .i64 n, .slice ad es.length c] 24)
  have HV1 := Lib.hid (HV.out.below q0 (Nat.le_refl _))
  clear hv
  by_cases hf : smallB n es 6 9 = true
  · have HF := Lib.hid hf
    obtain ⟨z, hz⟩ : ∃ z, chkG n es = z := ⟨_, rfl⟩
    have HZ := Lib.hid hz
    by_cases hz0 : z = 0
    · subst hz0
      have HR := Lib.hid (show (smallB n es 6 9 && decide (chkG n es = 0)) = true by rw [hf, hz]; rfl)
      rw [HR.out]
      clear hf hz
      go_enter Tryz.func30, Tryz.ntmps30
      go_wp2_with (first
        | (go_at_call 69; (with_reducible refine (rGCheck_any _ n _ es (HV.out.below q1 (Nat.le_refl _))).mono ?_); rintro e w2 ⟨v2, rfl, rfl, hb2⟩; rw [HZ.out]; have q2 := q1.trans (hb2.mono q1.size); clear hb2)
        | (go_at_call 14; (with_reducible refine (rFew_any _ n _ es HV1.out).mono ?_); rintro e w1 ⟨v1, rfl, rfl, hb1⟩; rw [HF.out]; have q1 := q0.trans (hb1.mono q0.size); have HK1 := Lib.hid (HK.out.below hb1 (Nat.le_refl _)); have g0 := HK1.out.cell 0 _ rfl; have g1 := HK1.out.cell 1 _ rfl; have gl := HK1.out.lt; clear hb1))
      go_ret
      exact ⟨_, rfl, rfl, q2⟩
    · have hzb : (z == 0) = false := by simp [hz0]
      have HR := Lib.hid (show (smallB n es 6 9 && decide (chkG n es = 0)) = false by rw [hf, hz]; simp [hz0])
      rw [HR.out]
      clear hf hz hz0
      go_enter Tryz.func30, Tryz.ntmps30
      go_wp2_with (first
        | (go_at_call 69; (with_reducible refine (rGCheck_any _ n _ es (HV.out.below q1 (Nat.le_refl _))).mono ?_); rintro e w2 ⟨v2, rfl, rfl, hb2⟩; rw [HZ.out]; have q2 := q1.trans (hb2.mono q1.size); clear hb2)
        | (go_at_call 14; (with_reducible refine (rFew_any _ n _ es HV1.out).mono ?_); rintro e w1 ⟨v1, rfl, rfl, hb1⟩; rw [HF.out]; have q1 := q0.trans (hb1.mono q0.size); have HK1 := Lib.hid (HK.out.below hb1 (Nat.le_refl _)); have g0 := HK1.out.cell 0 _ rfl; have g1 := HK1.out.cell 1 _ rfl; have gl := HK1.out.lt; clear hb1))
      go_ret
      exact ⟨_, rfl, rfl, q2⟩
  · have HF := Lib.hid (show smallB n es 6 9 = false by simpa using hf)
    rw [HF.out, Bool.false_and]
    clear hf
    go_enter Tryz.func30, Tryz.ntmps30
    go_wp2_with ((go_at_call 14); (with_reducible refine (rFew_any _ n _ es HV1.out).mono ?_); rintro e w1 ⟨v1, rfl, rfl, hb1⟩; rw [HF.out]; have q1 := q0.trans (hb1.mono q0.size); clear hb1)
    go_ret
    exact ⟨_, rfl, rfl, q1⟩
end Go.Proofs.YtkkklfikdoibcaaGreatDoor
