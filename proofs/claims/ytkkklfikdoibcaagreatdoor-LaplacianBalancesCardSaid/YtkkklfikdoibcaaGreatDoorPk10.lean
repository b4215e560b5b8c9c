/- The walk of laplacian's Image: all arguments. The walk of graph's iterator over the single edges. The walk of graph's Ends. A map keyed by pairs of ends, of counts: its entries as a list; look-up, entry and store as run-level facts. Ranging over a map of counts: each entry comes once, in whatever order. The library's sort at the edges of a graph. The walk of the graph of a bag. The walk of graph's Make: right ends. The graph of some ends, in plain words: the list of pairs with their counts, ascending. The walks of slices.Clone and slices.Delete over pairs of ends. -/
import Derived.Test.YtkkklfikdoibcaaGreatDoorPk9
import Derived.Maps.RangeWalk
import Derived.DeepKeys4
import Derived.Test.YtkkklfikdoibcaaGreatDoorPk1
import Derived.Deep.RegionLaw
import Derived.Lib.SliceRun
namespace Go.Proofs.YtkkklfikdoibcaaGreatDoor
open Go.RowKit Go.Shelf
set_option maxRecDepth 100000

attribute [local go_sem] Oper.semAt_some
/-- What Image answers. -/
def imgS (n : Int) (es : List (Int × Int × Int)) (xs : List Int) : List Int × Int :=
  if chkG n es = 0 then (if (xs.length : Int) = n then (if inB xs = true then (if inB (imgL n.toNat (nsOf es) fun k => xs.getD k 0) = true then (imgL n.toNat (nsOf es) fun k => xs.getD k 0, 0) else ([], 11)) else ([], 2)) else ([], 8)) else ([], chkG n es)
set_option maxHeartbeats 4000000 in
theorem Image_any (w : World) (n : Int) (v sv : Value) (es : List (Int × Int × Int)) (xs : List Int) (hv : SlK e3 3 w v es) (hs : Sl eZ w sv xs) (hl : es.length ≤ 1000) :
    Calls Tryz.prog 21 #[.agg #[.int .i64 n, v], sv] w (RetL w (imgS n es xs).1 (imgS n es xs).2) := by
  have HV := Lib.hid hv; have HS := Lib.hid hs
  obtain ⟨ad, c, rfl⟩ := hv.form
  obtain ⟨sa, sc, rfl⟩ := sl_form hs
  have HB := Lib.hid (((Below.refl w.heap.size w).alloc (Nat.le_refl _) (.cells #[.int .i64 n, .slice ad es.length c] 24)).alloc (by simp) (.cells #[.slice sa xs.length sc] 40))
  have HK := Lib.hid ((Blk.new w [.int .i64 n, .slice ad es.length c] 24).alloc (.cells #[.slice sa xs.length sc] 40))
  have HKS := Lib.hid (Blk.at1 w (.cells #[.int .i64 n, .slice ad es.length c] 24) [.slice sa xs.length sc] 40)
  have HV1 := Lib.hid (HV.out.below HB.out (Nat.le_refl _))
  have HS1 := Lib.hid (HS.out.below HB.out (Nat.le_refl _))
  by_cases h : chkG n es = 0
  · by_cases hln : (xs.length : Int) = n
    · cases hi : inB xs
      · have hnn : ((xs.length : Int) == n) = true := by simp [hln]
        have H := Lib.hid h; have HI := Lib.hid hi
        rw [show imgS n es xs = ([], 2) by unfold imgS; rw [if_pos h, if_pos hln, if_neg (by rw [hi]; decide)]]
        clear h hi hv hs hln
        refine (callsIn_wide (n := 4)).1 (callsIn_of_wp_marks Tryz.func21 rfl trivial ?_ rfl)
        simp only [Tryz.ntmps21, List.size_toArray, List.length_cons, List.length_nil, Nat.reduceAdd, Nat.reduceSub, Array.replicate_succ, Array.replicate_zero, List.push_toArray, List.append_toArray, List.nil_append, List.cons_append]
        gi_wp2_with (first
          | ((with_reducible refine ⟨wideFn _, callsIn_wide.2 ((within_any _ _ xs HS2.out).mono ?_)⟩); rintro e w3 ⟨vf, rfl, rfl, rfl⟩; rw [HI.out])
          | ((with_reducible refine ⟨wideFn _, callsIn_wide.2 ((GCheck_any _ _ _ es HV1.out).mono ?_)⟩); rintro e w1 ⟨vf, rfl, rfl, hb1⟩; rw [H.out]; have HS2 := Lib.hid (HS1.out.below hb1 (Nat.le_refl _)); have HK1 := Lib.hid (HK.out.below hb1 (Nat.le_refl _)); have HKS1 := Lib.hid (HKS.out.below hb1 (Nat.le_refl _)); have q1 := HB.out.trans (hb1.mono HB.out.size); have g0 := HK1.out.cell 0 _ rfl; have g1 := HK1.out.cell 1 _ rfl; have gl := HK1.out.lt; have y0 := HKS1.out.cell 0 _ rfl; have yl := HKS1.out.lt; clear hb1))
        exact ⟨.tuple #[.slice none 0 0, .int .i64 2], by simp [results, Tryz.results21, go_sem], _, rfl, _, rfl, Sl.nil' eZ _, q1⟩
      · obtain ⟨ns, hRG⟩ := rg_of h
        subst hln
        have hes := hRG.eq
        subst hes
        have hk : ∃ (k : Int) (out : List Int), imgS (xs.length : Nat) (ns.map n3) xs = (out, k) ∧ ((inB (imgL xs.length ns fun k => xs.getD k 0) = true ∧ out = (imgL xs.length ns fun k => xs.getD k 0) ∧ k = 0) ∨ (inB (imgL xs.length ns fun k => xs.getD k 0) = false ∧ out = [] ∧ k = 11)) := by
          unfold imgS
          rw [if_pos h, if_pos rfl, if_pos hi, nsOf_n3, Int.toNat_natCast]
          cases h2 : inB (imgL xs.length ns fun k => xs.getD k 0)
          · exact ⟨11, [], by simp, .inr ⟨rfl, rfl, rfl⟩⟩
          · exact ⟨0, _, by simp, .inl ⟨rfl, rfl, rfl⟩⟩
        obtain ⟨k, out, h1, h2⟩ := hk
        rw [h1]
        have hp := hRG.pos; have hle := hRG.le
        exact callsIn_wide.1 (Image_in w xs.length _ _ ns xs HV.out HS.out h (by omega) (by omega) (fun x hx => by have := hRG.rng x hx; omega) (by rwa [List.length_map] at hl) rfl hi k out h2)
    · have hnn : ((xs.length : Int) == n) = false := by rw [beq_eq_false_iff_ne]; exact hln
      have H := Lib.hid h
      rw [show imgS n es xs = ([], 8) by unfold imgS; rw [if_pos h, if_neg hln]]
      clear h hv hs hln
      refine (callsIn_wide (n := 4)).1 (callsIn_of_wp_marks Tryz.func21 rfl trivial ?_ rfl)
      simp only [Tryz.ntmps21, List.size_toArray, List.length_cons, List.length_nil, Nat.reduceAdd, Nat.reduceSub, Array.replicate_succ, Array.replicate_zero, List.push_toArray, List.append_toArray, List.nil_append, List.cons_append]
      gi_wp2_with ((with_reducible refine ⟨wideFn _, callsIn_wide.2 ((GCheck_any _ _ _ es HV1.out).mono ?_)⟩); rintro e w1 ⟨vf, rfl, rfl, hb1⟩; rw [H.out]; have HS2 := Lib.hid (HS1.out.below hb1 (Nat.le_refl _)); have HK1 := Lib.hid (HK.out.below hb1 (Nat.le_refl _)); have HKS1 := Lib.hid (HKS.out.below hb1 (Nat.le_refl _)); have q1 := HB.out.trans (hb1.mono HB.out.size); have g0 := HK1.out.cell 0 _ rfl; have g1 := HK1.out.cell 1 _ rfl; have gl := HK1.out.lt; have y0 := HKS1.out.cell 0 _ rfl; have yl := HKS1.out.lt; clear hb1)
      exact ⟨.tuple #[.slice none 0 0, .int .i64 8], by simp [results, Tryz.results21, go_sem], _, rfl, _, rfl, Sl.nil' eZ _, q1⟩
  · have hne : (chkG n es == 0) = false := by rw [beq_eq_false_iff_ne]; exact h
    rw [show imgS n es xs = ([], chkG n es) by unfold imgS; rw [if_neg h]]
    obtain ⟨z, hz⟩ : ∃ z, chkG n es = z := ⟨_, rfl⟩
    rw [hz] at hne ⊢
    have H := Lib.hid hz
    clear h hz hv hs
    refine (callsIn_wide (n := 4)).1 (callsIn_of_wp_marks Tryz.func21 rfl trivial ?_ rfl)
    simp only [Tryz.ntmps21, List.size_toArray, List.length_cons, List.length_nil, Nat.reduceAdd, Nat.reduceSub, Array.replicate_succ, Array.replicate_zero, List.push_toArray, List.append_toArray, List.nil_append, List.cons_append]
    gi_wp2_with ((with_reducible refine ⟨wideFn _, callsIn_wide.2 ((GCheck_any _ _ _ es HV1.out).mono ?_)⟩); rintro e w1 ⟨vf, rfl, rfl, hb1⟩; rw [H.out]; have HS2 := Lib.hid (HS1.out.below hb1 (Nat.le_refl _)); have HK1 := Lib.hid (HK.out.below hb1 (Nat.le_refl _)); have HKS1 := Lib.hid (HKS.out.below hb1 (Nat.le_refl _)); have q1 := HB.out.trans (hb1.mono HB.out.size); have g0 := HK1.out.cell 0 _ rfl; have g1 := HK1.out.cell 1 _ rfl; have gl := HK1.out.lt; have y0 := HKS1.out.cell 0 _ rfl; have yl := HKS1.out.lt; clear hb1)
    exact ⟨.tuple #[.slice none 0 0, .int .i64 z], by simp [results, Tryz.results21, go_sem], _, rfl, _, rfl, Sl.nil' eZ _, q1⟩
end Go.Proofs.YtkkklfikdoibcaaGreatDoor

namespace Go.Proofs.YtkkklfikdoibcaaGreatDoor
open Go.RowKit Go.Shelf
set_option maxRecDepth 100000

attribute [local go_sem] Oper.semAt_some

/-- Old memory, and blocks of edges, stand as they stood. -/
def KpE (B : Nat) (W W' : World) : Prop := Below B W W' ∧ ∀ (b : Nat) (cs : Array Value) (m : Nat × Nat), W.heap[b]? = some (Obj.cells cs 124 m) → W'.heap[b]? = some (Obj.cells cs 124 m)
theorem KpE.tr {B : Nat} {X Y Z : World} (h : KpE B X Y) (h' : KpE B Y Z) : KpE B X Z := ⟨h.1.trans h'.1, fun b cs m e => h'.2 b cs m (h.2 b cs m e)⟩
theorem KpE.put {B : Nat} (W : World) (l : Nat) (o o' : Obj) (hB : B ≤ l) (ho : W.heap[l]? = some o) (hc : o.isCells = false) : KpE B W (W.putObj l o') := by
  refine ⟨(Below.refl B W).grown (grownBy_putObj' W l o') (by have := (Array.getElem?_eq_some_iff.1 ho).1; omega) (fun k e => by cases e; omega), fun b cs m e => ?_⟩
  have hne : b ≠ l := fun e2 => by subst e2; rw [ho] at e; cases e; exact absurd hc (by simp [Obj.isCells])
  exact (World.putObj_heap_other hne).trans e
theorem KpE.below {B K : Nat} {W W' : World} (h : Below K W W') (hB : W.heap.size ≤ K) (hBK : B ≤ K) : KpE B W W' := ⟨h.mono hBK, fun b _ _ e => (h.block b (Nat.lt_of_lt_of_le (Array.getElem?_eq_some_iff.1 e).1 hB)).trans e⟩
theorem KpE.blk {B : Nat} {W W' : World} (h : KpE B W W') {g : Nat} {cs : List Value} (hk : Blk W g cs 124) : Blk W' g cs 124 := h.2 _ _ _ hk
def snV (x : Nat × Nat × Nat) : Array Value := #[.int .i64 (x.1 : Nat), .agg #[.int .i64 (x.2.1 : Nat), .int .i64 (x.2.2 : Nat)]]
set_option maxHeartbeats 4000000 in
theorem singles1_seq {w0 w : World} {B : Nat} {n : Int} {v : Value} {ns : List (Nat × Nat × Nat)} (hb0 : Below w0.heap.size w0 w) (hk : Blk w B [.int .i64 n, v] 24) (hv : SlK e3 3 w0 v (ns.map n3)) (hm : ∀ x ∈ ns, x.2.2 ≤ 50) (hl : ns.length ≤ 1000) (nn : Nat) (hn : 1 ≤ nn) :
    SeqG Fence.wide nn Tryz.prog 179 #[.pointer (some ⟨B, 0, none⟩)] snV (KpE w0.heap.size) (fun s x W => x.2 ∈ sgl ns ∧ s < W.heap.size) (fun xs _ => xs.map (fun x => x.2) = sgl ns) (sgl ns).length w := by
  intro l J W hbW hJ hJc hY h0
  have hkW := hk.below hbW (Nat.le_refl _)
  have HB0 := Lib.hid (hb0.trans (hbW.mono hb0.size))
  have HY := Lib.hid hY; have HJ := Lib.hid hJ; have HM := Lib.hid hm
  have hwW := hbW.size
  have hw0 := hb0.size
  obtain ⟨ad, b, o, c, rfl, hi, hp, hc, hcm⟩ := hv.open elemEdge
  have hnl : (ns.map n3).length = ns.length := List.length_map _
  rw [hnl] at hi hc hkW
  have HP := Lib.hid hp; have HNL := Lib.hid hnl
  unfold maxLen at hcm
  have k1 := hkW.cell 1 _ rfl
  have hBl := hkW.lt
  have hSL := sgl_le ns HM.out ns.length
  rw [List.take_length] at hSL
  clear hY hJ hJc hk hb0 hbW hp hkW hv hnl
  refine callsIn_of_wp Tryz.func179 rfl trivial ?_ rfl
  simp only [Tryz.ntmps179, List.size_toArray, List.length_cons, List.length_nil, Nat.reduceAdd, Nat.reduceSub, Array.replicate_succ, Array.replicate_zero, List.push_toArray, List.append_toArray, List.nil_append, List.cons_append]
  gi_wp2
  gi_loopw [3, 9] (fun ev i wr => ∃ q : Nat, q ≤ ns.length ∧ i = .int .i64 q ∧ ∃ bs : List (Nat × Nat × Nat), ev = .int .i64 (bs.length : Nat) ∧ Hid (bs.map (fun x => x.2) = sgl (ns.take q)) ∧ Hid (J bs wr) ∧ Hid (Below w0.heap.size w0 wr) ∧ W.heap.size ≤ wr.heap.size) (fun _ i _ => ns.length - (intOf i).toNat)
  case atStart => exact ⟨0, Nat.zero_le _, rfl, [], rfl, Lib.hid rfl, Lib.hid h0, HB0, Nat.le_refl _⟩
  case round =>
    clear k1 hBl HB0
    obtain ⟨q, hq, rfl, bs, rfl, hbs, hJs, hB, hsz⟩ := hrel
    by_cases hqn : q < ns.length
    · obtain ⟨⟨x, y, m⟩, hx⟩ : ∃ x, ns[q] = x := ⟨_, rfl⟩
      have hqm : q < (ns.map n3).length := by rw [HNL.out]; exact hqn
      have hx3 : (ns.map n3)[q] = n3 (x, y, m) := by rw [List.getElem_map, hx]
      have a0 : wr.cell? ⟨b, o + q * 3, none⟩ = some (.int .i64 (x : Nat)) := HP.out.at hB.out (Nat.le_refl _) q hqm 0 _ (by rw [hx3]; rfl)
      have a1 : wr.cell? ⟨b, o + q * 3 + 1, none⟩ = some (.int .i64 (y : Nat)) := HP.out.at hB.out (Nat.le_refl _) q hqm 1 _ (by rw [hx3]; rfl)
      have a2 : wr.cell? ⟨b, o + q * 3 + 2, none⟩ = some (.int .i64 (m : Nat)) := HP.out.at hB.out (Nat.le_refl _) q hqm 2 _ (by rw [hx3]; rfl)
      have hbl := (HP.out.below hB.out (Nat.le_refl _)).1 (by omega)
      have q1 : (0 : Int) ≤ (q : Int) := by omega
      have q2 : (q : Int) < (ns.length : Int) := by omega
      have hm50 : m ≤ 50 := by have := HM.out _ (List.getElem_mem hqn); rw [hx] at this; exact this
      have HTK := Lib.hid (sgl_take ns q hqn)
      rw [hx] at HTK
      simp only at HTK
      have HLE := Lib.hid (show (sgl (ns.take (q + 1))).length ≤ (sgl ns).length by
        conv => rhs; rw [← List.take_append_drop (q + 1) ns, sgl_app]
        rw [List.length_append]; omega)
      have HMem := Lib.hid (show 0 < m → (x, y) ∈ sgl ns from fun h => by
        unfold sgl
        rw [List.mem_flatMap]
        exact ⟨ns[q], List.getElem_mem hqn, by rw [hx]; simp; omega⟩)
      have HJ1 := Lib.hid (HJ.out bs wr (wr.alloc (.cells #[.int .i64 (x : Nat), .int .i64 (y : Nat), .int .i64 (m : Nat)] 124)) none hJs.out (World.grownBy_alloc _ _ _) (fun _ h => by cases h))
      have HB1 := Lib.hid (hB.out.alloc hB.out.size (.cells #[.int .i64 (x : Nat), .int .i64 (y : Nat), .int .i64 (m : Nat)] 124))
      obtain ⟨W1, hW1⟩ : ∃ W1, wr.alloc (.cells #[.int .i64 (x : Nat), .int .i64 (y : Nat), .int .i64 (m : Nat)] 124) = W1 := ⟨_, rfl⟩
      obtain ⟨X, hX⟩ : ∃ X, wr.heap.size = X := ⟨_, rfl⟩
      have HSZ := Lib.hid (show W.heap.size < W1.heap.size by rw [← hW1]; simp; omega)
      have HX1 := Lib.hid (show Blk W1 X [.int .i64 (x : Nat), .int .i64 (y : Nat), .int .i64 (m : Nat)] 124 by rw [← hW1, ← hX]; exact Blk.new wr _ _)
      rw [hW1] at HJ1 HB1
      have z2 := HX1.out.cell 2 _ rfl; have zl := HX1.out.lt
      have hbz : bs.length ≤ 50 * ns.length := by
        have h1 := congrArg List.length hbs.out
        rw [List.length_map] at h1
        rw [h1]; exact sgl_le ns HM.out q
      gi_wp2
      clear hx hx3 a0 a1 a2 hbl hW1 hX z2 zl
      gi_loopw [3, 15] (fun ev j w2 => ∃ i : Nat, i ≤ m ∧ j = .int .i64 i ∧ ∃ cs : List (Nat × Nat × Nat), ev = .int .i64 (cs.length : Nat) ∧ Hid (cs.length = bs.length + i) ∧ Hid (cs.map (fun x => x.2) = sgl (ns.take q) ++ List.replicate i (x, y)) ∧ Hid (J cs w2) ∧ Hid (Below w0.heap.size w0 w2) ∧ Hid (Blk w2 X [.int .i64 (x : Nat), .int .i64 (y : Nat), .int .i64 (m : Nat)] 124) ∧ Hid (W.heap.size < w2.heap.size)) (fun _ j _ => m - (intOf j).toNat)
      case atStart => exact ⟨0, Nat.zero_le _, rfl, bs, rfl, Lib.hid rfl, Lib.hid (by rw [hbs.out]; simp), HJ1, HB1, HX1, HSZ⟩
      case round =>
        clear HJ1 HB1 HX1 HSZ hJs hB
        obtain ⟨i, him, rfl, cs, rfl, hcl, hcs, hJs, hB, hX2, hs2⟩ := hrel
        have hcz : cs.length ≤ 50 * ns.length + 50 := by have := hcl.out; omega
        have z0 := hX2.out.cell 0 _ rfl; have z1 := hX2.out.cell 1 _ rfl; have zl := hX2.out.lt
        by_cases hi2 : i < m
        · have hlt : cs.length < (sgl ns).length := by
            have h1 := congrArg List.length HTK.out
            have h2 := congrArg List.length hcs.out
            have h3 := HLE.out
            simp only [List.length_append, List.length_replicate, List.length_map] at h1 h2
            omega
          obtain ⟨fn, tmps, assign, body, hy, hRd⟩ := HY.out cs (cs.length, x, y) _ hJs.out ⟨HMem.out (by omega), hs2.out⟩ hlt
          unfold snV at hy
          gi_wp2
          refine hRd.mono ?_
          rintro e W3 ⟨rfl, hJ3, hk3⟩
          have HJ3 := Lib.hid hJ3
          have HB3 := Lib.hid (hB.out.trans hk3.1)
          have HX3 := Lib.hid (hk3.blk hX2.out)
          have HS3 := Lib.hid (Nat.lt_of_lt_of_le hs2.out hk3.1.size)
          clear hJ3 hk3
          gi_wp2
          go_roundw
          case rel => exact ⟨i + 1, by omega, by go_num, cs ++ [(cs.length, x, y)], by simp, Lib.hid (by have := hcl.out; simp; omega), Lib.hid (by rw [List.map_append, hcs.out, rep_snoc]; rfl), HJ3, HB3, HX3, HS3⟩
          case measure => simp [intOf]; omega
        · obtain rfl : i = m := by omega
          gi_wp2
          go_roundw
          case rel => exact ⟨q + 1, by omega, by go_num, cs, rfl, Lib.hid (by rw [hcs.out, HTK.out]), hJs, hB, Nat.le_of_lt hs2.out⟩
          case measure => simp [intOf]; omega
    · obtain rfl : q = ns.length := by omega
      gi_wp2
      go_end0
      exact ⟨⟨_, rfl⟩, bs, by rw [hbs.out, List.take_length], hJs.out⟩
section
variable {F : Fence} {nF : Nat} {P : Program} {t e : TypeId} {z : Value} {size bytes : Nat} {ops : Array Oper} {rest : List Oper} {o : Oper} {a : Act} {Q : Exit → Act → World → Prop}
/-- 'append(s, x..)' of a slice that the call owns, inside a fence. -/
theorem appMI (hE : ElemOk P t e z size bytes) (hgd : o.guard = none) (s x : Operand) (ho : o.op = .call { callee := .builtin .append, args := #[s, x], argTypes := #[t, t] })
    {v : Value} {n m c base : Nat} {xs news : List Value} {w0 : World} (hs : a.eval s = v) (hx : a.eval x = .slice (some ⟨w0.heap.size, 0, none⟩) m c)
    (hown : w0.ownsRow base e size v n xs) (hbase : base ≤ w0.heap.size) (hl : news.length = m * size) (h1 : ∀ u ∈ news, u.oneCell' = true)
    (hn : (n + m) * bytes ≤ 140737488355328) (hn' : n + m ≤ maxLen)
    (h : ∀ v' w', w'.ownsRow base e size v' (n + m) (xs ++ news) → (w0.alloc (.cells news.toArray e)).grownBy w' v.ownBlock → wpListIn F nF P ops Q rest (a.put o.dst v') w') :
    wpListIn F nF P ops Q (o :: rest) a (w0.alloc (.cells news.toArray e)) := by
  obtain ⟨i, hi, hz, hsz, hby⟩ := hE.info
  refine wpListIn_append_own _ hgd s x t ho base e i z size bytes hE.und hi hz hsz hby hE.cells hE.pos v n xs hs (hown.alloc _) ⟨w0.heap.size, 0, none⟩ m c news hx (by rw [hl]) ?_ h1 hn' hn (by simp; omega) ?_
  · intro j u hj
    rw [addr0]
    rw [cell_of_row _ w0.heap.size j news.toArray e (0, 0) (heap_alloc_new w0 _)]
    simpa using hj
  · intro v' w' ho' hg _
    exact h v' w' ho' hg
end
theorem singles_any (w : World) (n : Int) (v : Value) (a : Option Addr) (l c : Nat) (hv : v = .slice a l c) : Calls Tryz.prog 138 #[.agg #[.int .i64 n, v]] w (Rets fun r w' => r = .func (.func 179) #[] #[.pointer (some ⟨w.heap.size, 0, none⟩)] ∧ w' = w.alloc (.cells #[.int .i64 n, v] 24)) := by
  subst hv
  go_enter Tryz.func138, Tryz.ntmps138
  go_wp2
  go_ret
  exact ⟨_, rfl, rfl, rfl⟩
end Go.Proofs.YtkkklfikdoibcaaGreatDoor

namespace Go.Proofs.YtkkklfikdoibcaaGreatDoor
open Go.RowKit Go.Shelf
set_option maxRecDepth 100000

attribute [local go_sem] Oper.semAt_some

theorem grown_kpE {A C : World} {B base n : Nat} {u : Value} {xs : List Value} (ho : A.ownsRow base 100 2 u n xs) (hb : B ≤ base) (hA : B ≤ A.heap.size) (hg : A.grownBy C u.ownBlock) : KeepsOthers A C ∧ KpE B A C := by
  have hrow : ∀ r, u.ownBlock = some r → B ≤ r ∧ ∃ cs m, A.heap[r]? = some (Obj.cells cs 100 m) := fun r e => by
    rcases ho.2 with ⟨rfl, -⟩ | ⟨g, cap, cur, rfl, h1, h2, -⟩
    · simp [Value.ownBlock] at e
    · simp [Value.ownBlock] at e
      subst e
      exact ⟨Nat.le_trans hb h1, _, _, h2⟩
  refine ⟨⟨hg.size, fun k o hk hc => ?_⟩, (Below.refl B A).grown hg hA (fun k e => (hrow k e).1), fun b cs m hk => ?_⟩
  · rw [hg.block k (Array.getElem?_eq_some_iff.1 hk).1 fun e => ?_]; · exact hk
    obtain ⟨-, cs, m, h⟩ := hrow k e.symm
    rw [hk] at h; cases h; cases hc
  · rw [hg.block b (Array.getElem?_eq_some_iff.1 hk).1 fun e => ?_]; · exact hk
    obtain ⟨-, cs', m', h⟩ := hrow b e.symm
    rw [hk] at h; cases h
def EndI (w0 : World) (d B5 base : Nat) (pre : List (Nat × Nat × Nat)) (W : World) : Prop :=
  ∃ u, Blk W B5 [u] 94 ∧ W.ownsRow base 100 2 u pre.length ((pre.map fun x => x.2).flatMap p2) ∧ Below d w0 W
theorem EndI.own (w0 : World) (d B5 base B : Nat) (hD : d ≤ B) (h0 : d ≤ w0.heap.size) : OwnFrom B (EndI w0 d B5 base) := by
  rintro xs A C row ⟨u, h1, h2, h3⟩ hg hr
  have hr' : ∀ r, row = some r → ∃ o : Obj, A.heap[r]? = some o ∧ o.isCells = false := fun r e => (hr r e).2
  exact ⟨u, blk_nc h1 hg hr', own_nc h2 hg hr', h3.grown hg (Nat.le_trans h0 h3.size) fun k e => Nat.le_trans hD (hr k e).1⟩
theorem EndI.setS {w0 : World} {d B5 base S : Nat} {pre : List (Nat × Nat × Nat)} {W : World} (h : EndI w0 d B5 base pre W) (hS : B5 < S) (hS2 : S < base) (hd : d ≤ S) (j : Nat) (v : Value) : EndI w0 d B5 base pre (W.setCell ⟨S, j, none⟩ v) := by
  obtain ⟨u, h1, h2, h3⟩ := h
  exact ⟨u, h1.setCell (by omega) _, own_apart h2 (fun e => by have := own_ge h2 S e; omega), h3.setCell (by simpa using hd) _⟩
theorem KpE.setB {B g : Nat} {w : World} {cs : List Value} {T : TypeId} (h : Blk w g cs T) (hT : T ≠ 124) (hB : B ≤ g) (j : Nat) (u : Value) : KpE B w (w.setCell ⟨g, j, none⟩ u) := by
  refine ⟨(Below.refl B w).setCell (by simpa using hB) _, fun b cs' m e => ?_⟩
  have hne : b ≠ g := fun e2 => by subst e2; unfold Blk at h; rw [h] at e; cases e; exact hT rfl
  exact (Below.heap_setCell _ _ _ _ hne).trans e
set_option maxHeartbeats 4000000 in
theorem Ends_in (w : World) (n : Nat) (v : Value) (ns : List (Nat × Nat × Nat)) (hv : SlK e3 3 w v (ns.map n3)) (hc : chkG n (ns.map n3) = 0) (hm : ∀ x ∈ ns, x.2.2 ≤ 50) (hl : ns.length ≤ 1000) :
    CallsIn Fence.wide 4 Tryz.prog 81 #[.agg #[.int .i64 (n : Nat), v]] w (Rets fun r w' => ∃ u, r = .tuple #[u, .int .i64 0] ∧ w'.ownsRow w.heap.size 100 2 u (sgl ns).length ((sgl ns).flatMap p2) ∧ Below w.heap.size w w') := by
  obtain ⟨ad, c, rfl⟩ := hv.form
  have hnl : (ns.map n3).length = ns.length := List.length_map _
  rw [hnl] at hv ⊢
  have HV := Lib.hid hv; have HC := Lib.hid hc; have HM := Lib.hid hm
  have hSL := sgl_le ns hm ns.length
  rw [List.take_length] at hSL
  obtain ⟨d, hd⟩ : ∃ d, w.heap.size = d := ⟨_, rfl⟩
  clear hv hc hm hnl
  refine callsIn_of_wp_marks Tryz.func81 rfl trivial ?_ rfl
  simp only [Tryz.ntmps81, List.size_toArray, List.length_cons, List.length_nil, Nat.reduceAdd, Nat.reduceSub, Array.replicate_succ, Array.replicate_zero, List.push_toArray, List.append_toArray, List.nil_append, List.cons_append]
  have KG := Lib.hid (show Blk (w.alloc (.cells #[.int .i64 (n : Nat), .slice ad ns.length c] 24)) d [.int .i64 (n : Nat), .slice ad ns.length c] 24 by rw [← hd]; exact Blk.new w _ _)
  have B0 := Lib.hid ((Below.refl w.heap.size w).alloc (Nat.le_refl _) (.cells #[.int .i64 (n : Nat), .slice ad ns.length c] 24))
  gi_wp2_with (first
    | ((with_reducible refine ⟨wideFn _, callsIn_wide.2 ((singles_any _ _ _ ad ns.length c rfl).mono ?_)⟩); rintro e w3 ⟨vf, rfl, rfl, rfl⟩)
    | ((with_reducible refine ⟨wideFn _, callsIn_wide.2 ((GCheck_any _ _ _ (ns.map n3) (HV.out.below B0.out (Nat.le_refl _))).mono ?_)⟩); rintro e w1 ⟨vf, rfl, rfl, hb1⟩; rw [HC.out]; have B1 := Lib.hid (B0.out.trans (hb1.mono B0.out.size)); have KG1 := Lib.hid (KG.out.below hb1 (Nat.le_refl _)); have g0 := KG1.out.cell 0 _ rfl; have g1 := KG1.out.cell 1 _ rfl; have gl := KG1.out.lt; clear hb1))
  clear g0 g1
  obtain ⟨e, he⟩ : ∃ e, w1.heap.size = e := ⟨_, rfl⟩
  obtain ⟨W, hW⟩ : ∃ W, (w1.alloc (.cells #[.slice none 0 0] 94)).alloc (.cells #[.int .i64 (n : Nat), .slice ad ns.length c] 24) = W := ⟨_, rfl⟩
  have s3 : W.heap.size = e + 2 := by rw [← hW, ← he]; simp
  have bW : Below w1.heap.size w1 W := by rw [← hW]; exact ((Below.refl _ _).alloc (Nat.le_refl _) _).alloc (by simp) _
  have B1' := B1.out
  rw [hd] at B1'
  have hde : d < e := by rw [← he]; exact gl
  have HI0 := Lib.hid (show EndI w d e (e + 5) [] W from ⟨_, by rw [← hW, ← he]; exact (Blk.new w1 _ _).alloc _, World.ownsRow_nil _ _ _ _, B1'.trans (bW.mono (by omega))⟩)
  have hseq := Lib.hid (singles1_seq (w0 := w) (w := W) (B := e + 1) (by rw [hd]; exact B1'.trans (bW.mono (by omega))) (show Blk W (e + 1) [.int .i64 (n : Nat), .slice ad ns.length c] 24 by rw [← hW, ← he]; exact Blk.at1 w1 _ _ _) HV.out HM.out hl (4 - 1) (by omega))
  have HS3 := Lib.hid s3
  rw [hW]
  clear hW bW s3 KG KG1 B0 B1 B1' gl
  refine wpIn_rangeA rfl (by omega) (gf := 179) (lb := #[.pointer (some ⟨e + 1, 0, none⟩)]) (by rw [he]; rfl) trivial (enters_of Tryz.func179 (by kernel_rfl) rfl) hseq.out (fun h h' => h.tr h') (fun W' l o o' hl ho hc => KpE.put W' l o o' (by have := HS3.out; omega) ho hc) (fun _ _ _ _ _ h _ _ => h) (Below.refl _ _) (fun _ => rfl) (EndI w d e (e + 5))
    (EndI.own _ _ _ _ _ (by have := HS3.out; omega) (by omega)) (fun pre W1 u j h => h.setS (by have := HS3.out; omega) (by have := HS3.out; omega) (by have := HS3.out; omega) j u) ?h0 ?round ?done
  case h0 => exact HI0.out
  case round =>
    rintro l pre ⟨t, x, y⟩ W1 hI ⟨hmem, hsz⟩ hlen hll
    have HI := Lib.hid hI; have HLL := Lib.hid hll
    have hW5 : e + 4 < W1.heap.size := by have := HS3.out; omega
    clear hI hll hmem
    unfold snV
    gi_wp2
    refine ⟨KeepsOthers.alloc _ _, KpE.below ((Below.refl W1.heap.size W1).alloc (Nat.le_refl _) _) (Nat.le_refl _) (by omega), fun ob o' hlo hoc => ?_⟩
    have IW := EndI.own w d e (e + 5) W.heap.size (by have := HS3.out; omega) (by omega)
    have hI2 := IW.putObj o' (IW.alloc (.cells #[.int .i64 (x : Nat), .int .i64 (y : Nat)] 181) HI.out) HLL.out hlo hoc
    have hkX := blk_nc (Blk.new W1 [.int .i64 (x : Nat), .int .i64 (y : Nat)] 181) (grownBy_putObj' _ l o') (fun r e2 => by cases e2; exact ⟨_, hlo, hoc⟩)
    have hVs : e + 5 ≤ ((W1.alloc (.cells #[.int .i64 (x : Nat), .int .i64 (y : Nat)] 181)).putObj l o').heap.size := by simp; omega
    obtain ⟨bX, hbX⟩ : ∃ b, W1.heap.size = b := ⟨_, rfl⟩
    obtain ⟨V, hV⟩ : ∃ V, (W1.alloc (.cells #[.int .i64 (x : Nat), .int .i64 (y : Nat)] 181)).putObj l o' = V := ⟨_, rfl⟩
    rw [hbX] at hkX ⊢
    rw [hV] at hI2 hkX hVs ⊢
    obtain ⟨u, hu5, huo, hub⟩ := hI2
    have HU5 := Lib.hid hu5; have HUO := Lib.hid huo; have HUB := Lib.hid hub; have KX := Lib.hid hkX
    have f0 := HU5.out.cell 0 _ rfl; have fl := HU5.out.lt
    have x0 := KX.out.cell 0 _ rfl; have x1 := KX.out.cell 1 _ rfl; have xl := KX.out.lt
    clear hlo hoc IW hkX hbX hV hu5 huo hub
    have hge := own_ge HUO.out
    gi_wp2_with (gi_at_builtin; refine appMI (w0 := V) (m := 1) (news := p2 (x, y)) elemEnds rfl _ _ rfl rfl rfl HUO.out hVs rfl (p2_one _) (by omega) (by unfold maxLen; omega) ?_; intro v' w3 hown' hg3; obtain ⟨va, vc, rfl⟩ := own_formK hown'; have hkk := grown_kpE (HUO.out.alloc (.cells (p2 (x, y)).toArray 100)) (show d ≤ e + 5 by omega) (by simp; omega) hg3; have HU3 : Hid (Blk w3 e [u] 94) := Lib.hid ((hg3.block e (by simp; omega) (fun h => by have := hge e h.symm; omega)).trans (HU5.out.alloc (.cells (p2 (x, y)).toArray 100))); have HOW := Lib.hid hown'; have HKK := Lib.hid hkk; clear hown' hg3 hkk; have c3 := HU3.out.cell 0 _ rfl; have cf3 := HU3.out.free 0; have cl3 := HU3.out.lt)
    have hal : Below V.heap.size V (V.alloc (.cells (p2 (x, y)).toArray 100)) := (Below.refl _ V).alloc (Nat.le_refl _) _
    refine ⟨((KeepsOthers.alloc V _).trans HKK.out.1).trans (KeepsOthers.setCell _ _ _), ?_, _, HU3.out.set 0 _, own_apart (ownsRow_cast HOW.out (by simp) (by simp)) (fun e2 => by have := own_ge HOW.out e e2; omega), ?_⟩
    · show KpE w.heap.size V _
      rw [hd]
      exact ((KpE.below hal (Nat.le_refl _) (by omega)).tr HKK.out.2).tr (KpE.setB HU3.out (by decide) (by omega) 0 _)
    · exact (HUB.out.trans ((hal.mono (by omega)).trans HKK.out.2.1)).setCell (p := ⟨e, 0, none⟩) (by simp; omega) _
  case done =>
    rintro D' ys W' hD' hS ⟨u, h1, h2, h3⟩ hK
    have HKD := Lib.hid hK; have HO := Lib.hid h2; have HBB := Lib.hid h3
    have hyl : ys.length = (sgl ns).length := by have := congrArg List.length hS; simpa using this
    have HS := Lib.hid hS
    have o0 := h1.cell 0 _ rfl; have ol := h1.lt
    clear hK h1 h2 h3 hS
    gi_wp2
    refine ⟨by simp, .inl ⟨_, _, rfl, run_takeDeferred HKD.out, ?_⟩⟩
    exact ⟨.tuple #[u, .int .i64 0], by simp [results, Tryz.results81, go_sem], _, rfl, _, rfl, own_nc (own_low (ownsRow_cast HO.out hyl (by rw [HS.out])) (by omega)) (grownBy_putObj' W' D' (.deferred none)) (fun r e => by cases e; exact ⟨_, HKD.out, rfl⟩),
      (by rw [hd]; exact HBB.out.trans (belowK_b (w := w) (by omega) W' D' _ _ (by have := HS3.out; omega) HKD.out rfl rfl))⟩
theorem Ends_ok (w : World) (n : Nat) (v : Value) (ns : List (Nat × Nat × Nat)) (hv : SlK e3 3 w v (ns.map n3)) (hc : chkG n (ns.map n3) = 0) (hm : ∀ x ∈ ns, x.2.2 ≤ 50) (hl : ns.length ≤ 1000) :
    Calls Tryz.prog 81 #[.agg #[.int .i64 (n : Nat), v]] w (Rets fun r w' => ∃ u, r = .tuple #[u, .int .i64 0] ∧ w'.ownsRow w.heap.size 100 2 u (sgl ns).length ((sgl ns).flatMap p2) ∧ Below w.heap.size w w') := callsIn_wide.1 (Ends_in w n v ns hv hc hm hl)
end Go.Proofs.YtkkklfikdoibcaaGreatDoor

namespace Go.Proofs.YtkkklfikdoibcaaGreatDoor
open Go.RowKit Go.Maps Go.MapKept
open Go.ChangeMaps (setBlock heap_setBlock_same heap_setBlock_other)
set_option maxRecDepth 100000

def kV (a b : Nat) : Value := .agg #[.int .i64 (a : Nat), .int .i64 (b : Nat)]
theorem pairLaid : laidOutB Tryz.prog = true := by kernel_rfl
theorem lawP : Keyed Tryz.prog 181 := Keyed.of_law (deep_law_laid pairLaid (m := 2) (by omega) (of_decide_eq_true (by kernel_rfl)) (by kernel_rfl) (by rw [Tryz.underlying181]))
theorem kV_key (a b : Nat) (ha : a ≤ 1000000) (hb : b ≤ 1000000) : ∃ l, keyOf Tryz.prog 181 (kV a b) = some l := by
  have hk : Tryz.prog.keyType 181 = true := by kernel_rfl
  have c2 : Tryz.prog.cellsOf 181 = 2 := by kernel_rfl
  have c1 : Tryz.prog.cellsOf 3 = 1 := by kernel_rfl
  have hf : (kV a b).formed Tryz.prog 181 = true := by simp [Value.formed, kV, Tryz.underlying181, c2]
  have wa : (Lit.int .i64 (a : Nat)).wf = true := WalkArith.wf_i64 (by omega)
  have wb : (Lit.int .i64 (b : Nat)).wf = true := WalkArith.wf_i64 (by omega)
  obtain ⟨m, hm⟩ : ∃ m, Tryz.prog.types.size = m + 1 := ⟨Tryz.prog.types.size - 1, by have : 0 < Tryz.prog.types.size := of_decide_eq_true (by kernel_rfl); omega⟩
  have hl : Tryz.prog.keyLits (Tryz.prog.types.size + 1) 181 (kV a b).cells.toList = some [.int .i64 (a : Nat), .int .i64 (b : Nat)] := by
    rw [hm]
    have hia : Tryz.prog.keyLits (m + 1) 3 [.int .i64 (a : Nat)] = some [.int .i64 (a : Nat)] := by simp [Program.keyLits, Tryz.underlying3, wa]
    have hib : Tryz.prog.keyLits (m + 1) 3 [.int .i64 (b : Nat)] = some [.int .i64 (b : Nat)] := by simp [Program.keyLits, Tryz.underlying3, wb]
    unfold Program.keyLits
    simp [kV, Value.cells, c2, c1, Tryz.underlying181, hia, hib]
  unfold keyOf
  rw [Tryz.underlying181]
  simp only [hk, hf, Bool.and_self, if_true, hl]
  exact ⟨_, rfl⟩
/-- What is counted at a pair. -/
def cntE : List (Nat × Nat × Nat) → Nat → Nat → Nat
  | [], _, _ => 0
  | z :: l, x, y => if z.1 = x ∧ z.2.1 = y then z.2.2 else cntE l x y
theorem cntE_none {x y : Nat} : ∀ {l : List (Nat × Nat × Nat)}, (∀ z ∈ l, ¬ (z.1 = x ∧ z.2.1 = y)) → cntE l x y = 0
  | [], _ => rfl
  | z :: l, h => by rw [cntE, if_neg (h z (by simp))]; exact cntE_none fun w hw => h w (by simp [hw])
theorem cntE_at {x y : Nat} : ∀ {l : List (Nat × Nat × Nat)}, (l.Pairwise fun u v => ¬ (u.1 = v.1 ∧ u.2.1 = v.2.1)) → ∀ (j : Nat) (h : j < l.length), l[j].1 = x ∧ l[j].2.1 = y → cntE l x y = l[j].2.2
  | z :: l, hp, 0, _, e => by
    have e' : z.1 = x ∧ z.2.1 = y := e
    rw [cntE, if_pos e']; rfl
  | z :: l, hp, j + 1, h, e => by
    obtain ⟨h1, h2⟩ := List.pairwise_cons.1 hp
    have hj : j < l.length := by simpa using h
    have e' : l[j].1 = x ∧ l[j].2.1 = y := e
    have hne : ¬ (z.1 = x ∧ z.2.1 = y) := fun e2 => h1 l[j] (List.getElem_mem hj) ⟨e2.1.trans e'.1.symm, e2.2.trans e'.2.symm⟩
    rw [cntE, if_neg hne]
    exact cntE_at h2 j hj e'
theorem kV_inj {a b c d : Nat} (h : kV a b = kV c d) : a = c ∧ b = d := by
  simp [kV] at h
  exact ⟨by omega, by omega⟩
/-- Block b is a map of counts: its entries, as a list. -/
structure CM (w : World) (b : Nat) (es : Array MapEntry) (clock : Nat) (l : List (Nat × Nat × Nat)) : Prop where
  blk : w.heap[b]? = some (.map es clock)
  ent : es.toList.map (fun e => (e.key, e.val)) = l.map fun x => (kV x.1 x.2.1, Value.int .i64 (x.2.2 : Nat))
  st : Stamped es clock
  sm : ∀ x ∈ l, x.1 ≤ 1000000 ∧ x.2.1 ≤ 1000000
section
variable {w : World} {b clock : Nat} {es : Array MapEntry} {l : List (Nat × Nat × Nat)}
theorem CM.len (h : CM w b es clock l) : es.toList.length = l.length := by have := congrArg List.length h.ent; simpa using this
theorem CM.at (h : CM w b es clock l) {j : Nat} {e : MapEntry} (he : es.toList[j]? = some e) : ∃ hj : j < l.length, e.key = kV l[j].1 l[j].2.1 ∧ e.val = .int .i64 (l[j].2.2 : Nat) := by
  have hj : j < l.length := by rw [← h.len]; exact (List.getElem?_eq_some_iff.1 he).1
  have h1 := congrArg (fun q : List (Value × Value) => q[j]?) h.ent
  simp only [List.getElem?_map, he, List.getElem?_eq_getElem hj, Option.map_some, Option.some.injEq, Prod.mk.injEq] at h1
  exact ⟨hj, h1⟩
theorem CM.keys (h : CM w b es clock l) : ∀ e ∈ es.toList, ∃ q, keyOf Tryz.prog 181 e.key = some q := fun e he => by
  obtain ⟨j, hj⟩ := List.mem_iff_getElem?.1 he
  obtain ⟨hjl, h1, -⟩ := h.at hj
  rw [h1]
  have := h.sm _ (List.getElem_mem hjl)
  exact kV_key _ _ this.1 this.2
theorem CM.nodup (h : CM w b es clock l) : l.Pairwise fun u v => ¬ (u.1 = v.1 ∧ u.2.1 = v.2.1) := by
  have h1 := h.st.2.2
  have h2 : es.toList.map (·.key) = l.map fun x => kV x.1 x.2.1 := by
    have := congrArg (List.map Prod.fst) h.ent
    simpa [List.map_map, Function.comp_def] using this
  rw [h2, List.Nodup, List.pairwise_map] at h1
  exact h1.imp fun hne e => hne (by rw [e.1, e.2])
theorem zeroI (w : World) : (zeroValue 3).run Tryz.prog w = .ok (.int .i64 0) w := by kernel_rfl
theorem CM.lookup (h : CM w b es clock l) (x y : Nat) (hx : x ≤ 1000000) (hy : y ≤ 1000000) :
    (Instr.lookup 195 (.map (some b)) (kV x y) false).run Tryz.prog w = .ok (.int .i64 (cntE l x y : Nat)) w := by
  obtain ⟨q, hq⟩ := kV_key x y hx hy
  rcases lawP.find w hq es.toList h.keys with ⟨h1, h2⟩ | ⟨j, e, h1, h2, h3⟩
  · have hc : cntE l x y = 0 := cntE_none fun z hz e => by
      obtain ⟨j, hj, rfl⟩ := List.mem_iff_getElem.1 hz
      have hje : j < es.toList.length := by rw [h.len]; exact hj
      have h4 := h2 _ (List.getElem_mem hje)
      obtain ⟨_, h5, -⟩ := h.at (List.getElem?_eq_getElem hje)
      rw [h5, e.1, e.2] at h4
      exact h4 rfl
    rw [hc]
    simp [Instr.lookup, run_underlying Tryz.underlying195, MapKept.run_getObj_map h.blk, lawP.check w _ hq, h1, Result.andThen]
  · obtain ⟨hj, h4, h5⟩ := h.at h2
    have hk := kV_inj (h4.symm.trans h3)
    rw [cntE_at h.nodup j hj hk]
    simp [Instr.lookup, run_underlying Tryz.underlying195, MapKept.run_getObj_map h.blk, lawP.check w _ hq, h1, h5, Result.andThen]
/-- The entry that 'm[k]++' writes: there, or laid with 0. -/
theorem CM.entry (h : CM w b es clock l) (x y : Nat) (hx : x ≤ 1000000) (hy : y ≤ 1000000) :
    ∃ (v0 : Value) (s : Nat) (es1 : Array MapEntry) (clock1 : Nat) (l1 : List (Nat × Nat × Nat)) (j : Nat) (hj : j < l1.length), (Instr.mapEntry 195 (.map (some b)) (kV x y)).run Tryz.prog w = .ok (.tuple #[v0, goInt s]) (setBlock w b (.map es1 clock1)) ∧
      CM (setBlock w b (.map es1 clock1)) b es1 clock1 l1 ∧ (es1.toList[j]?).map (·.born) = some s ∧ l1[j] = (x, y, cntE l x y) ∧ (l1 = l ∨ ((∀ z ∈ l, ¬ (z.1 = x ∧ z.2.1 = y)) ∧ l1 = l ++ [(x, y, 0)] ∧ j = l.length)) := by
  obtain ⟨q, hq⟩ := kV_key x y hx hy
  have hlen := h.len
  rcases lawP.find w hq es.toList h.keys with ⟨h1, h2⟩ | ⟨j, e, h1, h2, h3⟩
  · have hno : ∀ z ∈ l, ¬ (z.1 = x ∧ z.2.1 = y) := fun z hz e => by
      obtain ⟨j, hj, rfl⟩ := List.mem_iff_getElem.1 hz
      have hje : j < es.toList.length := by rw [hlen]; exact hj
      have h4 := h2 _ (List.getElem_mem hje)
      obtain ⟨_, h5, -⟩ := h.at (List.getElem?_eq_getElem hje)
      rw [h5, e.1, e.2] at h4
      exact h4 rfl
    refine ⟨.int .i64 0, clock, es.push ⟨kV x y, .int .i64 0, clock⟩, clock + 1, l ++ [(x, y, 0)], l.length, by simp, ?_, ⟨heap_setBlock_same h.blk _, ?_, stamped_push h.st h2, ?_⟩, ?_, ?_, .inr ⟨hno, rfl, rfl⟩⟩
    · simp [Instr.mapEntry, run_underlying Tryz.underlying195, MapKept.run_getObj_map h.blk, lawP.check w false hq, h1, MapKept.run_setObj_map _ h.blk, Result.andThen, setBlock]
    · rw [Array.toList_push, List.map_append, List.map_append, h.ent]; rfl
    · intro z hz
      rcases List.mem_append.1 hz with hz | hz
      · exact h.sm z hz
      · simp at hz; subst hz; exact ⟨hx, hy⟩
    · rw [Array.toList_push, List.getElem?_append_right (by omega), hlen]; simp
    · rw [cntE_none hno]; simp
  · obtain ⟨hj, h4, h5⟩ := h.at h2
    have hk := kV_inj (h4.symm.trans h3)
    have hje : es[j]? = some e := by simpa using h2
    have hsame : es.modify j (fun e => { e with key := kV x y }) = es := by
      apply Array.ext'
      apply List.ext_getElem?
      intro i
      rw [Array.toList_modify, List.getElem?_modify]
      by_cases hij : j = i
      · subst hij
        rw [h2]
        show some (if j = j then ({ e with key := kV x y } : MapEntry) else e) = some e
        rw [if_pos rfl, ← h3]
      · simp [hij]
    refine ⟨e.val, e.born, es, clock, l, j, hj, ?_, ⟨heap_setBlock_same h.blk _, h.ent, h.st, h.sm⟩, by rw [h2]; rfl, ?_, .inl rfl⟩
    · simp [Instr.mapEntry, run_underlying Tryz.underlying195, MapKept.run_getObj_map h.blk, lawP.check w false hq, h1, hje, h3, lawP.stays w hq, hsame, MapKept.run_setObj_map _ h.blk, Result.andThen, setBlock]
    · rw [cntE_at h.nodup j hj hk, ← hk.1, ← hk.2]
theorem find_born : ∀ {l : List MapEntry}, (l.map (·.born)).Nodup → ∀ {j s : Nat}, (l[j]?).map (·.born) = some s → l.findIdx? (fun e => ((e.born : Nat) : Int) == (s : Int)) = some j
  | [], _, _, _, h => by simp at h
  | z :: l, hn, 0, s, h => by
    simp at h
    simp [List.findIdx?_cons, h]
  | z :: l, hn, j + 1, s, h => by
    simp only [List.map_cons, List.nodup_cons] at hn
    have h' : (l[j]?).map (·.born) = some s := by simpa using h
    have hne : ¬ z.born = s := fun e => hn.1 (by
      obtain ⟨a, ha, hb⟩ := Option.map_eq_some_iff.1 h'
      exact List.mem_map.2 ⟨a, List.mem_of_getElem? ha, by rw [hb, e]⟩)
    have hb : (((z.born : Nat) : Int) == (s : Int)) = false := by rw [beq_eq_false_iff_ne]; omega
    rw [List.findIdx?_cons, hb]
    simp [find_born hn.2 h']
theorem CM.store (h : CM w b es clock l) (j : Nat) (hj : j < l.length) (s : Nat) (hs : (es.toList[j]?).map (·.born) = some s) (c : Nat) :
    ∃ es2, (Instr.entryStore 195 (.map (some b)) (goInt s) (.int .i64 (c : Nat))).run Tryz.prog w = .ok () (setBlock w b (.map es2 clock)) ∧ CM (setBlock w b (.map es2 clock)) b es2 clock (l.set j (l[j].1, l[j].2.1, c)) := by
  have hf := find_born h.st.2.1 hs
  have hidx : es.findIdx? (fun e => ((e.born : Nat) : Int) == (s : Int)) = some j := by
    rw [← hf]; cases es; simp
  refine ⟨es.modify j fun e => { e with val := .int .i64 (c : Nat) }, ?_, ⟨heap_setBlock_same h.blk _, ?_, stamped_modify h.st _ _ (fun _ _ => rfl) (fun _ _ _ => rfl), ?_⟩⟩
  · simp [Instr.entryStore, MapKept.run_getObj_map h.blk, asInt, asIntOf, goInt, hidx, MapKept.run_setObj_map _ h.blk, Result.andThen, setBlock]
  · apply List.ext_getElem?
    intro i
    rw [Array.toList_modify, List.getElem?_map, List.getElem?_modify, List.getElem?_map, List.getElem?_set]
    have h1 := congrArg (fun q : List (Value × Value) => q[i]?) h.ent
    simp only [List.getElem?_map] at h1
    by_cases hij : j = i
    · subst hij
      rw [List.getElem?_eq_getElem hj] at h1
      obtain ⟨e, he, h2⟩ := Option.map_eq_some_iff.1 (h1.trans (by rw [Option.map_some]))
      rw [he]
      simp only [Prod.mk.injEq] at h2
      simp [hj, h2.1]
    · simpa [hij] using h1
  · intro z hz
    rcases List.mem_or_eq_of_mem_set hz with hz | rfl
    · exact h.sm z hz
    · exact (h.sm l[j] (List.getElem_mem hj) : l[j].1 ≤ 1000000 ∧ l[j].2.1 ≤ 1000000)
end
end Go.Proofs.YtkkklfikdoibcaaGreatDoor

namespace Go.Proofs.YtkkklfikdoibcaaGreatDoor
open Go.RowKit Go.Maps Go.MapKept
open Go.ChangeMaps (setBlock heap_setBlock_same heap_setBlock_other)
set_option maxRecDepth 100000

def vInt : Value → Nat
  | .int _ a => a.toNat
  | _ => 0
def vAt : Value → Nat → Value
  | .agg cs, i => cs.getD i undef
  | v, _ => v
def decE (e : MapEntry) : Nat × Nat × Nat := (vInt (vAt e.key 0), vInt (vAt e.key 1), vInt e.val)
theorem decE_at {e : MapEntry} {a b c : Nat} (hk : e.key = kV a b) (hv : e.val = .int .i64 (c : Nat)) : decE e = (a, b, c) := by
  unfold decE
  rw [hk, hv]
  simp [kV, vAt, vInt]
theorem left_all (es : Array MapEntry) : leftOf es #[] = es := by
  apply Array.ext'
  simp [leftOf]
theorem CM.dec {w : World} {b clock : Nat} {es : Array MapEntry} {l : List (Nat × Nat × Nat)} (h : CM w b es clock l) : es.toList.map decE = l := by
  apply List.ext_getElem (by rw [List.length_map, h.len])
  intro i h1 h2
  have hi : i < es.toList.length := by simpa using h1
  obtain ⟨_, h3, h4⟩ := h.at (List.getElem?_eq_getElem hi)
  rw [List.getElem_map, decE_at h3 h4]
theorem filter_split (p : MapEntry → Bool) : ∀ {l : List MapEntry} {e : MapEntry}, (l.map (·.born)).Nodup → e ∈ l → p e = true → (l.filter p).Perm (e :: l.filter fun x => p x && !(x.born == e.born))
  | [], _, _, he, _ => by cases he
  | z :: l, e, hn, he, hp => by
    simp only [List.map_cons, List.nodup_cons] at hn
    by_cases hz : z = e
    · subst hz
      have h1 : l.filter (fun x => p x && !(x.born == z.born)) = l.filter p := List.filter_congr fun x hx => by
        have : (x.born == z.born) = false := by
          rw [beq_eq_false_iff_ne]
          exact fun e2 => hn.1 (List.mem_map.2 ⟨x, hx, e2⟩)
        rw [this]; simp
      rw [List.filter_cons, if_pos hp, List.filter_cons, if_neg (by simp), h1]
    · have hel : e ∈ l := by
        rcases List.mem_cons.1 he with h | h
        · exact absurd h.symm hz
        · exact h
      have ih := filter_split p hn.2 hel hp
      have hne : (z.born == e.born) = false := by
        rw [beq_eq_false_iff_ne]
        exact fun e2 => hn.1 (List.mem_map.2 ⟨e, hel, e2.symm⟩)
      rw [List.filter_cons, List.filter_cons]
      simp only [hne, Bool.not_false, Bool.and_true]
      split
      · exact (ih.cons z).trans (List.Perm.swap e z _)
      · exact ih
/-- Block b is a map of counts, block r an iterator over it: out has come, rest is still to come. -/
structure CR (w : World) (b r : Nat) (es : Array MapEntry) (clock : Nat) (l out : List (Nat × Nat × Nat)) (cnt : Nat) : Prop where
  cm : CM w b es clock l
  ne : r ≠ b
  ex : ∃ since seen c0, w.heap[r]? = some (.mapIter (some b) since seen c0) ∧ (∀ x ∈ es.toList, x.born < since) ∧ since ≤ c0 ∧ c0 ≤ clock ∧ cnt = (leftOf es seen).size ∧ (out ++ (leftOf es seen).toList.map decE).Perm l
section
variable {w : World} {b r clock cnt : Nat} {es : Array MapEntry} {l out : List (Nat × Nat × Nat)}
theorem CM.kept {w' : World} {row : Option Nat} (h : CM w b es clock l) (hg : w.grownBy w' row) (hne : some b ≠ row) : CM w' b es clock l :=
  ⟨(hg.block b (Array.getElem?_eq_some_iff.1 h.blk).1 hne).trans h.blk, h.ent, h.st, h.sm⟩
theorem CR.kept {w' : World} {row : Option Nat} (h : CR w b r es clock l out cnt) (hg : w.grownBy w' row) (hb : some b ≠ row) (hr : some r ≠ row) : CR w' b r es clock l out cnt := by
  obtain ⟨since, seen, c0, h1, h2⟩ := h.ex
  exact ⟨h.cm.kept hg hb, h.ne, since, seen, c0, (hg.block r (Array.getElem?_eq_some_iff.1 h1).1 hr).trans h1, h2⟩
theorem CM.range (h : CM w b es clock l) : (Instr.range 195 (.map (some b))).run Tryz.prog w = .ok (.pointer (some ⟨w.heap.size, 0, none⟩)) (w.alloc (.mapIter (some b) clock #[] clock)) ∧ CR (w.alloc (.mapIter (some b) clock #[] clock)) b w.heap.size es clock l [] l.length := by
  have hlt := (Array.getElem?_eq_some_iff.1 h.blk).1
  refine ⟨run_range_map w _ _ _ b es clock Tryz.underlying195 h.blk, h.kept (World.grownBy_alloc w _ none) (by simp), by omega, clock, #[], clock, (MapKept.heap_alloc w _).1, h.st.1, Nat.le_refl _, Nat.le_refl _, ?_, ?_⟩
  · rw [left_all]; have := h.len; simpa using this.symm
  · rw [left_all, h.dec]; simp
theorem CR.next (h : CR w b r es clock l out cnt) (ty : TypeId) :
    (cnt = 0 ∧ out.Perm l ∧ (Instr.next (.pointer (some ⟨r, 0, none⟩)) false ty).run Tryz.prog w = .ok (.tuple #[.bool false]) w) ∨
    ∃ (x y c : Nat) (w' : World) (cnt' : Nat), (x, y, c) ∈ l ∧ (Instr.next (.pointer (some ⟨r, 0, none⟩)) false ty).run Tryz.prog w = .ok (.tuple #[.bool true, kV x y, .int .i64 (c : Nat)]) w' ∧
      CR w' b r es clock l (out ++ [(x, y, c)]) cnt' ∧ cnt' < cnt ∧ w.grownBy w' (some r) ∧ w'.heap.size = w.heap.size ∧ (Instr.entry (.pointer (some ⟨r, 0, none⟩))).run Tryz.prog w' = .ok (.tuple #[kV x y, .int .i64 (c : Nat)]) w' := by
  obtain ⟨since, seen, c0, hr, hold, hsc, hsk, rfl, hperm⟩ := h.ex
  rcases run_next_at (P := Tryz.prog) w ty r b since c0 seen es clock hr h.cm.blk hold hsc with ⟨h0, hrun⟩ | ⟨e, he, w1, hal, hrun⟩
  · refine .inl ⟨h0, ?_, hrun⟩
    have : (leftOf es seen).toList = [] := by rw [← List.length_eq_zero_iff, Array.length_toList, h0]
    rw [this] at hperm
    simpa using hperm
  · obtain ⟨hem, hes⟩ := mem_left he
    obtain ⟨j, hj⟩ := List.mem_iff_getElem?.1 hem
    obtain ⟨hjl, hk, hv⟩ := h.cm.at hj
    have hr1 : w1.heap[r]? = some (.mapIter (some b) since seen c0) := by rcases hal with rfl | rfl <;> exact hr
    have hb1 : w1.heap[b]? = some (.map es clock) := by rcases hal with rfl | rfl <;> exact h.cm.blk
    have hset := heap_set (o' := .mapIter (some b) since (seen.push e.born) clock) hr1
    have hb' : (setBlock w1 r (.mapIter (some b) since (seen.push e.born) clock)).heap[b]? = some (.map es clock) := (hset.2 b (fun e1 => h.ne e1.symm)).trans hb1
    have hcm : CM (setBlock w1 r (.mapIter (some b) since (seen.push e.born) clock)) b es clock l := ⟨hb', h.cm.ent, h.cm.st, h.cm.sm⟩
    have hent := run_entry_at (P := Tryz.prog) _ r b since seen es clock e hset.1 hb' hem h.cm.st.2.1
    rw [hk, hv] at hrun hent
    refine .inr ⟨l[j].1, l[j].2.1, l[j].2.2, _, _, List.getElem_mem hjl, hrun, ⟨hcm, h.ne, since, seen.push e.born, clock, hset.1, hold, Nat.le_trans hsc hsk, Nat.le_refl _, rfl, ?_⟩, left_shrinks es seen e he, ?_, ?_, hent⟩
    · have hsp := filter_split (fun x => !seen.contains x.born) h.cm.st.2.1 hem (by rw [hes]; rfl)
      have e1 : (leftOf es seen).toList = es.toList.filter fun x => !seen.contains x.born := by simp [leftOf]
      have e2 : (leftOf es (seen.push e.born)).toList = es.toList.filter fun x => (!seen.contains x.born) && !(x.born == e.born) := by
        unfold leftOf
        rw [Array.toList_filter]
        refine List.filter_congr fun x _ => ?_
        rw [contains_push]
        cases seen.contains x.born <;> rfl
      rw [e2]
      rw [e1] at hperm
      have h3 := hsp.map decE
      rw [List.map_cons, decE_at hk hv] at h3
      have h4 := (h3.append_left out).symm.trans hperm
      rw [List.append_assoc]
      exact h4
    · rcases hal with rfl | rfl <;> exact ⟨rfl, rfl, rfl, by simp [setBlock], fun i _ hi => hset.2 i (fun e1 => hi (by rw [e1]))⟩
    · rcases hal with rfl | rfl <;> simp [setBlock]
end
end Go.Proofs.YtkkklfikdoibcaaGreatDoor

namespace Go.Proofs.YtkkklfikdoibcaaGreatDoor
open Go.RowKit Go.Sort Go.Shelf
set_option maxRecDepth 100000

set_option maxHeartbeats 1000000 in
theorem pairCmp_same (w : World) (a b c d : Int) :
    Calls Tryz.prog 129 #[.agg #[.int .i64 a, .int .i64 b], .agg #[.int .i64 c, .int .i64 d]] w (Rets fun v w' => v = .int .i64 (cmpP a b c d) ∧ ∃ o1 o2 o3, w' = (((w.alloc o1).alloc o2).alloc o3).drew) := by
  obtain ⟨x, hx⟩ : ∃ x, Lib.compareInt a c = x := ⟨_, rfl⟩
  obtain ⟨y, hy⟩ : ∃ y, Lib.compareInt b d = y := ⟨_, rfl⟩
  have HX := Lib.hid hx; have HY := Lib.hid hy
  have H : Hid (cmpP a b c d = orI x y) := Lib.hid (by unfold cmpP; rw [hx, hy])
  have k1 := (Blk.new w [.int .i64 a, .int .i64 b] 181).alloc (.cells #[.int .i64 c, .int .i64 d] 181)
  have k2 := Blk.new (w.alloc (.cells #[.int .i64 a, .int .i64 b] 181)) [.int .i64 c, .int .i64 d] 181
  rw [World.size_alloc] at k2
  clear hx hy
  go_enter Tryz.func129, Tryz.ntmps129
  go_wp2_with fail
  obtain ⟨W, hW⟩ : ∃ W, (w.alloc (.cells #[.int .i64 a, .int .i64 b] 181)).alloc (.cells #[.int .i64 c, .int .i64 d] 181) = W := ⟨_, rfl⟩
  rw [show [Value.int .i64 a, Value.int .i64 b].toArray = #[Value.int .i64 a, Value.int .i64 b] from rfl] at *
  rw [hW] at k1 k2 ⊢
  have HW := Lib.hid hW
  have c1 := k1.cell 0 _ rfl; have c2 := k1.cell 1 _ rfl; have c3 := k2.cell 0 _ rfl; have c4 := k2.cell 1 _ rfl
  clear k1 k2 hW
  go_region_held3 (fun w' => w'.cell? ⟨w.heap.size, 0, none⟩ = some (.int .i64 a) ∧ w'.cell? ⟨w.heap.size, 1, none⟩ = some (.int .i64 b) ∧ w'.cell? ⟨w.heap.size + 1, 0, none⟩ = some (.int .i64 c) ∧ w'.cell? ⟨w.heap.size + 1, 1, none⟩ = some (.int .i64 d)) (go_keep)
    (first
      | (go_at_call_of 172 (Value.int .i64 a); refine (Tryz.cmp_Compare_int _ _ _).mono ?_; rintro e w' ⟨rfl, rfl⟩; rw [HX.out])
      | (go_at_call_of 172 (Value.int .i64 b); refine (Tryz.cmp_Compare_int _ _ _).mono ?_; rintro e w' ⟨rfl, rfl⟩; rw [HY.out])
      | (go_at_call 171; refine (Or_two _ _ x y (show Blk (W.alloc (.cells #[.int .i64 x, .int .i64 y] 3)).drew W.heap.size [.int .i64 x, .int .i64 y] 3 from Blk.new W [.int .i64 x, .int .i64 y] 3)).mono ?_; rintro e w' ⟨rfl, rfl⟩))
  all_goals
    go_wp2
    go_ret
    exact ⟨_, rfl, by rw [H.out]; rfl, _, _, (.cells #[.int .i64 x, .int .i64 y] 3), by rw [HW.out]⟩
def cfE (x y : Nat × Nat × Nat) : Int := cmpP x.1 x.2.1 y.1 y.2.1
theorem ltE_iff (x y : Nat × Nat × Nat) : ltOf cfE x y = true ↔ x.1 < y.1 ∨ (x.1 = y.1 ∧ x.2.1 < y.2.1) := by
  have h := cmpP_nonneg x.1 x.2.1 y.1 y.2.1
  unfold ltOf cfE
  simp only [decide_eq_true_eq]
  omega
theorem ltE_not (x y : Nat × Nat × Nat) : ltOf cfE x y = false ↔ ¬ (x.1 < y.1 ∨ (x.1 = y.1 ∧ x.2.1 < y.2.1)) := by rw [← ltE_iff]; simp
theorem swoE : SWO (ltOf cfE) where
  irrefl x := by rw [ltE_not]; omega
  trans x y z h1 h2 := by rw [ltE_iff] at *; omega
  ntrans x y z h1 h2 := by rw [ltE_not] at *; omega
def en3 (x : Nat × Nat × Nat) : List Value := e3 (n3 x)
theorem en3_len (x : Nat × Nat × Nat) : (en3 x).length = 3 := rfl
theorem en3_one (x : Nat × Nat × Nat) : ∀ v ∈ en3 x, v.oneCell' = true := e3_one _
theorem drew_grow (W : World) (os : Array Obj) : (Go.Sort.grow W os).drew = Go.Sort.grow (W.drewN 1) os := rfl
theorem five_grow (W : World) (p q o1 o2 o3 : Obj) : (((((W.alloc p).alloc q).alloc o1).alloc o2).alloc o3).drew = Go.Sort.grow (W.drewN 1) #[p, q, o1, o2, o3] := by
  rw [← drew_grow]
  rw [show ((((W.alloc p).alloc q).alloc o1).alloc o2).alloc o3 = Go.Sort.grow W #[p, q, o1, o2, o3] by simp [alloc_eq_grow, grow_grow]]
theorem graph1_any (W : World) (x y : Nat × Nat × Nat) : Calls Tryz.prog 181 #[.agg (en3 x).toArray, .agg (en3 y).toArray] W fun e w' => e = .returned (.int .i64 (cfE x y)) ∧ ∃ q os', w' = Go.Sort.grow (W.drewN q) os' := by
  obtain ⟨a, b, m⟩ := x
  obtain ⟨c, d, k⟩ := y
  show Calls _ _ #[.agg #[.int .i64 (a : Nat), .int .i64 (b : Nat), .int .i64 (m : Nat)], .agg #[.int .i64 (c : Nat), .int .i64 (d : Nat), .int .i64 (k : Nat)]] W _
  have H : Hid (cfE (a, b, m) (c, d, k) = cmpP a b c d) := Lib.hid rfl
  rw [H.out]
  go_enter Tryz.func181, Tryz.ntmps181
  go_wp2_with (go_at_call 129; (with_reducible refine (pairCmp_same _ _ _ _ _).mono ?_); rintro e w' ⟨v, rfl, rfl, o1, o2, o3, rfl⟩)
  go_ret
  exact ⟨rfl, 1, _, five_grow _ _ _ _ _ _⟩
theorem sortEdges {w : World} {base : Nat} {v : Value} {xs : List (Nat × Nat × Nat)} (hl : xs.length < 4611686018427387904) (h : w.ownsRow base 124 3 v xs.length (xs.flatMap en3)) :
    Calls Tryz.prog 180 #[v, .func (.func 181) #[] #[]] w fun en w' => en = .returned (.tuple #[]) ∧ ∃ ys : List (Nat × Nat × Nat), ys.Perm xs ∧ (ys.Pairwise fun x y => ¬ (y.1 < x.1 ∨ (y.1 = x.1 ∧ y.2.1 < x.2.1))) ∧ w'.ownsRow base 124 3 v ys.length (ys.flatMap en3) ∧ w.grownBy w' v.ownBlock := by
  have hm := sortK Tryz.sort_Edge Tryz.isAgg124 Tryz.sizeOf124 en3_len en3_one cfE swoE 181 (enters_of Tryz.func181 (by kernel_rfl) rfl) graph1_any h hl
  change Calls Tryz.prog 180 _ _ _ at hm
  refine hm.mono fun en w' ⟨he, ys, hp, hs, ho, hg⟩ => ⟨he, ys, hp, hs.imp ?_, ho, hg⟩
  intro x y h3
  exact (ltE_not y x).1 h3
end Go.Proofs.YtkkklfikdoibcaaGreatDoor

namespace Go.Proofs.YtkkklfikdoibcaaGreatDoor
open Go.RowKit Go.Maps Go.MapKept
set_option maxRecDepth 100000

theorem CR.left_eq {w : World} {b r clock cnt : Nat} {es : Array MapEntry} {l out : List (Nat × Nat × Nat)} (h : CR w b r es clock l out cnt) : w.rangeLeft b r = cnt := by
  obtain ⟨since, seen, c0, hr, -, -, -, hc, -⟩ := h.ex
  simp only [World.rangeLeft, h.cm.blk, hr]
  exact hc.symm
theorem CM.below {w w' : World} {b clock B : Nat} {es : Array MapEntry} {l : List (Nat × Nat × Nat)} (h : CM w b es clock l) (hb : Below B w w') (hB : w.heap.size ≤ B) : CM w' b es clock l :=
  ⟨(hb.block b (Nat.lt_of_lt_of_le (Array.getElem?_eq_some_iff.1 h.blk).1 hB)).trans h.blk, h.ent, h.st, h.sm⟩
theorem grown_set (w : World) (g j : Nat) (u : Value) : w.grownBy (w.setCell ⟨g, j, none⟩ u) (some g) :=
  ⟨rfl, rfl, rfl, by simp [World.setCell], fun i _ hne => Below.heap_setCell _ _ _ _ (fun e => hne (by rw [e]))⟩
section
variable {P : Program} {t e : TypeId} {z : Value} {size bytes : Nat} {ops : Array Oper} {rest : List Oper} {o : Oper} {a : Act} {Q : Exit → Act → World → Prop}
/-- 'append(s, x..)' of a slice that the call owns, with what has grown. -/
theorem appMP (hE : ElemOk P t e z size bytes) (hgd : o.guard = none) (s x : Operand) (ho : o.op = .call { callee := .builtin .append, args := #[s, x], argTypes := #[t, t] })
    {v : Value} {n m c base : Nat} {xs news : List Value} {w0 : World} (hs : a.eval s = v) (hx : a.eval x = .slice (some ⟨w0.heap.size, 0, none⟩) m c)
    (hown : w0.ownsRow base e size v n xs) (hbase : base ≤ w0.heap.size) (hl : news.length = m * size) (h1 : ∀ u ∈ news, u.oneCell' = true)
    (hn : (n + m) * bytes ≤ 140737488355328) (hn' : n + m ≤ maxLen)
    (h : ∀ v' w', w'.ownsRow base e size v' (n + m) (xs ++ news) → (w0.alloc (.cells news.toArray e)).grownBy w' v.ownBlock → wpList P ops Q rest (a.put o.dst v') w') :
    wpList P ops Q (o :: rest) a (w0.alloc (.cells news.toArray e)) := by
  obtain ⟨i, hi, hz, hsz, hby⟩ := hE.info
  refine wpList_append_own _ hgd s x t ho base e i z size bytes hE.und hi hz hsz hby hE.cells hE.pos v n xs hs (hown.alloc _) ⟨w0.heap.size, 0, none⟩ m c news hx (by rw [hl]) ?_ h1 hn' hn (by simp; omega) ?_
  · intro j u hj
    rw [addr0]
    rw [cell_of_row _ w0.heap.size j news.toArray e (0, 0) (heap_alloc_new w0 _)]
    simpa using hj
  · intro v' w' ho' hg _
    exact h v' w' ho' hg
end
theorem Blk.grown {A C : World} {g : Nat} {cs : List Value} {T : TypeId} {row : Option Nat} (h : Blk A g cs T) (hg : A.grownBy C row) (hne : some g ≠ row) : Blk C g cs T := (hg.block g h.lt hne).trans h
set_option maxHeartbeats 4000000 in
theorem bagGraph_any (w : World) (b clock n : Nat) (es : Array MapEntry) (l : List (Nat × Nat × Nat)) (hm : CM w b es clock l) (hl : l.length ≤ 5000) :
    Calls Tryz.prog 140 #[.map (some b), .int .i64 (n : Nat)] w (Rets fun r w' => ∃ u ys, r = .agg #[.int .i64 (n : Nat), u] ∧ List.Perm ys l ∧ (List.Pairwise (fun x y => ¬ (y.1 < x.1 ∨ (y.1 = x.1 ∧ y.2.1 < x.2.1))) ys) ∧ w'.ownsRow w.heap.size 124 3 u (List.length ys) (ys.flatMap en3) ∧ Below w.heap.size w w') := by
  have hbl := (Array.getElem?_eq_some_iff.1 hm.blk).1
  obtain ⟨d, hd⟩ : ∃ d, w.heap.size = d := ⟨_, rfl⟩
  obtain ⟨W, hW⟩ : ∃ W, (w.alloc (.cells #[.int .i64 0, .slice none 0 0] 24)).alloc (.cells #[.int .i64 (n : Nat), .slice none 0 0] 24) = W := ⟨_, rfl⟩
  have s0 : W.heap.size = d + 2 := by rw [← hW, ← hd]; simp
  have HR := Lib.hid (show Blk W d [.int .i64 0, .slice none 0 0] 24 by rw [← hW, ← hd]; exact (Blk.new w _ _).alloc _)
  have HG := Lib.hid (show Blk W (d + 1) [.int .i64 (n : Nat), .slice none 0 0] 24 by rw [← hW, ← hd]; exact Blk.at1 w _ _ _)
  have HB := Lib.hid (show Below d w W by rw [← hW, ← hd]; exact ((Below.refl _ w).alloc (Nat.le_refl _) _).alloc (by simp) _)
  have hmW : CM W b es clock l := hm.below HB.out (by omega)
  obtain ⟨hrr, hcr⟩ := hmW.range
  have HS0 := Lib.hid s0
  rw [s0] at hrr hcr
  obtain ⟨W2, hW2⟩ : ∃ W2, W.alloc (.mapIter (some b) clock #[] clock) = W2 := ⟨_, rfl⟩
  rw [hW2] at hrr hcr
  have bW2 : Below W.heap.size W W2 := by rw [← hW2]; exact (Below.refl _ W).alloc (Nat.le_refl _) _
  have HR2 := Lib.hid (HR.out.below bW2 (Nat.le_refl _))
  have HG2 := Lib.hid (HG.out.below bW2 (Nat.le_refl _))
  have HB2 := Lib.hid (HB.out.trans (bW2.mono (by omega)))
  have HS2 := Lib.hid (show d + 3 ≤ W2.heap.size by rw [← hW2]; simp; omega)
  have HCR := Lib.hid hcr
  have hbd : b < d := by omega
  rw [← hW] at hrr
  clear hm hW hmW hcr hW2 bW2 s0 HR HG HB HS0
  go_enter Tryz.func140, Tryz.ntmps140
  go_wp2
  clear hrr
  go_loopw [7] (fun _ wr => ∃ (out : List (Nat × Nat × Nat)) (cnt : Nat) (u : Value), Hid (CR wr b (d + 2) es clock l out cnt) ∧ Hid (Blk wr (d + 1) [.int .i64 (n : Nat), u] 24) ∧ Hid (wr.ownsRow (d + 3) 124 3 u out.length (out.flatMap en3)) ∧ Hid (Blk wr d [.int .i64 0, .slice none 0 0] 24) ∧ Hid (Below d w wr) ∧ Hid (d + 3 ≤ wr.heap.size)) (fun _ wr => wr.rangeLeft b (d + 2))
  case atStart => exact ⟨[], _, _, HCR, HG2, Lib.hid (World.ownsRow_nil _ _ _ _), HR2, HB2, HS2⟩
  case round =>
    clear HCR HG2 HR2 HB2 HS2
    obtain ⟨out, cnt, u, hCR, hG, hO, hR, hB, hS⟩ := hrel
    rcases hCR.out.next 0 with ⟨h0, hp, hrun⟩ | ⟨x, y, c, w1, cnt', hmem, hrun, hcr1, hlt, hg1, hs1, hent⟩
    · have HP := Lib.hid hp
      have hge := own_ge hO.out
      have g1 := hG.out.cell 1 _ rfl; have g0 := hG.out.cell 0 _ rfl; have gl := hG.out.lt
      have hol : out.length ≤ 5000 := by rw [hp.length_eq]; exact hl
      obtain ⟨ua, uc, rfl⟩ := own_formK hO.out
      clear hp h0
      go_wp2_with (go_at_call 180; (with_reducible refine (sortEdges (by omega) hO.out).mono ?_); rintro e w2 ⟨rfl, ys, hp1, hp2, hown2, hg2⟩; have HP1 := Lib.hid hp1; have HP2 := Lib.hid hp2; have HO2 := Lib.hid hown2; have HG2 := Lib.hid (hG.out.grown hg2 (fun e => by have := hge _ e.symm; omega)); have HR2 := Lib.hid (hR.out.grown hg2 (fun e => by have := hge _ e.symm; omega)); have HB2 := Lib.hid (hB.out.grown hg2 (by have := hS.out; omega) (fun k e => by have := hge _ e; omega)); clear hp1 hp2 hown2 hg2; have z0 := HG2.out.cell 0 _ rfl; have z1 := HG2.out.cell 1 _ rfl; have zl := HG2.out.lt; have r0 := HR2.out.cell 0 _ rfl; have r1 := HR2.out.cell 1 _ rfl; have rf0 := HR2.out.free 0; have rf1 := HR2.out.free 1; have rl := HR2.out.lt)
      have hRF := (HR2.out.set 0 (.int .i64 (n : Nat))).set 1 (.slice ua out.length uc)
      have y0 := hRF.cell 0 _ rfl; have y1 := hRF.cell 1 _ rfl
      have hdd : d ≤ d := Nat.le_refl d
      refine bodyPost_ret (v := .agg #[.int .i64 (n : Nat), .slice ua out.length uc]) (by simp [results, Tryz.results140, go_sem, y0, y1]) rfl ⟨_, rfl, _, ys, rfl, HP1.out.trans HP.out, HP2.out, ?_, ?_⟩
      · rw [hd]
        exact own_apart (own_apart (own_low HO2.out (by omega)) (fun e => by have := hge d e; omega)) (fun e => by have := hge d e; omega)
      · rw [hd]
        exact (HB2.out.setCell (p := ⟨d, 0, none⟩) hdd _).setCell (p := ⟨d, 1, none⟩) hdd _
    · have hge := own_ge hO.out
      have hol : out.length ≤ 5000 := by
        obtain ⟨since, seen, c0, -, -, -, -, -, hpm⟩ := hCR.out.ex
        have := hpm.length_eq
        simp at this; omega
      obtain ⟨ua, uc, rfl⟩ := own_formK hO.out
      unfold kV at hrun hent
      have HG1 := Lib.hid (hG.out.grown hg1 (by simp))
      have HR1 := Lib.hid (hR.out.grown hg1 (by simp))
      have HO1 := Lib.hid (hO.out.kept hg1 (.inr (fun e => by have := hge _ e; omega)))
      have HB1 := Lib.hid (hB.out.grown hg1 (by have := hS.out; omega) (fun k e => by cases e; omega))
      have HC1 := Lib.hid hcr1
      have HS1 := Lib.hid (show d + 3 ≤ w1.heap.size by have := hS.out; omega)
      have g1 := HG1.out.cell 1 _ rfl; have gf := HG1.out.free 1; have gl := HG1.out.lt
      clear hcr1 hs1
      go_wp2_with (at_builtin; go_loud (refine appMP (w0 := w1.alloc (.cells #[.int .i64 (x : Nat), .int .i64 (y : Nat)] 181)) (m := 1) (news := [.int .i64 (x : Nat), .int .i64 (y : Nat), .int .i64 (c : Nat)]) elemEdge rfl (.tmp 18) (.tmp 25) rfl (by rfl) (by rw [World.size_alloc]; rfl) (HO1.out.alloc _) (by rw [World.size_alloc]; have := HS1.out; omega) rfl (e3_one ((x : Int), (y : Int), (c : Int))) (by omega) (by unfold maxLen; omega) ?_); intro v' w3 hown' hg3; obtain ⟨va, vc, rfl⟩ := own_formK hown'; have HG3 := Lib.hid (((HG1.out.alloc (.cells #[.int .i64 (x : Nat), .int .i64 (y : Nat)] 181)).alloc (.cells [Value.int .i64 (x : Nat), .int .i64 (y : Nat), .int .i64 (c : Nat)].toArray 124)).grown hg3 (fun e => by have := hge _ e.symm; omega)); have c3 := HG3.out.cell 1 _ rfl; have cf3 := HG3.out.free 1; have cl3 := HG3.out.lt; have HOW := Lib.hid hown'; have HG3b := Lib.hid hg3; clear hown' hg3)
      go_roundw
      case rel =>
        have hal := (World.grownBy_alloc w1 (.cells #[.int .i64 (x : Nat), .int .i64 (y : Nat)] 181) none)
        have hc3 := ((HC1.out.kept hal (by simp) (by simp)).kept (World.grownBy_alloc _ (.cells [Value.int .i64 (x : Nat), .int .i64 (y : Nat), .int .i64 (c : Nat)].toArray 124) none) (by simp) (by simp)).kept HG3b.out (fun e => by have := hge _ e.symm; omega) (fun e => by have := hge _ e.symm; omega)
        have hb3 := ((HB1.out.alloc (show d ≤ w1.heap.size by have := HS1.out; omega) (.cells #[.int .i64 (x : Nat), .int .i64 (y : Nat)] 181)).alloc (by rw [World.size_alloc]; have := HS1.out; omega) (.cells [Value.int .i64 (x : Nat), .int .i64 (y : Nat), .int .i64 (c : Nat)].toArray 124)).grown HG3b.out (by simp; have := HS1.out; omega) (fun k e => by have := hge _ e; omega)
        have hr3 := ((HR1.out.alloc (.cells #[.int .i64 (x : Nat), .int .i64 (y : Nat)] 181)).alloc (.cells [Value.int .i64 (x : Nat), .int .i64 (y : Nat), .int .i64 (c : Nat)].toArray 124)).grown HG3b.out (fun e => by have := hge _ e.symm; omega)
        have hge3 := own_ge HOW.out
        exact ⟨out ++ [(x, y, c)], cnt', _, Lib.hid (hc3.kept (grown_set w3 (d + 1) 1 _) (by simp; omega) (by simp)), Lib.hid (HG3.out.set 1 _), Lib.hid (own_apart (ownsRow_cast HOW.out (by simp) (by rw [List.flatMap_append]; rfl)) (fun e => by have := hge3 _ e; omega)), Lib.hid (hr3.setCell (by omega) _), Lib.hid (hb3.setCell (p := ⟨d + 1, 1, none⟩) (by simp) _), Lib.hid (by have := HG3b.out.size; have := HS1.out; simp at *; omega)⟩
      case measure =>
        have hal := (World.grownBy_alloc w1 (.cells #[.int .i64 (x : Nat), .int .i64 (y : Nat)] 181) none)
        have hc3 := ((HC1.out.kept hal (by simp) (by simp)).kept (World.grownBy_alloc _ (.cells [Value.int .i64 (x : Nat), .int .i64 (y : Nat), .int .i64 (c : Nat)].toArray 124) none) (by simp) (by simp)).kept HG3b.out (fun e => by have := hge _ e.symm; omega) (fun e => by have := hge _ e.symm; omega)
        rw [(hc3.kept (grown_set w3 (d + 1) 1 _) (by simp; omega) (by simp)).left_eq, hCR.out.left_eq]
        exact hlt
end Go.Proofs.YtkkklfikdoibcaaGreatDoor

namespace Go.Proofs.YtkkklfikdoibcaaGreatDoor
open Go.RowKit Go.Maps Go.MapKept
open Go.ChangeMaps (setBlock heap_setBlock_same heap_setBlock_other)
set_option maxRecDepth 100000

theorem joined_le (w : World) (a b : Nat) (hab : a ≤ b) : Calls Tryz.prog 139 #[.int .i64 (a : Nat), .int .i64 (b : Nat)] w (Rets fun r w' => r = .agg #[.int .i64 (a : Nat), .int .i64 (b : Nat)] ∧ Below w.heap.size w w') := by
  have h1 : min (a : Int) (b : Int) = (a : Int) := by omega
  have h2 : max (a : Int) (b : Int) = (b : Int) := by omega
  have HB := Lib.hid ((Below.refl w.heap.size w).alloc (Nat.le_refl _) (.cells #[.int .i64 (a : Nat), .int .i64 (b : Nat)] 181))
  go_enter Tryz.func139, Tryz.ntmps139
  go_wp2
  exact bodyPost_ret (v := .agg #[.int .i64 (a : Nat), .int .i64 (b : Nat)]) (by simp [results, Tryz.results139, go_sem]) rfl ⟨_, rfl, rfl, HB.out⟩
/-- How the list of counts stands to the ends that have been counted. -/
structure Cnt (ps : List (Nat × Nat)) (l : List (Nat × Nat × Nat)) : Prop where
  cnt : ∀ p q, cntE l p q = ps.count (p, q)
  pos : ∀ z ∈ l, 1 ≤ z.2.2 ∧ (z.1, z.2.1) ∈ ps
  len : l.length ≤ ps.length
theorem Cnt.nil : Cnt [] [] := ⟨fun _ _ => rfl, fun z h => absurd h (by simp), Nat.le_refl _⟩
theorem cntE_append (x y c : Nat) : ∀ (l : List (Nat × Nat × Nat)) (p q : Nat), (∀ z ∈ l, ¬ (z.1 = x ∧ z.2.1 = y)) → cntE (l ++ [(x, y, c)]) p q = if x = p ∧ y = q then c else cntE l p q
  | [], p, q, _ => by simp [cntE]
  | z :: l, p, q, h => by
    have ih := cntE_append x y c l p q fun w hw => h w (by simp [hw])
    have hz := h z (by simp)
    rw [List.cons_append, cntE, cntE, ih]
    by_cases e : z.1 = p ∧ z.2.1 = q
    · rw [if_pos e, if_pos e, if_neg (fun e2 => hz ⟨e.1.trans e2.1.symm, e.2.trans e2.2.symm⟩)]
    · rw [if_neg e, if_neg e]
theorem cntE_set (x y c : Nat) : ∀ (l : List (Nat × Nat × Nat)) (j : Nat) (h : j < l.length) (p q : Nat), (l.Pairwise fun u v => ¬ (u.1 = v.1 ∧ u.2.1 = v.2.1)) → l[j].1 = x ∧ l[j].2.1 = y → cntE (l.set j (x, y, c)) p q = if x = p ∧ y = q then c else cntE l p q
  | z :: l, 0, _, p, q, _, e => by
    have e' : z.1 = x ∧ z.2.1 = y := e
    rw [List.set_cons_zero, cntE, cntE]
    by_cases h : x = p ∧ y = q
    · rw [if_pos h, if_pos h]
    · rw [if_neg h, if_neg h, if_neg (fun h2 => h ⟨e'.1.symm.trans h2.1, e'.2.symm.trans h2.2⟩)]
  | z :: l, j + 1, h, p, q, hp, e => by
    obtain ⟨h1, h2⟩ := List.pairwise_cons.1 hp
    have hj : j < l.length := by simpa using h
    have e' : l[j].1 = x ∧ l[j].2.1 = y := e
    have ih := cntE_set x y c l j hj p q h2 e'
    rw [List.set_cons_succ, cntE, cntE, ih]
    by_cases hz : z.1 = p ∧ z.2.1 = q
    · have hne : ¬ (x = p ∧ y = q) := fun h3 => h1 l[j] (List.getElem_mem hj) ⟨by rw [hz.1, e'.1, h3.1], by rw [hz.2, e'.2, h3.2]⟩
      rw [if_pos hz, if_pos hz, if_neg hne]
    · rw [if_neg hz, if_neg hz]
/-- One end more: the entry is there, or laid. -/
theorem Cnt.step {ps : List (Nat × Nat)} {l l1 : List (Nat × Nat × Nat)} {x y j : Nat} (h : Cnt ps l) (hn : l1.Pairwise fun u v => ¬ (u.1 = v.1 ∧ u.2.1 = v.2.1)) (hj : j < l1.length) (he : l1[j] = (x, y, cntE l x y)) (hl : l1 = l ∨ ((∀ z ∈ l, ¬ (z.1 = x ∧ z.2.1 = y)) ∧ l1 = l ++ [(x, y, 0)] ∧ j = l.length)) :
    Cnt (ps ++ [(x, y)]) (l1.set j (l1[j].1, l1[j].2.1, cntE l x y + 1)) := by
  have e1 : l1[j].1 = x ∧ l1[j].2.1 = y := by rw [he]; exact ⟨rfl, rfl⟩
  have ex : (l1[j].1, l1[j].2.1, cntE l x y + 1) = (x, y, cntE l x y + 1) := by rw [e1.1, e1.2]
  rw [ex]
  have hc1 : ∀ p q, cntE l1 p q = cntE l p q := fun p q => by
    rcases hl with rfl | ⟨h1, rfl, -⟩
    · rfl
    · rw [cntE_append x y 0 l p q h1]
      by_cases h2 : x = p ∧ y = q
      · rw [if_pos h2]; obtain ⟨rfl, rfl⟩ := h2; exact (cntE_none h1).symm
      · rw [if_neg h2]
  refine ⟨fun p q => ?_, fun z hz => ?_, ?_⟩
  · rw [cntE_set x y _ l1 j hj p q hn e1, hc1, List.count_append, ← h.cnt]
    by_cases h2 : x = p ∧ y = q
    · rw [if_pos h2]; obtain ⟨rfl, rfl⟩ := h2; simp
    · rw [if_neg h2]
      have : ¬ (x, y) = (p, q) := fun e => h2 (by simpa using e)
      simp [this]
  · rcases hl with rfl | ⟨h1, rfl, rfl⟩
    · rcases List.mem_or_eq_of_mem_set hz with h9 | rfl
      · have := h.pos z h9; exact ⟨this.1, by simp [this.2]⟩
      · exact ⟨by simp, by simp⟩
    · rw [List.set_append_right _ _ (Nat.le_refl _), Nat.sub_self] at hz
      rcases List.mem_append.1 hz with h9 | h9
      · have := h.pos z h9; exact ⟨this.1, by simp [this.2]⟩
      · simp at h9; subst h9; exact ⟨by simp, by simp⟩
  · rw [List.length_set, List.length_append]
    have := h.len
    rcases hl with rfl | ⟨-, rfl, -⟩ <;> simp <;> omega
theorem grown_block {w : World} {b clock : Nat} {es : Array MapEntry} (hb : w.heap[b]? = some (.map es clock)) (o : Obj) : w.grownBy (setBlock w b o) (some b) :=
  ⟨rfl, rfl, rfl, by simp [setBlock], fun _ _ hi => heap_setBlock_other hb _ (fun e => hi (by rw [e]))⟩
theorem CM.entryW {w : World} {b clock : Nat} {es : Array MapEntry} {l : List (Nat × Nat × Nat)} (h : CM w b es clock l) (x y : Nat) (hx : x ≤ 1000000) (hy : y ≤ 1000000) :
    ∃ (v0 : Value) (s : Nat) (es1 : Array MapEntry) (clock1 : Nat) (l1 : List (Nat × Nat × Nat)) (j : Nat) (hj : j < l1.length) (w1 : World), (Instr.mapEntry 195 (.map (some b)) (.agg #[.int .i64 (x : Nat), .int .i64 (y : Nat)])).run Tryz.prog w = .ok (.tuple #[v0, .int .i64 (s : Nat)]) w1 ∧
      CM w1 b es1 clock1 l1 ∧ (es1.toList[j]?).map (·.born) = some s ∧ l1[j] = (x, y, cntE l x y) ∧ (l1 = l ∨ ((∀ z ∈ l, ¬ (z.1 = x ∧ z.2.1 = y)) ∧ l1 = l ++ [(x, y, 0)] ∧ j = l.length)) ∧ w.grownBy w1 (some b) := by
  obtain ⟨v0, s, es1, clock1, l1, j, hj, h1, h2, h3, h4, h5⟩ := h.entry x y hx hy
  exact ⟨v0, s, es1, clock1, l1, j, hj, _, h1, h2, h3, h4, h5, grown_block h.blk _⟩
theorem CM.storeW {w : World} {b clock : Nat} {es : Array MapEntry} {l : List (Nat × Nat × Nat)} (h : CM w b es clock l) (j : Nat) (hj : j < l.length) (s : Nat) (hs : (es.toList[j]?).map (·.born) = some s) (c : Nat) :
    ∃ (es2 : Array MapEntry) (w1 : World), (Instr.entryStore 195 (.map (some b)) (.int .i64 (s : Nat)) (.int .i64 (c : Nat))).run Tryz.prog w = .ok () w1 ∧ CM w1 b es2 clock (l.set j (l[j].1, l[j].2.1, c)) ∧ w.grownBy w1 (some b) := by
  obtain ⟨es2, h1, h2⟩ := h.store j hj s hs c
  exact ⟨es2, _, h1, h2, grown_block h.blk _⟩
theorem cntE_same {l l1 : List (Nat × Nat × Nat)} {x y j : Nat} (hl : l1 = l ∨ ((∀ z ∈ l, ¬ (z.1 = x ∧ z.2.1 = y)) ∧ l1 = l ++ [(x, y, 0)] ∧ j = l.length)) : cntE l1 x y = cntE l x y := by
  rcases hl with rfl | ⟨h1, rfl, -⟩
  · rfl
  · rw [cntE_append x y 0 l x y h1, if_pos ⟨rfl, rfl⟩]; exact (cntE_none h1).symm
theorem CM.made (w : World) : CM (w.alloc (.map #[] 0)) w.heap.size #[] 0 [] := ⟨(MapKept.heap_alloc w _).1, rfl, stamped_empty 0, by simp⟩
set_option maxHeartbeats 4000000 in
theorem Make_ok (w : World) (n : Nat) (v : Value) (ps : List (Nat × Nat)) (hv : SlK p2 2 w v ps) (hn1 : 1 ≤ n) (hn : n ≤ 12) (hps : ∀ x ∈ ps, x.1 < n ∧ x.2 < n ∧ x.1 ≤ x.2) (hl : ps.length ≤ 4096) (hc : ∀ q, ps.count q ≤ 50) :
    Calls Tryz.prog 82 #[.int .i64 (n : Nat), v] w (Rets fun r w' => ∃ u ys l, r = .tuple #[.agg #[.int .i64 (n : Nat), u], .int .i64 0] ∧ Cnt ps l ∧ (List.Pairwise (fun u v => ¬ (u.1 = v.1 ∧ u.2.1 = v.2.1)) l) ∧ List.Perm ys l ∧ (List.Pairwise (fun x y => ¬ (y.1 < x.1 ∨ (y.1 = x.1 ∧ y.2.1 < x.2.1))) ys) ∧ w'.ownsRow w.heap.size 124 3 u (List.length ys) (ys.flatMap en3) ∧ Below w.heap.size w w') := by
  obtain ⟨ad, bb, o, cc, rfl, hi, hp, hcl, hcm⟩ := hv.open elemEnds
  unfold maxLen at hcm
  obtain ⟨d, hd⟩ : ∃ d, w.heap.size = d := ⟨_, rfl⟩
  have HP := Lib.hid hp; have HPS := Lib.hid hps; have HC := Lib.hid hc
  obtain ⟨W0, hW0⟩ : ∃ W, w.alloc (.cells #[.int .i64 0, .slice none 0 0] 24) = W := ⟨_, rfl⟩
  have s0 : W0.heap.size = d + 1 := by rw [← hW0, ← hd]; simp
  obtain ⟨W, hW⟩ : ∃ W, W0.alloc (.map #[] 0) = W := ⟨_, rfl⟩
  have HR := Lib.hid (show Blk W d [.int .i64 0, .slice none 0 0] 24 by rw [← hW, ← hW0, ← hd]; exact (Blk.new w _ _).alloc _)
  have HM := Lib.hid (show CM W (d + 1) #[] 0 [] by rw [← hW, ← s0]; exact CM.made W0)
  have HB := Lib.hid (show Below d w W by rw [← hW, ← hW0, ← hd]; exact ((Below.refl _ w).alloc (Nat.le_refl _) _).alloc (by simp) _)
  have HS := Lib.hid (show W.heap.size = d + 2 by rw [← hW]; simp [s0])
  have d1 : decide ((n : Int) < 1) = false := by simp only [decide_eq_false_iff_not]; omega
  have d2 : decide ((12 : Int) < (n : Int)) = false := by simp only [decide_eq_false_iff_not]; omega
  have d3 : decide ((4096 : Int) < (ps.length : Int)) = false := by simp only [decide_eq_false_iff_not]; omega
  have hmm := @run_makeMap Tryz.prog
  have HW := Lib.hid (show (w.alloc (.cells #[.int .i64 0, .slice none 0 0] 24)).alloc (.map #[] 0) = W by rw [hW0, hW])
  clear hv hp hps hc hW hW0 s0
  go_enter Tryz.func82, Tryz.ntmps82
  go_wp2
  rw [HW.out]
  clear HW hmm
  go_loopw [25] (fun i wr => ∃ (k : Nat) (es : Array MapEntry) (clock : Nat) (l : List (Nat × Nat × Nat)), k ≤ ps.length ∧ i = .int .i64 k ∧ Hid (CM wr (d + 1) es clock l) ∧ Hid (Cnt (ps.take k) l) ∧ Hid (Blk wr d [.int .i64 0, .slice none 0 0] 24) ∧ Hid (Below d w wr) ∧ Hid (d + 2 ≤ wr.heap.size)) (fun i _ => ps.length - (intOf i).toNat)
  case atStart => exact ⟨0, _, _, _, Nat.zero_le _, rfl, HM, Lib.hid Cnt.nil, HR, HB, Lib.hid (Nat.le_of_eq HS.out.symm)⟩
  case round =>
    clear HM HR HB HS
    obtain ⟨k, es, clock, l, hk, rfl, hM, hCn, hR, hB, hS⟩ := hrel
    by_cases hkn : k < ps.length
    · obtain ⟨⟨p, q⟩, hx⟩ : ∃ x, ps[k] = x := ⟨_, rfl⟩
      have a0 : wr.cell? ⟨bb, o + k * 2, none⟩ = some (.int .i64 (p : Nat)) := HP.out.at hB.out (by omega) k hkn 0 _ (by rw [hx]; rfl)
      have a1 : wr.cell? ⟨bb, o + k * 2 + 1, none⟩ = some (.int .i64 (q : Nat)) := HP.out.at hB.out (by omega) k hkn 1 _ (by rw [hx]; rfl)
      have hbl := (HP.out.below hB.out (by omega)).1 (by omega)
      have hpq := HPS.out _ (List.getElem_mem hkn)
      rw [hx] at hpq
      obtain ⟨hp1, hq1, hpq1⟩ := hpq
      simp only at hp1 hq1 hpq1
      have q1 : (0 : Int) ≤ (k : Int) := by omega
      have q2 : (k : Int) < (ps.length : Int) := by omega
      have HVp := Lib.hid (show vtx (n : Int) (p : Int) = true from (vtx_iff _ _).2 ⟨by omega, by omega⟩)
      have HVq := Lib.hid (show vtx (n : Int) (q : Int) = true from (vtx_iff _ _).2 ⟨by omega, by omega⟩)
      have HTK := Lib.hid (show ps.take (k + 1) = ps.take k ++ [(p, q)] by rw [List.take_succ_eq_append_getElem hkn, hx])
      have hal := World.grownBy_alloc wr (.cells #[.int .i64 (p : Nat), .int .i64 (q : Nat)] 100) none
      have HM1 := Lib.hid (hM.out.kept hal (by simp))
      have HR1 := Lib.hid (hR.out.alloc (.cells #[.int .i64 (p : Nat), .int .i64 (q : Nat)] 100))
      have HB1 := Lib.hid (hB.out.alloc (show d ≤ wr.heap.size by have := hS.out; omega) (.cells #[.int .i64 (p : Nat), .int .i64 (q : Nat)] 100))
      have HX1 := Lib.hid (Blk.new wr [.int .i64 (p : Nat), .int .i64 (q : Nat)] 100)
      have HS1 := Lib.hid (show d + 2 ≤ (wr.alloc (.cells #[.int .i64 (p : Nat), .int .i64 (q : Nat)] 100)).heap.size by rw [World.size_alloc]; have := hS.out; omega)
      clear hx
      go_wp2_with ((go_at_call 128); (with_reducible refine (gvertex_any _ _ _).mono ?_); rintro e w' ⟨v, rfl, rfl, rfl⟩; (first | rw [HVp.out] | rw [HVq.out]))
      obtain ⟨X, hX⟩ : ∃ X, wr.heap.size = X := ⟨_, rfl⟩
      obtain ⟨V, hV⟩ : ∃ V, wr.alloc (.cells #[.int .i64 (p : Nat), .int .i64 (q : Nat)] 100) = V := ⟨_, rfl⟩
      have hdX : d + 2 ≤ X := by rw [← hX]; exact hS.out
      change Hid (Blk (wr.alloc (.cells #[.int .i64 (p : Nat), .int .i64 (q : Nat)] 100)) wr.heap.size [.int .i64 (p : Nat), .int .i64 (q : Nat)] 100) at HX1
      rw [hV] at HM1 HR1 HB1 HX1 HS1 ⊢
      rw [hX] at HX1 ⊢
      obtain ⟨c, hcc⟩ : ∃ c, cntE l p q = c := ⟨_, rfl⟩
      have HCC := Lib.hid hcc
      have hc50 : c ≤ 50 := by
        rw [← hcc, hCn.out.cnt]
        exact Nat.le_trans (List.Sublist.count_le _ (List.take_sublist _ _)) (HC.out _)
      have HMd : CM V.drew (d + 1) es clock l := ⟨HM1.out.blk, HM1.out.ent, HM1.out.st, HM1.out.sm⟩
      have HS0 := Lib.hid (⟨HX1.out.cell 0 _ rfl, HX1.out.cell 1 _ rfl, by rw [← hcc]; exact HMd.lookup p q (by omega) (by omega)⟩ : V.drew.cell? ⟨X, 0, none⟩ = some (.int .i64 (p : Nat)) ∧ V.drew.cell? ⟨X, 1, none⟩ = some (.int .i64 (q : Nat)) ∧ (Instr.lookup 195 (.map (some (d + 1))) (.agg #[.int .i64 (p : Nat), .int .i64 (q : Nat)]) false).run Tryz.prog V.drew = .ok (.int .i64 (c : Nat)) V.drew)
      clear a0 a1 hbl hX hV hal hM hR hB hS HMd hcc
      -- REGION 11
      refine wp_regionJ (S := fun w' => w'.cell? ⟨X, 0, none⟩ = some (.int .i64 (p : Nat)) ∧ w'.cell? ⟨X, 1, none⟩ = some (.int .i64 (q : Nat)) ∧ (Instr.lookup 195 (.map (some (d + 1))) (.agg #[.int .i64 (p : Nat), .int .i64 (q : Nat)]) false).run Tryz.prog w' = .ok (.int .i64 (c : Nat)) w') (A := fun i => decide (i < 10)) (by kernel_rfl) ?_
      refine wpAnyJ_take (i := 0) (oi := { dst := some 42, op := .move (.tmp 6), type := _, pos := _, after := _, guard := _ }) (v := ?_) rfl (by kernel_rfl) (by kernel_rfl) (by kernel_rfl) (early_sat (by kernel_rfl)) (fun _ _ _ h => h) (Or.inl ⟨by rfl, ?_⟩) HS0.out ?_
      rotate_left
      · intro wl hSw
        obtain ⟨s0, s1, s2⟩ := hSw
        go_simp
        with_reducible rfl
      simp only [Act.put, List.setIfInBounds_toArray, List.set_cons_zero, List.set_cons_succ]
      refine wpAnyJ_take (i := 1) (oi := { dst := some 43, op := .indexAddr _ (.tmp 8) _, type := _, pos := _, after := _, guard := _ }) (v := ?_) rfl (by kernel_rfl) (by kernel_rfl) (by kernel_rfl) (early_sat (by kernel_rfl)) (fun _ _ _ h => h) (Or.inl ⟨by rfl, ?_⟩) HS0.out ?_
      rotate_left
      · intro wl hSw
        obtain ⟨s0, s1, s2⟩ := hSw
        go_simp
        with_reducible rfl
      simp only [Act.put, List.setIfInBounds_toArray, List.set_cons_zero, List.set_cons_succ]
      refine wpAnyJ_take (i := 2) (oi := { dst := some 44, op := .load _ (.tmp 43), type := _, pos := _, after := _, guard := _ }) (v := ?_) rfl (by kernel_rfl) (by kernel_rfl) (by kernel_rfl) (early_sat (by kernel_rfl)) (fun _ _ _ h => h) (Or.inl ⟨by rfl, ?_⟩) HS0.out ?_
      rotate_left
      · intro wl hSw
        obtain ⟨s0, s1, s2⟩ := hSw
        go_simp
        with_reducible rfl
      simp only [Act.put, List.setIfInBounds_toArray, List.set_cons_zero, List.set_cons_succ]
      refine wpAnyJ_take (i := 3) (oi := { dst := some 45, op := .indexAddr _ (.tmp 8) _, type := _, pos := _, after := _, guard := _ }) (v := ?_) rfl (by kernel_rfl) (by kernel_rfl) (by kernel_rfl) (early_sat (by kernel_rfl)) (fun _ _ _ h => h) (Or.inl ⟨by rfl, ?_⟩) HS0.out ?_
      rotate_left
      · intro wl hSw
        obtain ⟨s0, s1, s2⟩ := hSw
        go_simp
        with_reducible rfl
      simp only [Act.put, List.setIfInBounds_toArray, List.set_cons_zero, List.set_cons_succ]
      refine wpAnyJ_take (i := 4) (oi := { dst := some 46, op := .load _ (.tmp 45), type := _, pos := _, after := _, guard := _ }) (v := ?_) rfl (by kernel_rfl) (by kernel_rfl) (by kernel_rfl) (early_sat (by kernel_rfl)) (fun _ _ _ h => h) (Or.inl ⟨by rfl, ?_⟩) HS0.out ?_
      rotate_left
      · intro wl hSw
        obtain ⟨s0, s1, s2⟩ := hSw
        go_simp
        with_reducible rfl
      simp only [Act.put, List.setIfInBounds_toArray, List.set_cons_zero, List.set_cons_succ]
      refine wpAnyJ_only (i := 5) (o := { dst := some 47, op := _, type := _, pos := _, after := _, guard := _ }) (by kernel_rfl) rfl (fun K hK => ?_)
      go_simp
      refine (joined_le V.drew p q hpq1).mono ?_
      rintro e w10 ⟨v10, rfl, rfl, hb10⟩
      have hb10' : Below V.heap.size V w10 := (Below.refl _ V).drew.trans (hb10.mono (Nat.le_refl _))
      have HM2 := Lib.hid (HM1.out.below hb10' (Nat.le_refl _)); have HR2 := Lib.hid (HR1.out.below hb10' (Nat.le_refl _)); have HB2 := Lib.hid (HB1.out.trans (hb10'.mono (by have := HS1.out; omega))); have HX2 := Lib.hid (HX1.out.below hb10' (Nat.le_refl _)); have HS2 := Lib.hid (Nat.le_trans HS1.out hb10'.size)
      have hS10 := (⟨HX2.out.cell 0 _ rfl, HX2.out.cell 1 _ rfl, by rw [← HCC.out]; exact HM2.out.lookup p q (by omega) (by omega)⟩ : w10.cell? ⟨X, 0, none⟩ = some (.int .i64 (p : Nat)) ∧ w10.cell? ⟨X, 1, none⟩ = some (.int .i64 (q : Nat)) ∧ (Instr.lookup 195 (.map (some (d + 1))) (.agg #[.int .i64 (p : Nat), .int .i64 (q : Nat)]) false).run Tryz.prog w10 = .ok (.int .i64 (c : Nat)) w10)
      clear hb10 hb10'
      refine hK.out _ _ (fun _ => hS10) ?_
      try simp only [Act.put, List.setIfInBounds_toArray, List.set_cons_zero, List.set_cons_succ]
      clear hK K
      refine wpAnyJ_take (i := 6) (oi := { dst := some 48, op := _, type := _, pos := _, after := _, guard := _ }) (v := ?_) rfl (by kernel_rfl) (by kernel_rfl) (by kernel_rfl) (early_sat (by kernel_rfl)) (fun _ _ _ h => h) (Or.inl ⟨by rfl, ?_⟩) hS10 ?_
      rotate_left
      · intro wl hSw
        obtain ⟨s0, s1, s2⟩ := hSw
        go_simp
        with_reducible rfl
      simp only [Act.put, List.setIfInBounds_toArray, List.set_cons_zero, List.set_cons_succ]
      refine wpAnyJ_take (i := 7) (oi := { dst := some 49, op := .binOp _ _ (.tmp 48) _ _, type := _, pos := _, after := _, guard := _ }) (v := ?_) rfl (by kernel_rfl) (by kernel_rfl) (by kernel_rfl) (early_sat (by kernel_rfl)) (fun _ _ _ h => h) (Or.inl ⟨by rfl, ?_⟩) hS10 ?_
      rotate_left
      · intro wl hSw
        obtain ⟨s0, s1, s2⟩ := hSw
        go_simp
        with_reducible rfl
      simp only [Act.put, List.setIfInBounds_toArray, List.set_cons_zero, List.set_cons_succ]
      obtain ⟨v0, s, es1, clock1, l1, j, hj, w11, hrun, hcm1, hst, hlj, hll, hg11⟩ := HM2.out.entryW p q (by omega) (by omega)
      rw [HCC.out] at hlj
      refine wpAnyJ_only (i := 8) (o := { dst := some 50, op := _, type := _, pos := _, after := _, guard := _ }) (by kernel_rfl) rfl (fun K hK => ?_)
      go_simp
      have HM3 := Lib.hid hcm1; have HR3 := Lib.hid (HR2.out.grown hg11 (by simp)); have HB3 := Lib.hid (HB2.out.grown hg11 (by have := HS2.out; omega) (fun k e => by cases e; omega)); have HX3 := Lib.hid (HX2.out.grown hg11 (by simp; omega)); have HS3 := Lib.hid (Nat.le_trans HS2.out hg11.size)
      have hS11 := (⟨HX3.out.cell 0 _ rfl, HX3.out.cell 1 _ rfl, by rw [← HCC.out, ← cntE_same hll]; exact HM3.out.lookup p q (by omega) (by omega)⟩ : w11.cell? ⟨X, 0, none⟩ = some (.int .i64 (p : Nat)) ∧ w11.cell? ⟨X, 1, none⟩ = some (.int .i64 (q : Nat)) ∧ (Instr.lookup 195 (.map (some (d + 1))) (.agg #[.int .i64 (p : Nat), .int .i64 (q : Nat)]) false).run Tryz.prog w11 = .ok (.int .i64 (c : Nat)) w11)
      have HST := Lib.hid hst; have HLJ := Lib.hid hlj; have HLL := Lib.hid hll
      clear hcm1 hst hlj hll hg11 hrun
      refine hK.out _ _ (fun _ => hS11) ?_
      try simp only [Act.put, List.setIfInBounds_toArray, List.set_cons_zero, List.set_cons_succ]
      clear hK K
      refine wpAnyJ_take (i := 9) (oi := { dst := some 51, op := .extract (.tmp 50) 1, type := _, pos := _, after := _, guard := _ }) (v := ?_) rfl (by kernel_rfl) (by kernel_rfl) (by kernel_rfl) (early_sat (by kernel_rfl)) (fun _ _ _ h => h) (Or.inl ⟨by rfl, ?_⟩) hS11 ?_
      rotate_left
      · intro wl hSw
        obtain ⟨s0, s1, s2⟩ := hSw
        go_simp
        with_reducible rfl
      simp only [Act.put, List.setIfInBounds_toArray, List.set_cons_zero, List.set_cons_succ]
      obtain ⟨es2, w12, hrun2, hcm2, hg12⟩ := HM3.out.storeW j hj s HST.out (c + 1)
      have hrun3 : (Instr.entryStore 195 (.map (some (d + 1))) (.int .i64 (s : Nat)) (.int .i64 (IntKind.i64.wrap ((c : Int) + 1)))).run Tryz.prog w11 = .ok () w12 := by rw [show IntKind.i64.wrap ((c : Int) + 1) = ((c + 1 : Nat) : Int) by rw [IntKind.wrap_i64]; omega]; exact hrun2
      refine wpAnyJ_only (i := 10) (o := { dst := none, op := _, type := _, pos := _, after := _, guard := _ }) (by kernel_rfl) rfl (fun K hK => ?_)
      go_simp
      refine hK.out _ _ (fun h => absurd h (by decide)) ?_
      try simp only [Act.put, List.setIfInBounds_toArray, List.set_cons_zero, List.set_cons_succ]
      clear hK K
      refine wpAnyJ_done (by kernel_rfl) ?_ _
      -- BEHIND REGION 11
      have HCN := Lib.hid (Cnt.step hCn.out HM3.out.nodup hj (by rw [HCC.out]; exact HLJ.out) HLL.out)
      rw [HCC.out, ← HTK.out] at HCN
      clear hrun2 hrun3 hS10 hS11
      go_wp2
      go_roundw
      case rel => exact ⟨k + 1, es2, clock1, _, by omega, by go_num, Lib.hid hcm2, HCN, Lib.hid (HR3.out.grown hg12 (by simp)), Lib.hid (HB3.out.grown hg12 (by have := HS3.out; omega) (fun k e => by cases e; omega)), Lib.hid (Nat.le_trans HS3.out hg12.size)⟩
      case measure => simp [intOf]; omega
    · have hke : k = ps.length := by omega
      subst hke
      rw [List.take_length] at hCn
      clear hk hkn
      obtain ⟨w9, rfl⟩ : ∃ x, x = wr := ⟨_, rfl⟩
      obtain ⟨hrr, hcr⟩ := hM.out.range
      obtain ⟨X, hX⟩ : ∃ X, w9.heap.size = X := ⟨_, rfl⟩
      obtain ⟨V, hV⟩ : ∃ V, w9.alloc (.mapIter (some (d + 1)) clock #[] clock) = V := ⟨_, rfl⟩
      have hdX : d + 2 ≤ X := by rw [← hX]; exact hS.out
      have hbV : Below w9.heap.size w9 V := by rw [← hV]; exact (Below.refl _ w9).alloc (Nat.le_refl _) _
      have HCR := Lib.hid (show CR V (d + 1) X es clock l [] l.length by rw [← hV, ← hX]; exact hcr)
      have HR1 := Lib.hid (hR.out.below hbV (Nat.le_refl _))
      have HB1 := Lib.hid (hB.out.trans (hbV.mono (by omega)))
      have HS1 := Lib.hid (show d + 2 ≤ V.heap.size by have := hbV.size; omega)
      have HND := Lib.hid hM.out.nodup
      rw [hV, hX] at hrr
      clear hcr hX hV hbV hM hR hB hS
      have q0 : decide ((ps.length : Int) < (ps.length : Int)) = false := by simp
      go_wp2
      clear hrr
      go_loopw [10] (fun _ wr => ∃ (out : List (Nat × Nat × Nat)) (cnt : Nat), Hid (CR wr (d + 1) X es clock l out cnt) ∧ Hid (Blk wr d [.int .i64 0, .slice none 0 0] 24) ∧ Hid (Below d w wr) ∧ Hid (d + 2 ≤ wr.heap.size)) (fun _ wr => wr.rangeLeft (d + 1) X)
      case atStart => exact ⟨_, _, HCR, HR1, HB1, HS1⟩
      case round =>
        clear HCR HR1 HB1 HS1
        obtain ⟨out, cnt, hCR, hR, hB, hS⟩ := hrel
        rcases hCR.out.next 0 with ⟨h0, hpm, hrun⟩ | ⟨x, y, c, w1, cnt', hmem, hrun, hcr1, hlt, hg1, hs1, hent⟩
        · have HG := Lib.hid (bagGraph_any wr (d + 1) clock n es l hCR.out.cm (by have := hCn.out.len; omega))
          clear h0 hpm
          go_wp2_with (go_at_call 140; (with_reducible refine HG.out.mono ?_); rintro e w2 ⟨v2, rfl, u2, ys, rfl, hp1, hp2, hown2, hb2⟩; have HP1 := Lib.hid hp1; have HP2 := Lib.hid hp2; have HO2 := Lib.hid hown2; have HR2 := Lib.hid (hR.out.below hb2 (Nat.le_refl _)); have HB2 := Lib.hid (hB.out.trans (hb2.mono (by have := hS.out; omega))); obtain ⟨ua, uc, rfl⟩ := own_formK hown2; clear hp1 hp2 hown2 hb2; have r0 := HR2.out.cell 0 _ rfl; have r1 := HR2.out.cell 1 _ rfl; have rf0 := HR2.out.free 0; have rf1 := HR2.out.free 1; have rl := HR2.out.lt)
          have hRF := (HR2.out.set 0 (.int .i64 (n : Nat))).set 1 (.slice ua ys.length uc)
          have y0 := hRF.cell 0 _ rfl; have y1 := hRF.cell 1 _ rfl
          have hdd : d ≤ d := Nat.le_refl d
          have hge := own_ge HO2.out
          refine bodyPost_ret (v := .tuple #[.agg #[.int .i64 (n : Nat), .slice ua ys.length uc], .int .i64 0]) (by simp [results, Tryz.results82, go_sem, y0, y1]) rfl ⟨_, rfl, _, ys, l, rfl, hCn.out, HND.out, HP1.out, HP2.out, ?_, ?_⟩
          · rw [hd]
            exact own_apart (own_apart (own_low HO2.out (by have := hS.out; omega)) (fun e => by have := hge d e; have := hS.out; omega)) (fun e => by have := hge d e; have := hS.out; omega)
          · rw [hd]
            exact (HB2.out.setCell (p := ⟨d, 0, none⟩) hdd _).setCell (p := ⟨d, 1, none⟩) hdd _
        · have hc50 : c ≤ 50 := by
            obtain ⟨j, hj, hje⟩ := List.mem_iff_getElem.1 hmem
            have h1 := cntE_at (x := x) (y := y) HND.out j hj (by rw [hje]; exact ⟨rfl, rfl⟩)
            rw [hje, hCn.out.cnt] at h1
            have h2 := HC.out (x, y)
            simp only at h1; omega
          have dc : decide (50 < c) = false := by simp only [decide_eq_false_iff_not]; omega
          unfold kV at hrun hent
          have HR1 := Lib.hid (hR.out.grown hg1 (by simp; omega))
          have HB1 := Lib.hid (hB.out.grown hg1 (by have := hS.out; omega) (fun k e => by cases e; omega))
          have HC1 := Lib.hid hcr1
          have HS1 := Lib.hid (show d + 2 ≤ w1.heap.size by have := hS.out; omega)
          clear hcr1 hs1
          go_wp2
          go_roundw
          case rel => exact ⟨out ++ [(x, y, c)], cnt', HC1, HR1, HB1, HS1⟩
          case measure => rw [HC1.out.left_eq, hCR.out.left_eq]; exact hlt
end Go.Proofs.YtkkklfikdoibcaaGreatDoor

namespace Go.Proofs.YtkkklfikdoibcaaGreatDoor
open Go.RowKit

/-- The pairs a, b of vertices, ascending, with how often they are joined. -/
def row (ps : List (Nat × Nat)) (n a : Nat) : List (Nat × Nat × Nat) := (List.range n).filterMap fun b => if 0 < ps.count (a, b) then some (a, b, ps.count (a, b)) else none
def canon (n : Nat) (ps : List (Nat × Nat)) : List (Nat × Nat × Nat) := (List.range n).flatMap fun a => row ps n a
def lt3 (x y : Nat × Nat × Nat) : Prop := x.1 < y.1 ∨ (x.1 = y.1 ∧ x.2.1 < y.2.1)
theorem mem_row {ps : List (Nat × Nat)} {n a : Nat} {z : Nat × Nat × Nat} : z ∈ row ps n a ↔ z.1 = a ∧ z.2.1 < n ∧ 0 < z.2.2 ∧ z.2.2 = ps.count (a, z.2.1) := by
  unfold row
  rw [List.mem_filterMap]
  constructor
  · rintro ⟨b, hb, h⟩
    rw [List.mem_range] at hb
    by_cases hp : 0 < ps.count (a, b)
    · rw [if_pos hp] at h
      cases h
      exact ⟨rfl, hb, hp, rfl⟩
    · rw [if_neg hp] at h; cases h
  · rintro ⟨rfl, h1, h2, h3⟩
    refine ⟨z.2.1, List.mem_range.2 h1, ?_⟩
    rw [← h3, if_pos h2]
theorem mem_canon {ps : List (Nat × Nat)} {n : Nat} {z : Nat × Nat × Nat} : z ∈ canon n ps ↔ z.1 < n ∧ z.2.1 < n ∧ 0 < z.2.2 ∧ z.2.2 = ps.count (z.1, z.2.1) := by
  unfold canon
  rw [List.mem_flatMap]
  constructor
  · rintro ⟨a, ha, h⟩
    rw [List.mem_range] at ha
    obtain ⟨rfl, h1, h2, h3⟩ := mem_row.1 h
    exact ⟨ha, h1, h2, h3⟩
  · rintro ⟨h0, h1, h2, h3⟩
    exact ⟨z.1, List.mem_range.2 h0, mem_row.2 ⟨rfl, h1, h2, h3⟩⟩
theorem row_asc (ps : List (Nat × Nat)) (a : Nat) : ∀ n, (row ps n a).Pairwise lt3
  | 0 => List.Pairwise.nil
  | n + 1 => by
    have ih := row_asc ps a n
    unfold row at ih ⊢
    rw [List.range_succ, List.filterMap_append, List.pairwise_append]
    refine ⟨ih, ?_, fun x hx y hy => ?_⟩
    · rw [List.filterMap_cons, List.filterMap_nil]
      by_cases hp : 0 < ps.count (a, n)
      · rw [if_pos hp]; exact List.pairwise_singleton _ _
      · rw [if_neg hp]; exact List.Pairwise.nil
    · obtain ⟨h1, h2, -⟩ := mem_row.1 (show x ∈ row ps n a from hx)
      rw [List.filterMap_cons, List.filterMap_nil] at hy
      by_cases hp : 0 < ps.count (a, n)
      · rw [if_pos hp] at hy
        simp only [List.mem_singleton] at hy
        subst hy
        exact .inr ⟨h1, h2⟩
      · rw [if_neg hp] at hy; cases hy
theorem rows_asc (ps : List (Nat × Nat)) (n : Nat) : ∀ k, ((List.range k).flatMap fun a => row ps n a).Pairwise lt3
  | 0 => List.Pairwise.nil
  | k + 1 => by
    rw [List.range_succ, List.flatMap_append, List.pairwise_append]
    refine ⟨rows_asc ps n k, by simpa using row_asc ps k n, fun x hx y hy => ?_⟩
    obtain ⟨a, ha, h1⟩ := List.mem_flatMap.1 hx
    rw [List.mem_range] at ha
    obtain ⟨rfl, -⟩ := mem_row.1 h1
    simp only [List.flatMap_cons, List.flatMap_nil, List.append_nil] at hy
    obtain ⟨h2, -⟩ := mem_row.1 hy
    exact .inl (by omega)
theorem canon_asc (n : Nat) (ps : List (Nat × Nat)) : (canon n ps).Pairwise lt3 := rows_asc ps n n
theorem lt3_irrefl (x : Nat × Nat × Nat) : ¬ lt3 x x := by unfold lt3; omega
theorem lt3_asymm {x y : Nat × Nat × Nat} (h : lt3 x y) : ¬ lt3 y x := by unfold lt3 at *; omega
/-- Ascending lists with the same members are the same. -/
theorem asc_same : ∀ {l m : List (Nat × Nat × Nat)}, l.Pairwise lt3 → m.Pairwise lt3 → (∀ z, z ∈ l ↔ z ∈ m) → l = m
  | [], [], _, _, _ => rfl
  | [], y :: m, _, _, h => by have := (h y).2 (by simp); cases this
  | x :: l, [], _, _, h => by have := (h x).1 (by simp); cases this
  | x :: l, y :: m, hl, hm, h => by
    obtain ⟨l1, l2⟩ := List.pairwise_cons.1 hl
    obtain ⟨m1, m2⟩ := List.pairwise_cons.1 hm
    have e : x = y := by
      rcases List.mem_cons.1 ((h x).1 (by simp)) with h1 | h1
      · exact h1
      · rcases List.mem_cons.1 ((h y).2 (by simp)) with h2 | h2
        · exact h2.symm
        · exact absurd (l1 y h2) (lt3_asymm (m1 x h1))
    subst e
    rw [asc_same l2 m2 fun z => ?_]
    constructor
    · intro hz
      rcases List.mem_cons.1 ((h z).1 (List.mem_cons_of_mem _ hz)) with h1 | h1
      · subst h1; exact absurd (l1 z hz) (lt3_irrefl z)
      · exact h1
    · intro hz
      rcases List.mem_cons.1 ((h z).2 (List.mem_cons_of_mem _ hz)) with h1 | h1
      · subst h1; exact absurd (m1 z hz) (lt3_irrefl z)
      · exact h1
theorem cntE_pos {x y : Nat} : ∀ {l : List (Nat × Nat × Nat)}, cntE l x y ≠ 0 → (x, y, cntE l x y) ∈ l
  | [], h => absurd rfl h
  | z :: l, h => by
    unfold cntE at h ⊢
    by_cases hz : z.1 = x ∧ z.2.1 = y
    · rw [if_pos hz] at h ⊢
      obtain ⟨rfl, rfl⟩ := hz
      exact List.mem_cons_self
    · rw [if_neg hz] at h ⊢
      exact List.mem_cons_of_mem _ (cntE_pos h)
/-- What Make lists is this list. -/
theorem made_canon {n : Nat} {ps : List (Nat × Nat)} {l ys : List (Nat × Nat × Nat)} (hps : ∀ x ∈ ps, x.1 < n ∧ x.2 < n) (hc : Cnt ps l) (hd : l.Pairwise fun u v => ¬ (u.1 = v.1 ∧ u.2.1 = v.2.1)) (hp : ys.Perm l) (hs : ys.Pairwise fun x y => ¬ (y.1 < x.1 ∨ (y.1 = x.1 ∧ y.2.1 < x.2.1))) : ys = canon n ps := by
  have hyd : ys.Pairwise fun u v => ¬ (u.1 = v.1 ∧ u.2.1 = v.2.1) := (hp.pairwise_iff (fun {x y} h e => h ⟨e.1.symm, e.2.symm⟩)).2 hd
  refine asc_same ((hs.and hyd).imp fun {a b} h => ?_) (canon_asc n ps) fun z => ?_
  · obtain ⟨h1, h2⟩ := h
    unfold lt3
    omega
  · rw [hp.mem_iff, mem_canon]
    constructor
    · intro hz
      obtain ⟨h1, h2⟩ := hc.pos z hz
      obtain ⟨j, hj, rfl⟩ := List.mem_iff_getElem.1 hz
      obtain ⟨h3, h4⟩ := hps _ h2
      exact ⟨h3, h4, h1, by rw [← hc.cnt, cntE_at hd j hj ⟨rfl, rfl⟩]⟩
    · rintro ⟨-, -, h3, h4⟩
      have h5 : cntE l z.1 z.2.1 = z.2.2 := by rw [hc.cnt, h4]
      have h6 := cntE_pos (show cntE l z.1 z.2.1 ≠ 0 by omega)
      rw [h5] at h6
      exact h6
theorem estep_asc (n : Int) : ∀ (ns : List (Nat × Nat × Nat)) (p : Int × Int), (∀ x ∈ ns, lt2 p ((x.1 : Int), (x.2.1 : Int)) = true) → (∀ x ∈ ns, (x.1 : Int) < n ∧ (x.2.1 : Int) < n ∧ 1 ≤ x.2.2 ∧ x.2.2 ≤ 50 ∧ x.1 ≤ x.2.1) → ns.Pairwise lt3 → estep n p (ns.map n3) = 0
  | [], _, _, _, _ => rfl
  | x :: ns, p, hp, hr, ha => by
    obtain ⟨a1, a2⟩ := List.pairwise_cons.1 ha
    obtain ⟨h1, h2, h3, h4, h5⟩ := hr x (by simp)
    have hok : eOk n (n3 x) = true := by
      simp only [eOk, n3, vtx, Bool.and_eq_true]; exact ⟨⟨decide_eq_true (by omega), decide_eq_true (by omega)⟩, decide_eq_true (by omega)⟩
    have hlt : (n3 x).1 ≤ (n3 x).2.1 ∧ lt2 p ((n3 x).1, (n3 x).2.1) = true := ⟨by simp only [n3]; omega, hp x (by simp)⟩
    rw [List.map_cons]
    unfold estep
    rw [if_pos hok, if_pos hlt]
    refine estep_asc n ns _ (fun y hy => ?_) (fun y hy => hr y (List.mem_cons_of_mem _ hy)) a2
    have := a1 y hy
    unfold lt3 at this
    simp [lt2, n3]
    omega
/-- The graph of some ends is right. -/
theorem canon_chk {n : Nat} {ps : List (Nat × Nat)} (hn1 : 1 ≤ n) (hn : n ≤ 12) (hps : ∀ x ∈ ps, x.1 ≤ x.2) (hc : ∀ q, ps.count q ≤ 50) : chkG (n : Int) ((canon n ps).map n3) = 0 := by
  unfold chkG
  rw [if_neg (by omega)]
  refine estep_asc _ _ _ (fun x _ => by simp only [lt2, decide_eq_true_eq]; omega) (fun x hx => ?_) (canon_asc n ps)
  obtain ⟨h1, h2, h3, h4⟩ := mem_canon.1 hx
  have h5 : (x.1, x.2.1) ∈ ps := List.count_pos_iff.1 (by omega)
  have h6 := hps _ h5
  have h7 := hc (x.1, x.2.1)
  simp only at h6
  omega
theorem canon_len {n : Nat} {ps : List (Nat × Nat)} (hn : n ≤ 12) : (canon n ps).length ≤ 144 := by
  unfold canon
  rw [List.length_flatMap]
  have h1 : ∀ a, (row ps n a).length ≤ n := fun a => by unfold row; have := List.length_filterMap_le (fun b => if 0 < ps.count (a, b) then some (a, b, ps.count (a, b)) else none) (List.range n); rwa [List.length_range] at this
  have h2 : ∀ l : List Nat, (l.map fun a => (row ps n a).length).sum ≤ l.length * n := by
    intro l
    induction l with
    | nil => simp
    | cons a l ih => rw [List.map_cons, List.sum_cons, List.length_cons, Nat.add_mul, Nat.one_mul]; have := h1 a; omega
  have := h2 (List.range n)
  rw [List.length_range] at this
  have : n * n ≤ 12 * 12 := Nat.mul_le_mul hn hn
  omega
theorem asc_canon : ∀ {l : List (Nat × Nat × Nat)} {n : Nat}, l.Pairwise lt3 → (∀ x ∈ l, x.1 < n ∧ x.2.1 < n) → l.length ≤ n * n := by
  intro l n ha hr
  have h1 : (l.map fun x => x.1 * n + x.2.1).Nodup := by
    rw [List.nodup_iff_pairwise_ne, List.pairwise_map]
    refine (List.Pairwise.and_mem.1 ha).imp fun {x y} h e => ?_
    obtain ⟨hx, hy, h⟩ := h
    obtain ⟨-, hx2⟩ := hr x hx
    obtain ⟨-, hy2⟩ := hr y hy
    have e1 : x.1 = y.1 := by
      have : (x.1 * n + x.2.1) / n = (y.1 * n + y.2.1) / n := by rw [e]
      rwa [Nat.mul_comm, Nat.mul_add_div (by omega), Nat.div_eq_of_lt hx2, Nat.mul_comm y.1, Nat.mul_add_div (by omega), Nat.div_eq_of_lt hy2] at this
    unfold lt3 at h
    rw [e1] at e
    omega
  have h2 : ∀ t ∈ l.map (fun x => x.1 * n + x.2.1), t < n * n := by
    intro t ht
    obtain ⟨x, hx, rfl⟩ := List.mem_map.1 ht
    obtain ⟨h3, h4⟩ := hr x hx
    exact mul_lt h3 h4
  have h3 := (List.nodup_range (n := n * n))
  have h4 : (l.map fun x => x.1 * n + x.2.1).length ≤ (List.range (n * n)).length := List.Nodup.length_le_of_subset h1 (fun t ht => List.mem_range.2 (h2 t ht))
  simpa using h4
theorem rg_len {n : Int} {es : List (Int × Int × Int)} {ns : List (Nat × Nat × Nat)} (h : RG n es ns) : ns.length ≤ 1000 := by
  have h1 := asc_canon (n := 12) h.asc (fun x hx => by have := h.rng x hx; have := h.le; omega)
  omega
theorem sgl_mem {ns : List (Nat × Nat × Nat)} {q : Nat × Nat} (h : q ∈ sgl ns) : ∃ c, (q.1, q.2, c) ∈ ns := by
  obtain ⟨x, hx, h1⟩ := List.mem_flatMap.1 h
  obtain ⟨-, rfl⟩ := List.mem_replicate.1 h1
  exact ⟨x.2.2, hx⟩
theorem sgl_count {ns : List (Nat × Nat × Nat)} (hd : ns.Pairwise lt3) (hm : ∀ x ∈ ns, x.2.2 ≤ 50) (q : Nat × Nat) : (sgl ns).count q ≤ 50 := by
  by_cases h : q ∈ sgl ns
  · obtain ⟨c, hc⟩ := sgl_mem h
    have key : ∀ l : List (Nat × Nat × Nat), l.Pairwise lt3 → (∀ x ∈ l, x.2.2 ≤ 50) → (sgl l).count q ≤ 50 ∧ ((∀ x ∈ l, ¬ (x.1 = q.1 ∧ x.2.1 = q.2)) → (sgl l).count q = 0) := by
      intro l
      induction l with
      | nil => intro _ _; exact ⟨by simp [sgl], fun _ => by simp [sgl]⟩
      | cons x l ih =>
        intro h1 h2
        obtain ⟨a1, a2⟩ := List.pairwise_cons.1 h1
        obtain ⟨i1, i2⟩ := ih a2 (fun y hy => h2 y (List.mem_cons_of_mem _ hy))
        have e : (sgl (x :: l)).count q = (List.replicate x.2.2 (x.1, x.2.1)).count q + (sgl l).count q := by
          simp only [sgl, List.flatMap_cons, List.count_append]
        rw [e, List.count_replicate]
        have hx := h2 x (by simp)
        refine ⟨?_, fun h3 => ?_⟩
        · split
          · rename_i he
            have he : (x.1, x.2.1) = q := by simpa using he
            have : (sgl l).count q = 0 := i2 fun y hy h4 => by
              have := a1 y hy
              rw [← he] at h4
              unfold lt3 at this
              simp only at h4
              omega
            omega
          · omega
        · rw [i2 fun y hy => h3 y (List.mem_cons_of_mem _ hy), if_neg]
          have := h3 x (by simp)
          intro he
          have he : (x.1, x.2.1) = q := by simpa using he
          exact this (by rw [← he]; exact ⟨rfl, rfl⟩)
    exact (key ns hd hm).1
  · rw [List.count_eq_zero.2 h]; omega
/-- The graph without a single edge. -/
def lessG (n : Nat) (ns : List (Nat × Nat × Nat)) (e : Nat) : List (Nat × Nat × Nat) := canon n ((sgl ns).eraseIdx e)
/-- What With answers. -/
def withS (n : Int) (es : List (Int × Int × Int)) (e : Int) : ByteArray × Int :=
  if chkG n es = 0 then (if 0 ≤ e ∧ e < ((sgl (nsOf es)).length : Int) then (txt (cofL n.toNat (nsOf es) 0 0 - cofL n.toNat (lessG n.toNat (nsOf es) e.toNat) 0 0), 0) else (⟨#[]⟩, 2)) else (⟨#[]⟩, chkG n es)
theorem less_facts {n : Nat} {es : List (Int × Int × Int)} {ns : List (Nat × Nat × Nat)} (h : RG (n : Int) es ns) (e : Nat) :
    (∀ x ∈ (sgl ns).eraseIdx e, x.1 < n ∧ x.2 < n ∧ x.1 ≤ x.2) ∧ (∀ q, ((sgl ns).eraseIdx e).count q ≤ 50) ∧ chkG (n : Int) ((lessG n ns e).map n3) = 0 ∧ (lessG n ns e).length ≤ 144 := by
  have h1 : ∀ x ∈ sgl ns, x.1 < n ∧ x.2 < n ∧ x.1 ≤ x.2 := fun x hx => by
    obtain ⟨c, hc⟩ := sgl_mem hx
    have := h.rng _ hc
    simp only at this
    omega
  have hsub : ((sgl ns).eraseIdx e).Sublist (sgl ns) := List.eraseIdx_sublist _ _
  have h2 : ∀ x ∈ (sgl ns).eraseIdx e, x.1 < n ∧ x.2 < n ∧ x.1 ≤ x.2 := fun x hx => h1 x (hsub.mem hx)
  have h3 : ∀ q, ((sgl ns).eraseIdx e).count q ≤ 50 := fun q => Nat.le_trans (hsub.count_le q) (sgl_count h.asc (fun x hx => (h.rng x hx).2.2.2.1) q)
  have hp := h.pos; have hl := h.le
  exact ⟨h2, h3, canon_chk (by omega) (by omega) (fun x hx => (h2 x hx).2.2) h3, canon_len (by omega)⟩
end Go.Proofs.YtkkklfikdoibcaaGreatDoor

namespace Go.Proofs.YtkkklfikdoibcaaGreatDoor
open Go.RowKit
set_option maxRecDepth 100000

section
variable {P : Program} {t e : TypeId} {z : Value} {k bytes : Nat} {ops : Array Oper} {rest : List Oper} {o : Oper} {a : Act} {Q : Exit → Act → World → Prop}
/-- 'append([]T{}, xs...)', xs not nil, elements of k cells. -/
theorem appCK {α : Type} {enc : α → List Value} (hE : ElemOk P t e z k bytes) (hk : ∀ x, (enc x).length = k) (hgd : o.guard = none) (s x : Operand) (ho : o.op = .call { callee := .builtin .append, args := #[s, x], argTypes := #[t, t] })
    {xs : List α} {B : Nat} {w0 w1 W : World} {v : Value} {ad : Addr} {c : Nat} (hown : w1.ownsRow w0.heap.size e k v 0 []) (hb1 : Below B W w1) (hs0 : w0.heap.size ≤ w1.heap.size) (hBw : B ≤ w0.heap.size) (hs : a.eval s = v) (hx : a.eval x = .slice (some ad) xs.length c) (hv : SlK enc k w1 (.slice (some ad) xs.length c) xs)
    (h2 : ∀ y, ∀ u ∈ enc y, u.oneCell' = true) (hn : xs.length * bytes ≤ 140737488355328) (hn' : xs.length ≤ maxLen)
    (h : ∀ v' w', w'.ownsRow w0.heap.size e k v' xs.length (xs.flatMap enc) → Below B W w' → wpList P ops Q rest (a.put o.dst v') w') :
    wpList P ops Q (o :: rest) a w1 := by
  obtain ⟨i, hi, hz, hsz, hby⟩ := hE.info
  have hkp := hE.pos
  obtain ⟨ad', b, off, c', he, ha, hc, hm, hnn, hcell⟩ := hv
  cases he
  have hnews : ∀ j y, (xs.flatMap enc)[j]? = some y → w1.cell? (ad.add j) = some y := by
    intro j y hj
    have hj' : j < (xs.flatMap enc).length := (List.getElem?_eq_some_iff.1 hj).1
    rw [flat_len hk] at hj'
    have hx0 : 0 < xs.length := by
      rcases Nat.eq_zero_or_pos xs.length with h | h
      · rw [h] at hj'; omega
      · exact h
    have := ha hx0
    cases this
    have hd : j / k < xs.length := Nat.div_lt_of_lt_mul (by rw [Nat.mul_comm]; exact hj')
    have hmod : j % k < k := Nat.mod_lt _ hkp
    have hjd : j / k * k + j % k = j := by rw [Nat.mul_comm]; exact Nat.div_add_mod j k
    have h3 := hcell.2 (j / k) hd (j % k) y (by rw [← flat_get hk xs (j / k) hd (j % k) hmod, hjd]; exact hj)
    rw [show (⟨b, off, none⟩ : Addr).add j = ⟨b, off + j, none⟩ by simp [Addr.add]]
    rw [show off + j / k * k + j % k = off + j by omega] at h3
    exact h3
  refine wpList_append_own _ hgd s x t ho w0.heap.size e i z k bytes hE.und hi hz hsz hby hE.cells hE.pos _ 0 [] hs hown ad xs.length c (xs.flatMap enc) hx (by rw [flat_len hk]) hnews (by intro y hy; obtain ⟨y', _, hy'⟩ := List.mem_flatMap.1 hy; exact h2 y' y hy') (by rw [Nat.zero_add]; exact hn') (by rw [Nat.zero_add]; exact hn) hs0 ?_
  intro v' w' ho' hg _
  rw [Nat.zero_add, List.nil_append] at ho'
  exact h v' w' ho' (hb1.grown hg (by omega) (fun j hj => by have := (hown.lt j hj).1; omega))
/-- 'clear(s)', elements of whatever size. -/
theorem run_clearK (w : World) (t e ty : TypeId) (z : Value) (ht : P.underlying t = some (.slice e)) (hv : ∀ w, (zeroValue e).run P w = .ok z w) (b o n c : Nat) (hn : 0 < n) (L : List Value) (hL : (Builtin.zeroCells z.cells n).toList = L) (h1 : ∀ u ∈ L, u.oneCell' = true)
    (hc : ∀ j, j < L.length → (w.cell? ⟨b, o + j, none⟩).isSome = true) (hf : ∀ j, j < L.length → w.frozen? ⟨b, o + j, none⟩ = false) :
    (Builtin.clear_ #[t] ty #[.slice (some ⟨b, o, none⟩) n c]).run P w = .ok (.tuple #[]) (w.setCells b o L) := by
  have hst := run_storeCells_cells (P := P) b o L 0 w (by simpa using hc) (by simpa using hf) h1
  simp only [Nat.add_zero] at hst
  obtain ⟨m, rfl⟩ : ∃ m, n = m + 1 := ⟨n - 1, by omega⟩
  simp [Builtin.clear_, run_underlying ht, hv, hL, hst]
end
theorem size_scK (b : Nat) : ∀ (vs : List Value) (o : Nat) (w : World), (w.setCells b o vs).heap.size = w.heap.size
  | [], _, _ => rfl
  | _ :: r, o, _ => by rw [World.setCells, size_scK b r]; simp
theorem below_scK {B b : Nat} {a : World} (hb : B ≤ b) : ∀ (vs : List Value) (o : Nat) (w : World), Below B a w → Below B a (w.setCells b o vs)
  | [], _, _, h => h
  | v :: r, o, _, h => below_scK hb r (o + 1) _ (h.setCell hb v)
theorem nil2_no (a : Addr) (n c : Nat) (w : World) : (binOp BinOp.eql 94 (.slice (some a) n c) (.slice none 0 0)).run Tryz.prog w = .ok (.bool false) w := by kernel_rfl
theorem nil2_yes (w : World) : (binOp BinOp.eql 94 (.slice none 0 0) (.slice none 0 0)).run Tryz.prog w = .ok (.bool true) w := by kernel_rfl
set_option maxHeartbeats 1000000 in
theorem clone2_any (w : World) (v : Value) (xs : List (Nat × Nat)) (hv : SlK p2 2 w v xs) (hl : xs.length ≤ 1000000) :
    Calls Tryz.prog 84 #[v] w (Rets fun v' w' => w'.ownsRow w.heap.size 100 2 v' xs.length (xs.flatMap p2) ∧ Below w.heap.size w w') := by
  have HV := Lib.hid hv
  have hn1 := nil2_no
  have hn2 := nil2_yes
  obtain ⟨a, b, o, c, rfl, ha, hc, hm, hn0, hp⟩ := hv
  cases a with
  | none =>
    have hc0 := hn0 rfl
    have hl0 : xs.length = 0 := by omega
    obtain rfl : xs = [] := List.length_eq_zero_iff.1 hl0
    subst hc0
    clear HV ha hp hn0
    go_enter Tryz.func84, Tryz.ntmps84
    go_wp2
    go_ret
    exact ⟨_, rfl, World.ownsRow_nil _ _ _ _, Below.refl _ _⟩
  | some a =>
    clear ha hp hn0
    have HO : Hid ((w.alloc (.cells #[] 100)).ownsRow w.heap.size 100 2 (.slice (some ⟨w.heap.size, 0, none⟩) 0 0) 0 []) := Lib.hid ⟨rfl, .inr ⟨w.heap.size, 0, #[], rfl, by omega, heap_alloc_new w _, by omega, by simp [maxLen], rfl, rfl⟩⟩
    have HB0 := Lib.hid ((Below.refl w.heap.size w).alloc (Nat.le_refl _) (.cells #[] 100))
    go_enter Tryz.func84, Tryz.ntmps84
    go_wp2_with (at_builtin; refine appCK elemEnds (fun _ => rfl) rfl _ _ rfl (w0 := w) HO.out HB0.out (by simp) (Nat.le_refl _) rfl rfl (HV.out.below HB0.out (Nat.le_refl _)) p2_one (by omega) (by unfold maxLen; omega) ?_; intro v' w2 hown' hb'; have HO2 := Lib.hid hown'; clear hown')
    go_ret
    exact ⟨_, rfl, HO2.out, hb'⟩
end Go.Proofs.YtkkklfikdoibcaaGreatDoor
