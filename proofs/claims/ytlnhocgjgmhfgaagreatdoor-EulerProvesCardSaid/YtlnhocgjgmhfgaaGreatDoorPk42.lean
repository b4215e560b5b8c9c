/- The laying of the library's Grow at this translation: by the guide's own tools (lay-shelf, lay-plain). slices.Concat at two rows of ints; plain: a tour, turned. -/
import Derived.Shelf.Strings.Builder1
import Derived.Shelf.Strings.Builder2
import Derived.Shelf.Small.Bits
import Derived.Shelf.Small.Wraps
import Derived.Shelf.Strings.BuilderF
import Derived.Shelf.Strings.BuilderK
import Derived.Shelf.Strings.Builder2Cap
import Derived.Shelf.Strconv.Itoa0
import Derived.Shelf.Strconv.Itoa1
import Derived.Shelf.LaysM
import Derived.Shelf.Strconv.Itoa2
import Derived.Shelf.Strconv.Itoa3
import Derived.Shelf.Strconv.Clone
import Derived.Shelf.Strconv.SyntaxError
import Derived.Shelf.LaysC
import Derived.Shelf.Strconv.ToError
import Derived.Shelf.Strconv.Lower
import Derived.Shelf.Strconv.ParseUint10
import Derived.Shelf.Strconv.ParseUint10Empty
import Derived.Shelf.Strconv.ParseUint10Any
import Derived.Shelf.Strconv.RangeError
import Derived.Shelf.Strconv.ToErrorRange
import Derived.Shelf.Strconv.ParseUintEmpty
import Derived.Shelf.Strconv.ParseUint10b64
import Derived.Shelf.Strconv.ParseUint10b32
import Derived.Shelf.Strconv.ParseUint10b16
import Derived.Shelf.Strconv.ParseUint10b8
import Derived.Shelf.Strconv.ParseUint10At
import Derived.Ground.MpProg
import Derived.Shelf.Pu.ParseUintPublic10
import Derived.Shelf.Pu.ErrVarParseUint
import Derived.Shelf.Strings.Prefix
import Derived.Shelf.Bits.Mul64
import Derived.Shelf.Strings.Repeat
import Derived.Shelf.Strings.BuilderCap
import Derived.Shelf.Slices.Equal
import Derived.Ground.Names2Prog
import Derived.Shelf.Slices.Clone
import Derived.Shelf.Slices.SearchI
import Derived.Shelf.Slices.Empties2
import Derived.Ground.SlgnProg
import Derived.Shelf.SlicesE.Clone
import Derived.Shelf.Spec.SlicesGrow
import Derived.Ground.Names8Prog
import Derived.Test.YtlnhocgjgmhfgaaGreatDoorProg
import Derived.Test.YtlnhocgjgmhfgaaGreatDoorPk35
import Derived.Test.YtlnhocgjgmhfgaaGreatDoorPk13
import Derived.Laws.AppendOwnNone
namespace Go.Proofs
open Go.Shelf
def Tryz.growI_ren : Go.Shelf.Ren := ⟨fun | 4 => 58 | n => n, fun | 22 => 36 | 25 => 3 | 3 => 3 | 4 => 4 | 9 => 9 | 20 => 20 | 0 => 0 | n => n, fun | n => n⟩
theorem Tryz.growI : Go.Proofs.Lays8.n4 Tryz.prog Tryz.growI_ren := {
  mixed := by kernel_rfl
  f4 := ⟨Tryz.f58.name, by decide, Tryz.func58.trans (congrArg some (by kernel_rfl))⟩
  t0 := Tryz.underlying0
  a0 := Tryz.isAgg0
  z0 := Tryz.sizeOf0
  v0 := Tryz.zeroValue0
  t3 := Tryz.underlying3
  a3 := Tryz.isAgg3
  z3 := Tryz.sizeOf3
  v3 := Tryz.zeroValue3
  t4 := Tryz.underlying4
  a4 := Tryz.isAgg4
  z4 := Tryz.sizeOf4
  v4 := Tryz.zeroValue4
  t9 := Tryz.underlying9
  a9 := Tryz.isAgg9
  z9 := Tryz.sizeOf9
  v9 := Tryz.zeroValue9
  t20 := Tryz.underlying20
  a20 := Tryz.isAgg20
  z20 := Tryz.sizeOf20
  v20 := Tryz.zeroValue20
  t22 := Tryz.underlying36
  a22 := Tryz.isAgg36
  z22 := Tryz.sizeOf36
  v22 := Tryz.zeroValue36 }
end Go.Proofs

namespace Go.Proofs.YtlnhocgjgmhfgaaGreatDoor
open Go.RowKit
set_option maxRecDepth 100000

theorem turn_get (l : List Nat) (k i : Nat) (hk : k ≤ l.length) (hi : i < l.length) : (l.drop k ++ l.take k).getD i 0 = l.getD ((i + k) % l.length) 0 := by
  rw [List.getD_eq_getElem?_getD, List.getD_eq_getElem?_getD]
  by_cases h : i + k < l.length
  · rw [List.getElem?_append_left (by rw [List.length_drop]; omega), List.getElem?_drop, Nat.mod_eq_of_lt h, Nat.add_comm]
  · rw [List.getElem?_append_right (by rw [List.length_drop]; omega), List.length_drop, List.getElem?_take_of_lt (by omega)]
    rw [show (i + k) % l.length = i - (l.length - k) by
      rw [Nat.mod_eq_sub_mod (by omega), Nat.mod_eq_of_lt (by omega)]; omega]
theorem turn_perm (l : List Nat) (k : Nat) : (l.drop k ++ l.take k).Perm l := by
  have h := List.perm_append_comm (l₁ := l.drop k) (l₂ := l.take k)
  rwa [List.take_append_drop] at h
theorem TourL.turn {ss : List (Nat × Nat)} {l : List Nat} (h : TourL ss l) {k : Nat} (hk : k ≤ l.length) : TourL ss (l.drop k ++ l.take k) := by
  obtain ⟨h1, h2, h3, h4, h5⟩ := h
  have hp := turn_perm l k
  have hl := hp.length_eq
  refine ⟨by rw [hl, h1], by rw [hl]; exact h2, hp.nodup_iff.2 h3, fun e he => h4 e (hp.mem_iff.1 he), fun i hi => ?_⟩
  rw [hl] at hi ⊢
  rw [turn_get l k i hk hi, turn_get l k _ hk (Nat.mod_lt _ h2), h5 _ (Nat.mod_lt _ h2)]
  congr 2
  rw [Nat.mod_add_mod, Nat.mod_add_mod]
  congr 1; omega

def sz2 (a b : Nat) : Nat → Nat
  | 0 => 0
  | 1 => a
  | _ => a + b
def cat2 (a b : List Nat) : Nat → List Nat
  | 0 => []
  | 1 => a
  | _ => a ++ b
section
variable {P : Program} {t e : TypeId} {z : Value} {size bytes : Nat} {ops : Array Oper} {rest : List Oper} {o : Oper} {a : Act} {Q : Exit → Act → World → Prop}
/-- An append of another row, in the order of the text. -/
theorem appF_list (hE : ElemOk P t e z size bytes) (hgd : o.guard = none) (s x : Operand) (ho : o.op = .call { callee := .builtin .append, args := #[s, x], argTypes := #[t, t] })
    {v : Value} {n m c base : Nat} {xs news : List Value} {w0 : World} {ad : Addr} (hs : a.eval s = v) (hx : a.eval x = .slice (some ad) m c)
    (hown : w0.ownsRow base e size v n xs) (hbase : base ≤ w0.heap.size) (hl : news.length = m * size) (hnews : ∀ j u, news[j]? = some u → w0.cell? (ad.add j) = some u) (h1 : ∀ u ∈ news, u.oneCell' = true)
    (hn : (n + m) * bytes ≤ 140737488355328) (hn' : n + m ≤ maxLen)
    (h : ∀ v' w', w'.ownsRow base e size v' (n + m) (xs ++ news) → w0.grownBy w' v.ownBlock → wpList P ops Q rest (a.put o.dst v') w') :
    wpList P ops Q (o :: rest) a w0 := by
  obtain ⟨i, hi, hz, hsz, hby⟩ := hE.info
  refine wpList_append_own _ hgd s x t ho base e i z size bytes hE.und hi hz hsz hby hE.cells hE.pos v n xs hs hown ad m c news hx hl hnews h1 hn' hn hbase ?_
  intro v' w' h2 h3 _
  exact h v' w' h2 h3
end
theorem Grow_nil (m : Nat) (w : World) (hm : 0 < m) (hm2 : m ≤ 100000) : Calls Tryz.prog 58 #[.slice none 0 0, .int .i64 (m : Nat)] w (Rets fun r w' => ∃ cap, r = .slice (some ⟨w.heap.size, 0, none⟩) 0 cap ∧ w'.ownsRow w.heap.size 3 1 r 0 [] ∧ Below w.heap.size w w') := by
  obtain ⟨i, hi, hz, hsz, hby⟩ := elemI.info
  have h := Any8.slices_Grow_grow Tryz.growI i _ hi hz (by rw [hsz]; decide) none 0 0 m [] w (Nat.le_refl _) (by omega) (by rw [hby]; omega) (by omega) (by simp) (fun _ => rfl) (fun a h => by cases h)
  refine Calls.mono h ?_
  rintro e w' ⟨he, hw⟩
  obtain ⟨G, hG⟩ : ∃ G, grownCap w (0 + m) 0 3 = G := ⟨_, rfl⟩
  have hGm : G ≤ maxLen := by rw [← hG]; exact grownCap_le_maxLen w _ _ _ (by unfold maxLen; omega)
  have hGn : 0 + m ≤ G := by rw [← hG]; exact grownCap_ge w _ _ _
  have he2 : e = .returned (.slice (some ⟨w.heap.size, 0, none⟩) 0 G) := by rw [he, ← hG]; rfl
  have hw2 : w' = w.drew.alloc (.cells (([] : List Value).toArray ++ Builtin.zeroCells (Value.int .i64 0).cells (0 + m - 0) ++ Builtin.zeroCells (Value.int .i64 0).cells (G - (0 + m))) 3) := by rw [hw, ← hG]; rfl
  refine ⟨_, he2, G, rfl, ?_, ?_⟩
  · rw [hw2]
    refine ⟨rfl, .inr ⟨w.heap.size, G, _, rfl, Nat.le_refl _, heap_alloc_new w.drew _, Nat.zero_le _, hGm, ?_, rfl⟩⟩
    have h1 : (Value.int .i64 0).cells.size = 1 := rfl
    rw [Array.size_append, Array.size_append, size_zeroCells, size_zeroCells, h1]
    simp only [List.size_toArray, List.length_nil]
    omega
  · rw [hw2]
    exact ((Below.refl _ w).drew).alloc (Nat.le_refl _) _

set_option maxHeartbeats 4000000 in
theorem Concat2 (w : World) (B : Nat) (b1 o1 c1 b2 o2 c2 : Nat) (l1 l2 : List Nat) (hB : Blk w B [.slice (some ⟨b1, o1, none⟩) l1.length c1, .slice (some ⟨b2, o2, none⟩) l2.length c2] 36)
    (h1 : CellsK i1 1 w b1 o1 l1) (h2 : CellsK i1 1 w b2 o2 l2) (hl1 : l1.length ≤ 1000) (hl2 : l2.length ≤ 1000) (hp : 0 < l1.length) :
    Calls Tryz.prog 32 #[.slice (some ⟨B, 0, none⟩) 2 2] w (Rets fun r w' => w'.ownsRow w.heap.size 3 1 r (l1 ++ l2).length (ints (l1 ++ l2)) ∧ Below w.heap.size w w') := by
  have HB := Lib.hid hB; have H1 := Lib.hid h1; have H2 := Lib.hid h2
  obtain ⟨D, hD⟩ : ∃ D, w.heap.size = D := ⟨_, rfl⟩
  have HD := Lib.hid hD
  have hBD : B < D := by rw [← hD]; exact hB.lt
  have hrow : ∀ (w' : World), Below D w w' → ∀ k : Nat, k < 2 → ∃ (b o c n : Nat) (l : List Nat), w'.cell? ⟨B, k, none⟩ = some (.slice (some ⟨b, o, none⟩) n c) ∧ n = l.length ∧ n ≤ 1000 ∧ sz2 l1.length l2.length (k + 1) = sz2 l1.length l2.length k + n ∧ cat2 l1 l2 (k + 1) = cat2 l1 l2 k ++ l ∧ CellsK i1 1 w' b o l := by
    intro w' hb k hk
    have hk2 : k = 0 ∨ k = 1 := by omega
    have hBr := HB.out.below hb (Nat.le_of_eq hD)
    rcases hk2 with rfl | rfl
    · exact ⟨b1, o1, c1, _, l1, hBr.cell 0 _ rfl, rfl, hl1, by simp [sz2], by simp [cat2], H1.out.below hb (Nat.le_of_eq hD)⟩
    · exact ⟨b2, o2, c2, _, l2, hBr.cell 1 _ rfl, rfl, hl2, rfl, rfl, H2.out.below hb (Nat.le_of_eq hD)⟩
  have HRW := Lib.hid hrow
  have B0 := Lib.hid (show Below D w w by rw [← hD]; exact Below.refl _ w)
  have HSZ := Lib.hid (show 0 < sz2 l1.length l2.length 2 ∧ sz2 l1.length l2.length 2 ≤ 2000 by simp only [sz2]; omega)
  clear hB h1 h2 hrow
  go_enter Tryz.func32, Tryz.ntmps32
  go_wp2
  go_loopw [3, 11] (fun s i wr => ∃ (k S : Nat), k ≤ 2 ∧ S ≤ 1000 * k ∧ i = .int .i64 k ∧ s = .int .i64 (S : Nat) ∧ Hid (S = sz2 l1.length l2.length k) ∧ Hid (Below D w wr)) (fun _ i _ => 2 - (intOf i).toNat)
  case atStart => exact ⟨0, 0, by omega, by omega, rfl, rfl, Lib.hid rfl, B0⟩
  case round =>
    obtain ⟨k, S, hk, hS, rfl, rfl, hz, hB⟩ := hrel
    by_cases hk2 : k < 2
    · obtain ⟨b, o, c, n, l, r0, hn, hn1, hs2, -, -⟩ := HRW.out wr hB.out k hk2
      have hBr := (HB.out.below hB.out (Nat.le_of_eq hD)).lt
      have e1 : decide ((S : Int) + (n : Int) < 0) = false := by simp only [decide_eq_false_iff_not]; omega
      have q0 : (0 : Int) ≤ (k : Int) := by omega
      have q1 : (k : Int) < 2 := by omega
      have HS2 := Lib.hid hs2
      clear hn hs2
      go_wp2
      go_roundw
      case rel => exact ⟨k + 1, S + n, by omega, by omega, by go_num, by simp, Lib.hid (by rw [HS2.out, ← hz.out]), hB⟩
      case measure => simp [intOf]; omega
    · obtain rfl : k = 2 := by omega
      have hz2 := HSZ.out
      rw [← hz.out] at hz2
      obtain ⟨hz3, hz4⟩ := hz2
      have hDW := hB.out.size
      have HBB := Lib.hid hB.out
      have HGR := Lib.hid (Grow_nil S wr hz3 (by omega))
      have hDw2 : D ≤ wr.heap.size := by rw [← hD]; exact hDW
      clear hB hz
      go_wp2_with (go_at_call 58; (with_reducible refine HGR.out.mono ?_); rintro e w5 ⟨v, rfl, cap, rfl, hown, hb⟩; have HO5 := Lib.hid (own_baseK hown hDw2); have HB5 := Lib.hid (HBB.out.trans (hb.mono hDw2)); clear hown hb)
      go_loopw [6, 27] (fun s i wr => ∃ (k : Nat), k ≤ 2 ∧ i = .int .i64 k ∧ Hid (wr.ownsRow D 3 1 s (cat2 l1 l2 k).length (ints (cat2 l1 l2 k))) ∧ Hid (Below D w wr)) (fun _ i _ => 2 - (intOf i).toNat)
      case atStart => exact ⟨0, by omega, rfl, HO5, HB5⟩
      case round =>
        clear HO5 HB5
        obtain ⟨k, hk, rfl, hO, hB⟩ := hrel
        obtain ⟨ua, uc, rfl⟩ := own_formK hO.out
        by_cases hk2 : k < 2
        · obtain ⟨b, o, c, n, l, r0, hn, hn1, -, hc2, hce⟩ := HRW.out wr hB.out k hk2
          have hBr := (HB.out.below hB.out (Nat.le_of_eq hD)).lt
          have q0 : (0 : Int) ≤ (k : Int) := by omega
          have q1 : (k : Int) < 2 := by omega
          have hcl : (cat2 l1 l2 k).length ≤ 2000 := by
            have hk3 : k = 0 ∨ k = 1 := by omega
            rcases hk3 with rfl | rfl
            · simp [cat2]
            · simp only [cat2]; omega
          have HC2 := Lib.hid hc2
          have HNW := Lib.hid (show ∀ (j : Nat) (y : Value), (ints l)[j]? = some y → wr.cell? ((⟨b, o, none⟩ : Addr).add j) = some y from fun j y hj => by
            have hjl : j < l.length := by have := (List.getElem?_eq_some_iff.1 hj).1; simpa [ints] using this
            have h := hce.2 j hjl 0 (.int .i64 (l[j] : Nat)) rfl
            rw [ints_at l j hjl] at hj
            rw [Nat.mul_one, Nat.add_zero] at h
            rw [show (⟨b, o, none⟩ : Addr).add j = ⟨b, o + j, none⟩ by simp [Addr.add], h, hj])
          have HLL := Lib.hid (show (ints l).length = n * 1 by rw [hn]; simp [ints])
          have HON := Lib.hid (show ∀ u ∈ ints l, u.oneCell' = true from fun u hu => by obtain ⟨y, -, rfl⟩ := List.mem_map.1 hu; rfl)
          have hb1 : ((cat2 l1 l2 k).length + n) * 8 ≤ 140737488355328 := by omega
          have hb2 : (cat2 l1 l2 k).length + n ≤ maxLen := by unfold maxLen; omega
          have HN := Lib.hid hn
          have hDw3 : D ≤ wr.heap.size := by rw [← hD]; exact hB.out.size
          have HOO := Lib.hid hO.out; have HBO := Lib.hid hB.out
          clear hn hc2 hce hO hB
          go_wp2_with (at_builtin; go_loud (refine appF_list (base := D) (news := ints l) (w0 := wr) (ad := ⟨b, o, none⟩) elemI rfl (.tmp 31) (.tmp 32) rfl rfl rfl HOO.out hDw3 HLL.out HNW.out HON.out hb1 hb2 ?_); intro v' w7 hown hg; obtain ⟨va, vc, rfl⟩ := own_formK hown; have HO7 := Lib.hid hown; have HB7 := Lib.hid (HBO.out.grown hg (by first | exact hDw3 | (rw [hD]; exact hDw3)) (fun j hj => own_ge HOO.out j hj)); clear hown hg)
          go_roundw
          case rel => exact ⟨k + 1, by omega, by go_num, Lib.hid (by rw [HC2.out]; exact ownsRow_cast HO7.out (by rw [List.length_append, HN.out]) (by simp [ints])), HB7⟩
          case measure => simp [intOf]; omega
        · obtain rfl : k = 2 := by omega
          have HS9 := Lib.hid (show wr.ownsRow D 3 1 (.slice ua (cat2 l1 l2 2).length uc) (l1 ++ l2).length (ints (l1 ++ l2)) from hO.out)
          have HB9 := Lib.hid hB.out
          clear hO hB
          go_wp2
          go_ret
          exact ⟨_, rfl, by first | exact HS9.out | (rw [hD]; exact HS9.out), by first | exact HB9.out | (rw [hD]; exact HB9.out)⟩
end Go.Proofs.YtlnhocgjgmhfgaaGreatDoor
