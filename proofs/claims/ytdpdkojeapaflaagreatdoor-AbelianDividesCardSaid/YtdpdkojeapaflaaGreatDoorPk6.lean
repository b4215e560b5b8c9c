/- The walks of the reference's In, Zero, Plus and Period of a group's elements. The walks of the reference's Plus, Period, Last and OrderOf of a group's elements. The walks of the reference's Few and of the law's pair. The walks of slices.IndexFunc and slices.ContainsFunc, for the closures that they are handed; the law's few; the reference's Few of groups. The walks of the law's few over lists of lists; of the reference's Last, and of its OrderOf's errors. Plain law: a right group's numbers in natural numbers; each divides the last one. The walks of slices.Equal at equal lists, of abelian's Order, Exponent, Count, and of OrderOf's errors. The walk of abelian's Count. The walks of slices.Clone, DeleteFunc and Equal over texts, and of abelian's Of. The walk of abelian's Of. -/
import Derived.Test.YtdpdkojeapaflaaGreatDoorPk5
import Derived.Test.YtdpdkojeapaflaaGreatDoorPk3
import Derived.Test.YtdpdkojeapaflaaGreatDoorPk4
import Derived.Laws.AppendOwnNone
import Derived.Lib.SliceRun
namespace Go.Proofs.YtdpdkojeapaflaaGreatDoor
open Go.RowKit
set_option maxRecDepth 100000

theorem Minus_q (w : World) (z : Int) (m : Bool) (h : decide (z < 0) = m) : Calls Tryz.prog 61 #[.string (txt z)] w fun e w' => e = .returned (.bool m) ∧ w' = w :=
  (Minus_any w z).mono fun e w' ⟨v, he, hv, hw⟩ => ⟨by rw [he, hv, h], hw.symm⟩

set_option maxHeartbeats 2000000 in
theorem In_big (w : World) (v u : Value) (g a : List ByteArray) (zs : List Int) (hv : Sl eS w v g) (hu : Sl eS w u a) (hz : Goods g zs) (hl : g.length ≤ 16) (hsz : a.length = g.length → ∀ s ∈ a, s.size ≤ 9223372036854775807) :
    Calls Tryz.prog 68 #[v, u] w (Rets fun v w' => v = .int .i64 (mchk g a) ∧ Below w.heap.size w w') := by
  obtain ⟨ad, b, o, c, rfl, hi, hp, hc, hm⟩ := hv.open elemStr
  obtain ⟨ad', b', o', c', rfl, hi', hp', hc', hm'⟩ := hu.open elemStr
  have HZ := Lib.hid hz; have HLZ := Lib.hid hz.len
  clear hv hu hz
  unfold maxLen at hm hm'
  by_cases hle : a.length = g.length
  · have hs := hsz hle
    have HS := Lib.hid hs
    have HM := Lib.hid (show mchk g a = mstep g a by unfold mchk; rw [if_pos hle])
    have hla : a.length ≤ 16 := by omega
    have hne : ((a.length : Int) != (g.length : Int)) = false := by simp [hle]
    have HLE := Lib.hid hle
    clear hsz hs hle
    go_enter Tryz.func68, Tryz.ntmps68
    go_wp2
    go_loopw [5] (fun i wr => ∃ k : Nat, k ≤ a.length ∧ i = .int .i64 k ∧ Hid (mchk g a = mstep (g.drop k) (a.drop k)) ∧ Below w.heap.size w wr) (fun i _ => a.length - (intOf i).toNat)
    case atStart => exact ⟨0, Nat.zero_le _, rfl, Lib.hid (by rw [HM.out]; rfl), Below.refl _ _⟩
    case round =>
      obtain ⟨k, hk, rfl, hA, hb⟩ := hrel
      by_cases hkn : k < a.length
      · have hkg : k < g.length := by rw [← HLE.out]; exact hkn
        have h1 : wr.cell? ⟨b', o' + k, none⟩ = some (.string a[k]) := hp'.at hb (Nat.le_refl _) k hkn
        have hV := hA.out
        rw [mstep_at g a k hkg hkn] at hV
        have hsk := HS.out _ (List.getElem_mem hkn)
        have hgz := HZ.out.get k hkg (by rw [HLZ.out]; exact hkg)
        have hgn := hgz.num
        by_cases h0 : chk a[k].data.toList = 0
        · rw [if_pos h0] at hV
          have hG := good_num h0
          obtain ⟨y, hy⟩ : ∃ y, num a[k] = y := ⟨_, rfl⟩
          obtain ⟨n, hn⟩ : ∃ n, zs[k]'(by rw [HLZ.out]; exact hkg) = n := ⟨_, rfl⟩
          rw [hn] at hgz hgn
          rw [hy] at hG hV
          rw [hgn] at hV
          have h4 : ∀ w', Below w.heap.size w w' → w'.cell? ⟨b', o' + k, none⟩ = some (.string (txt y)) := fun w' hb' => by rw [← hG.eq]; exact hp'.at hb' (Nat.le_refl _) k hkn
          have h5 : ∀ w', Below w.heap.size w w' → w'.cell? ⟨b, o + k, none⟩ = some (.string (txt n)) := fun w' hb' => by rw [← hgz.eq]; exact hp.at hb' (Nat.le_refl _) k hkg
          have H4 := Lib.hid h4; have H5 := Lib.hid h5
          rw [hG.eq] at h1
          have HC := Lib.hid (show chk (txt y).data.toList = 0 by rw [← hG.eq]; exact h0)
          have HSZ := Lib.hid (show (txt y).size ≤ 9223372036854775807 by rw [← hG.eq]; exact hsk)
          have HDN := Lib.hid hG.dn; have HDG := Lib.hid hgz.dn
          have q1 : (0 : Int) ≤ (k : Int) := by omega
          have q2 : (k : Int) < (a.length : Int) := by omega
          have q3 : (k : Int) < (g.length : Int) := by omega
          have hb5 := h5 _ hb
          have HH := Lib.hid (held_two h4 h5 hb)
          have HB := Lib.hid hb
          by_cases hneg : y < 0
          · rw [if_pos (.inl hneg)] at hV
            have HV := Lib.hid hV
            have HMQ := Lib.hid (fun w' => Minus_q w' y true (by simp [hneg]))
            clear hV hG h0 hsk hgz hgn hy hn h4 h5 hneg
            go_wp2_with (go_at_call 30; (with_reducible refine (rCheck_big _ _ HSZ.out).mono ?_); rintro e w1 ⟨v, rfl, rfl, rfl⟩; rw [HC.out])
            go_quiet ((go_at_call 61; exact Calls.quiet_of_same (HMQ.out _)))
            have b3 := below_drewN hb nq
            go_wp2
            go_ret
            exact ⟨_, rfl, by rw [HV.out]; rfl, b3⟩
          · have HMQ := Lib.hid (fun w' => Minus_q w' y false (by simp [hneg]))
            by_cases hbig : n ≤ y
            · rw [if_pos (.inr hbig)] at hV
              have HV := Lib.hid hV
              obtain ⟨u, hu, hu0⟩ : ∃ u, (y - n).sign = u ∧ 0 ≤ u := ⟨_, rfl, by
                rcases Int.lt_or_eq_of_le hbig with h | h
                · rw [Int.sign_eq_one_of_pos (by omega)]; omega
                · rw [h, Int.sub_self]; decide⟩
              have HU := Lib.hid hu
              clear hV hG h0 hsk hgz hgn hy hn h4 h5 hneg hbig hu hb5
              go_wp2_with (go_at_call 30; (with_reducible refine (rCheck_big _ _ HSZ.out).mono ?_); rintro e w1 ⟨v, rfl, rfl, rfl⟩; rw [HC.out])
              clear hb h1
              go_region_held3 (fun w' => Below wr.heap.size wr w' ∧ w'.cell? ⟨b', o' + k, none⟩ = some (.string (txt y)) ∧ w'.cell? ⟨b, o + k, none⟩ = some (.string (txt n)))
                (((refine HH.out _ ?_); first
                  | with_reducible exact (Below.refl _ _).drew
                  | with_reducible exact Below.trans (And.left (by assumption)) (Below.mono (by assumption) (Below.size (And.left (by assumption))))
                  | with_reducible exact And.left (by assumption)))
                (first
                  | (go_at_call 61; (with_reducible refine (HMQ.out _).mono ?_); rintro e w3 ⟨rfl, rfl⟩)
                  | (go_at_call 14; (with_reducible refine (Order_any _ y n (by have := HDN.out; omega) (by have := HDG.out; omega)).mono ?_); rintro e w4 ⟨v, rfl, rfl, hb4⟩; rw [HU.out]))
              all_goals
                have hf : Below wr.heap.size wr w4 := And.left (by assumption)
                have b3 := HB.out.trans (hf.mono HB.out.size)
                clear hf
                go_wp2
                go_ret
                exact ⟨_, rfl, by rw [HV.out]; rfl, b3⟩
            · rw [if_neg (by omega)] at hV
              have HV := Lib.hid hV
              have HU := Lib.hid (show (y - n).sign = -1 from Int.sign_eq_neg_one_of_neg (by omega))
              clear hV hG h0 hsk hgz hgn hy hn h4 h5 hneg hbig hb5
              go_wp2_with (go_at_call 30; (with_reducible refine (rCheck_big _ _ HSZ.out).mono ?_); rintro e w1 ⟨v, rfl, rfl, rfl⟩; rw [HC.out])
              clear hb h1
              go_region_held3 (fun w' => Below wr.heap.size wr w' ∧ w'.cell? ⟨b', o' + k, none⟩ = some (.string (txt y)) ∧ w'.cell? ⟨b, o + k, none⟩ = some (.string (txt n)))
                (((refine HH.out _ ?_); first
                  | with_reducible exact (Below.refl _ _).drew
                  | with_reducible exact Below.trans (And.left (by assumption)) (Below.mono (by assumption) (Below.size (And.left (by assumption))))
                  | with_reducible exact And.left (by assumption)))
                (first
                  | (go_at_call 61; (with_reducible refine (HMQ.out _).mono ?_); rintro e w3 ⟨rfl, rfl⟩)
                  | (go_at_call 14; (with_reducible refine (Order_any _ y n (by have := HDN.out; omega) (by have := HDG.out; omega)).mono ?_); rintro e w4 ⟨v, rfl, rfl, hb4⟩; rw [HU.out]))
              all_goals
                have hf : Below wr.heap.size wr w4 := And.left (by assumption)
                have b3 := HB.out.trans (hf.mono HB.out.size)
                clear hf
                go_wp2
                go_roundw
                case rel => exact ⟨k + 1, by omega, by go_num, HV, b3⟩
                case measure => simp [intOf]; omega
        · rw [if_neg h0] at hV
          have hne : (chk a[k].data.toList != 0) = true := by simp [h0]
          have HV := Lib.hid hV
          clear hV h0
          go_wp2_with (go_at_call 30; (with_reducible refine (rCheck_big _ _ hsk).mono ?_); rintro e w1 ⟨v, rfl, rfl, rfl⟩)
          go_ret
          exact ⟨_, rfl, by rw [HV.out]; rfl, hb⟩
      · obtain rfl : k = a.length := by omega
        have HV := Lib.hid (show mchk g a = 0 by rw [hA.out, mstep_end])
        go_wp2
        go_ret
        exact ⟨_, rfl, by rw [HV.out]; rfl, hb⟩
  · have HM := Lib.hid (show mchk g a = 8 by unfold mchk; rw [if_neg hle])
    have hne : ((a.length : Int) != (g.length : Int)) = true := by simp; omega
    clear hsz
    go_enter Tryz.func68, Tryz.ntmps68
    go_wp2
    go_ret
    exact ⟨_, rfl, by rw [HM.out]; rfl, Below.refl _ _⟩

theorem In_any (w : World) (v u : Value) (g a : List ByteArray) (zs : List Int) (hv : Sl eS w v g) (hu : Sl eS w u a) (hz : Goods g zs) (hl : g.length ≤ 16) (hsz : a.length = g.length → ∀ s ∈ a, s.size ≤ 1000000) :
    Calls Tryz.prog 68 #[v, u] w (Rets fun v w' => v = .int .i64 (mchk g a) ∧ Below w.heap.size w w') :=
  In_big w v u g a zs hv hu hz hl fun h s hs => Nat.le_trans (hsz h s hs) (by omega)
set_option maxHeartbeats 400000 in
theorem Zero_any (w : World) (v : Value) (a : List ByteArray) (us : List Nat) (hv : Sl eS w v a) (ha : a = us.map tx) :
    Calls Tryz.prog 36 #[v] w (Rets fun v w' => v = .bool (us.all (· == 0)) ∧ w = w') := by
  obtain ⟨ad, b, o, c, rfl, hi, hp, hc, hm⟩ := hv.open elemStr
  have HA := Lib.hid ha; have HL := Lib.hid (show us.length = a.length by rw [ha, List.length_map])
  clear hv ha
  unfold maxLen at hm
  go_enter Tryz.func36, Tryz.ntmps36
  go_wp2
  go_loop [3] (fun i => ∃ k : Nat, k ≤ a.length ∧ i = .int .i64 k ∧ Hid (us.all (· == 0) = (us.drop k).all (· == 0))) (fun i => a.length - (intOf i).toNat)
  case atStart => exact ⟨0, Nat.zero_le _, rfl, Lib.hid rfl⟩
  case round =>
    obtain ⟨k, hk, rfl, hall⟩ := hrel
    by_cases hkn : k < a.length
    · have hku : k < us.length := by rw [HL.out]; exact hkn
      have h1 : w.cell? ⟨b, o + k, none⟩ = some (.string (txt (us[k] : Nat))) := by
        have h2 := hp.2 k hkn
        have h3 : a[k] = txt (us[k] : Nat) := by simp [HA.out]
        rw [h2, h3]; rfl
      have hd := hall.out
      rw [List.drop_eq_getElem_cons hku, List.all_cons] at hd
      by_cases hz : us[k] = 0
      · have hz0 : ((txt (us[k] : Nat)).toList == [48]) = true := by rw [hz]; exact txt_z0
        have HD : Hid (us.all (· == 0) = (us.drop (k + 1)).all (· == 0)) := Lib.hid (by rw [hd]; simp [hz])
        clear hd hz
        go_wp2
        go_round
        case rel => exact ⟨k + 1, by omega, by go_num, HD⟩
        case measure => simp [intOf]; omega
      · have hz0 : ((txt (us[k] : Nat)).toList == [48]) = false := txt_ne0 (by omega)
        have HD : Hid (us.all (· == 0) = false) := Lib.hid (by rw [hd]; simp [hz])
        clear hd hz
        go_wp2
        go_ret
        exact ⟨_, rfl, by rw [HD.out]; rfl, rfl⟩
    · obtain rfl : k = a.length := by omega
      have HD : Hid (us.all (· == 0) = true) := Lib.hid (by rw [hall.out, ← HL.out, List.drop_length]; rfl)
      go_wp2
      go_ret
      exact ⟨_, rfl, by rw [HD.out]; rfl, rfl⟩
end Go.Proofs.YtdpdkojeapaflaaGreatDoor

namespace Go.Proofs.YtdpdkojeapaflaaGreatDoor
open Go.RowKit
set_option maxRecDepth 100000

section
variable {P : Program} {t e : TypeId} {z : Value} {size bytes : Nat} {ops : Array Oper} {o : Oper} {a : Act} {Q : Exit → Act → World → Prop} {K : Act → World → Prop} {E : Prop}
/-- 'append(out, x)' as one operation of a region: out nil or the call's own, x just laid in a new block. -/
theorem app1w (hE : ElemOk P t e z size bytes) (s x : Operand) (ho : o.op = .call { callee := .builtin .append, args := #[s, x], argTypes := #[t, t] })
    {v : Value} {n c base B : Nat} {xs news : List Value} {w0 W : World} (hs : a.eval s = v) (hx : a.eval x = .slice (some ⟨w0.heap.size, 0, none⟩) 1 c)
    (hown : w0.ownsRow base e size v n xs) (hb : Below B W w0) (hB : B ≤ base) (hbase : base ≤ w0.heap.size) (hl : news.length = size) (h1 : ∀ u ∈ news, u.oneCell' = true)
    (hn : (n + 1) * bytes ≤ 140737488355328) (hn' : n + 1 ≤ maxLen)
    (h : ∀ v' w', w'.ownsRow base e size v' (n + 1) (xs ++ news) → Below B W w' → K (a.put o.dst v') w') :
    Oper.wp P o a (w0.alloc (.cells news.toArray e)) K Q := by
  obtain ⟨i, hi, hz, hsz, hby⟩ := hE.info
  refine wp_append_own _ s x t ho base e i z size bytes hE.und hi hz hsz hby hE.cells hE.pos v n xs hs (hown.alloc _) ⟨w0.heap.size, 0, none⟩ 1 c news hx (by simp [hl]) ?_ h1 hn' hn (by simp; omega) ?_
  · intro j u hj
    rw [addr0]
    rw [cell_of_row _ w0.heap.size j news.toArray e (0, 0) (heap_alloc_new w0 _)]
    simpa using hj
  · intro v' w' ho' hg _
    exact h v' w' ho' ((hb.alloc (by omega) _).grown hg (by simp; omega) (fun j hj => by have := (hown.lt j hj).1; omega))
theorem app1_step (hE : ElemOk P t e z size bytes) (hgd : o.guard = none) (s x : Operand) (ho : o.op = .call { callee := .builtin .append, args := #[s, x], argTypes := #[t, t] })
    {v : Value} {n c base B : Nat} {xs news : List Value} {w0 W : World} (hs : a.eval s = v) (hx : a.eval x = .slice (some ⟨w0.heap.size, 0, none⟩) 1 c)
    (hown : w0.ownsRow base e size v n xs) (hb : Below B W w0) (hB : B ≤ base) (hbase : base ≤ w0.heap.size) (hl : news.length = size) (h1 : ∀ u ∈ news, u.oneCell' = true)
    (hn : (n + 1) * bytes ≤ 140737488355328) (hn' : n + 1 ≤ maxLen)
    (h : ∀ v' w', w'.ownsRow base e size v' (n + 1) (xs ++ news) → Below B W w' → K (a.put o.dst v') w') :
    if Region.wanted o (yielded ops a.tmps) = true then Oper.wp P o a (w0.alloc (.cells news.toArray e)) K Q else E := by
  rw [if_pos (by simp [Region.wanted, hgd])]
  exact app1w hE s x ho hs hx hown hb hB hbase hl h1 hn hn' h
end
/-- A multiple of an element. -/
def mulN (ns us : List Nat) (k : Nat) : List Nat := List.zipWith (fun n u => (k * u) % n) ns us
theorem mulN_len {ns us : List Nat} (h : us.length = ns.length) (k : Nat) : (mulN ns us k).length = ns.length := by simp [mulN, h]
theorem mulN_get {ns us : List Nat} (k i : Nat) (h : i < (mulN ns us k).length) (h1 : i < ns.length) (h2 : i < us.length) : (mulN ns us k)[i] = (k * us[i]) % ns[i] := by simp [mulN]
theorem held_three {w : World} {c d f : Addr} {u v x : Value} (h4 : ∀ w', Below w.heap.size w w' → w'.cell? c = some u) (h5 : ∀ w', Below w.heap.size w w' → w'.cell? d = some v) (h6 : ∀ w', Below w.heap.size w w' → w'.cell? f = some x) :
    ∀ w', Below w.heap.size w w' → Below w.heap.size w w' ∧ w'.cell? c = some u ∧ w'.cell? d = some v ∧ w'.cell? f = some x :=
  fun _ hb => ⟨hb, h4 _ hb, h5 _ hb, h6 _ hb⟩
theorem cell_tx {w : World} {b o : Nat} {xs : List ByteArray} {ns : List Nat} (hp : Cells eS w b o xs) (h : xs = ns.map tx) (k : Nat) (hk : k < ns.length) : ∀ w', Below w.heap.size w w' → w'.cell? ⟨b, o + k, none⟩ = some (.string (txt (ns[k] : Nat))) := by
  intro w' hb
  have hk' : k < xs.length := by rw [h, List.length_map]; exact hk
  have h2 := hp.at hb (Nat.le_refl _) k hk'
  have h3 : xs[k] = txt (ns[k] : Nat) := by simp [h]
  rw [h2, h3]; rfl

set_option maxHeartbeats 2000000 in
theorem Plus05_any (w : World) (v u t : Value) (g a b : List ByteArray) (ns us : List Nat) (j : Nat) (hv : Sl eS w v g) (hu : Sl eS w u a) (ht : Sl eS w t b) (hg : g = ns.map tx) (ha : a = (mulN ns us j).map tx) (hb : b = us.map tx) (hl : us.length = ns.length) (hl16 : ns.length ≤ 16)
    (h2 : ∀ n ∈ ns, 2 ≤ n) (hd : ∀ n ∈ ns, dn (n : Int) ≤ 1000) (hlt : ∀ i (h : i < ns.length) (h' : i < us.length), us[i] < ns[i]) :
    Calls Tryz.prog 96 #[v, u, t] w (Rets fun r w' => Sl eS w' r ((mulN ns us (j + 1)).map tx) ∧ Below w.heap.size w w') := by
  obtain ⟨ad1, b1, o1, c1, rfl, hi1, hp1, -, hm1⟩ := hv.open elemStr
  obtain ⟨ad2, b2, o2, c2, rfl, hi2, hp2, -, hm2⟩ := hu.open elemStr
  obtain ⟨ad3, b3, o3, c3, rfl, hi3, hp3, -, hm3⟩ := ht.open elemStr
  have hgl : g.length = ns.length := by rw [hg, List.length_map]
  have hal : a.length = ns.length := by rw [ha, List.length_map, mulN_len hl]
  have hbl : b.length = ns.length := by rw [hb, List.length_map, hl]
  have C1 := fun k hk => cell_tx hp1 hg k hk
  have C2 := fun k hk => cell_tx hp2 ha k hk
  have C3 := fun k hk => cell_tx hp3 hb k hk
  rw [hgl] at hi1 ⊢
  rw [hal] at hi2 ⊢
  rw [hbl] at hi3 ⊢
  have HC1 := Lib.hid C1; have HC2 := Lib.hid C2; have HC3 := Lib.hid C3; have H2 := Lib.hid h2; have HD := Lib.hid hd; have HLT := Lib.hid hlt; have HL := Lib.hid hl
  clear C1 C2 C3 h2 hd hlt hl hv hu ht hg ha hb hgl hal hbl hp1 hp2 hp3
  unfold maxLen at hm1 hm2 hm3
  go_enter Tryz.func96, Tryz.ntmps96
  go_wp2
  go_loopw [7, 8] (fun out i wr => ∃ k : Nat, k ≤ ns.length ∧ i = .int .i64 k ∧ wr.ownsRow w.heap.size 27 1 out k (((mulN ns us (j + 1)).take k).map (fun n => eS (tx n))) ∧ Below w.heap.size w wr) (fun _ i _ => ns.length - (intOf i).toNat)
  case atStart => exact ⟨0, Nat.zero_le _, rfl, World.ownsRow_nil _ _ _ _, Below.refl _ _⟩
  case round =>
    obtain ⟨k, hk, rfl, hown, hb⟩ := hrel
    have hbs := hb.size
    by_cases hkn : k < ns.length
    · have hku : k < us.length := by rw [HL.out]; exact hkn
      have hkj : k < (mulN ns us j).length := by rw [mulN_len HL.out]; exact hkn
      have hkj1 : k < (mulN ns us (j + 1)).length := by rw [mulN_len HL.out]; exact hkn
      obtain ⟨n, hn⟩ : ∃ n : Int, ((ns[k] : Nat) : Int) = n := ⟨_, rfl⟩
      obtain ⟨x, hx⟩ : ∃ x : Int, (((mulN ns us j)[k] : Nat) : Int) = x := ⟨_, rfl⟩
      obtain ⟨y, hy⟩ : ∃ y : Int, ((us[k] : Nat) : Int) = y := ⟨_, rfl⟩
      have h4 := HC1.out k hkn
      have h5 := HC2.out k hkj
      have h6 := HC3.out k hku
      rw [hn] at h4; rw [hx] at h5; rw [hy] at h6
      have hn2 : (2 : Int) ≤ n := by have := H2.out _ (List.getElem_mem hkn); omega
      have hdn : dn n ≤ 1000 := by rw [← hn]; exact HD.out _ (List.getElem_mem hkn)
      have hyn : 0 ≤ y ∧ y < n := by have := HLT.out k hkn hku; omega
      have hxn : 0 ≤ x ∧ x < n := by
        rw [mulN_get j k hkj hkn hku] at hx
        have := Nat.mod_lt (j * us[k]) (y := ns[k]) (by omega)
        omega
      have hdx : dn x ≤ 1000 := Nat.le_trans (dn_le (by omega)) hdn
      have hdy : dn y ≤ 1000 := Nat.le_trans (dn_le (by omega)) hdn
      have hdxy : dn (x + y) ≤ 1001 := by have := dn_add x y; omega
      have hr : Int.fmod (x + y) n = (((mulN ns us (j + 1))[k] : Nat) : Int) := by
        rw [mulN_get (j + 1) k hkj1 hkn hku, Int.fmod_eq_emod_of_nonneg _ (by omega), ← hx, ← hy, ← hn, mulN_get j k hkj hkn hku]
        rw [← Int.natCast_add, ← Int.natCast_emod]
        congr 1
        rw [Nat.add_mul, Nat.one_mul, Nat.mod_add_mod]
      have HR := Lib.hid hr; have HN2 := Lib.hid hn2; have HDN := Lib.hid hdn; have HDX := Lib.hid hdx; have HDY := Lib.hid hdy; have HDXY := Lib.hid hdxy
      have HH := Lib.hid (held_three h4 h5 h6)
      have HB := Lib.hid hb
      have HO := Lib.hid hown
      have q1 : (0 : Int) ≤ (k : Int) := by omega
      have q2 : (k : Int) < (ns.length : Int) := by omega
      clear h4 h5 h6 hn2 hdn hyn hxn hdx hdy hdxy hr hn hx hy hown hb
      go_wp2_with fail
      go_region_held3 (fun w' => Below w.heap.size w w' ∧ w'.cell? ⟨b1, o1 + k, none⟩ = some (.string (txt n)) ∧ w'.cell? ⟨b2, o2 + k, none⟩ = some (.string (txt x)) ∧ w'.cell? ⟨b3, o3 + k, none⟩ = some (.string (txt y)))
        (((refine HH.out _ ?_); first
          | with_reducible exact HB.out.drew
          | with_reducible exact Below.trans (And.left (by assumption)) (Below.mono (by assumption) (Below.size (And.left (by assumption))))
          | with_reducible exact Below.alloc (And.left (by assumption)) (Below.size (And.left (by assumption))) _
          | with_reducible assumption
          | with_reducible exact And.left (by assumption)))
        (first
          | (go_at_call 31; (with_reducible refine (Plus_any _ x y (by have := HDX.out; omega) (by have := HDY.out; omega)).mono ?_); rintro e w3 ⟨v, rfl, rfl, hb3⟩; have b3 : Below wr.heap.size wr w3 := ⟨hb3.os, hb3.tape, hb3.output, hb3.size, hb3.block⟩)
          | (go_at_call 113; (with_reducible refine (Rest_any _ (x + y) n (by have := HDXY.out; omega) (by have := HDN.out; omega) (by have := HN2.out; omega)).mono ?_); rintro e w4 ⟨v, rfl, rfl, hb4⟩; have hb4' : Below w3.heap.size w3 w4 := ⟨hb4.os, hb4.tape, hb4.output, hb4.size, hb4.block⟩; have b4 := b3.trans (hb4'.mono b3.size); have HO4 := Lib.hid (own_below HO.out b4 (Nat.le_refl _)); have b5 := HB.out.trans (b4.mono HB.out.size))
          | (refine app1_step elemStr rfl _ _ rfl rfl rfl HO4.out b5 (Nat.le_refl _) b5.size rfl (by simp [Value.oneCell']) (by omega) (by unfold maxLen; omega) ?_; intro v' w5 hown' hb'))
      all_goals
        rw [HR.out] at hown'
        go_wp2_with fail
        go_roundw
        case rel => exact ⟨k + 1, by omega, by go_num, by rw [List.take_succ_eq_append_getElem hkj1, List.map_append]; exact hown', hb'⟩
        case measure => simp [intOf]; omega
    · obtain rfl : k = ns.length := by omega
      rw [List.take_of_length_le (by rw [mulN_len HL.out]; exact Nat.le_refl _)] at hown
      have hown2 := ownsRow_cast hown rfl (show (mulN ns us (j + 1)).map (fun n => eS (tx n)) = ((mulN ns us (j + 1)).map tx).map eS by rw [List.map_map]; rfl)
      have HS := Lib.hid (Sl.ofOwns hown2)
      clear hown hown2
      go_wp2
      go_ret
      exact ⟨_, rfl, HS.out, hb⟩

theorem mulN_one {ns us : List Nat} (hl : us.length = ns.length) (hlt : ∀ i (h : i < ns.length) (h' : i < us.length), us[i] < ns[i]) : mulN ns us 1 = us := by
  refine List.ext_getElem (by rw [mulN_len hl, hl]) fun i h1 h2 => ?_
  have hn : i < ns.length := by rw [← hl]; exact h2
  rw [mulN_get 1 i h1 hn h2, Nat.one_mul, Nat.mod_eq_of_lt (hlt i hn h2)]
theorem mulN_zero {ns us : List Nat} (hl : us.length = ns.length) (h2 : ∀ n ∈ ns, 2 ≤ n) (k : Nat) : (mulN ns us k).all (· == 0) = decide (lcms (quos ns us) ∣ k) := by
  rw [Bool.eq_iff_iff, List.all_eq_true, decide_eq_true_iff, lcms_dvd]
  have hq : (quos ns us).length = ns.length := by simp [quos, hl]
  constructor
  · intro h q hq'
    obtain ⟨i, hi, rfl⟩ := List.getElem_of_mem hq'
    have hn : i < ns.length := by rw [← hq]; exact hi
    have hu : i < us.length := by rw [hl]; exact hn
    have hm : i < (mulN ns us k).length := by rw [mulN_len hl]; exact hn
    have := h _ (List.getElem_mem hm)
    rw [mulN_get k i hm hn hu] at this
    have h0 : ns[i] ∣ k * us[i] := Nat.dvd_of_mod_eq_zero (by simpa using this)
    have h1 := (ord_dvd ns[i] us[i] k (by have := h2 _ (List.getElem_mem hn); omega)).1 h0
    simpa [quos] using h1
  · intro h x hx
    obtain ⟨i, hm, rfl⟩ := List.getElem_of_mem hx
    have hn : i < ns.length := by rw [mulN_len hl] at hm; exact hm
    have hu : i < us.length := by rw [hl]; exact hn
    have hi : i < (quos ns us).length := by rw [hq]; exact hn
    have h1 := h _ (List.getElem_mem hi)
    have h1 : ns[i] / Nat.gcd ns[i] us[i] ∣ k := by simpa [quos] using h1
    have h0 := (ord_dvd ns[i] us[i] k (by have := h2 _ (List.getElem_mem hn); omega)).2 h1
    rw [mulN_get k i hm hn hu]
    simpa using Nat.mod_eq_zero_of_dvd h0
theorem quos_pos {ns us : List Nat} (h2 : ∀ n ∈ ns, 2 ≤ n) : ∀ q ∈ quos ns us, 0 < q := by
  intro q hq
  obtain ⟨i, hi, rfl⟩ := List.getElem_of_mem hq
  have hn : i < ns.length := by simp [quos] at hi; omega
  have hu : i < us.length := by simp [quos] at hi; omega
  have h3 := h2 _ (List.getElem_mem hn)
  have hg : Nat.gcd ns[i] us[i] ≤ ns[i] := Nat.le_of_dvd (by omega) (Nat.gcd_dvd_left _ _)
  have : 0 < ns[i] / Nat.gcd ns[i] us[i] := Nat.div_pos hg (Nat.gcd_pos_of_pos_left _ (by omega))
  simpa [quos] using this

set_option maxHeartbeats 1000000 in
theorem Period_any (w : World) (v t : Value) (g b : List ByteArray) (ns us : List Nat) (hv : Sl eS w v g) (ht : Sl eS w t b) (hg : g = ns.map tx) (hb : b = us.map tx) (hl : us.length = ns.length) (hl16 : ns.length ≤ 16)
    (h2 : ∀ n ∈ ns, 2 ≤ n) (hd : ∀ n ∈ ns, dn (n : Int) ≤ 1000) (hlt : ∀ i (h : i < ns.length) (h' : i < us.length), us[i] < ns[i]) (hP : lcms (quos ns us) ≤ 100000) :
    Calls Tryz.prog 69 #[v, t] w (Rets fun r w' => r = .int .i64 (lcms (quos ns us) : Nat) ∧ Below w.heap.size w w') := by
  have HV := Lib.hid hv; have HT := Lib.hid ht
  obtain ⟨ad1, b1, o1, c1, rfl, -, -, -, -⟩ := hv.open elemStr
  obtain ⟨ad3, b3, o3, c3, rfl, -, -, -, -⟩ := ht.open elemStr
  have hp0 := lcms_pos _ (quos_pos (us := us) h2)
  obtain ⟨P, hPe⟩ : ∃ P, lcms (quos ns us) = P := ⟨_, rfl⟩
  have hz := fun k => mulN_zero hl h2 k
  rw [hPe] at hP hp0 hz ⊢
  have h1 := mulN_one hl hlt
  have HZ := Lib.hid hz; have H1 := Lib.hid h1; have HG := Lib.hid hg; have HB := Lib.hid hb; have HL := Lib.hid hl; have H2 := Lib.hid h2; have HD := Lib.hid hd; have HLT := Lib.hid hlt
  clear hv ht hz h1 hg hb hl h2 hd hlt hPe
  go_enter Tryz.func69, Tryz.ntmps69
  go_wp2
  go_loopw [5, 6] (fun x i wr => ∃ (j : Nat) (xs : List ByteArray), 1 ≤ j ∧ j ≤ P ∧ i = .int .i64 j ∧ Hid (xs = (mulN ns us j).map tx) ∧ Hid (Sl eS wr x xs) ∧ Below w.heap.size w wr) (fun _ i _ => P - (intOf i).toNat)
  case atStart => exact ⟨1, b, Nat.le_refl _, hp0, rfl, Lib.hid (by rw [H1.out]; exact HB.out), HT, Below.refl _ _⟩
  case round =>
    obtain ⟨j, xs, hj1, hjP, rfl, hxs, hS, hbw⟩ := hrel
    obtain ⟨ad2, b2, o2, c2, rfl, -, -, -, -⟩ := hS.out.open elemStr
    by_cases hjp : j = P
    · have HA : Hid ((mulN ns us j).all (· == 0) = true) := Lib.hid (by rw [HZ.out, hjp]; simp)
      have HJ := Lib.hid hjp
      clear hjp
      go_wp2_with (go_at_call 36; (with_reducible refine (Zero_any _ _ xs (mulN ns us j) hS.out hxs.out).mono ?_); rintro e w1 ⟨v, rfl, rfl, rfl⟩; rw [HA.out])
      go_ret
      exact ⟨_, rfl, by rw [← HJ.out]; rfl, hbw⟩
    · have HA : Hid ((mulN ns us j).all (· == 0) = false) := Lib.hid (by
        rw [HZ.out, decide_eq_false_iff_not]
        intro hdv
        have := Nat.le_of_dvd (by omega) hdv
        omega)
      have hjlt : j < P := by omega
      clear hjp
      go_wp2_with (first
        | (go_at_call 36; (with_reducible refine (Zero_any _ _ xs (mulN ns us j) hS.out hxs.out).mono ?_); rintro e w1 ⟨v, rfl, rfl, rfl⟩; rw [HA.out])
        | (go_at_call 96; (with_reducible refine (Plus05_any _ _ _ _ g xs b ns us j (HV.out.below hbw (Nat.le_refl _)) hS.out (HT.out.below hbw (Nat.le_refl _)) HG.out hxs.out HB.out HL.out hl16 H2.out HD.out HLT.out).mono ?_); rintro e w2 ⟨v2, rfl, hs2, hb2⟩; have HS2 := Lib.hid hs2; clear hs2))
      go_roundw
      case rel => exact ⟨j + 1, _, by omega, by omega, by go_num, Lib.hid rfl, HS2, hbw.trans (hb2.mono hbw.size)⟩
      case measure => simp [intOf]; omega

set_option maxHeartbeats 1000000 in
theorem rOrderOf_ok (w : World) (v u : Value) (g a : List ByteArray) (zs : List Int) (ns ys : List Nat) (L K : Nat) (hv : Sl eS w v g) (hu : Sl eS w u a) (hz : Goods g zs) (hg : gchk g = 0) (hm : mchk g a = 0) (hP : Pos g ns L K) (ha : a = ys.map tx) (hlt : ∀ i (h : i < ns.length) (h' : i < ys.length), ys[i] < ns[i])
    (hl : g.length ≤ 16) (hla : a.length = g.length) (hsz : ∀ s ∈ g, s.size ≤ 1000000) (hsz' : ∀ s ∈ a, s.size ≤ 1000000) (hL : L ≤ 100000) :
    Calls Tryz.prog 18 #[v, u] w (Rets fun r w' => r = .tuple #[.string (tx (lcms (quos ns ys))), .int .i64 0] ∧ Below w.heap.size w w') := by
  have HU := Lib.hid hu; have HV := Lib.hid hv
  have hyl : ys.length = ns.length := by rw [hP.len, ← hla, ha, List.length_map]
  have hqd : ∀ q ∈ quos ns ys, q ∣ L := fun q hq => by
    obtain ⟨i, hi, rfl⟩ := List.getElem_of_mem hq
    have hkn : i < ns.length := by simp [quos] at hi; omega
    simp only [quos, List.getElem_zipWith]
    exact Nat.dvd_trans (Nat.div_dvd_of_dvd (Nat.gcd_dvd_left _ _)) (hP.dvd _ (List.getElem_mem hkn))
  have hPL : lcms (quos ns ys) ≤ 100000 := Nat.le_trans (Nat.le_of_dvd hP.pos ((lcms_dvd _ _).2 hqd)) hL
  have hdn : ∀ n ∈ ns, dn (n : Int) ≤ 1000 := fun n hn => Nat.le_trans (dn_le (by have := Nat.le_of_dvd hP.pos (hP.dvd n hn); omega)) (Nat.le_trans hP.dn (by have := hP.K; omega))
  obtain ⟨ad, b, o, c, rfl, -, -, -, -⟩ := hv.open elemStr
  obtain ⟨ad', b', o', c', rfl, -, -, -, -⟩ := hu.open elemStr
  have HZ := Lib.hid hz; have HG := Lib.hid hg; have HM := Lib.hid hm; have HP := Lib.hid hP; have HSZ := Lib.hid hsz; have HSZ' := Lib.hid hsz'; have HLT := Lib.hid hlt; have HA := Lib.hid ha
  have HYL := Lib.hid hyl; have HPL := Lib.hid hPL; have HDN := Lib.hid hdn
  have HN16 := Lib.hid (show ns.length ≤ 16 by rw [hP.len]; exact hl)
  clear hv hu hz hg hm hP hsz hsz' hlt ha hla hyl hPL hdn hqd hL
  go_enter Tryz.func18, Tryz.ntmps18
  go_wp2_with (first
    | (go_at_call 13; (with_reducible refine (rACheck_any _ _ g HV.out (fun _ => HSZ.out)).mono ?_); rintro e w1 ⟨v, rfl, rfl, hb1⟩; rw [HG.out])
    | (go_at_call 68; (with_reducible refine (In_any _ _ _ g a zs (HV.out.below hb1 (Nat.le_refl _)) (HU.out.below hb1 (Nat.le_refl _)) HZ.out hl (fun _ => HSZ'.out)).mono ?_); rintro e w2 ⟨v, rfl, rfl, hb2⟩; rw [HM.out]; have b2 := hb1.trans (hb2.mono hb1.size))
    | (go_at_call 69; (with_reducible refine (Period_any _ _ _ g a ns ys (HV.out.below b2 (Nat.le_refl _)) (HU.out.below b2 (Nat.le_refl _)) HP.out.eq HA.out HYL.out HN16.out HP.out.two HDN.out HLT.out HPL.out).mono ?_); rintro e w3 ⟨v, rfl, rfl, hb3⟩; have b3 := b2.trans (hb3.mono b2.size))
    | (go_at_call 47; (with_reducible refine (rOf_any _ _ (by omega) (by have := HPL.out; omega)).mono ?_); rintro e w4 ⟨v, rfl, rfl, hb4⟩; have b4 := b3.trans (hb4.mono b3.size)))
  go_ret2
  exact ⟨_, rfl, rfl, b4⟩
end Go.Proofs.YtdpdkojeapaflaaGreatDoor

namespace Go.Proofs.YtdpdkojeapaflaaGreatDoor
open Go.RowKit
set_option maxRecDepth 100000

/-- Is a text short, or at fault and not too long? -/
def few (s : ByteArray) : Bool := decide (s.size ≤ 60) || (decide (s.size ≤ 2048) && (chk s.data.toList == 3))
theorem few_size {s : ByteArray} (h : few s = true) : s.size ≤ 2048 := by
  simp [few] at h; omega

set_option maxHeartbeats 400000 in
theorem Few_any (w : World) (s : ByteArray) (hs : s.size ≤ 9223372036854775807) :
    Calls Tryz.prog 58 #[.string s] w (Rets fun v w' => v = .bool (few s) ∧ w = w') := by
  by_cases h1 : s.size ≤ 60
  · have HF := Lib.hid (show few s = true by simp [few, h1])
    go_enter Tryz.func58, Tryz.ntmps58
    go_wp2
    go_ret
    exact ⟨_, rfl, by rw [HF.out]; rfl, rfl⟩
  · have hd1 : decide ((s.size : Int) ≤ 60) = false := by simp; omega
    by_cases h2 : s.size ≤ 2048
    · obtain ⟨b, hb⟩ : ∃ b, (chk s.data.toList == 3) = b := ⟨_, rfl⟩
      have HF := Lib.hid (show few s = b by simp [few, h1, h2, ← hb])
      have HB := Lib.hid hb
      go_enter Tryz.func58, Tryz.ntmps58
      go_wp2_with (go_at_call 30; (with_reducible refine (rCheck_any _ s (by omega)).mono ?_); rintro e w1 ⟨v, rfl, rfl, rfl⟩)
      go_ret
      exact ⟨_, rfl, by rw [HF.out]; rfl, rfl⟩
    · have HF := Lib.hid (show few s = false by simp [few, h1, h2])
      go_enter Tryz.func58, Tryz.ntmps58
      go_wp2
      go_ret
      exact ⟨_, rfl, by rw [HF.out]; rfl, rfl⟩

end Go.Proofs.YtdpdkojeapaflaaGreatDoor

namespace Go.Proofs.YtdpdkojeapaflaaGreatDoor
open Go.RowKit
set_option maxRecDepth 100000

set_option maxHeartbeats 400000 in
theorem few11 (w : World) (s : ByteArray) (hs : s.size ≤ 9223372036854775807) :
    Calls Tryz.prog 57 #[.string s] w (Rets fun v w' => v = .bool (!few s) ∧ w = w') := by
  go_enter Tryz.func57, Tryz.ntmps57
  go_wp2_with (go_at_call 58; (with_reducible refine (Few_any _ s hs).mono ?_); rintro e w1 ⟨v, rfl, rfl, rfl⟩)
  go_ret
  exact ⟨_, rfl, rfl, rfl⟩
/-- Is it the text of 1? -/
def isOne (s : ByteArray) : Bool := s.toList == [49]
set_option maxHeartbeats 400000 in
theorem of1 (w : World) (s : ByteArray) :
    Calls Tryz.prog 74 #[.string s] w (Rets fun v w' => v = .bool (isOne s) ∧ w = w') := by
  unfold isOne
  go_enter Tryz.func74, Tryz.ntmps74
  go_wp2
  go_ret
  exact ⟨_, rfl, rfl, rfl⟩
set_option maxHeartbeats 1000000 in
theorem idx_few_none (w : World) (v : Value) (xs : List ByteArray) (hv : Sl eS w v xs) (hsz : ∀ s ∈ xs, s.size ≤ 9223372036854775807) (h : ∀ s ∈ xs, (!few s) = false) :
    Calls Tryz.prog 112 #[v, .func (.func 57) #[] #[]] w (Rets fun v w' => v = .int .i64 (-1) ∧ w = w') := by
  obtain ⟨a, b, o, c, rfl, hi, hp, hc, hm⟩ := hv.open elemStr
  have H := Lib.hid h
  clear hv h
  unfold maxLen at hm
  go_enter Tryz.func112, Tryz.ntmps112
  go_wp2
  go_loop [8] (fun i => ∃ k : Nat, k ≤ xs.length ∧ i = .int .i64 k) (fun i => xs.length - (intOf i).toNat)
  case atStart => exact ⟨0, Nat.zero_le _, rfl⟩
  case round =>
    obtain ⟨k, hk, rfl⟩ := hrel
    by_cases hkn : k < xs.length
    · have h1 : w.cell? ⟨b, o + k, none⟩ = some (.string xs[k]) := hp.2 k hkn
      have HB := Lib.hid (H.out _ (List.getElem_mem hkn))
      go_wp2_with (go_at_call 57; (with_reducible refine (few11 _ xs[k] (hsz _ (List.getElem_mem hkn))).mono ?_); rintro e w1 ⟨v, rfl, rfl, rfl⟩; rw [HB.out])
      go_round
      case rel => exact ⟨k + 1, by omega, by go_num⟩
      case measure => simp [intOf]; omega
    · obtain rfl : k = xs.length := by omega
      go_wp2
      go_ret
      exact ⟨_, rfl, rfl, rfl⟩
set_option maxHeartbeats 1000000 in
theorem idx_few_some (w : World) (v : Value) (xs : List ByteArray) (hv : Sl eS w v xs) (hsz : ∀ s ∈ xs, s.size ≤ 9223372036854775807) (m : Nat) (hm : m < xs.length) (h : (!few xs[m]) = true) (h2 : ∀ j (hj : j < m), (!few (xs[j]'(by omega))) = false) :
    Calls Tryz.prog 112 #[v, .func (.func 57) #[] #[]] w (Rets fun v w' => v = .int .i64 m ∧ w = w') := by
  obtain ⟨a, b, o, c, rfl, hi, hp, hc, hcm⟩ := hv.open elemStr
  have H := Lib.hid h; have H2 := Lib.hid h2
  clear hv h h2
  unfold maxLen at hcm
  go_enter Tryz.func112, Tryz.ntmps112
  go_wp2
  go_loop [8] (fun i => ∃ k : Nat, k ≤ m ∧ i = .int .i64 k) (fun i => xs.length - (intOf i).toNat)
  case atStart => exact ⟨0, Nat.zero_le _, rfl⟩
  case round =>
    obtain ⟨k, hk, rfl⟩ := hrel
    have hkn : k < xs.length := by omega
    have h1 : w.cell? ⟨b, o + k, none⟩ = some (.string xs[k]) := hp.2 k hkn
    by_cases hkm : k < m
    · have HB := Lib.hid (H2.out k hkm)
      go_wp2_with (go_at_call 57; (with_reducible refine (few11 _ xs[k] (hsz _ (List.getElem_mem hkn))).mono ?_); rintro e w1 ⟨v, rfl, rfl, rfl⟩; rw [HB.out])
      go_round
      case rel => exact ⟨k + 1, by omega, by go_num⟩
      case measure => simp [intOf]; omega
    · obtain rfl : k = m := by omega
      go_wp2_with (go_at_call 57; (with_reducible refine (few11 _ xs[k] (hsz _ (List.getElem_mem hkn))).mono ?_); rintro e w1 ⟨v, rfl, rfl, rfl⟩; rw [H.out])
      go_ret
      exact ⟨_, rfl, rfl, rfl⟩
set_option maxHeartbeats 1000000 in
theorem idx_one_none (w : World) (v : Value) (xs : List ByteArray) (hv : Sl eS w v xs) (h : ∀ s ∈ xs, (isOne s) = false) :
    Calls Tryz.prog 112 #[v, .func (.func 74) #[] #[]] w (Rets fun v w' => v = .int .i64 (-1) ∧ w = w') := by
  obtain ⟨a, b, o, c, rfl, hi, hp, hc, hm⟩ := hv.open elemStr
  have H := Lib.hid h
  clear hv h
  unfold maxLen at hm
  go_enter Tryz.func112, Tryz.ntmps112
  go_wp2
  go_loop [8] (fun i => ∃ k : Nat, k ≤ xs.length ∧ i = .int .i64 k) (fun i => xs.length - (intOf i).toNat)
  case atStart => exact ⟨0, Nat.zero_le _, rfl⟩
  case round =>
    obtain ⟨k, hk, rfl⟩ := hrel
    by_cases hkn : k < xs.length
    · have h1 : w.cell? ⟨b, o + k, none⟩ = some (.string xs[k]) := hp.2 k hkn
      have HB := Lib.hid (H.out _ (List.getElem_mem hkn))
      go_wp2_with (go_at_call 74; (with_reducible refine (of1 _ xs[k]).mono ?_); rintro e w1 ⟨v, rfl, rfl, rfl⟩; rw [HB.out])
      go_round
      case rel => exact ⟨k + 1, by omega, by go_num⟩
      case measure => simp [intOf]; omega
    · obtain rfl : k = xs.length := by omega
      go_wp2
      go_ret
      exact ⟨_, rfl, rfl, rfl⟩
set_option maxHeartbeats 1000000 in
theorem idx_one_some (w : World) (v : Value) (xs : List ByteArray) (hv : Sl eS w v xs) (m : Nat) (hm : m < xs.length) (h : (isOne xs[m]) = true) (h2 : ∀ j (hj : j < m), (isOne (xs[j]'(by omega))) = false) :
    Calls Tryz.prog 112 #[v, .func (.func 74) #[] #[]] w (Rets fun v w' => v = .int .i64 m ∧ w = w') := by
  obtain ⟨a, b, o, c, rfl, hi, hp, hc, hcm⟩ := hv.open elemStr
  have H := Lib.hid h; have H2 := Lib.hid h2
  clear hv h h2
  unfold maxLen at hcm
  go_enter Tryz.func112, Tryz.ntmps112
  go_wp2
  go_loop [8] (fun i => ∃ k : Nat, k ≤ m ∧ i = .int .i64 k) (fun i => xs.length - (intOf i).toNat)
  case atStart => exact ⟨0, Nat.zero_le _, rfl⟩
  case round =>
    obtain ⟨k, hk, rfl⟩ := hrel
    have hkn : k < xs.length := by omega
    have h1 : w.cell? ⟨b, o + k, none⟩ = some (.string xs[k]) := hp.2 k hkn
    by_cases hkm : k < m
    · have HB := Lib.hid (H2.out k hkm)
      go_wp2_with (go_at_call 74; (with_reducible refine (of1 _ xs[k]).mono ?_); rintro e w1 ⟨v, rfl, rfl, rfl⟩; rw [HB.out])
      go_round
      case rel => exact ⟨k + 1, by omega, by go_num⟩
      case measure => simp [intOf]; omega
    · obtain rfl : k = m := by omega
      go_wp2_with (go_at_call 74; (with_reducible refine (of1 _ xs[k]).mono ?_); rintro e w1 ⟨v, rfl, rfl, rfl⟩; rw [H.out])
      go_ret
      exact ⟨_, rfl, rfl, rfl⟩
theorem first_hit (p : ByteArray → Bool) : ∀ (xs : List ByteArray), xs.any p = true → ∃ m, ∃ h : m < xs.length, p xs[m] = true ∧ ∀ j (hj : j < m), p (xs[j]'(by omega)) = false
  | [], h => by simp at h
  | x :: l, h => by
    by_cases hx : p x = true
    · exact ⟨0, by simp, hx, fun j hj => absurd hj (by omega)⟩
    · obtain ⟨m, hm, h1, h2⟩ := first_hit p l (by simpa [hx] using h)
      refine ⟨m + 1, by simpa using hm, by simpa using h1, fun j hj => ?_⟩
      cases j with
      | zero => simpa using hx
      | succ j => simpa using h2 j (by omega)
set_option maxHeartbeats 400000 in
theorem contains_few (w : World) (v : Value) (xs : List ByteArray) (hv : Sl eS w v xs) (hsz : ∀ s ∈ xs, s.size ≤ 9223372036854775807) :
    Calls Tryz.prog 56 #[v, .func (.func 57) #[] #[]] w (Rets fun v w' => v = .bool (xs.any fun s => !few s) ∧ w = w') := by
  have HV := Lib.hid hv; have HSZ := Lib.hid hsz
  obtain ⟨a, b, o, c, rfl, -, -, -, -⟩ := hv.open elemStr
  clear hv hsz
  cases hf : xs.any fun s => !few s
  · have H : Hid (∀ s ∈ xs, (!few s) = false) := Lib.hid (fun s hs => by
      have := List.any_eq_false.1 hf s hs
      simpa using this)
    clear hf
    go_enter Tryz.func56, Tryz.ntmps56
    go_wp2_with (go_at_call 112; (with_reducible refine (idx_few_none _ _ xs HV.out HSZ.out H.out).mono ?_); rintro e w1 ⟨v, rfl, rfl, rfl⟩)
    go_ret
    exact ⟨_, rfl, rfl, rfl⟩
  · obtain ⟨m, hm, h1, h2⟩ := first_hit (fun s => !few s) xs hf
    have H1 := Lib.hid h1; have H2 := Lib.hid h2
    have hm0 : (0 : Int) ≤ (m : Int) := by omega
    clear hf h1 h2
    go_enter Tryz.func56, Tryz.ntmps56
    go_wp2_with (go_at_call 112; (with_reducible refine (idx_few_some _ _ xs HV.out HSZ.out m hm H1.out H2.out).mono ?_); rintro e w1 ⟨v, rfl, rfl, rfl⟩)
    go_ret
    exact ⟨_, rfl, rfl, rfl⟩

/-- Has a list more than 20 texts, or a long one? -/
def bad (xs : List ByteArray) : Bool := decide (20 < xs.length) || xs.any fun s => !few s
set_option maxHeartbeats 400000 in
theorem few1 (w : World) (v : Value) (xs : List ByteArray) (hv : Sl eS w v xs) (hsz : ∀ s ∈ xs, s.size ≤ 9223372036854775807) :
    Calls Tryz.prog 55 #[v] w (Rets fun v w' => v = .bool (bad xs) ∧ w = w') := by
  have HV := Lib.hid hv; have HSZ := Lib.hid hsz
  obtain ⟨a, b, o, c, rfl, -, -, -, hcm⟩ := hv.open elemStr
  have hlen := hv.len
  unfold maxLen at hcm hlen
  clear hv hsz
  by_cases h20 : 20 < xs.length
  · have HB := Lib.hid (show bad xs = true by simp [bad, h20])
    go_enter Tryz.func55, Tryz.ntmps55
    go_wp2
    go_ret
    exact ⟨_, rfl, by rw [HB.out]; rfl, rfl⟩
  · have HB := Lib.hid (show bad xs = (xs.any fun s => !few s) by simp [bad, h20])
    obtain ⟨q, hq⟩ : ∃ q, (xs.any fun s => !few s) = q := ⟨_, rfl⟩
    have HQ := Lib.hid hq
    clear hq
    go_enter Tryz.func55, Tryz.ntmps55
    go_wp2_with (go_at_call 56; (with_reducible refine (contains_few _ _ xs HV.out HSZ.out).mono ?_); rintro e w1 ⟨v, rfl, rfl, rfl⟩; rw [HQ.out])
    go_ret
    exact ⟨_, rfl, by rw [HB.out, HQ.out]; exact congrArg Value.bool (by rw [show decide (20 < (xs.length : Int)) = false by simp; omega]; rfl), rfl⟩

/-- Is a group's number short, or at fault? -/
def ok05 (s : ByteArray) : Bool := decide (s.size ≤ 30) || (decide (s.size < 2048) && (chk s.data.toList != 0))
def few05 (xs : List ByteArray) : Bool := (xs.take 20).all ok05 && (decide (xs.length ≤ 8) || (decide (16 < xs.length) && decide (xs.length < 1000)))
theorem few05_step (xs : List ByteArray) (k : Nat) (h : k < xs.length) (h20 : k < 20) (ho : ok05 xs[k] = true) : ((xs.take 20).drop k).all ok05 = ((xs.take 20).drop (k + 1)).all ok05 := by
  have hk : k < (xs.take 20).length := by simp; omega
  rw [List.drop_eq_getElem_cons hk, List.all_cons, List.getElem_take, ho, Bool.true_and]
theorem few05_bad (xs : List ByteArray) (k : Nat) (h : k < xs.length) (h20 : k < 20) (ho : ok05 xs[k] = false) : few05 xs = false := by
  have hk : k < (xs.take 20).length := by simp; omega
  have : (xs.take 20).all ok05 = false := by
    rw [List.all_eq_false]
    exact ⟨xs[k], by rw [← List.getElem_take (h := hk)]; exact List.getElem_mem hk, by simp [ho]⟩
  simp [few05, this]
set_option maxHeartbeats 2000000 in
theorem Few05_any (w : World) (v : Value) (xs : List ByteArray) (hv : Sl eS w v xs) (hsz : ∀ s ∈ xs, s.size ≤ 9223372036854775807) :
    Calls Tryz.prog 11 #[v] w (Rets fun v w' => v = .bool (few05 xs) ∧ w = w') := by
  obtain ⟨a, b, o, c, rfl, hi, hp, hc, hcm⟩ := hv.open elemStr
  have HSZ := Lib.hid hsz
  have hlen := hv.len
  unfold maxLen at hcm hlen
  clear hv hsz
  go_enter Tryz.func11, Tryz.ntmps11
  go_wp2
  go_loop [3] (fun i => ∃ k : Nat, k ≤ xs.length ∧ k ≤ 20 ∧ i = .int .i64 k ∧ Hid ((xs.take 20).all ok05 = ((xs.take 20).drop k).all ok05)) (fun i => xs.length - (intOf i).toNat)
  case atStart => exact ⟨0, Nat.zero_le _, by omega, rfl, Lib.hid rfl⟩
  case round =>
    obtain ⟨k, hk, hk20, rfl, hall⟩ := hrel
    by_cases hgo : k < xs.length ∧ k < 20
    · obtain ⟨hkn, hkt⟩ := hgo
      have h1 : w.cell? ⟨b, o + k, none⟩ = some (.string xs[k]) := hp.2 k hkn
      have hss := HSZ.out xs[k] (List.getElem_mem hkn)
      have HST := Lib.hid (few05_step xs k hkn hkt); have HBD := Lib.hid (few05_bad xs k hkn hkt)
      obtain ⟨s, hs⟩ : ∃ s, xs[k] = s := ⟨_, rfl⟩
      rw [hs] at h1 hss HST HBD
      clear hs
      by_cases h30 : s.size ≤ 30
      · have HN := Lib.hid (HST.out (by simp [ok05, h30]))
        go_wp2
        go_round
        case rel => exact ⟨k + 1, by omega, by omega, by go_num, Lib.hid (by rw [hall.out, HN.out])⟩
        case measure => simp [intOf]; omega
      · by_cases h48 : s.size < 2048
        · by_cases hc0 : chk s.data.toList = 0
          · have HB := Lib.hid (HBD.out (by simp [ok05, h30, hc0]))
            have HC := Lib.hid hc0
            clear hc0
            go_wp2_with (go_at_call 30; (with_reducible refine (rCheck_any _ s (by omega)).mono ?_); rintro e w1 ⟨v, rfl, rfl, rfl⟩; rw [HC.out])
            go_ret
            exact ⟨_, rfl, by rw [HB.out]; rfl, rfl⟩
          · have HN := Lib.hid (HST.out (by simp [ok05, h48, hc0]))
            have hne : (chk s.data.toList != 0) = true := by simp [hc0]
            clear hc0
            go_wp2_with (go_at_call 30; (with_reducible refine (rCheck_any _ s (by omega)).mono ?_); rintro e w1 ⟨v, rfl, rfl, rfl⟩)
            go_round
            case rel => exact ⟨k + 1, by omega, by omega, by go_num, Lib.hid (by rw [hall.out, HN.out])⟩
            case measure => simp [intOf]; omega
        · have HB := Lib.hid (HBD.out (by simp [ok05, h30, h48]))
          go_wp2
          go_ret
          exact ⟨_, rfl, by rw [HB.out]; rfl, rfl⟩
    · have HE : Hid ((xs.take 20).all ok05 = true) := Lib.hid (by rw [hall.out, List.drop_of_length_le (by simp; omega)]; rfl)
      by_cases h8 : xs.length ≤ 8
      · have HF := Lib.hid (show few05 xs = true by simp only [few05, HE.out]; simp [h8])
        have hke : ¬ (k : Int) < (xs.length : Int) := by omega
        go_wp2
        go_ret
        exact ⟨_, rfl, by rw [HF.out]; rfl, rfl⟩
      · by_cases h16 : 16 < xs.length
        · rcases (show (k = xs.length ∧ xs.length < 1000) ∨ (k < xs.length ∧ k = 20 ∧ xs.length < 1000) ∨ (k < xs.length ∧ k = 20 ∧ ¬ xs.length < 1000) by omega) with ⟨hke, hq⟩ | ⟨hke, hke2, hq⟩ | ⟨hke, hke2, hq⟩
          · have HF := Lib.hid (show few05 xs = true by simp only [few05, HE.out]; simp [h16, hq])
            clear hgo
            go_wp2
            go_ret
            exact ⟨_, rfl, by rw [HF.out]; first | rfl | exact congrArg Value.bool (by simp; omega), rfl⟩
          · have HF := Lib.hid (show few05 xs = true by simp only [few05, HE.out]; simp [h16, hq])
            clear hgo
            go_wp2
            go_ret
            exact ⟨_, rfl, by rw [HF.out]; first | rfl | exact congrArg Value.bool (by simp; omega), rfl⟩
          · have HF := Lib.hid (show few05 xs = false by simp only [few05, HE.out]; simp [h8, hq])
            clear hgo
            go_wp2
            go_ret
            exact ⟨_, rfl, by rw [HF.out]; first | rfl | exact congrArg Value.bool (by simp; omega), rfl⟩
        · have HF := Lib.hid (show few05 xs = false by simp only [few05, HE.out]; simp [h8, h16])
          have hke : ¬ (k : Int) < (xs.length : Int) := by omega
          go_wp2
          go_ret
          exact ⟨_, rfl, by rw [HF.out]; first | rfl | exact congrArg Value.bool (by simp; omega), rfl⟩
end Go.Proofs.YtdpdkojeapaflaaGreatDoor

namespace Go.Proofs.YtdpdkojeapaflaaGreatDoor
open Go.RowKit
set_option maxRecDepth 100000

theorem elemSl : ElemOk Tryz.prog 61 22 (.slice none 0 0) 1 24 :=
  ⟨Tryz.underlying61, info_parts (by kernel_rfl : (Tryz.prog.info? 22).map (fun i => (i.zero, i.size, i.bytes)) = some (some (.slice none 0 0), 1, 24)), rfl, by decide, by kernel_rfl, fun _ => by kernel_rfl⟩
/-- The slice of slices v reads as the list of lists xss. -/
structure Lst (w : World) (v : Value) (vs : List Value) (xss : List (List ByteArray)) : Prop where
  sl : Sl id w v vs
  len : xss.length = vs.length
  get : ∀ i (h : i < vs.length) (h' : i < xss.length), Sl eS w vs[i] xss[i]
theorem Lst.below {w w' : World} {v : Value} {vs : List Value} {xss : List (List ByteArray)} {B : Nat} (h : Lst w v vs xss) (hb : Below B w w') (hB : w.heap.size ≤ B) : Lst w' v vs xss :=
  ⟨h.sl.below hb hB, h.len, fun i h1 h2 => (h.get i h1 h2).below hb hB⟩
set_option maxHeartbeats 1000000 in
theorem idxL_few_none (w : World) (v : Value) (vs : List Value) (xss : List (List ByteArray)) (hv : Lst w v vs xss) (hsz : ∀ xs ∈ xss, ∀ s ∈ xs, s.size ≤ 9223372036854775807) (h : ∀ xs ∈ xss, bad xs = false) :
    Calls Tryz.prog 111 #[v, .func (.func 55) #[] #[]] w (Rets fun v w' => v = .int .i64 (-1) ∧ w = w') := by
  obtain ⟨a, b, o, c, rfl, hi, hp, hc, hm⟩ := hv.sl.open elemSl
  have H := Lib.hid h; have HG := Lib.hid hv.get; have HL := Lib.hid hv.len; have HSZ := Lib.hid hsz
  clear hv h hsz
  unfold maxLen at hm
  go_enter Tryz.func111, Tryz.ntmps111
  go_wp2
  go_loop [8] (fun i => ∃ k : Nat, k ≤ vs.length ∧ i = .int .i64 k) (fun i => vs.length - (intOf i).toNat)
  case atStart => exact ⟨0, Nat.zero_le _, rfl⟩
  case round =>
    obtain ⟨k, hk, rfl⟩ := hrel
    by_cases hkn : k < vs.length
    · have h1 : w.cell? ⟨b, o + k, none⟩ = some vs[k] := hp.2 k hkn
      have HKX := Lib.hid (show k < xss.length by rw [HL.out]; exact hkn)
      have HB := Lib.hid (H.out _ (List.getElem_mem HKX.out))
      go_wp2_with (go_at_call 55; (with_reducible refine (few1 _ vs[k] (xss[k]'HKX.out) (HG.out k hkn HKX.out) (HSZ.out _ (List.getElem_mem HKX.out))).mono ?_); rintro e w1 ⟨v, rfl, rfl, rfl⟩; rw [HB.out])
      go_round
      case rel => exact ⟨k + 1, by omega, by go_num⟩
      case measure => simp [intOf]; omega
    · obtain rfl : k = vs.length := by omega
      go_wp2
      go_ret
      exact ⟨_, rfl, rfl, rfl⟩
set_option maxHeartbeats 1000000 in
theorem idxL_few_some (w : World) (v : Value) (vs : List Value) (xss : List (List ByteArray)) (hv : Lst w v vs xss) (hsz : ∀ xs ∈ xss, ∀ s ∈ xs, s.size ≤ 9223372036854775807) (m : Nat) (hm : m < xss.length) (h : bad xss[m] = true) (h2 : ∀ j (hj : j < m), bad (xss[j]'(by omega)) = false) :
    Calls Tryz.prog 111 #[v, .func (.func 55) #[] #[]] w (Rets fun v w' => v = .int .i64 m ∧ w = w') := by
  obtain ⟨a, b, o, c, rfl, hi, hp, hc, hcm⟩ := hv.sl.open elemSl
  have H := Lib.hid h; have H2 := Lib.hid h2; have HG := Lib.hid hv.get; have HL := Lib.hid hv.len; have HSZ := Lib.hid hsz
  have hmv : m < vs.length := by rw [← hv.len]; exact hm
  clear hv h h2 hsz
  unfold maxLen at hcm
  go_enter Tryz.func111, Tryz.ntmps111
  go_wp2
  go_loop [8] (fun i => ∃ k : Nat, k ≤ m ∧ i = .int .i64 k) (fun i => vs.length - (intOf i).toNat)
  case atStart => exact ⟨0, Nat.zero_le _, rfl⟩
  case round =>
    obtain ⟨k, hk, rfl⟩ := hrel
    have hkn : k < vs.length := by omega
    have h1 : w.cell? ⟨b, o + k, none⟩ = some vs[k] := hp.2 k hkn
    have HKX := Lib.hid (show k < xss.length by rw [HL.out]; exact hkn)
    by_cases hkm : k < m
    · have HB := Lib.hid (H2.out k hkm)
      go_wp2_with (go_at_call 55; (with_reducible refine (few1 _ vs[k] (xss[k]'HKX.out) (HG.out k hkn HKX.out) (HSZ.out _ (List.getElem_mem HKX.out))).mono ?_); rintro e w1 ⟨v, rfl, rfl, rfl⟩; rw [HB.out])
      go_round
      case rel => exact ⟨k + 1, by omega, by go_num⟩
      case measure => simp [intOf]; omega
    · obtain rfl : k = m := by omega
      go_wp2_with (go_at_call 55; (with_reducible refine (few1 _ vs[k] (xss[k]'HKX.out) (HG.out k hkn HKX.out) (HSZ.out _ (List.getElem_mem HKX.out))).mono ?_); rintro e w1 ⟨v, rfl, rfl, rfl⟩; rw [H.out])
      go_ret
      exact ⟨_, rfl, rfl, rfl⟩
theorem first_hitL (p : List ByteArray → Bool) : ∀ (xs : List (List ByteArray)), xs.any p = true → ∃ m, ∃ h : m < xs.length, p xs[m] = true ∧ ∀ j (hj : j < m), p (xs[j]'(by omega)) = false
  | [], h => by simp at h
  | x :: l, h => by
    by_cases hx : p x = true
    · exact ⟨0, by simp, hx, fun j hj => absurd hj (by omega)⟩
    · obtain ⟨m, hm, h1, h2⟩ := first_hitL p l (by simpa [hx] using h)
      refine ⟨m + 1, by simpa using hm, by simpa using h1, fun j hj => ?_⟩
      cases j with
      | zero => simpa using hx
      | succ j => simpa using h2 j (by omega)
set_option maxHeartbeats 400000 in
theorem containsL_few (w : World) (v : Value) (vs : List Value) (xss : List (List ByteArray)) (hv : Lst w v vs xss) (hsz : ∀ xs ∈ xss, ∀ s ∈ xs, s.size ≤ 9223372036854775807) :
    Calls Tryz.prog 54 #[v, .func (.func 55) #[] #[]] w (Rets fun v w' => v = .bool (xss.any bad) ∧ w = w') := by
  have HV := Lib.hid hv; have HSZ := Lib.hid hsz
  obtain ⟨a, b, o, c, rfl, -, -, -, -⟩ := hv.sl.open elemSl
  clear hv hsz
  cases hf : xss.any bad
  · have H : Hid (∀ xs ∈ xss, bad xs = false) := Lib.hid (fun s hs => by
      have := List.any_eq_false.1 hf s hs
      simpa using this)
    clear hf
    go_enter Tryz.func54, Tryz.ntmps54
    go_wp2_with (go_at_call 111; (with_reducible refine (idxL_few_none _ _ vs xss HV.out HSZ.out H.out).mono ?_); rintro e w1 ⟨v, rfl, rfl, rfl⟩)
    go_ret
    exact ⟨_, rfl, rfl, rfl⟩
  · obtain ⟨m, hm, h1, h2⟩ := first_hitL bad xss hf
    have H1 := Lib.hid h1; have H2 := Lib.hid h2
    have hm0 : (0 : Int) ≤ (m : Int) := by omega
    clear hf h1 h2
    go_enter Tryz.func54, Tryz.ntmps54
    go_wp2_with (go_at_call 111; (with_reducible refine (idxL_few_some _ _ vs xss HV.out HSZ.out m hm H1.out H2.out).mono ?_); rintro e w1 ⟨v, rfl, rfl, rfl⟩)
    go_ret
    exact ⟨_, rfl, rfl, rfl⟩
set_option maxHeartbeats 400000 in
theorem fewL (w : World) (v : Value) (vs : List Value) (xss : List (List ByteArray)) (hv : Lst w v vs xss) (hsz : ∀ xs ∈ xss, ∀ s ∈ xs, s.size ≤ 9223372036854775807) :
    Calls Tryz.prog 12 #[v] w (Rets fun v w' => v = .bool (!xss.any bad) ∧ w = w') := by
  have HV := Lib.hid hv; have HSZ := Lib.hid hsz
  obtain ⟨q, hq⟩ : ∃ q, xss.any bad = q := ⟨_, rfl⟩
  have HQ := Lib.hid hq
  obtain ⟨a, b, o, c, rfl, -, -, -, -⟩ := hv.sl.open elemSl
  clear hv hsz hq
  go_enter Tryz.func12, Tryz.ntmps12
  go_wp2_with (go_at_call 54; (with_reducible refine (containsL_few _ _ vs xss HV.out HSZ.out).mono ?_); rintro e w1 ⟨v, rfl, rfl, rfl⟩; rw [HQ.out])
  go_ret
  exact ⟨_, rfl, by rw [HQ.out]; rfl, rfl⟩
theorem Lst.one (w : World) (v : Value) (xs : List ByteArray) (hv : Sl eS w v xs) (e : TypeId) : Lst (w.alloc (.cells #[v] e)) (.slice (some ⟨w.heap.size, 0, none⟩) 1 1) [v] [xs] :=
  ⟨Sl.single w v v rfl e, rfl, fun i h1 h2 => by
    have hb : Below w.heap.size w (w.alloc (.cells #[v] e)) := (Below.refl _ w).alloc (Nat.le_refl _) _
    have : i = 0 := by simp at h1; omega
    subst this
    exact hv.below hb (Nat.le_refl _)⟩

/-- The last number of a group, or 1. -/
def rlast (g : List ByteArray) : ByteArray := g.getLast?.getD ⟨#[49]⟩
theorem rlast_eq (g : List ByteArray) (h : 0 < g.length) : rlast g = g[g.length - 1]'(by omega) := by
  unfold rlast
  rw [List.getLast?_eq_getElem?, List.getElem?_eq_getElem (by omega)]
  rfl
set_option maxHeartbeats 400000 in
theorem Last_any (w : World) (v : Value) (g : List ByteArray) (hv : Sl eS w v g) :
    Calls Tryz.prog 15 #[v] w (Rets fun r w' => r = .string (rlast g) ∧ w = w') := by
  obtain ⟨ad, b, o, c, rfl, hi, hp, hc, hm⟩ := hv.open elemStr
  by_cases h0 : g = []
  · subst h0
    show Calls Tryz.prog 15 #[.slice ad 0 c] w _
    clear hp hi hv
    go_enter Tryz.func15, Tryz.ntmps15
    go_wp2
    go_ret
    exact ⟨_, rfl, rfl, rfl⟩
  · have h1 : 0 < g.length := List.length_pos_iff.2 h0
    have hne : ((g.length : Int) == 0) = false := by simp; omega
    have hlen := hv.len
    unfold maxLen at hm hlen
    obtain ⟨k, hk⟩ : ∃ k, g.length = k + 1 := ⟨g.length - 1, by omega⟩
    have hkl : k < g.length := by omega
    have HLO := Lib.hid (show rlast g = g[k] by rw [rlast_eq g h1]; congr 1; omega)
    have hcell : w.cell? ⟨b, o + k, none⟩ = some (.string g[k]) := hp.2 k hkl
    have e1 : (g.length : Int) - 1 = (k : Int) := by omega
    have e2 : ((g.length : Int) - 1).toNat = k := by omega
    have q1 : (0 : Int) ≤ (k : Int) := by omega
    have q2 : (k : Int) < (g.length : Int) := by omega
    clear h0 hp hk hv hlen
    go_enter Tryz.func15, Tryz.ntmps15
    go_wp2
    go_ret
    exact ⟨_, rfl, by rw [HLO.out]; rfl, rfl⟩

set_option maxHeartbeats 1000000 in
theorem rOrderOf_err1 (w : World) (v u : Value) (g a : List ByteArray) (hv : Sl eS w v g) (hu : Sl eS w u a) (hg : gchk g ≠ 0) (hsz : g.length ≤ 16 → ∀ s ∈ g, s.size ≤ 1000000) :
    Calls Tryz.prog 18 #[v, u] w (Rets fun r w' => r = .tuple #[.string ⟨#[]⟩, .int .i64 (gchk g)] ∧ Below w.heap.size w w') := by
  have HV := Lib.hid hv; have HSZ := Lib.hid hsz
  have hne : (gchk g != 0) = true := by simp [hg]
  obtain ⟨ad, b, o, c, rfl, -, -, -, -⟩ := hv.open elemStr
  obtain ⟨ad', b', o', c', rfl, -, -, -, -⟩ := hu.open elemStr
  clear hv hu hsz hg
  go_enter Tryz.func18, Tryz.ntmps18
  go_wp2_with (go_at_call 13; (with_reducible refine (rACheck_any _ _ g HV.out HSZ.out).mono ?_); rintro e w1 ⟨v, rfl, rfl, hb1⟩)
  go_ret2
  exact ⟨_, rfl, rfl, hb1⟩
set_option maxHeartbeats 1000000 in
theorem rOrderOf_err2 (w : World) (v u : Value) (g a : List ByteArray) (zs : List Int) (hv : Sl eS w v g) (hu : Sl eS w u a) (hz : Goods g zs) (hg : gchk g = 0) (hm : mchk g a ≠ 0) (hl : g.length ≤ 16) (hsz : ∀ s ∈ g, s.size ≤ 1000000) (hsz' : a.length = g.length → ∀ s ∈ a, s.size ≤ 1000000) :
    Calls Tryz.prog 18 #[v, u] w (Rets fun r w' => r = .tuple #[.string ⟨#[]⟩, .int .i64 (mchk g a)] ∧ Below w.heap.size w w') := by
  have HV := Lib.hid hv; have HU := Lib.hid hu; have HSZ := Lib.hid hsz; have HSZ' := Lib.hid hsz'; have HG := Lib.hid hg; have HZ := Lib.hid hz
  have hne : (mchk g a != 0) = true := by simp [hm]
  obtain ⟨ad, b, o, c, rfl, -, -, -, -⟩ := hv.open elemStr
  obtain ⟨ad', b', o', c', rfl, -, -, -, -⟩ := hu.open elemStr
  clear hv hu hsz hg hm hz hsz'
  go_enter Tryz.func18, Tryz.ntmps18
  go_wp2_with (first
    | (go_at_call 13; (with_reducible refine (rACheck_any _ _ g HV.out (fun _ => HSZ.out)).mono ?_); rintro e w1 ⟨v, rfl, rfl, hb1⟩; rw [HG.out])
    | (go_at_call 68; (with_reducible refine (In_any _ _ _ g a zs (HV.out.below hb1 (Nat.le_refl _)) (HU.out.below hb1 (Nat.le_refl _)) HZ.out hl HSZ'.out).mono ?_); rintro e w2 ⟨v, rfl, rfl, hb2⟩; have b2 := hb1.trans (hb2.mono hb1.size)))
  go_ret2
  exact ⟨_, rfl, rfl, b2⟩
end Go.Proofs.YtdpdkojeapaflaaGreatDoor

namespace Go.Proofs.YtdpdkojeapaflaaGreatDoor
open Go.RowKit
set_option maxRecDepth 100000

theorem goods_tx : ∀ (xs : List ByteArray) (zs : List Int), Goods xs zs → (∀ z ∈ zs, 0 ≤ z) → xs = (zs.map Int.toNat).map tx
  | [], [], _, _ => rfl
  | s :: l, z :: zs, h, h0 => by
    have h1 := h0 z (by simp)
    rw [List.map_cons, List.map_cons, ← goods_tx l zs h.2 (fun u hu => h0 u (by simp [hu]))]
    congr 1
    rw [h.1.eq, tx, Int.toNat_of_nonneg h1]
  | [], _ :: _, h, _ => h.elim
  | _ :: _, [], h, _ => h.elim
theorem goods_num : ∀ (xs : List ByteArray) (zs : List Int), Goods xs zs → zs = xs.map num
  | [], [], _ => rfl
  | s :: l, z :: zs, h => by rw [List.map_cons, ← goods_num l zs h.2, h.1.num]
  | [], _ :: _, h => h.elim
  | _ :: _, [], h => h.elim
theorem fits_dvd {q s : ByteArray} (h : fits (some q) s = true) : num q ∣ num s := by
  have : Int.fmod (num s) (num q) = 0 := by simpa [fits] using h
  exact Int.dvd_of_fmod_eq_zero this
/-- In a right group each number divides what comes behind it, and so the last one. -/
theorem gstep_chain : ∀ (xs : List ByteArray) (p : Option ByteArray), gstep p xs = 0 →
    (∀ q, p = some q → ∀ t ∈ xs, num q ∣ num t) ∧ (∀ d, ∀ t ∈ xs, num t ∣ num (xs.getLast?.getD d))
  | [], _, _ => ⟨fun _ _ _ h => by simp at h, fun _ _ h => by simp at h⟩
  | s :: l, p, h => by
    rw [gstep] at h
    by_cases h1 : chk s.data.toList = 0
    · rw [if_pos h1] at h
      by_cases h2 : num s < 2
      · rw [if_pos h2] at h; exact absurd h (by decide)
      · rw [if_neg h2] at h
        by_cases h3 : fits p s
        · rw [if_pos h3] at h
          obtain ⟨i1, i2⟩ := gstep_chain l (some s) h
          refine ⟨fun q hq t ht => ?_, fun d t ht => ?_⟩
          · subst hq
            have hqs := fits_dvd h3
            rcases List.mem_cons.1 ht with rfl | ht
            · exact hqs
            · exact Int.dvd_trans hqs (i1 s rfl t ht)
          · cases l with
            | nil =>
              have : t = s := by simpa using ht
              subst this; simp
            | cons u m =>
              have e : (s :: u :: m).getLast?.getD d = (u :: m).getLast?.getD d := by simp
              rw [e]
              rcases List.mem_cons.1 ht with rfl | ht
              · have hm : (u :: m).getLast?.getD d ∈ u :: m := by
                  rw [List.getLast?_eq_some_getLast (by simp)]; exact List.getLast_mem _
                exact i1 t rfl _ hm
              · exact i2 d t ht
        · rw [if_neg h3] at h; exact absurd h (by decide)
    · rw [if_neg h1] at h; exact absurd h h1
theorem gchk_len {xs : List ByteArray} (h : gchk xs = 0) : xs.length ≤ 16 ∧ gstep none xs = 0 := by
  unfold gchk at h
  by_cases h16 : 16 < xs.length
  · rw [if_pos h16] at h; exact absurd h (by decide)
  · rw [if_neg h16] at h; exact ⟨by omega, h⟩
theorem good_one : Good ⟨#[49]⟩ 1 := g1
theorem rlast_good {g : List ByteArray} {zs : List Int} (h : Grp g zs) : ∃ z, Good (rlast g) z ∧ 1 ≤ z := by
  by_cases h0 : g = []
  · subst h0; exact ⟨1, g1, by omega⟩
  · have h1 : 0 < g.length := List.length_pos_iff.2 h0
    rw [rlast_eq g h1]
    have hl := h.good.len
    have hk : g.length - 1 < zs.length := by omega
    refine ⟨zs[g.length - 1], h.good.get _ _ hk, ?_⟩
    have := h.two _ (List.getElem_mem hk)
    omega
/-- A right group, in natural numbers: its last number has at most K digits. -/
theorem pos_of {g : List ByteArray} {zs : List Int} {K : Nat} (h : Grp g zs) (hg : gchk g = 0) (hK : dn (num (rlast g)) ≤ K) (hK2 : 4 * K + 1 ≤ 1000) : Pos g (zs.map Int.toNat) (num (rlast g)).toNat K := by
  obtain ⟨z, hz, hz1⟩ := rlast_good h
  have hn := hz.num
  refine ⟨goods_tx g zs h.good fun z hz => by have := h.two z hz; omega, fun n hn => ?_, fun n hn' => ?_, by omega, by rw [Int.toNat_of_nonneg (by omega)]; exact hK, hK2⟩
  · obtain ⟨u, hu, rfl⟩ := List.mem_map.1 hn
    have := h.two u hu
    omega
  · obtain ⟨u, hu, rfl⟩ := List.mem_map.1 hn'
    have h2 := h.two u hu
    rw [goods_num g zs h.good] at hu
    obtain ⟨t, ht, rfl⟩ := List.mem_map.1 hu
    have hd := (gstep_chain g none (gchk_len hg).2).2 ⟨#[49]⟩ t ht
    have hd2 : num t ∣ num (rlast g) := hd
    have e1 : ((num t).toNat : Int) = num t := Int.toNat_of_nonneg (by omega)
    have e2 : ((num (rlast g)).toNat : Int) = num (rlast g) := Int.toNat_of_nonneg (by omega)
    rw [← Int.natCast_dvd_natCast, e1, e2]
    exact hd2
theorem elt_tx {g a : List ByteArray} {zs : List Int} (h : Grp g zs) (hm : mchk g a = 0) : ∃ us : List Int, Goods a us ∧ Elt zs us ∧ a.length = g.length ∧ a = (us.map Int.toNat).map tx ∧ ∀ i (h : i < (zs.map Int.toNat).length) (h' : i < (us.map Int.toNat).length), (us.map Int.toNat)[i] < (zs.map Int.toNat)[i] := by
  obtain ⟨hl, us, hu, he⟩ := elt_of h.good hm
  have hul := hu.len
  have hzl := h.good.len
  refine ⟨us, hu, he, hl, goods_tx a us hu fun z hz => ?_, fun i h1 h2 => ?_⟩
  · obtain ⟨i, hi, rfl⟩ := List.getElem_of_mem hz
    exact (he i (by omega) hi).1
  · have h1' : i < zs.length := by simpa using h1
    have h2' : i < us.length := by simpa using h2
    have := he i h1' h2'
    simp only [List.getElem_map]
    omega
theorem few05_size {g : List ByteArray} (h : few05 g = true) (hl : g.length ≤ 16) : ∀ s ∈ g, s.size ≤ 1000000 := by
  intro s hs
  have h1 : (g.take 20).all ok05 = true := by simp only [few05, Bool.and_eq_true] at h; exact h.1
  rw [List.take_of_length_le (by omega)] at h1
  have := List.all_eq_true.1 h1 s hs
  simp [ok05] at this
  omega
theorem few05_dn {g : List ByteArray} (h : few05 g = true) (hl : g.length ≤ 16) {s : ByteArray} {z : Int} (hs : s ∈ g) (hz : Good s z) : dn z ≤ 30 := by
  have h1 : (g.take 20).all ok05 = true := by simp only [few05, Bool.and_eq_true] at h; exact h.1
  rw [List.take_of_length_le (by omega)] at h1
  have := List.all_eq_true.1 h1 s hs
  simp only [ok05, hz.chk] at this
  have h4 : (Lib.itoa z).length = s.size := by rw [← hz.1, Lib.size_eq]
  have h2 := digs10_len z.natAbs
  have h3 : (Lib.decDigits z.natAbs).length ≤ (Lib.itoa z).length := by rw [itoa_cases]; split <;> simp
  simp at this
  unfold dn; omega
theorem bad_size {a : List ByteArray} (h : bad a = false) : ∀ s ∈ a, s.size ≤ 1000000 := by
  intro s hs
  have h1 : (a.any fun s => !few s) = false := by simp only [bad, Bool.or_eq_false_iff] at h; exact h.2
  have := List.any_eq_false.1 h1 s hs
  have := few_size (s := s) (by simpa using this)
  omega
theorem bad_len {a : List ByteArray} (h : bad a = false) : a.length ≤ 20 := by
  simp only [bad, Bool.or_eq_false_iff] at h
  have := h.1
  simp at this
  omega
end Go.Proofs.YtdpdkojeapaflaaGreatDoor

namespace Go.Proofs.YtdpdkojeapaflaaGreatDoor
open Go.RowKit
set_option maxRecDepth 100000

set_option maxHeartbeats 1000000 in
theorem Equal_same (w : World) (v u : Value) (xs : List ByteArray) (hv : Sl eS w v xs) (hu : Sl eS w u xs) :
    Calls Tryz.prog 33 #[v, u] w (Rets fun v w' => v = .bool true ∧ Below w.heap.size w w') := by
  obtain ⟨a, b, o, c, rfl, hi, hp, hc, hm⟩ := hv.open elemStr
  obtain ⟨a', b', o', c', rfl, hi', hp', hc', hm'⟩ := hu.open elemStr
  clear hv hu
  unfold maxLen at hm hm'
  go_enter Tryz.func33, Tryz.ntmps33
  go_wp2
  go_loopw [13] (fun i wr => ∃ k : Nat, k ≤ xs.length ∧ i = .int .i64 k ∧ Below w.heap.size w wr) (fun i _ => xs.length - (intOf i).toNat)
  case atStart => exact ⟨0, Nat.zero_le _, rfl, Below.refl _ _⟩
  case round =>
    obtain ⟨k, hk, rfl, hb⟩ := hrel
    by_cases hkn : k < xs.length
    · have h1 : wr.cell? ⟨b, o + k, none⟩ = some (.string xs[k]) := hp.at hb (Nat.le_refl _) k hkn
      have h2 : wr.cell? ⟨b', o' + k, none⟩ = some (.string xs[k]) := hp'.at hb (Nat.le_refl _) k hkn
      have q1 : (0 : Int) ≤ (k : Int) := by omega
      have q2 : (k : Int) < (xs.length : Int) := by omega
      go_wp2_with fail
      go_quiet (fail)
      have b3 := below_drewN hb nq
      go_wp2
      go_roundw
      case rel => exact ⟨k + 1, by omega, by go_num, b3⟩
      case measure => simp [intOf]; omega
    · obtain rfl : k = xs.length := by omega
      go_wp2
      go_ret
      exact ⟨_, rfl, rfl, hb⟩

set_option maxHeartbeats 400000 in
theorem Order_err (w : World) (v : Value) (g : List ByteArray) (hv : Sl eS w v g) (hg : gchk g ≠ 0) (hsz : g.length ≤ 16 → ∀ s ∈ g, s.size ≤ 1000000) (he : Env w) :
    Calls Tryz.prog 21 #[v] w (Rets fun r w' => r = .tuple #[.string ⟨#[]⟩, .int .i64 (gchk g)] ∧ Below w.heap.size w w') := by
  have HV := Lib.hid hv; have HSZ := Lib.hid hsz; have HE := Lib.hid he
  have hne : (gchk g != 0) = true := by simp [hg]
  obtain ⟨ad, b, o, c, rfl, -, -, -, -⟩ := hv.open elemStr
  clear hv hsz he hg
  go_enter Tryz.func21, Tryz.ntmps21
  go_wp2_with (go_at_call 27; (with_reducible refine (ACheck_any _ _ g HV.out HSZ.out HE.out).mono ?_); rintro e w1 ⟨v, rfl, rfl, hb1⟩)
  go_ret2
  exact ⟨_, rfl, rfl, hb1⟩
set_option maxHeartbeats 400000 in
theorem Order_ok (w : World) (v : Value) (g : List ByteArray) (zs : List Int) (hv : Sl eS w v g) (hz : Goods g zs) (h2 : ∀ z ∈ zs, 2 ≤ z) (hg : gchk g = 0) (hsz : ∀ s ∈ g, s.size ≤ 1000000) (he : Env w) :
    Calls Tryz.prog 21 #[v] w (Rets fun r w' => r = resV (prods zs) ∧ Below w.heap.size w w') := by
  obtain ⟨tt, kk, hr, -, -⟩ := resV_cases (prods zs)
  have HV := Lib.hid hv; have HSZ := Lib.hid hsz; have HE := Lib.hid he; have HG := Lib.hid hg; have HZ := Lib.hid hz; have HR := Lib.hid hr
  have HP := Lib.hid (show ∀ z ∈ zs, 1 ≤ z from fun z hz => by have := h2 z hz; omega)
  obtain ⟨ad, b, o, c, rfl, -, -, -, -⟩ := hv.open elemStr
  clear hv hsz he hg hz hr h2
  go_enter Tryz.func21, Tryz.ntmps21
  go_wp2_with (first
    | (go_at_call 27; (with_reducible refine (ACheck_any _ _ g HV.out (fun _ => HSZ.out) HE.out).mono ?_); rintro e w1 ⟨v, rfl, rfl, hb1⟩; rw [HG.out])
    | (go_at_call 63; (with_reducible refine (folded_mul _ _ g zs (HV.out.below hb1 (Nat.le_refl _)) HZ.out HP.out (HE.out.below hb1 (Nat.le_refl _))).mono ?_); rintro e w2 ⟨v, rfl, rfl, hb2⟩; rw [HR.out]))
  go_ret2
  exact ⟨_, rfl, by rw [HR.out]; rfl, hb1.trans (hb2.mono hb1.size)⟩

/-- The last number of a group, or 1. -/
def lastOf (g : List ByteArray) : ByteArray := g.getLast?.getD ⟨#[49]⟩
theorem lastOf_eq (g : List ByteArray) (h : 0 < g.length) : lastOf g = g[g.length - 1]'(by omega) := by
  unfold lastOf
  rw [List.getLast?_eq_getElem?, List.getElem?_eq_getElem (by omega)]
  rfl
set_option maxHeartbeats 400000 in
theorem Exponent_err (w : World) (v : Value) (g : List ByteArray) (hv : Sl eS w v g) (hg : gchk g ≠ 0) (hsz : g.length ≤ 16 → ∀ s ∈ g, s.size ≤ 1000000) (he : Env w) :
    Calls Tryz.prog 23 #[v] w (Rets fun r w' => r = .tuple #[.string ⟨#[]⟩, .int .i64 (gchk g)] ∧ Below w.heap.size w w') := by
  have HV := Lib.hid hv; have HSZ := Lib.hid hsz; have HE := Lib.hid he
  have hne : (gchk g != 0) = true := by simp [hg]
  obtain ⟨ad, b, o, c, rfl, -, -, -, -⟩ := hv.open elemStr
  clear hv hsz he hg
  go_enter Tryz.func23, Tryz.ntmps23
  go_wp2_with (go_at_call 27; (with_reducible refine (ACheck_any _ _ g HV.out HSZ.out HE.out).mono ?_); rintro e w1 ⟨v, rfl, rfl, hb1⟩)
  go_ret2
  exact ⟨_, rfl, rfl, hb1⟩
set_option maxHeartbeats 400000 in
theorem Exponent_ok (w : World) (v : Value) (g : List ByteArray) (hv : Sl eS w v g) (hg : gchk g = 0) (hl : g.length ≤ 16) (hsz : ∀ s ∈ g, s.size ≤ 1000000) (he : Env w) :
    Calls Tryz.prog 23 #[v] w (Rets fun r w' => r = .tuple #[.string (lastOf g), .int .i64 0] ∧ Below w.heap.size w w') := by
  have HV := Lib.hid hv; have HSZ := Lib.hid hsz; have HE := Lib.hid he; have HG := Lib.hid hg
  obtain ⟨ad, b, o, c, rfl, hi, hp, hc, hm⟩ := hv.open elemStr
  clear hv hsz he hg
  by_cases h0 : g = []
  · subst h0
    have HV := Lib.hid (show Sl eS w (.slice ad 0 c) [] from HV.out)
    clear hp hi
    show Calls Tryz.prog 23 #[.slice ad 0 c] w _
    go_enter Tryz.func23, Tryz.ntmps23
    go_wp2_with (go_at_call 27; (with_reducible refine (ACheck_any _ _ [] HV.out (fun _ => HSZ.out) HE.out).mono ?_); rintro e w1 ⟨v, rfl, rfl, hb1⟩; rw [HG.out])
    go_ret2
    exact ⟨_, rfl, rfl, hb1⟩
  · have h1 : 0 < g.length := List.length_pos_iff.2 h0
    have hne : ((g.length : Int) == 0) = false := by simp; omega
    obtain ⟨k, hk⟩ : ∃ k, g.length = k + 1 := ⟨g.length - 1, by omega⟩
    have hkl : k < g.length := by omega
    have HLO := Lib.hid (show lastOf g = g[k] by rw [lastOf_eq g h1]; congr 1; omega)
    have HC := Lib.hid (show ∀ w', Below w.heap.size w w' → w'.cell? ⟨b, o + k, none⟩ = some (.string g[k]) from fun w' hb' => hp.at hb' (Nat.le_refl _) k hkl)
    have e1 : (g.length : Int) - 1 = (k : Int) := by omega
    have e2 : ((g.length : Int) - 1).toNat = k := by omega
    have q1 : (0 : Int) ≤ (k : Int) := by omega
    have q2 : (k : Int) < (g.length : Int) := by omega
    clear h0 hp hk
    go_enter Tryz.func23, Tryz.ntmps23
    go_wp2_with (go_at_call 27; (with_reducible refine (ACheck_any _ _ g HV.out (fun _ => HSZ.out) HE.out).mono ?_); rintro e w1 ⟨v, rfl, rfl, hb1⟩; rw [HG.out]; have h9 := HC.out _ hb1)
    go_ret2
    exact ⟨_, rfl, by rw [HLO.out]; rfl, hb1⟩

set_option maxHeartbeats 1000000 in
theorem OrderOf_err1 (w : World) (v u : Value) (g a : List ByteArray) (hv : Sl eS w v g) (hu : Sl eS w u a) (hg : gchk g ≠ 0) (hsz : g.length ≤ 16 → ∀ s ∈ g, s.size ≤ 1000000) (he : Env w) :
    Calls Tryz.prog 17 #[v, u] w (Rets fun r w' => r = .tuple #[.string ⟨#[]⟩, .int .i64 (gchk g)] ∧ Below w.heap.size w w') := by
  have HV := Lib.hid hv; have HSZ := Lib.hid hsz; have HE := Lib.hid he
  have hne : (gchk g != 0) = true := by simp [hg]
  obtain ⟨ad, b, o, c, rfl, -, -, -, -⟩ := hv.open elemStr
  obtain ⟨ad', b', o', c', rfl, -, -, -, -⟩ := hu.open elemStr
  have HB0 := Lib.hid ((Below.refl w.heap.size w).alloc (Nat.le_refl _) (.cells #[.slice ad' a.length c'] 22))
  clear hv hu hsz he hg
  go_enter Tryz.func17, Tryz.ntmps17
  go_wp2_with (go_at_call 27; (with_reducible refine (ACheck_any _ _ g (HV.out.below HB0.out (Nat.le_refl _)) HSZ.out (HE.out.below HB0.out (Nat.le_refl _))).mono ?_); rintro e w1 ⟨v, rfl, rfl, hb1⟩)
  go_ret2
  exact ⟨_, rfl, rfl, HB0.out.trans (hb1.mono HB0.out.size)⟩
set_option maxHeartbeats 1000000 in
theorem OrderOf_err2 (w : World) (v u : Value) (g a : List ByteArray) (zs : List Int) (hv : Sl eS w v g) (hu : Sl eS w u a) (hz : Goods g zs) (hg : gchk g = 0) (hm : mchk g a ≠ 0) (hl : g.length ≤ 16) (hsz : ∀ s ∈ g, s.size ≤ 1000000) (hsz' : a.length = g.length → ∀ s ∈ a, s.size ≤ 1000000) (he : Env w) :
    Calls Tryz.prog 17 #[v, u] w (Rets fun r w' => r = .tuple #[.string ⟨#[]⟩, .int .i64 (mchk g a)] ∧ Below w.heap.size w w') := by
  have HV := Lib.hid hv; have HU := Lib.hid hu; have HSZ := Lib.hid hsz; have HSZ' := Lib.hid hsz'; have HE := Lib.hid he; have HG := Lib.hid hg; have HZ := Lib.hid hz
  have hne : (mchk g a != 0) = true := by simp [hm]
  obtain ⟨ad, b, o, c, rfl, -, -, -, -⟩ := hv.open elemStr
  obtain ⟨ad', b', o', c', rfl, -, -, -, -⟩ := hu.open elemStr
  have hk0 := Blk.new w [.slice ad' a.length c'] 22
  have HK0 := Lib.hid hk0
  have HB0 := Lib.hid ((Below.refl w.heap.size w).alloc (Nat.le_refl _) (.cells #[.slice ad' a.length c'] 22))
  clear hv hu hsz he hg hm hz hsz' hk0
  go_enter Tryz.func17, Tryz.ntmps17
  go_wp2_with (first
    | (go_at_call 27; (with_reducible refine (ACheck_any _ _ g (HV.out.below HB0.out (Nat.le_refl _)) (fun _ => HSZ.out) (HE.out.below HB0.out (Nat.le_refl _))).mono ?_); rintro e w1 ⟨v, rfl, rfl, hb1⟩; rw [HG.out]; have b1 := HB0.out.trans (hb1.mono HB0.out.size); have hc1 := (HK0.out.below hb1 (Nat.le_refl _)).cell 0 _ rfl)
    | (go_at_call 62; (with_reducible refine (member_any _ _ _ g a zs (HV.out.below b1 (Nat.le_refl _)) (HU.out.below b1 (Nat.le_refl _)) HZ.out hl HSZ'.out).mono ?_); rintro e w2 ⟨v, rfl, rfl, hb2⟩; have b2 := b1.trans (hb2.mono b1.size)))
  go_ret2
  exact ⟨_, rfl, rfl, b2⟩
end Go.Proofs.YtdpdkojeapaflaaGreatDoor

namespace Go.Proofs.YtdpdkojeapaflaaGreatDoor
open Go.RowKit
set_option maxRecDepth 100000

/-- The greatest common divisors whose product is the number of elements of an order. -/
def gcds (zs : List Int) (y : Int) : List Int := zs.map fun z => ((Nat.gcd z.natAbs y.natAbs : Nat) : Int)
theorem gcd_small {z : Int} (y : Int) (h0 : 2 ≤ z) (hb : big z = false) : big ((Nat.gcd z.natAbs y.natAbs : Nat) : Int) = false := by
  refine (big_iff _).2 (Nat.lt_of_le_of_lt ?_ ((big_iff z).1 hb))
  rw [Int.natAbs_natCast]
  exact Nat.le_of_dvd (by omega) (Nat.gcd_dvd_left _ _)
theorem gcds_goods : ∀ (g : List ByteArray) (zs : List Int) (y : Int), Goods g zs → (∀ z ∈ zs, 2 ≤ z) → Goods ((gcds zs y).map txt) (gcds zs y)
  | [], [], _, _, _ => trivial
  | s :: l, z :: zs, y, h, h2 => ⟨⟨rfl, gcd_small y (h2 z (by simp)) h.1.2⟩, gcds_goods l zs y h.2 fun u hu => h2 u (by simp [hu])⟩
theorem gcds_pos (zs : List Int) (y : Int) (h2 : ∀ z ∈ zs, 2 ≤ z) : ∀ u ∈ gcds zs y, 1 ≤ u := by
  intro u hu
  obtain ⟨z, hz, rfl⟩ := List.mem_map.1 hu
  have := h2 z hz
  have := Nat.gcd_pos_of_pos_left y.natAbs (show 0 < z.natAbs by omega)
  omega

set_option maxHeartbeats 400000 in
theorem count_clos (w : World) (k bx : Nat) (s t : ByteArray) (z y : Int) (hs : Good s z) (h2 : 2 ≤ z) (ht : Good t y) (hcell : w.cell? ⟨bx, 0, none⟩ = some (.string t)) (he : Env w) :
    Calls Tryz.prog 100 #[.int .i64 k, .string s, .pointer (some ⟨bx, 0, none⟩)] w (Rets fun v w' => v = .string (txt ((Nat.gcd z.natAbs y.natAbs : Nat) : Int)) ∧ Below w.heap.size w w') := by
  obtain ⟨G, hG⟩ : ∃ G : Int, ((Nat.gcd z.natAbs y.natAbs : Nat) : Int) = G := ⟨_, rfl⟩
  have hb : big G = false := by rw [← hG]; exact gcd_small y h2 hs.2
  have hr := resV_eq G
  rw [resT_ok hb, resK_ok hb] at hr
  rw [hG]
  have HG := Lib.hid hG; have HR := Lib.hid hr; have HS := Lib.hid hs; have HT := Lib.hid ht; have HE := Lib.hid he
  clear hG hb hr hs ht he
  go_enter Tryz.func100, Tryz.ntmps100
  go_wp2_with (go_at_call 66; (with_reducible refine (Gcd_ok _ _ _ z y HS.out HT.out HE.out).mono ?_); rintro e w' ⟨v, rfl, rfl, hb⟩; rw [HG.out, HR.out])
  go_ret
  exact ⟨_, rfl, rfl, hb⟩

set_option maxHeartbeats 1000000 in
theorem Count_err1 (w : World) (v : Value) (g : List ByteArray) (t : ByteArray) (hv : Sl eS w v g) (hg : gchk g ≠ 0) (hsz : g.length ≤ 16 → ∀ s ∈ g, s.size ≤ 1000000) (he : Env w) :
    Calls Tryz.prog 43 #[v, .string t] w (Rets fun r w' => r = .tuple #[.string ⟨#[]⟩, .int .i64 (gchk g)] ∧ Below w.heap.size w w') := by
  have HV := Lib.hid hv; have HSZ := Lib.hid hsz; have HE := Lib.hid he
  have hne : (gchk g != 0) = true := by simp [hg]
  obtain ⟨ad, b, o, c, rfl, -, -, -, -⟩ := hv.open elemStr
  have HB0 := Lib.hid ((Below.refl w.heap.size w).alloc (Nat.le_refl _) (.cells #[.string t] 27))
  clear hv hsz he hg
  go_enter Tryz.func43, Tryz.ntmps43
  go_wp2_with (go_at_call 27; (with_reducible refine (ACheck_any _ _ g (HV.out.below HB0.out (Nat.le_refl _)) HSZ.out (HE.out.below HB0.out (Nat.le_refl _))).mono ?_); rintro e w1 ⟨v, rfl, rfl, hb1⟩)
  go_ret2
  exact ⟨_, rfl, rfl, HB0.out.trans (hb1.mono HB0.out.size)⟩
set_option maxHeartbeats 1000000 in
theorem Count_err2 (w : World) (v : Value) (g : List ByteArray) (t : ByteArray) (hv : Sl eS w v g) (hg : gchk g = 0) (_hl : g.length ≤ 16) (ht : chk t.data.toList ≠ 0) (hts : t.size ≤ 1000000) (hsz : ∀ s ∈ g, s.size ≤ 1000000) (he : Env w) :
    Calls Tryz.prog 43 #[v, .string t] w (Rets fun r w' => r = .tuple #[.string ⟨#[]⟩, .int .i64 (chk t.data.toList)] ∧ Below w.heap.size w w') := by
  have HV := Lib.hid hv; have HSZ := Lib.hid hsz; have HE := Lib.hid he; have HG := Lib.hid hg
  have hne : (chk t.data.toList != 0) = true := by simp [ht]
  obtain ⟨ad, b, o, c, rfl, -, -, -, -⟩ := hv.open elemStr
  have HK0 := Lib.hid (Blk.new w [.string t] 27)
  have HB0 := Lib.hid ((Below.refl w.heap.size w).alloc (Nat.le_refl _) (.cells #[.string t] 27))
  clear hv hsz he hg ht
  go_enter Tryz.func43, Tryz.ntmps43
  go_wp2_with (first
    | (go_at_call 27; (with_reducible refine (ACheck_any _ _ g (HV.out.below HB0.out (Nat.le_refl _)) (fun _ => HSZ.out) (HE.out.below HB0.out (Nat.le_refl _))).mono ?_); rintro e w1 ⟨v, rfl, rfl, hb1⟩; rw [HG.out]; have b1 := HB0.out.trans (hb1.mono HB0.out.size); have hc1 := (HK0.out.below hb1 (Nat.le_refl _)).cell 0 _ rfl)
    | (go_at_call 70; (with_reducible refine (check_any _ _ hts).mono ?_); rintro e w2 ⟨v, rfl, rfl, hb2⟩; have b2 := b1.trans (hb2.mono b1.size)))
  go_ret2
  exact ⟨_, rfl, rfl, b2⟩
set_option maxHeartbeats 1000000 in
theorem Count_err3 (w : World) (v : Value) (g : List ByteArray) (t : ByteArray) (y : Int) (hv : Sl eS w v g) (hg : gchk g = 0) (_hl : g.length ≤ 16) (ht : Good t y) (hy : y < 1) (hts : t.size ≤ 1000000) (hsz : ∀ s ∈ g, s.size ≤ 1000000) (he : Env w) :
    Calls Tryz.prog 43 #[v, .string t] w (Rets fun r w' => r = .tuple #[.string ⟨#[]⟩, .int .i64 2] ∧ Below w.heap.size w w') := by
  have HV := Lib.hid hv; have HSZ := Lib.hid hsz; have HE := Lib.hid he; have HG := Lib.hid hg; have HT := Lib.hid ht
  have HC := Lib.hid ht.chk
  have HS2 := Lib.hid (show (y - 1).sign = -1 from Int.sign_eq_neg_one_of_neg (by omega))
  obtain ⟨ad, b, o, c, rfl, -, -, -, -⟩ := hv.open elemStr
  have HK0 := Lib.hid (Blk.new w [.string t] 27)
  have HB0 := Lib.hid ((Below.refl w.heap.size w).alloc (Nat.le_refl _) (.cells #[.string t] 27))
  clear hv hsz he hg ht
  go_enter Tryz.func43, Tryz.ntmps43
  go_wp2_with (first
    | (go_at_call 27; (with_reducible refine (ACheck_any _ _ g (HV.out.below HB0.out (Nat.le_refl _)) (fun _ => HSZ.out) (HE.out.below HB0.out (Nat.le_refl _))).mono ?_); rintro e w1 ⟨v, rfl, rfl, hb1⟩; rw [HG.out]; have b1 := HB0.out.trans (hb1.mono HB0.out.size); have HK1 := Lib.hid (HK0.out.below hb1 (Nat.le_refl _)); have hc1 := HK1.out.cell 0 _ rfl)
    | (go_at_call 70; (with_reducible refine (check_any _ _ hts).mono ?_); rintro e w2 ⟨v, rfl, rfl, hb2⟩; rw [HC.out]; have b2 := b1.trans (hb2.mono b1.size); have hc2 := (HK1.out.below hb2 (Nat.le_refl _)).cell 0 _ rfl)
    | (go_at_call 79; (with_reducible refine (aorder_any _ _ _ y 1 HT.out g1).mono ?_); rintro e w3 ⟨v, rfl, rfl, hb3⟩; rw [HS2.out]; have b3 := b2.trans (hb3.mono b2.size)))
  go_ret2
  exact ⟨_, rfl, rfl, b3⟩
set_option maxHeartbeats 2000000 in
theorem Count_ok (w : World) (v : Value) (g : List ByteArray) (zs : List Int) (t : ByteArray) (y : Int) (hv : Sl eS w v g) (hz : Goods g zs) (h2 : ∀ z ∈ zs, 2 ≤ z) (hg : gchk g = 0) (_hl : g.length ≤ 16) (ht : Good t y) (hy : 1 ≤ y) (hts : t.size ≤ 1000000) (hsz : ∀ s ∈ g, s.size ≤ 1000000) (he : Env w) :
    Calls Tryz.prog 43 #[v, .string t] w (Rets fun r w' => r = resV (prods (gcds zs y)) ∧ Below w.heap.size w w') := by
  obtain ⟨tt, kk, hr, -, -⟩ := resV_cases (prods (gcds zs y))
  have HR := Lib.hid hr
  have HV := Lib.hid hv; have HSZ := Lib.hid hsz; have HE := Lib.hid he; have HG := Lib.hid hg; have HT := Lib.hid ht
  have HC := Lib.hid ht.chk
  obtain ⟨sg, hsg, hsg0⟩ : ∃ u, (y - 1).sign = u ∧ 0 ≤ u := ⟨_, rfl, by
    rcases Int.lt_or_eq_of_le hy with h | h
    · rw [Int.sign_eq_one_of_pos (by omega)]; omega
    · rw [← h]; decide⟩
  have HS2 := Lib.hid hsg
  obtain ⟨ad, b, o, c, rfl, -, -, -, -⟩ := hv.open elemStr
  have hk0 := Blk.new w [.string t] 27
  have HK0 := Lib.hid hk0
  have HB0 := Lib.hid ((Below.refl w.heap.size w).alloc (Nat.le_refl _) (.cells #[.string t] 27))
  have hmf : ∀ (fn : Fn) (first cap : Array Value) (w : World), (Instr.makeFunc fn first cap).run Tryz.prog w = .ok (.func fn first cap) w := fun _ _ _ _ => rfl
  have HQM := Lib.hid (show ((gcds zs y).map txt).length = g.length by rw [List.length_map, gcds, List.length_map, hz.len])
  have HGS := Lib.hid (gcds_goods g zs y hz h2)
  have HGP := Lib.hid (gcds_pos zs y h2)
  have hclos : ∀ w', Env w' → Blk w' w.heap.size [.string t] 27 → ∀ k (hk : k < g.length) (hk' : k < ((gcds zs y).map txt).length),
      Calls Tryz.prog 100 #[.int .i64 k, .string g[k], .pointer (some ⟨w.heap.size, 0, none⟩)] w' (Rets fun v w'' => v = .string ((gcds zs y).map txt)[k] ∧ Below w'.heap.size w' w'') := by
    intro w' he' hk0' k hk hk'
    have hkz : k < zs.length := by rw [hz.len]; exact hk
    have e : ((gcds zs y).map txt)[k] = txt ((Nat.gcd zs[k].natAbs y.natAbs : Nat) : Int) := by simp [gcds]
    rw [e]
    exact count_clos w' k w.heap.size g[k] t zs[k] y (hz.get k hk hkz) (h2 _ (List.getElem_mem hkz)) ht (hk0'.cell 0 _ rfl) he'
  have HCL := Lib.hid hclos
  clear hv hsz he hg ht hr hz h2 hclos hsg hk0
  go_enter Tryz.func43, Tryz.ntmps43
  go_wp2_with (first
    | (go_at_call 27; (with_reducible refine (ACheck_any _ _ g (HV.out.below HB0.out (Nat.le_refl _)) (fun _ => HSZ.out) (HE.out.below HB0.out (Nat.le_refl _))).mono ?_); rintro e w1 ⟨v, rfl, rfl, hb1⟩; rw [HG.out]; have b1 := HB0.out.trans (hb1.mono HB0.out.size); have HK1 := Lib.hid (HK0.out.below hb1 (Nat.le_refl _)); have hc1 := HK1.out.cell 0 _ rfl)
    | (go_at_call 70; (with_reducible refine (check_any _ _ hts).mono ?_); rintro e w2 ⟨v, rfl, rfl, hb2⟩; rw [HC.out]; have b2 := b1.trans (hb2.mono b1.size); have HK2 := Lib.hid (HK1.out.below hb2 (Nat.le_refl _)); have hc2 := HK2.out.cell 0 _ rfl)
    | (go_at_call 79; (with_reducible refine (aorder_any _ _ _ y 1 HT.out g1).mono ?_); rintro e w3 ⟨v, rfl, rfl, hb3⟩; rw [HS2.out]; have b3 := b2.trans (hb3.mono b2.size); have HK3 := Lib.hid (HK2.out.below hb3 (Nat.le_refl _)))
    | (go_at_call 64; (with_reducible refine (each_counts _ _ _ g ((gcds zs y).map txt) (HV.out.below b3 (Nat.le_refl _)) (by omega) HQM.out (fun k hk hk' w' hb' => HCL.out w' (HE.out.below (b3.trans (hb'.mono b3.size)) (Nat.le_refl _)) (HK3.out.below hb' (Nat.le_refl _)) k hk hk')).mono ?_); rintro e w4 ⟨v4, rfl, hs4, hb4⟩; have HS4 := Lib.hid hs4; have b4 := b3.trans (hb4.mono b3.size); clear hs4)
    | (go_at_call 63; (with_reducible refine (folded_mul _ _ _ _ HS4.out HGS.out HGP.out (HE.out.below b4 (Nat.le_refl _))).mono ?_); rintro e w5 ⟨v, rfl, rfl, hb5⟩; have b5 := b4.trans (hb5.mono b4.size); rw [HR.out]))
  go_ret2
  exact ⟨_, rfl, by rw [HR.out]; rfl, b5⟩
end Go.Proofs.YtdpdkojeapaflaaGreatDoor

namespace Go.Proofs.YtdpdkojeapaflaaGreatDoor
open Go.RowKit
set_option maxRecDepth 100000

section
variable {P : Program} {t e : TypeId} {z : Value} {bytes : Nat} {ops : Array Oper} {rest : List Oper} {o : Oper} {a : Act} {Q : Exit → Act → World → Prop}
/-- 'append([]T{}, xs...)', xs not nil. -/
theorem appC {α : Type} {enc : α → Value} (hE : ElemOk P t e z 1 bytes) (hgd : o.guard = none) (s x : Operand) (ho : o.op = .call { callee := .builtin .append, args := #[s, x], argTypes := #[t, t] })
    {xs : List α} {B : Nat} {w0 w1 W : World} {v : Value} {ad : Addr} {c : Nat} (hown : w1.ownsRow w0.heap.size e 1 v 0 []) (hb1 : Below B W w1) (hs0 : w0.heap.size ≤ w1.heap.size) (hBw : B ≤ w0.heap.size) (hs : a.eval s = v) (hx : a.eval x = .slice (some ad) xs.length c) (hv : Sl enc w1 (.slice (some ad) xs.length c) xs)
    (h2 : ∀ y, (enc y).oneCell' = true) (hn : xs.length * bytes ≤ 140737488355328) (hn' : xs.length ≤ maxLen)
    (h : ∀ v' w', w'.ownsRow w0.heap.size e 1 v' xs.length (xs.map enc) → Below B W w' → wpList P ops Q rest (a.put o.dst v') w') :
    wpList P ops Q (o :: rest) a w1 := by
  obtain ⟨i, hi, hz, hsz, hby⟩ := hE.info
  obtain ⟨ad', b, off, c', he, ha, hc, hm, hnn, hcell⟩ := hv
  cases he
  have hnews : ∀ j y, (xs.map enc)[j]? = some y → w1.cell? (ad.add j) = some y := by
    intro j y hj
    have hj' : j < xs.length := by have := (List.getElem?_eq_some_iff.1 hj).1; simpa using this
    have := ha (by omega)
    cases this
    have h3 := hcell.2 j hj'
    simp [hj'] at hj
    rw [show (⟨b, off, none⟩ : Addr).add j = ⟨b, off + j, none⟩ by simp [Addr.add], h3, hj]
  refine wpList_append_own _ hgd s x t ho w0.heap.size e i z 1 bytes hE.und hi hz hsz hby hE.cells hE.pos _ 0 [] hs hown ad xs.length c (xs.map enc) hx (by simp) hnews (by intro y hy; obtain ⟨y', _, rfl⟩ := List.mem_map.1 hy; exact h2 y') (by rw [Nat.zero_add]; exact hn') (by rw [Nat.zero_add]; exact hn) hs0 ?_
  intro v' w' ho' hg _
  rw [Nat.zero_add, List.nil_append] at ho'
  exact h v' w' ho' (hb1.grown hg (by omega) (fun j hj => by have := (hown.lt j hj).1; omega))
end

theorem nil_no (a : Addr) (n c : Nat) (w : World) : (binOp BinOp.eql 22 (.slice (some a) n c) (.slice none 0 0)).run Tryz.prog w = .ok (.bool false) w := by kernel_rfl
theorem nil_yes (w : World) : (binOp BinOp.eql 22 (.slice none 0 0) (.slice none 0 0)).run Tryz.prog w = .ok (.bool true) w := by kernel_rfl
set_option maxHeartbeats 1000000 in
theorem clone_any (w : World) (v : Value) (xs : List ByteArray) (hv : Sl eS w v xs) (hl : xs.length ≤ 1000000) :
    Calls Tryz.prog 73 #[v] w (Rets fun v' w' => w'.ownsRow w.heap.size 27 1 v' xs.length (xs.map eS) ∧ Below w.heap.size w w') := by
  have HV := Lib.hid hv
  have hn1 := nil_no
  have hn2 := nil_yes
  obtain ⟨a, b, o, c, rfl, ha, hc, hm, hn0, hp⟩ := hv
  cases a with
  | none =>
    have hc0 := hn0 rfl
    have hl0 : xs.length = 0 := by omega
    obtain rfl : xs = [] := List.length_eq_zero_iff.1 hl0
    subst hc0
    clear HV ha hp hn0
    go_enter Tryz.func73, Tryz.ntmps73
    go_wp2
    go_ret
    exact ⟨_, rfl, World.ownsRow_nil _ _ _ _, Below.refl _ _⟩
  | some a =>
    clear ha hp hn0
    have HO : Hid ((w.alloc (.cells #[] 27)).ownsRow w.heap.size 27 1 (.slice (some ⟨w.heap.size, 0, none⟩) 0 0) 0 []) := Lib.hid ⟨rfl, .inr ⟨w.heap.size, 0, #[], rfl, by omega, heap_alloc_new w _, by omega, by simp [maxLen], rfl, rfl⟩⟩
    have HB0 := Lib.hid ((Below.refl w.heap.size w).alloc (Nat.le_refl _) (.cells #[] 27))
    go_enter Tryz.func73, Tryz.ntmps73
    go_wp2_with (at_builtin; refine appC elemStr rfl _ _ rfl (w0 := w) HO.out HB0.out (by simp) (Nat.le_refl _) rfl rfl (HV.out.below HB0.out (Nat.le_refl _)) (fun y => by simp [eS, Value.oneCell']) (by omega) (by unfold maxLen; omega) ?_; intro v' w2 hown' hb'; have HO2 := Lib.hid hown'; clear hown')
    go_ret
    exact ⟨_, rfl, HO2.out, hb'⟩

theorem size_sc (b : Nat) : ∀ (vs : List Value) (o : Nat) (w : World), (w.setCells b o vs).heap.size = w.heap.size
  | [], _, _ => rfl
  | _ :: r, o, _ => by rw [World.setCells, size_sc b r]; simp
theorem below_sc {B b : Nat} {a : World} (hb : B ≤ b) : ∀ (vs : List Value) (o : Nat) (w : World), Below B a w → Below B a (w.setCells b o vs)
  | [], _, _, h => h
  | v :: r, o, _, h => below_sc hb r (o + 1) _ (h.setCell hb v)
theorem take_filter (p : ByteArray → Bool) (xs : List ByteArray) (j : Nat) (h : j < xs.length) : (xs.take (j + 1)).filter p = (xs.take j).filter p ++ (if p xs[j] then [xs[j]] else []) := by
  rw [List.take_succ_eq_append_getElem h, List.filter_append]
  congr 1
  by_cases hp : p xs[j] <;> simp [hp]
set_option maxHeartbeats 4000000 in
theorem delete_any (w : World) (v : Value) (xs : List ByteArray) (base : Nat) (hown : w.ownsRow base 27 1 v xs.length (xs.map eS)) (hl : xs.length ≤ 1000000) :
    Calls Tryz.prog 72 #[v, .func (.func 74) #[] #[]] w (Rets fun v' w' => Sl eS w' v' (xs.filter fun s => !isOne s) ∧ Below base w w') := by
  have HS := Lib.hid (Sl.ofOwns hown)
  have HO := Lib.hid hown
  cases ha : xs.any isOne
  · have hn : ∀ s ∈ xs, isOne s = false := fun s hs => by have := List.any_eq_false.1 ha s hs; simpa using this
    have HN := Lib.hid hn
    have HF := Lib.hid (show (xs.filter fun s => !isOne s) = xs by rw [List.filter_eq_self]; intro s hs; rw [hn s hs]; rfl)
    obtain ⟨a, b, o, c, rfl, -, -, -, -⟩ := (Sl.ofOwns hown).open elemStr
    clear hown ha hn
    go_enter Tryz.func72, Tryz.ntmps72
    go_wp2_with (go_at_call 112; (with_reducible refine (idx_one_none _ _ xs HS.out HN.out).mono ?_); rintro e w1 ⟨v, rfl, rfl, rfl⟩)
    go_ret
    exact ⟨_, rfl, by rw [HF.out]; exact HS.out, Below.refl _ _⟩
  · obtain ⟨m, hm, h1, h2⟩ := first_hit isOne xs ha
    rcases hown.2 with ⟨rfl, h0⟩ | ⟨g, cap, cur0, rfl, hg, hgl, hc, hcm, hsz, ht⟩
    · exact absurd hm (by have h9 : xs = [] := by simpa using h0
                          rw [h9]; simp)
    · have HFM := Lib.hid (show (xs.take m).filter (fun s => !isOne s) = xs.take m by
        rw [List.filter_eq_self]; intro s hs
        obtain ⟨i, hi, rfl⟩ := List.getElem_of_mem hs
        simp at hi
        rw [List.getElem_take, h2 i (by omega)]; rfl)
      have HP := Lib.hid h1; have HQ := Lib.hid h2
      have hm0 : (0 : Int) ≤ (m : Int) := by omega
      have hmn : ((m : Int) == -1) = false := by simp
      have HGB := Lib.hid hg
      clear hown ha h1 h2 hgl hsz ht hg
      go_enter Tryz.func72, Tryz.ntmps72
      go_wp2_with (go_at_call 112; (with_reducible refine (idx_one_some _ _ xs HS.out m hm HP.out HQ.out).mono ?_); rintro e w1 ⟨v, rfl, rfl, rfl⟩)
      go_loopw [5, 6] (fun iv jv wr => ∃ (i j : Nat) (cur : List ByteArray), i < j ∧ j ≤ xs.length ∧ iv = .int .i64 i ∧ jv = .int .i64 j ∧ Hid (cur.length = xs.length) ∧ Hid (cur.drop j = xs.drop j) ∧ Hid (cur.take i = (xs.take j).filter fun s => !isOne s) ∧
        wr.ownsRow base 27 1 (.slice (some ⟨g, 0, none⟩) xs.length cap) xs.length (cur.map eS) ∧ Below base w wr) (fun _ jv _ => xs.length - (intOf jv).toNat)
      case atStart => exact ⟨m, m + 1, xs, by omega, by omega, rfl, by go_num, Lib.hid rfl, Lib.hid rfl, Lib.hid (by rw [take_filter _ _ _ hm, HFM.out, HP.out]; simp), HO.out, Below.refl _ _⟩
      case round =>
        obtain ⟨i, j, cur, hij, hj, rfl, rfl, hcl, hdr, htk, hown, hb⟩ := hrel
        by_cases hjn : j < xs.length
        · have hjc : j < cur.length := by rw [hcl.out]; exact hjn
          have hic : i < cur.length := by omega
          have hxj : cur[j] = xs[j] := by
            have := hdr.out
            rw [List.drop_eq_getElem_cons hjc, List.drop_eq_getElem_cons hjn] at this
            injection this
          have h1 : wr.cell? ⟨g, j, none⟩ = some (.string xs[j]) := by have := (own_get hown hjc).1; rw [hxj] at this; exact this
          have hin : i < xs.length := by omega
          obtain ⟨u, -, hcu, hfr⟩ := own_at hown hin
          have HOW := Lib.hid hown
          have hdr1 : cur.drop (j + 1) = xs.drop (j + 1) := by
            have := hdr.out
            rw [List.drop_eq_getElem_cons hjc, List.drop_eq_getElem_cons hjn] at this
            injection this
          have HD1 := Lib.hid hdr1
          have htf := take_filter (fun s => !isOne s) xs j hjn
          cases hp : isOne xs[j]
          · have HPP := Lib.hid hp
            rw [hp] at htf
            have HTF := Lib.hid htf
            clear hown hxj hdr1 htf hp
            go_wp2_with (go_at_call 74; (with_reducible refine (of1 _ xs[j]).mono ?_); rintro e w2 ⟨v, rfl, rfl, rfl⟩; rw [HPP.out])
            go_roundw
            case rel =>
              have R := fun (q : Value) (hq : q = eS xs[j]) => own_put HOW.out hb HGB.out i xs[j] q hq
              refine ⟨i + 1, j + 1, cur.set i xs[j], by omega, by omega, by go_num, by go_num, Lib.hid (by rw [List.length_set]; exact hcl.out), Lib.hid ?_, Lib.hid ?_, (R _ rfl).1, (R _ rfl).2⟩
              · rw [List.drop_set_of_lt (by omega)]; exact HD1.out
              · rw [HTF.out, ← htk.out]
                have hi2 : i < (cur.set i xs[j]).length := by rw [List.length_set]; exact hic
                rw [List.take_succ_eq_append_getElem hi2, List.take_set_of_le (Nat.le_refl _), List.getElem_set_self]
                rfl
            case measure => simp [intOf]; omega
          · have HPP := Lib.hid hp
            rw [hp] at htf
            have HTF : Hid ((xs.take (j + 1)).filter (fun s => !isOne s) = (xs.take j).filter fun s => !isOne s) := Lib.hid (by rw [htf]; simp)
            clear hown hxj hdr1 htf hp
            go_wp2_with (go_at_call 74; (with_reducible refine (of1 _ xs[j]).mono ?_); rintro e w2 ⟨v, rfl, rfl, rfl⟩; rw [HPP.out])
            go_roundw
            case rel => exact ⟨i, j + 1, cur, by omega, by omega, rfl, by go_num, hcl, HD1, Lib.hid (by rw [HTF.out]; exact htk.out), HOW.out, hb⟩
            case measure => simp [intOf]; omega
        · obtain rfl : j = xs.length := by omega
          have hic : i < xs.length := hij
          have HOW := Lib.hid hown
          have HTK := Lib.hid (show cur.take i = xs.filter fun s => !isOne s by have := htk.out; rwa [List.take_length] at this)
          have hcl2 : ∀ ty, (Builtin.clear_ #[22] ty #[.slice (some ⟨g, i, none⟩) (xs.length - i) (cap - i)]).run Tryz.prog wr = .ok (.tuple #[]) (wr.setCells g i (List.replicate (xs.length - i) (.string ⟨#[]⟩))) := fun ty =>
            Lib.run_clear_slice wr _ _ ty _ Tryz.underlying22 (fun w => by kernel_rfl) rfl rfl g i _ _ (by omega) (fun t ht => by rw [(own_get hown (k := i + t) (by rw [hcl.out]; omega)).1]; rfl) (fun t ht => (own_get hown (k := i + t) (by rw [hcl.out]; omega)).2)
          have q1 : (0 : Int) ≤ (i : Int) := by omega
          have q2 : (i : Int) ≤ (xs.length : Int) := by omega
          have q3 : ¬ cap = i := by omega
          clear hown hcl hdr htk
          go_wp2
          go_ret
          have hcl3 : cur.length = xs.length := by have := HOW.out.1; simpa using this
          have hL : (xs.filter fun s => !isOne s).length = i := by rw [← HTK.out, List.length_take]; omega
          refine ⟨_, rfl, ⟨some ⟨g, 0, none⟩, g, 0, cap, by rw [hL]; rfl, fun _ => rfl, by omega, hcm, fun h => absurd h (by simp), ⟨fun _ => by rw [size_sc]; exact own_lt HOW.out, fun t ht => ?_⟩⟩, below_sc HGB.out _ _ _ hb⟩
          have hti : t < i := by omega
          have htc : t < cur.length := by omega
          rw [Nat.zero_add, World.cell?_setCells_out g _ _ _ _ (fun _ _ => .inl hti), (own_get HOW.out htc).1]
          congr 2
          have : (xs.filter fun s => !isOne s)[t] = (cur.take i)[t]'(by rw [HTK.out]; exact ht) := by simp only [HTK.out]
          rw [this, List.getElem_take]
end Go.Proofs.YtdpdkojeapaflaaGreatDoor

namespace Go.Proofs.YtdpdkojeapaflaaGreatDoor
open Go.RowKit
set_option maxRecDepth 100000

/-- The first error of a diagonal. -/
def ostep : Option ByteArray → List ByteArray → Int
  | _, [] => 0
  | p, s :: l => if chk s.data.toList = 0 then (if num s < 0 then 2 else if num s = 0 then 10 else if fits p s then ostep (some s) l else 9) else chk s.data.toList
def ochk (xs : List ByteArray) : Int := if 16 < xs.length then 5 else ostep none xs
/-- What Of keeps. -/
def okeep (xs : List ByteArray) : List ByteArray := if ochk xs = 0 then xs.filter fun s => !isOne s else []
structure OAt (xs : List ByteArray) (k : Nat) : Prop where
  le : k ≤ xs.length
  eq : ochk xs = ostep (before xs k) (xs.drop k)
  prev : ∀ h : 0 < k, ∃ z, Good (xs[k - 1]'(by omega)) z ∧ 1 ≤ z
theorem OAt.start {xs : List ByteArray} (h : xs.length ≤ 16) : OAt xs 0 := ⟨Nat.zero_le _, by unfold ochk; rw [if_neg (by omega)]; rfl, fun h => absurd h (by omega)⟩
theorem OAt.next {xs : List ByteArray} {k : Nat} (h : OAt xs k) (hk : k < xs.length) (h0 : chk xs[k].data.toList = 0) (h1 : ¬ num xs[k] < 0) (h2 : ¬ num xs[k] = 0) (hf : fits (before xs k) xs[k] = true) : OAt xs (k + 1) :=
  ⟨hk, by rw [h.eq, List.drop_eq_getElem_cons hk, ostep, if_pos h0, if_neg h1, if_neg h2, if_pos hf, before_succ xs k hk], fun _ => ⟨num xs[k], by simpa using good_num h0, by omega⟩⟩
theorem OAt.val {xs : List ByteArray} {k : Nat} (h : OAt xs k) (hk : k < xs.length) : ochk xs = if chk xs[k].data.toList = 0 then (if num xs[k] < 0 then 2 else if num xs[k] = 0 then 10 else if fits (before xs k) xs[k] then ostep (some xs[k]) (xs.drop (k + 1)) else 9) else chk xs[k].data.toList := by
  rw [h.eq, List.drop_eq_getElem_cons hk, ostep]
theorem OAt.done {xs : List ByteArray} (h : OAt xs xs.length) : ochk xs = 0 := by rw [h.eq, List.drop_length]; cases before xs xs.length <;> rfl

theorem lit_zero (ch : UInt8) (rs : List UInt8) : ((⟨(ch :: rs).toArray⟩ : ByteArray).toList == [48]) = (ch == 48 && rs.isEmpty) := by
  rw [ByteArray.toList_eq]
  cases rs <;> simp
set_option maxHeartbeats 4000000 in
theorem AOf_any (w : World) (v : Value) (xs : List ByteArray) (hv : Sl eS w v xs) (hsz : xs.length ≤ 16 → ∀ s ∈ xs, s.size ≤ 1000000) (he : Env w) :
    Calls Tryz.prog 19 #[v] w (Rets fun v w' => ∃ r, v = .tuple #[r, .int .i64 (ochk xs)] ∧ Sl eS w' r (okeep xs) ∧ Below w.heap.size w w') := by
  have HVV := Lib.hid hv
  obtain ⟨a, b, o, c, rfl, hi, hp, hc, hm⟩ := hv.open elemStr
  have HE := Lib.hid he
  clear hv he
  unfold maxLen at hm
  by_cases h16 : 16 < xs.length
  · have HG := Lib.hid (show ochk xs = 5 by unfold ochk; rw [if_pos h16])
    clear hsz
    go_enter Tryz.func19, Tryz.ntmps19
    go_wp2
    go_ret2
    exact ⟨_, rfl, _, by rw [HG.out]; rfl, by rw [okeep, HG.out, if_neg (by decide)]; exact Sl.nil, Below.refl _ _⟩
  · have hs := hsz (by omega)
    have HS := Lib.hid hs
    have hl : xs.length ≤ 16 := by omega
    clear hsz hs
    go_enter Tryz.func19, Tryz.ntmps19
    go_wp2
    go_loopw [12] (fun i wr => ∃ k : Nat, k ≤ xs.length ∧ i = .int .i64 k ∧ Hid (OAt xs k) ∧ Below w.heap.size w wr) (fun i _ => xs.length - (intOf i).toNat)
    case atStart => exact ⟨0, Nat.zero_le _, rfl, Lib.hid (OAt.start hl), Below.refl _ _⟩
    case round =>
      obtain ⟨k, hk, rfl, hA, hb⟩ := hrel
      by_cases hkn : k < xs.length
      · have h1 : wr.cell? ⟨b, o + k, none⟩ = some (.string xs[k]) := hp.at hb (Nat.le_refl _) k hkn
        have hV := hA.out.val hkn
        have hsk := HS.out _ (List.getElem_mem hkn)
        by_cases h0 : chk xs[k].data.toList = 0
        · rw [if_pos h0] at hV
          have hG := good_num h0
          obtain ⟨y, hy⟩ : ∃ y, num xs[k] = y := ⟨_, rfl⟩
          rw [hy] at hG hV
          obtain ⟨ch, rs, ht, hch⟩ := txt_head y
          have hax : xs[k] = ⟨(ch :: rs).toArray⟩ := by rw [hG.eq, ht]
          have hs0 : ∀ h, (({ data := (ch :: rs).toArray } : ByteArray)[0]'h) = ch := fun _ => rfl
          have HNX := Lib.hid (fun h1 h2 hf => hA.out.next hkn h0 (by rw [hy]; exact h1) (by rw [hy]; exact h2) hf)
          have HC := Lib.hid (show chk (⟨(ch :: rs).toArray⟩ : ByteArray).data.toList = 0 by rw [← hax]; exact h0)
          have HG := Lib.hid (show Good (⟨(ch :: rs).toArray⟩ : ByteArray) y by rw [← hax]; exact hG)
          have HSK := Lib.hid (show (⟨(ch :: rs).toArray⟩ : ByteArray).size ≤ 1000000 by rw [← hax]; exact hsk)
          rw [hax] at h1
          by_cases hneg : y < 0
          · rw [if_pos hneg] at hV
            have HV := Lib.hid hV
            have hc45 : ((ch.toNat : Int) == 45) = true := by rw [hch]; simp [hneg]
            clear hV hG h0 hsk hy ht hch hax hneg
            go_wp2_with (go_at_call 70; (with_reducible refine (check_any _ _ HSK.out).mono ?_); rintro e w1 ⟨v, rfl, rfl, hb1⟩; rw [HC.out]; have b1 := hb.trans (hb1.mono hb.size))
            go_ret2
            exact ⟨_, rfl, _, by rw [HV.out]; rfl, by rw [okeep, HV.out, if_neg (by decide)]; exact Sl.nil, b1⟩
          · rw [if_neg hneg] at hV
            have hc45 : ((ch.toNat : Int) == 45) = false := by rw [hch]; simp [hneg]
            by_cases hz : y = 0
            · rw [if_pos hz] at hV
              have HV := Lib.hid hV
              have hzz : (ch == 48 && rs.isEmpty) = true := by rw [← lit_zero, ← ht, hz, txt_list, itoa0]; rfl
              clear hV hG h0 hsk hy ht hch hax hneg hz
              go_wp2_with (go_at_call 70; (with_reducible refine (check_any _ _ HSK.out).mono ?_); rintro e w1 ⟨v, rfl, rfl, hb1⟩; rw [HC.out]; have b1 := hb.trans (hb1.mono hb.size))
              go_ret2
              exact ⟨_, rfl, _, by rw [HV.out]; rfl, by rw [okeep, HV.out, if_neg (by decide)]; exact Sl.nil, b1⟩
            · rw [if_neg hz] at hV
              have hzz : (ch == 48 && rs.isEmpty) = false := by rw [← lit_zero, ← ht]; exact txt_ne0 hz
              rcases k with _ | k
              · rw [Nat.add_zero] at h1
                have HN := Lib.hid (HNX.out hneg hz rfl)
                clear hV hG h0 hsk hy ht hch hax hneg hz
                go_wp2_with (go_at_call 70; (with_reducible refine (check_any _ _ HSK.out).mono ?_); rintro e w1 ⟨v, rfl, rfl, hb1⟩; rw [HC.out]; have b1 := hb.trans (hb1.mono hb.size))
                go_roundw
                case rel => exact ⟨1, by omega, rfl, HN, b1⟩
                case measure => simp [intOf]; omega
              · have hkp : k < xs.length := by omega
                obtain ⟨z, hgz, hz1⟩ := hA.out.prev (by omega)
                have hgz : Good xs[k] z := by simpa using hgz
                have hbf : fits (before xs (k + 1)) xs[k + 1] = decide (Int.fmod y z = 0) := by rw [before_succ xs k hkp]; simp only [fits]; rw [hgz.num, hy]
                have HZ := Lib.hid hgz; have HZ0 := Lib.hid (show z ≠ 0 by omega)
                by_cases hf : Int.fmod y z = 0
                · have HD := Lib.hid (show decide (Int.fmod y z = 0) = true by simp [hf])
                  have HN := Lib.hid (HNX.out hneg hz (by rw [hbf, HD.out]))
                  clear hV hG h0 hsk hy ht hch hax hneg hz hgz hbf hf
                  go_wp2_with (first
                    | (go_at_call 70; (with_reducible refine (check_any _ _ HSK.out).mono ?_); rintro e w1 ⟨v, rfl, rfl, hb1⟩; rw [HC.out]; have b1 := hb.trans (hb1.mono hb.size); have h4 : w1.cell? ⟨b, o + k, none⟩ = some (.string xs[k]) := hp.at b1 (Nat.le_refl _) k hkp)
                    | (go_at_call 71; (with_reducible refine (adivides_any _ _ _ z y HZ.out HG.out HZ0.out (HE.out.below b1 (Nat.le_refl _))).mono ?_); rintro e w3 ⟨v, rfl, rfl, hb3⟩; rw [HD.out]; have b3 := b1.trans (hb3.mono b1.size)))
                  go_roundw
                  case rel => exact ⟨k + 2, by omega, by go_num, HN, b3⟩
                  case measure => simp [intOf]; omega
                · have HD := Lib.hid (show decide (Int.fmod y z = 0) = false by simp [hf])
                  rw [hbf, HD.out, if_neg (by decide)] at hV
                  have HV := Lib.hid hV
                  clear hV hG h0 hsk hy ht hch hax hneg hz hgz hbf hf
                  go_wp2_with (first
                    | (go_at_call 70; (with_reducible refine (check_any _ _ HSK.out).mono ?_); rintro e w1 ⟨v, rfl, rfl, hb1⟩; rw [HC.out]; have b1 := hb.trans (hb1.mono hb.size); have h4 : w1.cell? ⟨b, o + k, none⟩ = some (.string xs[k]) := hp.at b1 (Nat.le_refl _) k hkp)
                    | (go_at_call 71; (with_reducible refine (adivides_any _ _ _ z y HZ.out HG.out HZ0.out (HE.out.below b1 (Nat.le_refl _))).mono ?_); rintro e w3 ⟨v, rfl, rfl, hb3⟩; rw [HD.out]; have b3 := b1.trans (hb3.mono b1.size)))
                  go_ret2
                  exact ⟨_, rfl, _, by rw [HV.out]; rfl, by rw [okeep, HV.out, if_neg (by decide)]; exact Sl.nil, b3⟩
        · rw [if_neg h0] at hV
          have hne : (chk xs[k].data.toList != 0) = true := by simp [h0]
          have HV := Lib.hid hV; have H0 := Lib.hid h0
          clear hV h0
          go_wp2_with (go_at_call 70; (with_reducible refine (check_any _ _ hsk).mono ?_); rintro e w1 ⟨v, rfl, rfl, hb1⟩; have b1 := hb.trans (hb1.mono hb.size))
          go_ret2
          exact ⟨_, rfl, _, by rw [HV.out]; rfl, by rw [okeep, HV.out, if_neg H0.out]; exact Sl.nil, b1⟩
      · obtain rfl : k = xs.length := by omega
        have HV := Lib.hid hA.out.done
        go_wp2_with (first
          | (go_at_call 73; (with_reducible refine (clone_any _ _ xs (HVV.out.below hb (Nat.le_refl _)) (by omega)).mono ?_); rintro e w1 ⟨v1, rfl, ho1, hb1⟩; have HO1 := Lib.hid ho1; have b1 := hb.trans (hb1.mono hb.size); clear ho1)
          | (go_at_call 72; (with_reducible refine (delete_any _ _ xs wr.heap.size HO1.out (by omega)).mono ?_); rintro e w2 ⟨v2, rfl, hs2, hb2⟩; have HS2 := Lib.hid hs2; have b2 := b1.trans (hb2.mono hb.size); clear hs2))
        go_ret2
        exact ⟨_, rfl, _, by rw [HV.out]; rfl, by rw [okeep, if_pos HV.out]; exact HS2.out, b2⟩
end Go.Proofs.YtdpdkojeapaflaaGreatDoor
