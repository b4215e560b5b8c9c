/- The walks of slices.Clone, DeleteFunc and Index over ints, as euler's rooted calls them. -/
import Derived.Test.YtlnhocgjgmhfgaaGreatDoorPk13
import Derived.Laws.AppendOwnNone
import Derived.Lib.SliceRun
namespace Go.Proofs.YtlnhocgjgmhfgaaGreatDoor
open Go.RowKit
set_option maxRecDepth 100000

def eJ (x : Nat) : Value := .int .i64 (x : Nat)
def isR (rt x : Nat) : Bool := decide (x = rt)
theorem nil_noN (a : Addr) (n c : Nat) (w : World) : (binOp BinOp.eql 36 (.slice (some a) n c) (.slice none 0 0)).run Tryz.prog w = .ok (.bool false) w := by kernel_rfl
theorem nil_yesN (w : World) : (binOp BinOp.eql 36 (.slice none 0 0) (.slice none 0 0)).run Tryz.prog w = .ok (.bool true) w := by kernel_rfl
theorem rooted1 (w : World) (x rt rb : Nat) (hr : w.cell? ⟨rb, 0, none⟩ = some (.int .i64 (rt : Nat))) : Calls Tryz.prog 73 #[.int .i64 (x : Nat), .pointer (some ⟨rb, 0, none⟩)] w (Rets fun v w' => v = .bool (isR rt x) ∧ w = w') := by
  by_cases h : x = rt
  · have h1 : ((x : Int) == (rt : Int)) = true := by simp [h]
    have HR := Lib.hid (show isR rt x = true by simp [isR, h])
    rw [HR.out]
    clear h
    go_enter Tryz.func73, Tryz.ntmps73
    go_wp2
    go_ret
    exact ⟨_, rfl, rfl, rfl⟩
  · have h1 : ((x : Int) == (rt : Int)) = false := by simp; omega
    have HR := Lib.hid (show isR rt x = false by simp [isR, h])
    rw [HR.out]
    clear h
    go_enter Tryz.func73, Tryz.ntmps73
    go_wp2
    go_ret
    exact ⟨_, rfl, rfl, rfl⟩
set_option maxHeartbeats 1000000 in
theorem idxR_none (w : World) (v : Value) (xs : List Nat) (rt rb : Nat) (hr : w.cell? ⟨rb, 0, none⟩ = some (.int .i64 (rt : Nat))) (hv : Sl eJ w v xs) (h : ∀ s ∈ xs, (isR rt s) = false) :
    Calls Tryz.prog 94 #[v, .func (.func 73) #[] #[.pointer (some ⟨rb, 0, none⟩)]] w (Rets fun v w' => v = .int .i64 (-1) ∧ w = w') := by
  obtain ⟨a, b, o, c, rfl, hi, hp, hc, hm⟩ := hv.open elemI
  have H := Lib.hid h; have HR := Lib.hid hr
  clear hv h hr
  unfold maxLen at hm
  go_enter Tryz.func94, Tryz.ntmps94
  go_wp2
  go_loop [8] (fun i => ∃ k : Nat, k ≤ xs.length ∧ i = .int .i64 k) (fun i => xs.length - (intOf i).toNat)
  case atStart => exact ⟨0, Nat.zero_le _, rfl⟩
  case round =>
    obtain ⟨k, hk, rfl⟩ := hrel
    by_cases hkn : k < xs.length
    · have h1 : w.cell? ⟨b, o + k, none⟩ = some (.int .i64 (xs[k] : Nat)) := hp.2 k hkn
      have HB := Lib.hid (H.out _ (List.getElem_mem hkn))
      go_wp2_with (go_at_call 73; (with_reducible refine (rooted1 _ xs[k] rt rb HR.out).mono ?_); rintro e w1 ⟨v, rfl, rfl, rfl⟩; rw [HB.out])
      go_round
      case rel => exact ⟨k + 1, by omega, by go_num⟩
      case measure => simp [intOf]; omega
    · obtain rfl : k = xs.length := by omega
      go_wp2
      go_ret
      exact ⟨_, rfl, rfl, rfl⟩
set_option maxHeartbeats 1000000 in
theorem idxR_some (w : World) (v : Value) (xs : List Nat) (rt rb : Nat) (hr : w.cell? ⟨rb, 0, none⟩ = some (.int .i64 (rt : Nat))) (hv : Sl eJ w v xs) (m : Nat) (hm : m < xs.length) (h : (isR rt xs[m]) = true) (h2 : ∀ j (hj : j < m), (isR rt (xs[j]'(by omega))) = false) :
    Calls Tryz.prog 94 #[v, .func (.func 73) #[] #[.pointer (some ⟨rb, 0, none⟩)]] w (Rets fun v w' => v = .int .i64 m ∧ w = w') := by
  obtain ⟨a, b, o, c, rfl, hi, hp, hc, hcm⟩ := hv.open elemI
  have H := Lib.hid h; have H2 := Lib.hid h2; have HR := Lib.hid hr
  clear hv h h2 hr
  unfold maxLen at hcm
  go_enter Tryz.func94, Tryz.ntmps94
  go_wp2
  go_loop [8] (fun i => ∃ k : Nat, k ≤ m ∧ i = .int .i64 k) (fun i => xs.length - (intOf i).toNat)
  case atStart => exact ⟨0, Nat.zero_le _, rfl⟩
  case round =>
    obtain ⟨k, hk, rfl⟩ := hrel
    have hkn : k < xs.length := by omega
    have h1 : w.cell? ⟨b, o + k, none⟩ = some (.int .i64 (xs[k] : Nat)) := hp.2 k hkn
    by_cases hkm : k < m
    · have HB := Lib.hid (H2.out k hkm)
      go_wp2_with (go_at_call 73; (with_reducible refine (rooted1 _ xs[k] rt rb HR.out).mono ?_); rintro e w1 ⟨v, rfl, rfl, rfl⟩; rw [HB.out])
      go_round
      case rel => exact ⟨k + 1, by omega, by go_num⟩
      case measure => simp [intOf]; omega
    · obtain rfl : k = m := by omega
      go_wp2_with (go_at_call 73; (with_reducible refine (rooted1 _ xs[k] rt rb HR.out).mono ?_); rintro e w1 ⟨v, rfl, rfl, rfl⟩; rw [H.out])
      go_ret
      exact ⟨_, rfl, rfl, rfl⟩
theorem first_hitN (p : Nat → Bool) : ∀ (xs : List Nat), xs.any p = true → ∃ m, ∃ h : m < xs.length, p xs[m] = true ∧ ∀ j (hj : j < m), p (xs[j]'(by omega)) = false
  | [], h => by simp at h
  | x :: l, h => by
    by_cases hx : p x = true
    · exact ⟨0, by simp, hx, fun j hj => absurd hj (by omega)⟩
    · obtain ⟨m, hm, h1, h2⟩ := first_hitN p l (by simpa [hx] using h)
      refine ⟨m + 1, by simpa using hm, by simpa using h1, fun j hj => ?_⟩
      cases j with
      | zero => simpa using hx
      | succ j => simpa using h2 j (by omega)
section
variable {P : Program} {t e : TypeId} {z : Value} {bytes : Nat} {ops : Array Oper} {rest : List Oper} {o : Oper} {a : Act} {Q : Exit → Act → World → Prop}
/-- 'append([]T{}, xs...)', xs not nil. -/
theorem appCN {α : Type} {enc : α → Value} (hE : ElemOk P t e z 1 bytes) (hgd : o.guard = none) (s x : Operand) (ho : o.op = .call { callee := .builtin .append, args := #[s, x], argTypes := #[t, t] })
    {xs : List α} {B : Nat} {w0 w1 W : World} {v : Value} {ad : Addr} {c : Nat} (hown : w1.ownsRow w0.heap.size e 1 v 0 []) (hb1 : Below B W w1) (hs0 : w0.heap.size ≤ w1.heap.size) (hBw : B ≤ w0.heap.size) (hs : a.eval s = v) (hx : a.eval x = .slice (some ad) xs.length c) (hv : Sl enc w1 (.slice (some ad) xs.length c) xs)
    (h2 : ∀ y, (enc y).oneCell' = true) (hn : xs.length * bytes ≤ 140737488355328) (hn' : xs.length ≤ maxLen)
    (h : ∀ v' w', w'.ownsRow w0.heap.size e 1 v' xs.length (xs.map enc) → Below B W w' → wpList P ops Q rest (a.put o.dst v') w') :
    wpList P ops Q (o :: rest) a w1 := by
  obtain ⟨i, hi, hz, hsz, hby⟩ := hE.info
  obtain ⟨ad', b, off, c', he, ha, hc, hm, hnn, hcell⟩ := hv
  cases he
  have hnews : ∀ j y, (xs.map enc)[j]? = some y → w1.cell? (ad.add j) = some y := by
    intro j y hj
    have hj' : j < xs.length := by have := (List.getElem?_eq_some_iff.1 hj).1; simpa using this
    have := ha (by omega)
    cases this
    have h3 := hcell.2 j hj'
    simp [hj'] at hj
    rw [show (⟨b, off, none⟩ : Addr).add j = ⟨b, off + j, none⟩ by simp [Addr.add], h3, hj]
  refine wpList_append_own _ hgd s x t ho w0.heap.size e i z 1 bytes hE.und hi hz hsz hby hE.cells hE.pos _ 0 [] hs hown ad xs.length c (xs.map enc) hx (by simp) hnews (by intro y hy; obtain ⟨y', _, rfl⟩ := List.mem_map.1 hy; exact h2 y') (by rw [Nat.zero_add]; exact hn') (by rw [Nat.zero_add]; exact hn) hs0 ?_
  intro v' w' ho' hg _
  rw [Nat.zero_add, List.nil_append] at ho'
  exact h v' w' ho' (hb1.grown hg (by omega) (fun j hj => by have := (hown.lt j hj).1; omega))
end

set_option maxHeartbeats 1000000 in
theorem cloneN_any (w : World) (v : Value) (xs : List Nat) (hv : Sl eJ w v xs) (hl : xs.length ≤ 1000000) :
    Calls Tryz.prog 44 #[v] w (Rets fun v' w' => w'.ownsRow w.heap.size 3 1 v' xs.length (xs.map eJ) ∧ Below w.heap.size w w') := by
  have HV := Lib.hid hv
  have hn1 := nil_noN
  have hn2 := nil_yesN
  obtain ⟨a, b, o, c, rfl, ha, hc, hm, hn0, hp⟩ := hv
  cases a with
  | none =>
    have hc0 := hn0 rfl
    have hl0 : xs.length = 0 := by omega
    obtain rfl : xs = [] := List.length_eq_zero_iff.1 hl0
    subst hc0
    clear HV ha hp hn0
    go_enter Tryz.func44, Tryz.ntmps44
    go_wp2
    go_ret
    exact ⟨_, rfl, World.ownsRow_nil _ _ _ _, Below.refl _ _⟩
  | some a =>
    clear ha hp hn0
    have HO : Hid ((w.alloc (.cells #[] 3)).ownsRow w.heap.size 3 1 (.slice (some ⟨w.heap.size, 0, none⟩) 0 0) 0 []) := Lib.hid ⟨rfl, .inr ⟨w.heap.size, 0, #[], rfl, by omega, heap_alloc_new w _, by omega, by simp [maxLen], rfl, rfl⟩⟩
    have HB0 := Lib.hid ((Below.refl w.heap.size w).alloc (Nat.le_refl _) (.cells #[] 3))
    go_enter Tryz.func44, Tryz.ntmps44
    go_wp2_with (at_builtin; refine appCN elemI rfl _ _ rfl (w0 := w) HO.out HB0.out (by simp) (Nat.le_refl _) rfl rfl (HV.out.below HB0.out (Nat.le_refl _)) (fun y => by simp [eJ, Value.oneCell']) (by omega) (by unfold maxLen; omega) ?_; intro v' w2 hown' hb'; have HO2 := Lib.hid hown'; clear hown')
    go_ret
    exact ⟨_, rfl, HO2.out, hb'⟩

theorem size_scN (b : Nat) : ∀ (vs : List Value) (o : Nat) (w : World), (w.setCells b o vs).heap.size = w.heap.size
  | [], _, _ => rfl
  | _ :: r, o, _ => by rw [World.setCells, size_scN b r]; simp
theorem below_scN {B b : Nat} {a : World} (hb : B ≤ b) : ∀ (vs : List Value) (o : Nat) (w : World), Below B a w → Below B a (w.setCells b o vs)
  | [], _, _, h => h
  | v :: r, o, _, h => below_scN hb r (o + 1) _ (h.setCell hb v)
theorem take_filterN (p : Nat → Bool) (xs : List Nat) (j : Nat) (h : j < xs.length) : (xs.take (j + 1)).filter p = (xs.take j).filter p ++ (if p xs[j] then [xs[j]] else []) := by
  rw [List.take_succ_eq_append_getElem h, List.filter_append]
  congr 1
  by_cases hp : p xs[j] <;> simp [hp]
set_option maxHeartbeats 4000000 in
theorem deleteN_any (w : World) (v : Value) (xs : List Nat) (base rt rb : Nat) (hr : w.cell? ⟨rb, 0, none⟩ = some (.int .i64 (rt : Nat))) (hrb : rb < base) (hown : w.ownsRow base 3 1 v xs.length (xs.map eJ)) (hl : xs.length ≤ 1000000) :
    Calls Tryz.prog 72 #[v, .func (.func 73) #[] #[.pointer (some ⟨rb, 0, none⟩)]] w (Rets fun v' w' => Sl eJ w' v' (xs.filter fun s => !isR rt s) ∧ Below base w w') := by
  have HS := Lib.hid (Sl.ofOwns hown)
  have HO := Lib.hid hown
  cases ha : xs.any (isR rt)
  · have hn : ∀ s ∈ xs, isR rt s = false := fun s hs => by have := List.any_eq_false.1 ha s hs; simpa using this
    have HN := Lib.hid hn
    have HF := Lib.hid (show (xs.filter fun s => !isR rt s) = xs by rw [List.filter_eq_self]; intro s hs; rw [hn s hs]; rfl)
    obtain ⟨a, b, o, c, rfl, -, -, -, -⟩ := (Sl.ofOwns hown).open elemI
    clear hown ha hn
    go_enter Tryz.func72, Tryz.ntmps72
    go_wp2_with (go_at_call 94; (with_reducible refine (idxR_none _ _ xs rt rb hr HS.out HN.out).mono ?_); rintro e w1 ⟨v, rfl, rfl, rfl⟩)
    go_ret
    exact ⟨_, rfl, by rw [HF.out]; exact HS.out, Below.refl _ _⟩
  · obtain ⟨m, hm, h1, h2⟩ := first_hitN (isR rt) xs ha
    rcases hown.2 with ⟨rfl, h0⟩ | ⟨g, cap, cur0, rfl, hg, hgl, hc, hcm, hsz, ht⟩
    · exact absurd hm (by have h9 : xs = [] := by simpa using h0
                          rw [h9]; simp)
    · have HFM := Lib.hid (show (xs.take m).filter (fun s => !isR rt s) = xs.take m by
        rw [List.filter_eq_self]; intro s hs
        obtain ⟨i, hi, rfl⟩ := List.getElem_of_mem hs
        simp at hi
        rw [List.getElem_take, h2 i (by omega)]; rfl)
      have HP := Lib.hid h1; have HQ := Lib.hid h2
      have hm0 : (0 : Int) ≤ (m : Int) := by omega
      have hmn : ((m : Int) == -1) = false := by simp
      have HGB := Lib.hid hg; have HR0 := Lib.hid hr
      clear hown ha h1 h2 hgl hsz ht hg
      go_enter Tryz.func72, Tryz.ntmps72
      go_wp2_with (go_at_call 94; (with_reducible refine (idxR_some _ _ xs rt rb hr HS.out m hm HP.out HQ.out).mono ?_); rintro e w1 ⟨v, rfl, rfl, rfl⟩)
      go_loopw [5, 6] (fun iv jv wr => ∃ (i j : Nat) (cur : List Nat), i < j ∧ j ≤ xs.length ∧ iv = .int .i64 i ∧ jv = .int .i64 j ∧ Hid (cur.length = xs.length) ∧ Hid (cur.drop j = xs.drop j) ∧ Hid (cur.take i = (xs.take j).filter fun s => !isR rt s) ∧
        wr.ownsRow base 3 1 (.slice (some ⟨g, 0, none⟩) xs.length cap) xs.length (cur.map eJ) ∧ Below base w wr) (fun _ jv _ => xs.length - (intOf jv).toNat)
      case atStart => exact ⟨m, m + 1, xs, by omega, by omega, rfl, by go_num, Lib.hid rfl, Lib.hid rfl, Lib.hid (by rw [take_filterN _ _ _ hm, HFM.out, HP.out]; simp), HO.out, Below.refl _ _⟩
      case round =>
        obtain ⟨i, j, cur, hij, hj, rfl, rfl, hcl, hdr, htk, hown, hb⟩ := hrel
        have HR := Lib.hid (show wr.cell? ⟨rb, 0, none⟩ = some (.int .i64 (rt : Nat)) from (World.cell?_of_block (a := ⟨rb, 0, none⟩) (hb.block rb hrb)).trans HR0.out)
        by_cases hjn : j < xs.length
        · have hjc : j < cur.length := by rw [hcl.out]; exact hjn
          have hic : i < cur.length := by omega
          have hxj : cur[j] = xs[j] := by
            have := hdr.out
            rw [List.drop_eq_getElem_cons hjc, List.drop_eq_getElem_cons hjn] at this
            injection this
          have h1 : wr.cell? ⟨g, j, none⟩ = some (.int .i64 (xs[j] : Nat)) := by have := (own_get hown hjc).1; rw [hxj] at this; exact this
          have hin : i < xs.length := by omega
          obtain ⟨u, -, hcu, hfr⟩ := own_at hown hin
          have HOW := Lib.hid hown
          have hdr1 : cur.drop (j + 1) = xs.drop (j + 1) := by
            have := hdr.out
            rw [List.drop_eq_getElem_cons hjc, List.drop_eq_getElem_cons hjn] at this
            injection this
          have HD1 := Lib.hid hdr1
          have htf := take_filterN (fun s => !isR rt s) xs j hjn
          cases hp : isR rt xs[j]
          · have HPP := Lib.hid hp
            rw [hp] at htf
            have HTF := Lib.hid htf
            clear hown hxj hdr1 htf hp
            go_wp2_with (go_at_call 73; (with_reducible refine (rooted1 _ xs[j] rt rb HR.out).mono ?_); rintro e w2 ⟨v, rfl, rfl, rfl⟩; rw [HPP.out])
            go_roundw
            case rel =>
              have R := fun (q : Value) (hq : q = eJ xs[j]) => own_put HOW.out hb HGB.out i xs[j] q hq
              refine ⟨i + 1, j + 1, cur.set i xs[j], by omega, by omega, by go_num, by go_num, Lib.hid (by rw [List.length_set]; exact hcl.out), Lib.hid ?_, Lib.hid ?_, (R _ rfl).1, (R _ rfl).2⟩
              · rw [List.drop_set_of_lt (by omega)]; exact HD1.out
              · rw [HTF.out, ← htk.out]
                have hi2 : i < (cur.set i xs[j]).length := by rw [List.length_set]; exact hic
                rw [List.take_succ_eq_append_getElem hi2, List.take_set_of_le (Nat.le_refl _), List.getElem_set_self]
                rfl
            case measure => simp [intOf]; omega
          · have HPP := Lib.hid hp
            rw [hp] at htf
            have HTF : Hid ((xs.take (j + 1)).filter (fun s => !isR rt s) = (xs.take j).filter fun s => !isR rt s) := Lib.hid (by rw [htf]; simp)
            clear hown hxj hdr1 htf hp
            go_wp2_with (go_at_call 73; (with_reducible refine (rooted1 _ xs[j] rt rb HR.out).mono ?_); rintro e w2 ⟨v, rfl, rfl, rfl⟩; rw [HPP.out])
            go_roundw
            case rel => exact ⟨i, j + 1, cur, by omega, by omega, rfl, by go_num, hcl, HD1, Lib.hid (by rw [HTF.out]; exact htk.out), HOW.out, hb⟩
            case measure => simp [intOf]; omega
        · obtain rfl : j = xs.length := by omega
          have hic : i < xs.length := hij
          have HOW := Lib.hid hown
          have HTK := Lib.hid (show cur.take i = xs.filter fun s => !isR rt s by have := htk.out; rwa [List.take_length] at this)
          have hcl2 : ∀ ty, (Builtin.clear_ #[36] ty #[.slice (some ⟨g, i, none⟩) (xs.length - i) (cap - i)]).run Tryz.prog wr = .ok (.tuple #[]) (wr.setCells g i (List.replicate (xs.length - i) (.int .i64 0))) := fun ty =>
            Lib.run_clear_slice wr _ _ ty _ Tryz.underlying36 (fun w => by kernel_rfl) rfl rfl g i _ _ (by omega) (fun t ht => by rw [(own_get hown (k := i + t) (by rw [hcl.out]; omega)).1]; rfl) (fun t ht => (own_get hown (k := i + t) (by rw [hcl.out]; omega)).2)
          have q1 : (0 : Int) ≤ (i : Int) := by omega
          have q2 : (i : Int) ≤ (xs.length : Int) := by omega
          have q3 : ¬ cap = i := by omega
          clear hown hcl hdr htk
          go_wp2
          go_ret
          have hcl3 : cur.length = xs.length := by have := HOW.out.1; simpa using this
          have hL : (xs.filter fun s => !isR rt s).length = i := by rw [← HTK.out, List.length_take]; omega
          refine ⟨_, rfl, ⟨some ⟨g, 0, none⟩, g, 0, cap, by rw [hL]; rfl, fun _ => rfl, by omega, hcm, fun h => absurd h (by simp), ⟨fun _ => by rw [size_scN]; exact (HOW.out.lt g rfl).2, fun t ht => ?_⟩⟩, below_scN HGB.out _ _ _ hb⟩
          have hti : t < i := by omega
          have htc : t < cur.length := by omega
          rw [Nat.zero_add, World.cell?_setCells_out g _ _ _ _ (fun _ _ => .inl hti), (own_get HOW.out htc).1]
          congr 2
          have : (xs.filter fun s => !isR rt s)[t] = (cur.take i)[t]'(by rw [HTK.out]; exact ht) := by simp only [HTK.out]
          rw [this, List.getElem_take]
/-- Where a number lies in a list, or -1. -/
def idxN (xs : List Nat) (x : Nat) : Int := if x ∈ xs then (xs.findIdx (isR x) : Int) else -1
set_option maxHeartbeats 1000000 in
theorem IndexN_any (w : World) (v : Value) (xs : List Nat) (x : Nat) (hv : Sl eJ w v xs) :
    Calls Tryz.prog 74 #[v, .int .i64 (x : Nat)] w (Rets fun r w' => r = .int .i64 (idxN xs x) ∧ w = w') := by
  obtain ⟨a, b, o, c, rfl, hi, hp, hc, hm⟩ := hv.open elemI
  clear hv
  unfold maxLen at hm
  by_cases hx : x ∈ xs
  · have hex : ∃ m : Nat, idxN xs x = (m : Int) ∧ ∃ hlt : m < xs.length, xs[m] = x ∧ ∀ j (hj : j < xs.length), j < m → xs[j] ≠ x := by
      have hlt : xs.findIdx (isR x) < xs.length := List.findIdx_lt_length_of_exists ⟨x, hx, by simp [isR]⟩
      refine ⟨xs.findIdx (isR x), by unfold idxN; rw [if_pos hx], hlt, ?_, fun j hj h e => ?_⟩
      · have := List.findIdx_getElem (w := hlt)
        simpa [isR] using this
      · have := List.not_of_lt_findIdx h
        simp [isR, e] at this
    obtain ⟨m, hix, hlt, hat, hbe⟩ := hex
    rw [hix]
    have HB := Lib.hid hbe; have HA := Lib.hid hat
    clear hx hbe hat hix
    go_enter Tryz.func74, Tryz.ntmps74
    go_wp2
    go_loop [8] (fun i => ∃ k : Nat, k ≤ m ∧ i = .int .i64 k) (fun i => xs.length - (intOf i).toNat)
    case atStart => exact ⟨0, Nat.zero_le _, rfl⟩
    case round =>
      obtain ⟨k, hk, rfl⟩ := hrel
      have hkn : k < xs.length := by omega
      have h1 : w.cell? ⟨b, o + k, none⟩ = some (.int .i64 (xs[k] : Nat)) := hp.2 k hkn
      have q1 : (0 : Int) ≤ (k : Int) := by omega
      have q2 : (k : Int) < (xs.length : Int) := by omega
      by_cases hkm : k < m
      · have hne : ((x : Int) == (xs[k] : Int)) = false := by have := HB.out k hkn hkm; simp; omega
        go_wp2
        go_round
        case rel => exact ⟨k + 1, by omega, by go_num⟩
        case measure => simp [intOf]; omega
      · obtain rfl : k = m := by omega
        have hne : ((x : Int) == (xs[k] : Int)) = true := by rw [HA.out]; simp
        go_wp2
        go_ret
        exact ⟨_, rfl, rfl, rfl⟩
  · have HX := Lib.hid (show idxN xs x = -1 by unfold idxN; rw [if_neg hx])
    have HB := Lib.hid (show ∀ j (hj : j < xs.length), xs[j] ≠ x from fun j hj e => hx (by rw [← e]; exact List.getElem_mem hj))
    rw [HX.out]
    clear hx HX
    go_enter Tryz.func74, Tryz.ntmps74
    go_wp2
    go_loop [8] (fun i => ∃ k : Nat, k ≤ xs.length ∧ i = .int .i64 k) (fun i => xs.length - (intOf i).toNat)
    case atStart => exact ⟨0, Nat.zero_le _, rfl⟩
    case round =>
      obtain ⟨k, hk, rfl⟩ := hrel
      by_cases hkn : k < xs.length
      · have h1 : w.cell? ⟨b, o + k, none⟩ = some (.int .i64 (xs[k] : Nat)) := hp.2 k hkn
        have q1 : (0 : Int) ≤ (k : Int) := by omega
        have q2 : (k : Int) < (xs.length : Int) := by omega
        have hne : ((x : Int) == (xs[k] : Int)) = false := by have := HB.out k hkn; simp; omega
        go_wp2
        go_round
        case rel => exact ⟨k + 1, by omega, by go_num⟩
        case measure => simp [intOf]; omega
      · obtain rfl : k = xs.length := by omega
        go_wp2
        go_ret
        exact ⟨_, rfl, rfl, rfl⟩
end Go.Proofs.YtlnhocgjgmhfgaaGreatDoor
