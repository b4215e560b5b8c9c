/- The walk of the reference's division of digits. The walk of the reference's division of digits: the loops. The walks of slices.Clone, DeleteFunc and Equal over texts, and of abelian's Of. The walk of slices.AppendSeq over an iterator whose values lie in memory. The walks of matrix's closures and of checks. The walks of matrix's Make, Unit, Get, Add, Product, Transpose and Minor. Plain law: the rank of a matrix is unique; that of the transposed matrix is the same, that of a product is at most that of each factor. The walks of matrix's rows and eliminate. The walk of matrix's column. The walks of matrix's Add, Product and Apply. -/
import Derived.Test.YtajkhbpffakmfaaGreatDoorPk3
import Derived.Laws.AppendOwnNone
import Derived.Test.YtajkhbpffakmfaaGreatDoorPk4
import Derived.Test.YtajkhbpffakmfaaGreatDoorPk5
import Derived.Lib.SliceRun
import Derived.Sort.QuietIn
import Derived.Sort.LoopGhostIn
import Derived.Test.YtajkhbpffakmfaaGreatDoorPk2
import Derived.Laws.EntriesVeiled
import Derived.BigRegion
namespace Go.Proofs.YtajkhbpffakmfaaGreatDoor
open Go.RowKit
set_option maxRecDepth 100000

/-- The slice's block is not below B. -/
def From (B : Nat) (v : Value) : Prop := ∀ b o p n c, v = .slice (some ⟨b, o, p⟩) n c → B ≤ b
theorem From.mono {B B' : Nat} {v : Value} (h : From B' v) (hb : B ≤ B') : From B v := fun b o p n c e => Nat.le_trans hb (h b o p n c e)
theorem From.none {B n c : Nat} : From B (.slice none n c) := fun b o p n c e => by cases e
theorem From.len {B n c : Nat} {a : Option Addr} (h : From B (.slice a n c)) (n' c' : Nat) : From B (.slice a n' c') := fun b o p n c e => by cases e; exact h b o p _ _ rfl
theorem From.ofOwns {w : World} {base e sz n : Nat} {v : Value} {xs : List Value} (h : w.ownsRow base e sz v n xs) : From base v := by
  rcases h.2 with ⟨rfl, _⟩ | ⟨g, cap, cur, rfl, hg, _⟩
  · exact From.none
  · intro b o p n c e; cases e; exact hg
theorem Sl.setFrom {w : World} {v : Value} {xs : List Nat} {B g k : Nat} {u : Value} (h : Sl eI w v xs) (hf : From B v) (hg : g < B) : Sl eI (w.setCell ⟨g, k, none⟩ u) v xs := by
  obtain ⟨a, b, o, c, rfl, ha, hc, hm, hn, hx⟩ := h
  refine ⟨a, b, o, c, rfl, ha, hc, hm, hn, fun h => by have := hx.1 h; simpa [World.setCell] using this, fun i hi => ?_⟩
  have hb : B ≤ b := hf b o Option.none _ _ (by rw [ha (by omega)])
  rw [← hx.2 i hi]
  exact World.cell?_of_block (w := w) (Below.heap_setCell _ _ _ _ (show b ≠ g by omega))

section
variable {P : Program} {t e : TypeId} {z : Value} {bytes : Nat} {ops : Array Oper} {rest : List Oper} {o : Oper} {a : Act} {Q : Exit → Act → World → Prop}
/-- 'append([]T{u}, xs...)'. -/
theorem appS {α : Type} {enc : α → Value} (hE : ElemOk P t e z 1 bytes) (hgd : o.guard = none) (s x : Operand) (ho : o.op = .call { callee := .builtin .append, args := #[s, x], argTypes := #[t, t] })
    {u v : Value} {xs : List α} {B : Nat} {w0 W : World} (hs : a.eval s = .slice (some ⟨w0.heap.size, 0, none⟩) 1 1) (hx : a.eval x = v) (hv : Sl enc w0 v xs) (hb : Below B W w0) (hB : B ≤ w0.heap.size)
    (h2 : ∀ y, (enc y).oneCell' = true) (hn : (1 + xs.length) * bytes ≤ 140737488355328) (hn' : 1 + xs.length ≤ maxLen)
    (h : ∀ v' w', w'.ownsRow w0.heap.size e 1 v' (1 + xs.length) (u :: xs.map enc) → Below B W w' → wpList P ops Q rest (a.put o.dst v') w') :
    wpList P ops Q (o :: rest) a (w0.alloc (.cells #[u] e)) := by
  obtain ⟨i, hi, hz, hsz, hby⟩ := hE.info
  have hown : (w0.alloc (.cells #[u] e)).ownsRow w0.heap.size e 1 (.slice (some ⟨w0.heap.size, 0, none⟩) 1 1) 1 [u] := ⟨rfl, .inr ⟨w0.heap.size, 1, #[u], rfl, by omega, heap_alloc_new w0 _, by omega, by simp [maxLen], rfl, rfl⟩⟩
  have hv := hv.below ((Below.refl _ w0).alloc (Nat.le_refl _) (.cells #[u] e)) (Nat.le_refl _)
  obtain ⟨ad, b, off, c, rfl, ha, hc, hm, hnn, hcell⟩ := hv
  cases ad with
  | none =>
    have hc0 := hnn rfl
    have hl0 : xs.length = 0 := by omega
    obtain rfl : xs = [] := List.length_eq_zero_iff.1 hl0
    subst hc0
    refine wpList_append_own_none hgd s x t ho w0.heap.size e i 1 hE.und hi _ 1 [u] hs hown hx ?_
    exact h _ _ hown (hb.alloc (by omega) _)
  | some ad =>
    have hnews : ∀ j y, (xs.map enc)[j]? = some y → (w0.alloc (.cells #[u] e)).cell? (ad.add j) = some y := by
      intro j y hj
      have hj' : j < xs.length := by have := (List.getElem?_eq_some_iff.1 hj).1; simpa using this
      have := ha (by omega)
      cases this
      have h3 := hcell.2 j hj'
      simp [hj'] at hj
      rw [show (⟨b, off, none⟩ : Addr).add j = ⟨b, off + j, none⟩ by simp [Addr.add], h3, hj]
    refine wpList_append_own _ hgd s x t ho w0.heap.size e i z 1 bytes hE.und hi hz hsz hby hE.cells hE.pos _ 1 [u] hs hown ad xs.length c (xs.map enc) hx (by simp) hnews (by intro y hy; obtain ⟨y', _, rfl⟩ := List.mem_map.1 hy; exact h2 y') hn' hn (by simp) ?_
    intro v' w' ho' hg _
    exact h v' w' ho' ((hb.alloc (by omega) _).grown hg (by simp; omega) (fun j hj => by have := (hown.lt j hj).1; omega))
end

set_option maxHeartbeats 400000 in
theorem cut_from (w : World) (v : Value) (xs : List Nat) (hv : Sl eI w v xs) :
    Calls Tryz.prog 132 #[v] w (Rets fun v' w' => Sl eI w' v' (trim xs) ∧ (∀ B, From B v → From B v') ∧ w = w') := by
  have HV := Lib.hid hv
  obtain ⟨a, b, o, c, rfl, hi, hx, hc, hm⟩ := hv.open elemInt
  clear hv
  unfold maxLen at hm
  go_enter Tryz.func132, Tryz.ntmps132
  go_wp2
  go_loop [3] (fun v => ∃ k : Nat, k ≤ xs.length ∧ v = .int .i64 k ∧ Hid (trim (xs.take k) = trim xs)) (fun v => (intOf v).toNat)
  case atStart => exact ⟨xs.length, Nat.le_refl _, rfl, Lib.hid (by simp)⟩
  case round =>
    obtain ⟨k, hk, rfl, HT⟩ := hrel
    rcases k with _ | k
    · go_wp2
      go_ret
      exact ⟨_, rfl, by rw [← HT.out]; exact HV.out.take 0 (Nat.zero_le _), fun B h => h.len _ _, rfl⟩
    · have hp : (0 : Int) < ((k + 1 : Nat) : Int) := by omega
      have h1 : w.cell? ⟨b, o + k, none⟩ = some (.int .i64 (xs[k] : Nat)) := hx.2 k (by omega)
      go_wp2
      · go_round
        case rel =>
          have h0 : ((xs[k] : Nat) == (0 : Int)) = true := by assumption
          have h0 : xs[k] = 0 := by simpa using h0
          exact ⟨k, by omega, by go_num, Lib.hid (by rw [← HT.out, take_snoc xs k (by omega), h0, trim_snoc_zero])⟩
        case measure => simp [intOf]
      · go_ret
        have h0 : ((xs[k] : Nat) == (0 : Int)) = false := by assumption
        have h0 : xs[k] ≠ 0 := by simpa using h0
        exact ⟨_, rfl, by rw [← HT.out, take_snoc xs k (by omega), trim_snoc _ _ h0, ← take_snoc xs k (by omega)]; exact HV.out.take (k + 1) hk, fun B h => h.len _ _, rfl⟩


set_option maxHeartbeats 1000000 in
theorem taken_from (w : World) (x y : Value) (m n : Nat) (hx : Sl eI w x (digs 10 m)) (hy : Sl eI w y (digs 10 n)) (hl : (digs 10 m).length ≤ 1000000) (hmn : n ≤ m) :
    Calls Tryz.prog 130 #[x, y] w (Rets fun v w' => Sl eI w' v (digs 10 (m - n)) ∧ From w.heap.size v ∧ Below w.heap.size w w') := by
  have hle := digs_len_mono 10 (by omega) hmn
  have ba := digs_lt 10 m (by omega)
  have bb := digs_lt 10 n (by omega)
  have va := val_digs 10 m (by omega)
  have vb := val_digs 10 n (by omega)
  generalize digs 10 m = xs at *
  generalize digs 10 n = ys at *
  have HX := Lib.hid hx; have HY := Lib.hid hy
  obtain ⟨ad, bl, o, c, rfl, hi, hp, -, -⟩ := hx.open elemInt
  obtain ⟨a', b', o', c', rfl, hi', hq, -, -⟩ := hy.open elemInt
  have BX := Lib.hid ba; have BY := Lib.hid bb; have VA := Lib.hid va; have VB := Lib.hid vb; have HLE := Lib.hid hle; have HMN := Lib.hid hmn
  clear ba bb va vb hx hy hle hq hi' hmn
  go_enter Tryz.func130, Tryz.ntmps130
  go_wp2
  go_loopw [5, 6, 7] (fun out bw i wr => ∃ (k c : Nat) (os : List Nat), k ≤ xs.length ∧ i = .int .i64 k ∧ bw = .int .i64 c ∧ c ≤ 1 ∧ Hid (os.length = k) ∧ Hid (∀ a ∈ os, a < 10) ∧
      Hid (val 10 (xs.take k) + 10 ^ k * c = val 10 os + val 10 (ys.take k)) ∧ wr.ownsRow w.heap.size 3 1 out os.length (os.map eI) ∧ Below w.heap.size w wr) (fun _ _ i _ => xs.length - (intOf i).toNat)
  case atStart => exact ⟨0, 0, [], by omega, rfl, rfl, by omega, Lib.hid rfl, Lib.hid (by simp), Lib.hid (by simp [val]), World.ownsRow_nil _ _ _ _, Below.refl _ _⟩
  case round =>
    obtain ⟨k, cy, os, hk, rfl, rfl, hcy, hol, hos, hv, hown, hb⟩ := hrel
    have hbs := hb.size
    by_cases hlt : k < xs.length
    · have hbp := BX.out xs[k] (List.getElem_mem hlt)
      have h1 : wr.cell? ⟨bl, o + k, none⟩ = some (.int .i64 (xs[k] : Nat)) := hp.at hb (Nat.le_refl _) k hlt
      have hgx : xs.getD k 0 = xs[k] := by simp [hlt]
      obtain ⟨d, hd⟩ : ∃ d, d = xs[k] := ⟨_, rfl⟩
      obtain ⟨d', hd'⟩ : ∃ d, ys.getD k 0 = d := ⟨_, rfl⟩
      have hdl' : d' < 10 := by rw [← hd']; exact getD_lt BY.out (by omega)
      rw [← hd] at h1 hbp hgx
      have HGX := Lib.hid hgx
      have HD' := Lib.hid hd'
      have HDG := Lib.hid (digit_d ys k d' hd')
      have hol2 : os.length ≤ 1000000 := by rw [hol.out]; omega
      clear hd hd' hgx
      have hbk := hb
      by_cases hneg : d < cy + d'
      · have HR := Lib.hid (less_step 10 xs ys os k cy (d + 10 - cy - d') 1 hol.out hos.out hv.out (by omega) (by rw [HGX.out, HD'.out]; omega))
        go_wp2
        go_quiet ((go_at_call 131; exact Calls.quiet_of_same (HDG.out _ _ (HY.out.below (below_drewN hb _) (Nat.le_refl _)))))
        have hbk := below_drewN hb nq
        have hok := own_drewN hown nq
        have hbs2 : w.heap.size ≤ (wr.drewN nq).heap.size := hbk.size
        clear hown hb hbs
        go_wp2_with (at_builtin; refine app1 elemInt rfl _ _ rfl rfl rfl hok hbk (Nat.le_refl _) hbs2 rfl (by simp [Value.oneCell']) (by omega) (by unfold maxLen; omega) ?_; intro v' w2 hown' hb')
        have ev : (d : Int) - d' - cy + 10 = ((d + 10 - cy - d' : Nat) : Int) := by omega
        rw [ev] at hown'
        go_roundw
        case rel => exact ⟨k + 1, 1, os ++ [d + 10 - cy - d'], by omega, by go_num, rfl, by omega, Lib.hid (by simp [hol.out]), Lib.hid HR.out.2.1, Lib.hid HR.out.2.2, by simpa [eI] using hown', hb'⟩
        case measure => simp [intOf]; omega
      · have HR := Lib.hid (less_step 10 xs ys os k cy (d - cy - d') 0 hol.out hos.out hv.out (by omega) (by rw [HGX.out, HD'.out]; omega))
        go_wp2
        go_quiet ((go_at_call 131; exact Calls.quiet_of_same (HDG.out _ _ (HY.out.below (below_drewN hb _) (Nat.le_refl _)))))
        have hbk := below_drewN hb nq
        have hok := own_drewN hown nq
        have hbs2 : w.heap.size ≤ (wr.drewN nq).heap.size := hbk.size
        clear hown hb hbs
        go_wp2_with (at_builtin; refine app1 elemInt rfl _ _ rfl rfl rfl hok hbk (Nat.le_refl _) hbs2 rfl (by simp [Value.oneCell']) (by omega) (by unfold maxLen; omega) ?_; intro v' w2 hown' hb')
        have ev : (d : Int) - d' - cy = ((d - cy - d' : Nat) : Int) := by omega
        rw [ev] at hown'
        go_roundw
        case rel => exact ⟨k + 1, 0, os ++ [d - cy - d'], by omega, by go_num, rfl, by omega, Lib.hid (by simp [hol.out]), Lib.hid HR.out.2.1, Lib.hid HR.out.2.2, by simpa [eI] using hown', hb'⟩
        case measure => simp [intOf]; omega
    · obtain rfl : k = xs.length := by omega
      have hfin : val 10 os = m - n := by
        have h1 := hv.out
        rw [List.take_of_length_le (Nat.le_refl _), List.take_of_length_le HLE.out, VA.out, VB.out] at h1
        have h2 := val_lt 10 os hos.out
        rw [hol.out] at h2
        have h3 := HMN.out
        rcases (show cy = 0 ∨ cy = 1 by omega) with rfl | rfl <;> omega
      have HF := Lib.hid hfin; clear hfin
      go_wp2_with fail
      refine (cut_from _ _ os (Sl.ofOwns hown)).mono ?_
      rintro e w2 ⟨v2, rfl, hs2, hf2, rfl⟩
      have HS2 := Lib.hid hs2; have HF2 := Lib.hid (hf2 _ (From.ofOwns hown)); clear hs2 hf2
      go_wp2
      go_ret
      exact ⟨_, rfl, by rw [← trim_of 10 os _ (by omega) hos.out HF.out]; exact HS2.out, HF2.out, hb⟩
end Go.Proofs.YtajkhbpffakmfaaGreatDoor

namespace Go.Proofs.YtajkhbpffakmfaaGreatDoor
open Go.RowKit
set_option maxRecDepth 100000

theorem Sl.uniqueI {w : World} {v : Value} {xs ys : List Nat} (h : Sl eI w v xs) (h' : Sl eI w v ys) : xs = ys := by
  obtain ⟨a, b, o, c, rfl, ha, -, -, -, hx⟩ := h
  obtain ⟨a', b', o', c', he, ha', -, -, -, hx'⟩ := h'
  injection he with e1 e2 e3
  refine List.ext_getElem e2 fun i h1 h2 => ?_
  have p1 := ha (by omega)
  have p2 := ha' (by omega)
  rw [← e1, p1] at p2
  injection p2 with p2
  injection p2 with q1 q2
  have c1 := hx.2 i h1
  have c2 := hx'.2 i h2
  rw [← q1, ← q2, c1] at c2
  simp [eI] at c2
  exact_mod_cast c2
open Classical in
/-- The natural number that a slice of digits reads as. -/
noncomputable def rdD (w : World) (v : Value) : Nat := if h : ∃ n, Sl eI w v (digs 10 n) then Classical.choose h else 0
theorem rdD_eq {w : World} {v : Value} {n : Nat} (h : Sl eI w v (digs 10 n)) : rdD w v = n := by
  have hex : ∃ n, Sl eI w v (digs 10 n) := ⟨n, h⟩
  unfold rdD
  rw [dif_pos hex]
  have := (Classical.choose_spec hex).uniqueI h
  have e := congrArg (val 10) this
  rwa [val_digs _ _ (by omega), val_digs _ _ (by omega)] at e
theorem own_lt {w : World} {base e g n cap : Nat} {xs : List Value} (h : w.ownsRow base e 1 (.slice (some ⟨g, 0, none⟩) n cap) n xs) : g < w.heap.size := by
  rcases h.2 with ⟨h0, _⟩ | ⟨g', cap', cur, he, _, hg, _⟩
  · cases h0
  · cases he; exact (Array.getElem?_eq_some_iff.1 hg).1
theorem trim_cons (x r : Nat) (hx : x < 10) : trim (x :: digs 10 r) = digs 10 (x + 10 * r) :=
  trim_of 10 _ _ (by omega) (by intro a ha; rcases List.mem_cons.1 ha with rfl | h; exact hx; exact digs_lt 10 r (by omega) a h) (by rw [val, val_digs _ _ (by omega)])
theorem zeros_val (n : Nat) : val 10 (List.replicate n 0) = 0 := by
  induction n with
  | zero => rfl
  | succ n ih => rw [List.replicate_succ, val, ih]

set_option maxHeartbeats 4000000 in
theorem rdivided_any (w : World) (x y : Value) (m n : Nat) (hx : Sl eI w x (digs 10 m)) (hy : Sl eI w y (digs 10 n)) (hl : (digs 10 m).length ≤ 1000000) (hl' : (digs 10 n).length ≤ 900000) (hn : 0 < n) :
    Calls Tryz.prog 148 #[x, y] w (Rets fun v w' => ∃ q a k c, v = .tuple #[q, .slice a k c] ∧ Sl eI w' q (digs 10 (m / n)) ∧ Sl eI w' (.slice a k c) (digs 10 (m % n)) ∧ Below w.heap.size w w') := by
  have ba := digs_lt 10 m (by omega)
  have va := val_digs 10 m (by omega)
  generalize digs 10 m = xs at *
  have HY := Lib.hid hy; have HN := Lib.hid hn; have HL' := Lib.hid hl'
  obtain ⟨a, b, o, c, rfl, hi, hp, -, -⟩ := hx.open elemInt
  obtain ⟨a', b', o', c', rfl, -, -, -, -⟩ := hy.open elemInt
  have BX := Lib.hid ba; have VA := Lib.hid va
  clear ba va hx hy hn hl'
  go_enter Tryz.func148, Tryz.ntmps148
  go_wp2_with (at_make; refine mkN elemInt rfl _ _ rfl xs.length rfl rfl (by omega) (by omega) (by omega) (by unfold maxLen; omega) (Below.refl _ _) (Nat.le_refl _) rfl ?_; intro w1 hown hb hb2; clear hb2)
  have hown := ownsRow_cast hown rfl (show List.replicate xs.length (Value.int .i64 0) = (List.replicate xs.length 0).map eI by simp [eI])
  go_loopw [7, 8] (fun rv i wr => ∃ (k q r : Nat) (cur : List Nat), k ≤ xs.length ∧ i = .int .i64 ((k : Int) - 1) ∧ Hid (Sl eI wr rv (digs 10 r)) ∧ Hid (From (w.heap.size + 1) rv) ∧ Hid (r < n) ∧ Hid (val 10 (xs.drop k) = q * n + r) ∧ Hid (∀ a ∈ cur, a < 10) ∧ Hid (cur.length = xs.length) ∧
      Hid (∀ j, j < k → cur.getD j 0 = 0) ∧ Hid (val 10 (cur.drop k) = q) ∧ wr.ownsRow w.heap.size 3 1 (.slice (some ⟨w.heap.size, 0, none⟩) xs.length xs.length) xs.length (cur.map eI) ∧ Below w.heap.size w wr) (fun _ i _ => (intOf i + 1).toNat)
  case atStart =>
    refine ⟨xs.length, 0, 0, _, Nat.le_refl _, rfl, Lib.hid ?_, Lib.hid From.none, HN, Lib.hid ?_, Lib.hid ?_, Lib.hid ?_, Lib.hid ?_, Lib.hid ?_, hown, hb⟩
    · rw [digs_zero]; exact Sl.nil
    · rw [List.drop_length]; simp [val]
    · intro a ha; rw [List.eq_of_mem_replicate ha]; omega
    · simp
    · intro j hj; rw [List.getD_eq_getElem?_getD, List.getElem?_replicate]; split <;> rfl
    · rw [List.drop_of_length_le (by simp)]; rfl
  case round =>
    clear hown hb
    obtain ⟨k, q, r, cur, hk, rfl, hR, hF, hrn, hV, HC, HL, HZ, HQ, hown, hb⟩ := hrel
    rcases k with _ | k
    · obtain ⟨ar, nr, cr, rfl⟩ := hR.out.shape
      have hq : m / n = q ∧ m % n = r := (Nat.div_mod_unique HN.out).2 ⟨by have := hV.out; rw [List.drop_zero, VA.out] at this; rw [this, Nat.mul_comm n q, Nat.add_comm], hrn.out⟩
      have HQ2 := Lib.hid hq
      have HQ3 : Hid (trim cur = digs 10 q) := Lib.hid (trim_of 10 cur _ (by omega) HC.out (by have := HQ.out; rwa [List.drop_zero] at this))
      clear hq
      go_wp2_with fail
      refine (cut_any _ _ cur (Sl.ofOwns hown)).mono ?_
      rintro e w2 ⟨v2, rfl, hs2, rfl⟩
      have HS2 := Lib.hid hs2; clear hs2
      go_wp2
      go_ret2
      exact ⟨_, rfl, _, _, _, _, rfl, by rw [HQ2.out.1, ← HQ3.out]; exact HS2.out, by rw [HQ2.out.2]; exact hR.out, hb⟩
    · have ek : (((k + 1 : Nat) : Int) - 1) = (k : Int) := by omega
      rw [ek]
      clear ek
      have hkl : k < xs.length := by omega
      have hc1 : wr.cell? ⟨b, o + k, none⟩ = some (.int .i64 (xs[k] : Nat)) := hp.at hb (Nat.le_refl _) k hkl
      have hbx := BX.out xs[k] (List.getElem_mem hkl)
      have hvc := val_drop_cons xs k hkl
      obtain ⟨d, hd⟩ : ∃ d, d = xs[k] := ⟨_, rfl⟩
      rw [← hd] at hc1 hbx hvc
      have HT := Lib.hid (trim_cons d r hbx)
      have HVC := Lib.hid hvc; have HBX := Lib.hid hbx
      have hrl : (digs 10 r).length ≤ 1000000 := Nat.le_trans (digs_len_mono 10 (by omega) (Nat.le_of_lt hrn.out)) (Nat.le_trans HL'.out (by omega))
      have hog := own_lt hown
      obtain ⟨ar, nr, cr, rfl⟩ := hR.out.shape
      have HOG := Lib.hid hog
      clear hd hvc hbx hog
      go_wp2_with (first
        | (at_builtin; refine appS elemInt rfl _ _ rfl rfl rfl hR.out (Below.refl _ wr) (Nat.le_refl _) (fun y => by simp [eI, Value.oneCell']) (by omega) (by unfold maxLen; omega) ?_; intro v' w2 howna hb2; have HOA := Lib.hid howna; clear howna)
        | (go_at_call 132; (with_reducible refine (cut_from _ _ (d :: digs 10 r) (Sl.ofOwns HOA.out)).mono ?_); rintro e w3 ⟨v3, rfl, hs3, hf3, rfl⟩; have HS3 := Lib.hid hs3; have HF3 := Lib.hid ((hf3 _ (From.ofOwns HOA.out)).mono HOG.out); clear hs3 hf3))
      have hown2 := own_below hown hb2 (Nat.le_refl _)
      have hb3 := hb.trans (hb2.mono hb.size)
      rw [HT.out] at HS3
      go_loopw [7] (fun rv wr => ∃ (t r' : Nat) (cur : List Nat), Hid (Sl eI wr rv (digs 10 r')) ∧ Hid (From (w.heap.size + 1) rv) ∧ Hid (t * n + r' = d + 10 * r) ∧ Hid (∀ a ∈ cur, a < 10) ∧ Hid (cur.length = xs.length) ∧
        Hid (∀ j, j < k → cur.getD j 0 = 0) ∧ Hid (cur.getD k 0 = t) ∧ Hid (val 10 (cur.drop (k + 1)) = q) ∧ wr.ownsRow w.heap.size 3 1 (.slice (some ⟨w.heap.size, 0, none⟩) xs.length xs.length) xs.length (cur.map eI) ∧ Below w.heap.size w wr) (fun rv wr => rdD wr rv)
      case atStart => exact ⟨0, d + 10 * r, cur, HS3, HF3, Lib.hid (by omega), HC, HL, Lib.hid (fun j hj => HZ.out j (by omega)), Lib.hid (HZ.out k (by omega)), HQ, hown2, hb3⟩
      case round =>
        clear hown hb hown2 hb3 HC HL HZ HQ HS3 HF3 HT HOG HOA hb2 hc1 hrl hR hF
        obtain ⟨t, r', cur, hR, hF, hE, HC, HL, HZ, HK, HQ, hown, hb⟩ := hrel
        obtain ⟨ar, nr, cr, rfl⟩ := hR.out.shape
        have hrl : (digs 10 r').length ≤ 1000000 := by
          have h1 : r' ≤ 10 * n + 9 := by have := hE.out; have := HBX.out; have := hrn.out; omega
          have h2 := digs_len_mono 10 (by omega) h1
          have h3 := digs_len_add 10 (10 * n) 9 (by omega)
          have h4 := digs_len_mul 10 10 n (by omega)
          have h5 : (digs 10 10).length ≤ 2 := (digs_len 10 10 2 (by omega)).2 (by omega)
          have h6 : (digs 10 9).length ≤ 2 := (digs_len 10 9 2 (by omega)).2 (by omega)
          have := HL'.out
          omega
        by_cases hlt : r' < n
        · have HO := Lib.hid (order_lt hlt)
          have HLT := Lib.hid hlt
          clear hlt
          go_wp2_with (go_at_call 129; (with_reducible refine (rorder_any _ _ _ r' n hR.out (HY.out.below hb (Nat.le_refl _)) (by omega)).mono ?_); rintro e w5 ⟨v, rfl, rfl, hb5⟩; rw [HO.out])
          go_roundw
          case rel =>
            refine ⟨k, 10 * q + t, r', cur, by omega, rfl, Lib.hid (hR.out.below hb5 (Nat.le_refl _)), hF, HLT, Lib.hid ?_, HC, HL, HZ, Lib.hid ?_, own_below hown hb5 (Nat.le_refl _), hb.trans (hb5.mono hb.size)⟩
            · rw [HVC.out, hV.out, Nat.add_mul, Nat.mul_assoc]; have := hE.out; omega
            · have hkc : k < cur.length := by rw [HL.out]; exact hkl
              rw [val_drop_cons cur k hkc, HQ.out]
              have := HK.out
              simp [hkc] at this
              rw [this]; omega
          case measure => simp [intOf]
        · have hge : n ≤ r' := by omega
          obtain ⟨u, hu, hu0⟩ : ∃ u, ((r' : Int) - n).sign = u ∧ 0 ≤ u := ⟨_, rfl, by
            rcases Nat.lt_or_eq_of_le hge with h | h
            · rw [order_gt h]; omega
            · rw [order_eq h.symm]; omega⟩
          have ht8 : t ≤ 8 := by
            rcases Nat.lt_or_ge t 9 with h | h
            · omega
            · have h1 := Nat.mul_le_mul_right n h; have := hE.out; have := HBX.out; have := hrn.out; omega
          have hkc : k < cur.length := by rw [HL.out]; exact hkl
          have hK : cur[k] = t := by have := HK.out; simpa [hkc] using this
          have HU := Lib.hid hu; have HGE := Lib.hid hge; have HCK := Lib.hid hK; have HOW := Lib.hid hown; have HKC := Lib.hid hkc
          have hog := own_lt hown
          have HOG := Lib.hid hog
          clear hu hge hlt hK hown hog
          go_wp2_with (first
            | (go_at_call 129; (with_reducible refine (rorder_any _ _ _ r' n hR.out (HY.out.below hb (Nat.le_refl _)) hrl).mono ?_); rintro e w5 ⟨v, rfl, rfl, hb5⟩; rw [HU.out]; have b5 := hb.trans (hb5.mono hb.size))
            | (go_at_call 130; (with_reducible refine (taken_from _ _ _ r' n (hR.out.below hb5 (Nat.le_refl _)) (HY.out.below b5 (Nat.le_refl _)) hrl HGE.out).mono ?_); rintro e w6 ⟨v6, rfl, hs6, hf6, hb6⟩; have HS6 := Lib.hid hs6; have HF6 := Lib.hid (hf6.mono (Nat.lt_of_lt_of_le HOG.out hb5.size)); have b6 := b5.trans (hb6.mono b5.size); have HOK := Lib.hid (own_below (own_below HOW.out hb5 (Nat.le_refl _)) hb6 (Nat.le_refl _)); have hcu : w6.cell? ⟨w.heap.size, k, none⟩ = some (.int .i64 (t : Nat)) := (by have h7 := (own_get HOK.out HKC.out).1; rw [HCK.out] at h7; exact h7); have hfr := (own_get HOK.out HKC.out).2; clear hs6 hf6))
          go_roundw
          case rel =>
            have R := fun (q : Value) (hq : q = eI (t + 1)) => own_put HOK.out b6 (Nat.le_refl _) k (t + 1) q hq
            refine ⟨t + 1, r' - n, cur.set k (t + 1), Lib.hid (HS6.out.setFrom HF6.out (Nat.lt_succ_self _)), HF6, Lib.hid ?_, Lib.hid ?_, Lib.hid ?_, Lib.hid ?_, Lib.hid ?_, Lib.hid ?_, (R _ ?_).1, (R _ ?_).2⟩
            · rw [Nat.add_mul]; have := hE.out; have := HGE.out; omega
            · intro a ha
              rcases List.mem_or_eq_of_mem_set ha with h | h
              · exact HC.out a h
              · omega
            · rw [List.length_set]; exact HL.out
            · intro j hj
              have := HZ.out j hj
              rw [List.getD_eq_getElem?_getD] at this ⊢
              rw [List.getElem?_set_ne (by omega)]; exact this
            · simp [HKC.out]
            · rw [List.drop_set_of_lt (by omega)]; exact HQ.out
            · exact congrArg (Value.int .i64) (by simp)
            · exact congrArg (Value.int .i64) (by simp)
          case measure => rw [rdD_eq (HS6.out.setFrom HF6.out (Nat.lt_succ_self _)), rdD_eq hR.out]; have := HGE.out; have := HN.out; omega
end Go.Proofs.YtajkhbpffakmfaaGreatDoor

namespace Go.Proofs.YtajkhbpffakmfaaGreatDoor
open Go.RowKit
set_option maxRecDepth 100000

section
variable {P : Program} {t e : TypeId} {z : Value} {bytes : Nat} {ops : Array Oper} {rest : List Oper} {o : Oper} {a : Act} {Q : Exit → Act → World → Prop}
/-- 'append([]T{}, xs...)', xs not nil. -/
theorem appC {α : Type} {enc : α → Value} (hE : ElemOk P t e z 1 bytes) (hgd : o.guard = none) (s x : Operand) (ho : o.op = .call { callee := .builtin .append, args := #[s, x], argTypes := #[t, t] })
    {xs : List α} {B : Nat} {w0 w1 W : World} {v : Value} {ad : Addr} {c : Nat} (hown : w1.ownsRow w0.heap.size e 1 v 0 []) (hb1 : Below B W w1) (hs0 : w0.heap.size ≤ w1.heap.size) (hBw : B ≤ w0.heap.size) (hs : a.eval s = v) (hx : a.eval x = .slice (some ad) xs.length c) (hv : Sl enc w1 (.slice (some ad) xs.length c) xs)
    (h2 : ∀ y, (enc y).oneCell' = true) (hn : xs.length * bytes ≤ 140737488355328) (hn' : xs.length ≤ maxLen)
    (h : ∀ v' w', w'.ownsRow w0.heap.size e 1 v' xs.length (xs.map enc) → Below B W w' → wpList P ops Q rest (a.put o.dst v') w') :
    wpList P ops Q (o :: rest) a w1 := by
  obtain ⟨i, hi, hz, hsz, hby⟩ := hE.info
  obtain ⟨ad', b, off, c', he, ha, hc, hm, hnn, hcell⟩ := hv
  cases he
  have hnews : ∀ j y, (xs.map enc)[j]? = some y → w1.cell? (ad.add j) = some y := by
    intro j y hj
    have hj' : j < xs.length := by have := (List.getElem?_eq_some_iff.1 hj).1; simpa using this
    have := ha (by omega)
    cases this
    have h3 := hcell.2 j hj'
    simp [hj'] at hj
    rw [show (⟨b, off, none⟩ : Addr).add j = ⟨b, off + j, none⟩ by simp [Addr.add], h3, hj]
  refine wpList_append_own _ hgd s x t ho w0.heap.size e i z 1 bytes hE.und hi hz hsz hby hE.cells hE.pos _ 0 [] hs hown ad xs.length c (xs.map enc) hx (by simp) hnews (by intro y hy; obtain ⟨y', _, rfl⟩ := List.mem_map.1 hy; exact h2 y') (by rw [Nat.zero_add]; exact hn') (by rw [Nat.zero_add]; exact hn) hs0 ?_
  intro v' w' ho' hg _
  rw [Nat.zero_add, List.nil_append] at ho'
  exact h v' w' ho' (hb1.grown hg (by omega) (fun j hj => by have := (hown.lt j hj).1; omega))
end

theorem nil_no (a : Addr) (n c : Nat) (w : World) : (binOp BinOp.eql 22 (.slice (some a) n c) (.slice none 0 0)).run Tryz.prog w = .ok (.bool false) w := by kernel_rfl
theorem nil_yes (w : World) : (binOp BinOp.eql 22 (.slice none 0 0) (.slice none 0 0)).run Tryz.prog w = .ok (.bool true) w := by kernel_rfl
set_option maxHeartbeats 1000000 in
theorem clone_any (w : World) (v : Value) (xs : List ByteArray) (hv : Sl eS w v xs) (hl : xs.length ≤ 1000000) :
    Calls Tryz.prog 9 #[v] w (Rets fun v' w' => w'.ownsRow w.heap.size 26 1 v' xs.length (xs.map eS) ∧ Below w.heap.size w w') := by
  have HV := Lib.hid hv
  have hn1 := nil_no
  have hn2 := nil_yes
  obtain ⟨a, b, o, c, rfl, ha, hc, hm, hn0, hp⟩ := hv
  cases a with
  | none =>
    have hc0 := hn0 rfl
    have hl0 : xs.length = 0 := by omega
    obtain rfl : xs = [] := List.length_eq_zero_iff.1 hl0
    subst hc0
    clear HV ha hp hn0
    go_enter Tryz.func9, Tryz.ntmps9
    go_wp2
    go_ret
    exact ⟨_, rfl, World.ownsRow_nil _ _ _ _, Below.refl _ _⟩
  | some a =>
    clear ha hp hn0
    have HO : Hid ((w.alloc (.cells #[] 26)).ownsRow w.heap.size 26 1 (.slice (some ⟨w.heap.size, 0, none⟩) 0 0) 0 []) := Lib.hid ⟨rfl, .inr ⟨w.heap.size, 0, #[], rfl, by omega, heap_alloc_new w _, by omega, by simp [maxLen], rfl, rfl⟩⟩
    have HB0 := Lib.hid ((Below.refl w.heap.size w).alloc (Nat.le_refl _) (.cells #[] 26))
    go_enter Tryz.func9, Tryz.ntmps9
    go_wp2_with (at_builtin; refine appC elemStr rfl _ _ rfl (w0 := w) HO.out HB0.out (by simp) (Nat.le_refl _) rfl rfl (HV.out.below HB0.out (Nat.le_refl _)) (fun y => by simp [eS, Value.oneCell']) (by omega) (by unfold maxLen; omega) ?_; intro v' w2 hown' hb'; have HO2 := Lib.hid hown'; clear hown')
    go_ret
    exact ⟨_, rfl, HO2.out, hb'⟩

theorem size_sc (b : Nat) : ∀ (vs : List Value) (o : Nat) (w : World), (w.setCells b o vs).heap.size = w.heap.size
  | [], _, _ => rfl
  | _ :: r, o, _ => by rw [World.setCells, size_sc b r]; simp
theorem below_sc {B b : Nat} {a : World} (hb : B ≤ b) : ∀ (vs : List Value) (o : Nat) (w : World), Below B a w → Below B a (w.setCells b o vs)
  | [], _, _, h => h
  | v :: r, o, _, h => below_sc hb r (o + 1) _ (h.setCell hb v)
theorem take_filter (p : ByteArray → Bool) (xs : List ByteArray) (j : Nat) (h : j < xs.length) : (xs.take (j + 1)).filter p = (xs.take j).filter p ++ (if p xs[j] then [xs[j]] else []) := by
  rw [List.take_succ_eq_append_getElem h, List.filter_append]
  congr 1
  by_cases hp : p xs[j] <;> simp [hp]
set_option maxHeartbeats 4000000 in
theorem delete_any (w : World) (v : Value) (xs : List ByteArray) (base : Nat) (hown : w.ownsRow base 26 1 v xs.length (xs.map eS)) (hl : xs.length ≤ 1000000) :
    Calls Tryz.prog 107 #[v, .func (.func 108) #[] #[]] w (Rets fun v' w' => Sl eS w' v' (xs.filter fun s => !isOne s) ∧ Below base w w') := by
  have HS := Lib.hid (Sl.ofOwns hown)
  have HO := Lib.hid hown
  cases ha : xs.any isOne
  · have hn : ∀ s ∈ xs, isOne s = false := fun s hs => by have := List.any_eq_false.1 ha s hs; simpa using this
    have HN := Lib.hid hn
    have HF := Lib.hid (show (xs.filter fun s => !isOne s) = xs by rw [List.filter_eq_self]; intro s hs; rw [hn s hs]; rfl)
    obtain ⟨a, b, o, c, rfl, -, -, -, -⟩ := (Sl.ofOwns hown).open elemStr
    clear hown ha hn
    go_enter Tryz.func107, Tryz.ntmps107
    go_wp2_with (go_at_call 133; (with_reducible refine (idx_one_none _ _ xs HS.out HN.out).mono ?_); rintro e w1 ⟨v, rfl, rfl, rfl⟩)
    go_ret
    exact ⟨_, rfl, by rw [HF.out]; exact HS.out, Below.refl _ _⟩
  · obtain ⟨m, hm, h1, h2⟩ := first_hit isOne xs ha
    rcases hown.2 with ⟨rfl, h0⟩ | ⟨g, cap, cur0, rfl, hg, hgl, hc, hcm, hsz, ht⟩
    · exact absurd hm (by have h9 : xs = [] := by simpa using h0
                          rw [h9]; simp)
    · have HFM := Lib.hid (show (xs.take m).filter (fun s => !isOne s) = xs.take m by
        rw [List.filter_eq_self]; intro s hs
        obtain ⟨i, hi, rfl⟩ := List.getElem_of_mem hs
        simp at hi
        rw [List.getElem_take, h2 i (by omega)]; rfl)
      have HP := Lib.hid h1; have HQ := Lib.hid h2
      have hm0 : (0 : Int) ≤ (m : Int) := by omega
      have hmn : ((m : Int) == -1) = false := by simp
      have HGB := Lib.hid hg
      clear hown ha h1 h2 hgl hsz ht hg
      go_enter Tryz.func107, Tryz.ntmps107
      go_wp2_with (go_at_call 133; (with_reducible refine (idx_one_some _ _ xs HS.out m hm HP.out HQ.out).mono ?_); rintro e w1 ⟨v, rfl, rfl, rfl⟩)
      go_loopw [5, 6] (fun iv jv wr => ∃ (i j : Nat) (cur : List ByteArray), i < j ∧ j ≤ xs.length ∧ iv = .int .i64 i ∧ jv = .int .i64 j ∧ Hid (cur.length = xs.length) ∧ Hid (cur.drop j = xs.drop j) ∧ Hid (cur.take i = (xs.take j).filter fun s => !isOne s) ∧
        wr.ownsRow base 26 1 (.slice (some ⟨g, 0, none⟩) xs.length cap) xs.length (cur.map eS) ∧ Below base w wr) (fun _ jv _ => xs.length - (intOf jv).toNat)
      case atStart => exact ⟨m, m + 1, xs, by omega, by omega, rfl, by go_num, Lib.hid rfl, Lib.hid rfl, Lib.hid (by rw [take_filter _ _ _ hm, HFM.out, HP.out]; simp), HO.out, Below.refl _ _⟩
      case round =>
        obtain ⟨i, j, cur, hij, hj, rfl, rfl, hcl, hdr, htk, hown, hb⟩ := hrel
        by_cases hjn : j < xs.length
        · have hjc : j < cur.length := by rw [hcl.out]; exact hjn
          have hic : i < cur.length := by omega
          have hxj : cur[j] = xs[j] := by
            have := hdr.out
            rw [List.drop_eq_getElem_cons hjc, List.drop_eq_getElem_cons hjn] at this
            injection this
          have h1 : wr.cell? ⟨g, j, none⟩ = some (.string xs[j]) := by have := (own_get hown hjc).1; rw [hxj] at this; exact this
          have hin : i < xs.length := by omega
          obtain ⟨u, -, hcu, hfr⟩ := own_at hown hin
          have HOW := Lib.hid hown
          have hdr1 : cur.drop (j + 1) = xs.drop (j + 1) := by
            have := hdr.out
            rw [List.drop_eq_getElem_cons hjc, List.drop_eq_getElem_cons hjn] at this
            injection this
          have HD1 := Lib.hid hdr1
          have htf := take_filter (fun s => !isOne s) xs j hjn
          cases hp : isOne xs[j]
          · have HPP := Lib.hid hp
            rw [hp] at htf
            have HTF := Lib.hid htf
            clear hown hxj hdr1 htf hp
            go_wp2_with (go_at_call 108; (with_reducible refine (of1 _ xs[j]).mono ?_); rintro e w2 ⟨v, rfl, rfl, rfl⟩; rw [HPP.out])
            go_roundw
            case rel =>
              have R := fun (q : Value) (hq : q = eS xs[j]) => own_put HOW.out hb HGB.out i xs[j] q hq
              refine ⟨i + 1, j + 1, cur.set i xs[j], by omega, by omega, by go_num, by go_num, Lib.hid (by rw [List.length_set]; exact hcl.out), Lib.hid ?_, Lib.hid ?_, (R _ rfl).1, (R _ rfl).2⟩
              · rw [List.drop_set_of_lt (by omega)]; exact HD1.out
              · rw [HTF.out, ← htk.out]
                have hi2 : i < (cur.set i xs[j]).length := by rw [List.length_set]; exact hic
                rw [List.take_succ_eq_append_getElem hi2, List.take_set_of_le (Nat.le_refl _), List.getElem_set_self]
                rfl
            case measure => simp [intOf]; omega
          · have HPP := Lib.hid hp
            rw [hp] at htf
            have HTF : Hid ((xs.take (j + 1)).filter (fun s => !isOne s) = (xs.take j).filter fun s => !isOne s) := Lib.hid (by rw [htf]; simp)
            clear hown hxj hdr1 htf hp
            go_wp2_with (go_at_call 108; (with_reducible refine (of1 _ xs[j]).mono ?_); rintro e w2 ⟨v, rfl, rfl, rfl⟩; rw [HPP.out])
            go_roundw
            case rel => exact ⟨i, j + 1, cur, by omega, by omega, rfl, by go_num, hcl, HD1, Lib.hid (by rw [HTF.out]; exact htk.out), HOW.out, hb⟩
            case measure => simp [intOf]; omega
        · obtain rfl : j = xs.length := by omega
          have hic : i < xs.length := hij
          have HOW := Lib.hid hown
          have HTK := Lib.hid (show cur.take i = xs.filter fun s => !isOne s by have := htk.out; rwa [List.take_length] at this)
          have hcl2 : ∀ ty, (Builtin.clear_ #[22] ty #[.slice (some ⟨g, i, none⟩) (xs.length - i) (cap - i)]).run Tryz.prog wr = .ok (.tuple #[]) (wr.setCells g i (List.replicate (xs.length - i) (.string ⟨#[]⟩))) := fun ty =>
            Lib.run_clear_slice wr _ _ ty _ Tryz.underlying22 (fun w => by kernel_rfl) rfl rfl g i _ _ (by omega) (fun t ht => by rw [(own_get hown (k := i + t) (by rw [hcl.out]; omega)).1]; rfl) (fun t ht => (own_get hown (k := i + t) (by rw [hcl.out]; omega)).2)
          have q1 : (0 : Int) ≤ (i : Int) := by omega
          have q2 : (i : Int) ≤ (xs.length : Int) := by omega
          have q3 : ¬ cap = i := by omega
          clear hown hcl hdr htk
          go_wp2
          go_ret
          have hcl3 : cur.length = xs.length := by have := HOW.out.1; simpa using this
          have hL : (xs.filter fun s => !isOne s).length = i := by rw [← HTK.out, List.length_take]; omega
          refine ⟨_, rfl, ⟨some ⟨g, 0, none⟩, g, 0, cap, by rw [hL]; rfl, fun _ => rfl, by omega, hcm, fun h => absurd h (by simp), ⟨fun _ => by rw [size_sc]; exact own_lt HOW.out, fun t ht => ?_⟩⟩, below_sc HGB.out _ _ _ hb⟩
          have hti : t < i := by omega
          have htc : t < cur.length := by omega
          rw [Nat.zero_add, World.cell?_setCells_out g _ _ _ _ (fun _ _ => .inl hti), (own_get HOW.out htc).1]
          congr 2
          have : (xs.filter fun s => !isOne s)[t] = (cur.take i)[t]'(by rw [HTK.out]; exact ht) := by simp only [HTK.out]
          rw [this, List.getElem_take]
end Go.Proofs.YtajkhbpffakmfaaGreatDoor

namespace Go.Proofs.YtajkhbpffakmfaaGreatDoor
open Go.RowKit Go.Shelf
set_option maxRecDepth 100000

attribute [local go_sem] Oper.semAt_some

/-- All below B stands, and so do all blocks of texts. -/
def KpR (B : Nat) (W W' : World) : Prop := Below B W W' ∧ ∀ (b : Nat) (cs : Array Value) (m : Nat × Nat), W.heap[b]? = some (Obj.cells cs 26 m) → W'.heap[b]? = some (Obj.cells cs 26 m)
theorem KpR.tr {B : Nat} {X Y Z : World} (h : KpR B X Y) (h' : KpR B Y Z) : KpR B X Z := ⟨h.1.trans h'.1, fun b cs m e => h'.2 b cs m (h.2 b cs m e)⟩
theorem KpR.put {B : Nat} (W : World) (l : Nat) (o o' : Obj) (hB : B ≤ l) (ho : W.heap[l]? = some o) (hc : o.isCells = false) : KpR B W (W.putObj l o') := by
  refine ⟨(Below.refl B W).grown (grownBy_putObj' W l o') (by have := (Array.getElem?_eq_some_iff.1 ho).1; omega) (fun k e => by cases e; omega), fun b cs m e => ?_⟩
  have hne : b ≠ l := fun e2 => by subst e2; rw [ho] at e; cases e; exact absurd hc (by simp [Obj.isCells])
  exact (World.putObj_heap_other hne).trans e
theorem KpR.below {B K : Nat} {W W' : World} (h : Below K W W') (hB : W.heap.size ≤ K) (hBK : B ≤ K) : KpR B W W' := ⟨h.mono hBK, fun b _ _ e => (h.block b (Nat.lt_of_lt_of_le (Array.getElem?_eq_some_iff.1 e).1 hB)).trans e⟩
theorem KpR.own {B : Nat} {W W' : World} (h : KpR B W W') {b n : Nat} {v : Value} {ys : List Value} (ho : W.ownsRow b 26 1 v n ys) : W'.ownsRow b 26 1 v n ys :=
  ⟨ho.1, ho.2.imp_right fun ⟨g, cap, cur, h1, h2, h3, r⟩ => ⟨g, cap, cur, h1, h2, h.2 _ _ _ h3, r⟩⟩
theorem own_low {w : World} {b b' e s n : Nat} {v : Value} {ys : List Value} (h : w.ownsRow b e s v n ys) (hb : b' ≤ b) : w.ownsRow b' e s v n ys :=
  ⟨h.1, h.2.imp_right fun ⟨g, cap, cur, h1, h2, r⟩ => ⟨g, cap, cur, h1, Nat.le_trans hb h2, r⟩⟩
/-- Blocks of texts stand behind 'rows = append(rows, row)'. -/
theorem texts_appended {W w1 : World} {B n₀ k : Nat} {v v' : Value} {xs : List Value} {tmp : Obj} (hv : Boxed w1 B 42 v) (hrow : W.ownsRow n₀ 22 1 v k xs) (hgrow : (W.alloc tmp).grownBy w1 v.ownBlock) :
    ∀ (b : Nat) (cs : Array Value) (q : Nat × Nat), W.heap[b]? = some (Obj.cells cs 26 q) → (w1.setCell ⟨B, 0, none⟩ v').heap[b]? = some (Obj.cells cs 26 q) := by
  intro b cs m e
  have hlt : b < W.heap.size := (Array.getElem?_eq_some_iff.1 e).1
  have e1 : (W.alloc tmp).heap[b]? = some (Obj.cells cs 26 m) := (Below.heap_alloc _ _ _ hlt).trans e
  have hne : some b ≠ v.ownBlock := by
    rcases hrow.2 with ⟨rfl, _⟩ | ⟨g, cap, cur, rfl, _, hgb, _⟩
    · simp [Value.ownBlock]
    · intro e2
      obtain rfl : b = g := by simpa [Value.ownBlock] using e2
      rw [e] at hgb; cases hgb
  have e2 : w1.heap[b]? = some (Obj.cells cs 26 m) := (hgrow.block b (by simp; omega) hne).trans e1
  refine (Below.heap_setCell _ _ _ _ (show b ≠ B from fun e3 => ?_)).trans e2
  subst e3
  rw [show w1.heap[b]? = _ from hv] at e2
  cases e2

set_option maxHeartbeats 2000000 in
theorem appendSeq_in {α : Type} (va : α → Option Addr) (vn vc : α → Nat) {Gd : Nat → α → World → Prop} {S : List α → World → Prop} {N : Nat} (hN : N ≤ 1000000) (w : World) (lb : Array Value)
    (hseq : ∀ n, 1 ≤ n → SeqG Fence.wide n Tryz.prog 119 lb (fun x => #[.slice (va x) (vn x) (vc x)]) (KpR w.heap.size) Gd S N w)
    (hGs : ∀ s x (W : World), Gd s x W → s ≤ W.heap.size) (hGb : ∀ s x (W : World) (l : Nat) (o o' : Obj), Gd s x W → W.heap[l]? = some o → o.isCells = false → Gd s x (W.putObj l o'))
    (hSb : ∀ xs (W : World) (l : Nat) (o o' : Obj), S xs W → W.heap[l]? = some o → o.isCells = false → S xs (W.putObj l o')) :
    CallsIn Fence.wide 4 Tryz.prog 118 #[.slice none 0 0, .func (.func 119) #[] lb] w (Rets fun v w' => ∃ xs : List α, S xs w' ∧ w'.ownsRow w.heap.size 22 1 v xs.length (xs.map fun x => .slice (va x) (vn x) (vc x)) ∧ Below w.heap.size w w') := by
  have HSQ := Lib.hid hseq; have HGB := Lib.hid hGb; have HSB := Lib.hid hSb; have HGS := Lib.hid hGs
  clear hseq hGb hSb hGs
  refine callsIn_of_wp_marks Tryz.func118 rfl trivial ?_ rfl
  simp only [Tryz.ntmps118, List.size_toArray, List.length_cons, List.length_nil, Nat.reduceAdd, Nat.reduceSub, Array.replicate_succ, Array.replicate_zero, List.push_toArray, List.append_toArray, List.nil_append, List.cons_append]
  gi_wp2
  obtain ⟨i0, hi, hz0, hz1, hz2⟩ := info_parts (by kernel_rfl : (Tryz.prog.info? 22).map (fun i => (i.zero, i.size, i.bytes)) = some (some (.slice none 0 0), 1, 24))
  have bL := Boxed.new w 42 (.slice none 0 0)
  have hB0 : Below w.heap.size w (w.alloc (.cells #[.slice none 0 0] 42)) := (Below.refl _ _).alloc (Nat.le_refl _) _
  have hB1 : w.heap.size ≤ (w.alloc (.cells #[.slice none 0 0] 42)).heap.size := by simp
  refine wpIn_rangeG rfl (by omega) (gf := 119) (lb := lb) rfl trivial (enters_of Tryz.func119 (by kernel_rfl) rfl)
    (encs := fun x => #[.slice (va x) (vn x) (vc x)]) (HSQ.out _ (by omega)) KpR.tr (fun W l o o' hl ho hc => KpR.put W l o o' (by have := hl; simp at this; omega) ho hc) HGB.out HSB.out hB0 (fun _ => rfl)
    (fun pre W => (∃ v, Boxed W w.heap.size 42 v ∧ W.ownsRow (w.heap.size + 4) 22 1 v pre.length (pre.map fun x => .slice (va x) (vn x) (vc x)) ∧ True) ∧ Below w.heap.size w W)
    (OwnFrom.and (Own.from (holdsRow_own (w.heap.size + 4) w.heap.size 42 22 1 (fun pre : List α => pre.length) (fun pre => pre.map fun x => .slice (va x) (vn x) (vc x)) (fun _ _ => True)) _) (ownFrom_below (Nat.le_refl _) hB1))
    (fun pre W1 j u hI => by
      obtain ⟨⟨v, hv, hrow, -⟩, hB⟩ := hI
      refine ⟨⟨v, (Below.heap_setCell _ _ _ _ (by simp; omega)).trans hv, own_off hrow (by simp), trivial⟩, hB.setCell (by simp; omega) _⟩)
    ⟨⟨_, bL, World.ownsRow_nil _ _ _ _, trivial⟩, hB0⟩
    (fun x => { tmps := #[.slice none 0 0, .func (.func 119) #[] lb, .pointer (some ⟨w.heap.size, 0, none⟩), undef, .slice none 0 0, .slice (va x) (vn x) (vc x), .func (.func 119) #[] lb, .slice (va x) (vn x) (vc x), undef, undef, undef, undef, undef], defers := [] }) ?assign ?body ?done
  case assign =>
    intro l x W K hK
    gi_wp2
    exact hK
  case body =>
    rintro l pre x W ⟨⟨v, hv, hrow, -⟩, hB⟩ hgd hlt
    have hs := HGS.out _ _ _ hgd
    have hc := hv.cell
    have hBs : w.heap.size + 3 ≤ W.heap.size := by have := hs; simp at this; omega
    gi_wp2_with (gi_at_builtin; go_loud (refine wpListIn_append_own _ rfl _ _ 42 rfl (w.heap.size + 4) 22 i0 (.slice none 0 0) 1 24 Tryz.underlying42 hi hz0 hz1 hz2 rfl (by decide) _ _ _ rfl (hrow.alloc _) ⟨W.heap.size, 0, none⟩ 1 1 [.slice (va x) (vn x) (vc x)] rfl rfl (cell_one_new _ _ _) (by simp [Value.oneCell']) (by unfold maxLen; omega) (by omega) (by first | (simp; done) | (simp; omega)) ?_; intro v' w1 hown' hgrow _; obtain ⟨g', cap', rfl⟩ := ownsRow_succ hown'; obtain ⟨hv1, hv2, -, hk2, hb2⟩ := hv.appended (by decide) (own_low hrow (by omega)) (by omega) (Nat.le_refl _) (own_low hown' (by omega)) hgrow; have hr2 := hown'.kept (grownBy_setCell' w1 w.heap.size (.slice (some ⟨g', 0, none⟩) (pre.length + 1) cap')) (.inr (hv1.not_row (by decide) hown').symm); have hc1 := hv1.cell; have hf1 := hv1.frozen))
    exact ⟨hk2, ⟨hb2, texts_appended hv1 hrow hgrow⟩, ⟨_, hv2, by simpa using hr2, trivial⟩, hB.trans hb2⟩
  case done =>
    rintro D xs W hD hS ⟨⟨v, hv, hrow, -⟩, hB⟩ hK
    have hc := hv.cell
    have hDg : w.heap.size + 1 ≤ D := by simpa using hD
    gi_wp2
    refine ⟨by simp, .inl ⟨_, _, rfl, run_takeDeferred hK, ?_⟩⟩
    exact ⟨v, by simp [results, Tryz.results118, go_sem], _, rfl, xs, HSB.out _ _ _ _ _ hS hK rfl, ownsRow_putObj (own_low hrow (by omega)) _ hK rfl, hB.trans (belowK_b (w := w) (Nat.le_refl _) W D _ _ (by omega) hK rfl rfl)⟩
end Go.Proofs.YtajkhbpffakmfaaGreatDoor

namespace Go.Proofs.YtajkhbpffakmfaaGreatDoor
open Go.RowKit
set_option maxRecDepth 100000

/-- A list of texts stands where a block without texts is written. -/
theorem Sl.off {w : World} {g : Nat} {cs : List Value} {T : TypeId} {v : Value} {xs : List ByteArray} (h : Sl eS w v xs) (hk : Blk w g cs T) (hc : ∀ (j : Nat) (s : ByteArray), cs[j]? ≠ some (.string s)) (j : Nat) (u : Value) : Sl eS (w.setCell ⟨g, j, none⟩ u) v xs := by
  obtain ⟨a, b, o, c, rfl, ha, hcc, hm, hn, hx⟩ := h
  refine ⟨a, b, o, c, rfl, ha, hcc, hm, hn, fun h0 => by simpa using hx.1 h0, fun i hi => ?_⟩
  have h1 := hx.2 i hi
  have hne : b ≠ g := fun e => by
    subst e
    have hb : w.heap[b]? = _ := hk
    have : (cs.toArray)[o + i]? = some (.string xs[i]) := by
      have h2 := h1
      simp only [World.cell?, hb] at h2
      simpa [eS] using h2
    exact hc _ _ (by simpa using this)
  exact (World.cell?_of_block (Below.heap_setCell _ _ _ _ hne)).trans h1
/-- The result's cell takes a matrix. -/
theorem res_done {w wr : World} {g : Nat} {R C : Int} {u : Value} {os : List ByteArray} (hB : Below w.heap.size w wr) (hg : w.heap.size ≤ g) (hr : Blk wr g [.int .i64 0, .int .i64 0, .slice none 0 0] 24) (hs : Sl eS wr u os) :
    Blk (((wr.setCell ⟨g, 0, none⟩ (.int .i64 R)).setCell ⟨g, 1, none⟩ (.int .i64 C)).setCell ⟨g, 2, none⟩ u) g [.int .i64 R, .int .i64 C, u] 24 ∧
    Sl eS (((wr.setCell ⟨g, 0, none⟩ (.int .i64 R)).setCell ⟨g, 1, none⟩ (.int .i64 C)).setCell ⟨g, 2, none⟩ u) u os ∧
    Below w.heap.size w (((wr.setCell ⟨g, 0, none⟩ (.int .i64 R)).setCell ⟨g, 1, none⟩ (.int .i64 C)).setCell ⟨g, 2, none⟩ u) := by
  have no : ∀ (a b : Int) (sl : Value), (∀ s, sl ≠ .string s) → ∀ (j : Nat) (s : ByteArray), [Value.int .i64 a, .int .i64 b, sl][j]? ≠ some (.string s) := by
    intro a b sl hsl j s
    match j with
    | 0 => simp
    | 1 => simp
    | 2 => simp [hsl s]
    | j + 3 => simp
  have r1 := hr.set 0 (.int .i64 R)
  have r2 := r1.set 1 (.int .i64 C)
  refine ⟨by simpa using r2.set 2 u, ?_, ((hB.setCell hg _).setCell hg _).setCell hg _⟩
  exact ((hs.off hr (no 0 0 _ (by simp)) 0 _).off r1 (no R 0 _ (by simp)) 1 _).off r2 (no R C _ (by simp)) 2 _
theorem sl_form {α : Type} {enc : α → Value} {w : World} {v : Value} {xs : List α} (h : Sl enc w v xs) : ∃ a c, v = .slice a xs.length c := by
  obtain ⟨a, b, o, c, rfl, -⟩ := h; exact ⟨a, c, rfl⟩
theorem Up.start (w : World) : Up w.heap.size w w := ⟨Nat.le_refl _, Below.refl _ _⟩
theorem Up.bel {h : Nat} {W w : World} (H : Up h W w) : Below h W w := H.2
/-- Three cells of two blocks. -/
theorem held_two {h g1 g2 : Nat} {W : World} {a b c d e f : Value} {T T' : TypeId} (h1 : Blk W g1 [a, b, c] T) (h2 : Blk W g2 [d, e, f] T') (hg1 : g1 < h) (hg2 : g2 < h) : ∀ w', Up h W w' → Up h W w' ∧ (w'.cell? ⟨g1, 0, none⟩ = some a ∧ w'.cell? ⟨g1, 1, none⟩ = some b ∧ w'.cell? ⟨g1, 2, none⟩ = some c) ∧ w'.cell? ⟨g2, 0, none⟩ = some d ∧ w'.cell? ⟨g2, 1, none⟩ = some e ∧ w'.cell? ⟨g2, 2, none⟩ = some f :=
  fun _ H => ⟨H, ⟨(H.box h1 hg1).cell 0 _ rfl, (H.box h1 hg1).cell 1 _ rfl, (H.box h1 hg1).cell 2 _ rfl⟩, (H.box h2 hg2).cell 0 _ rfl, (H.box h2 hg2).cell 1 _ rfl, (H.box h2 hg2).cell 2 _ rfl⟩

set_option maxHeartbeats 1000000 in
theorem Make1_any (w : World) (gL gC : Nat) (v : Value) (ls : List Int) (c i k : Nat) (z : Int) (hL : Blk w gL [v] 61) (hC : Blk w gC [.int .i64 (c : Nat)] 3) (hv : Sl eZ w v ls) (_hl : ls.length ≤ 256) (hz : ls[i * c + k]? = some z) (h0 : -9223372036854775808 ≤ z) (h1 : z ≤ 9223372036854775807) (he : Env w) :
    Calls Tryz.prog 80 #[.int .i64 i, .int .i64 k, .pointer (some ⟨gL, 0, none⟩), .pointer (some ⟨gC, 0, none⟩)] w (Rets fun v w' => v = .tuple #[.string (txt z), .int .i64 0] ∧ Below w.heap.size w w') := by
  have HE := Lib.hid he; have H0 := Lib.hid h0; have H1 := Lib.hid h1
  obtain ⟨ad, b, o, cap, rfl, hx, hp, hcc, hm⟩ := hv.open elemInt
  unfold maxLen at hm
  obtain ⟨h, hs⟩ := List.getElem?_eq_some_iff.1 hz
  have h1 : w.cell? ⟨b, o + (i * c + k), none⟩ = some (eZ ls[i * c + k]) := hp.2 _ h
  obtain ⟨j, hj⟩ : ∃ j : Nat, i * c + k = j := ⟨_, rfl⟩
  obtain ⟨m, hmm⟩ : ∃ m : Nat, i * c = m := ⟨_, rfl⟩
  have hmi : (i : Int) * (c : Int) = (m : Int) := by rw [← Int.natCast_mul, hmm]
  simp only [hj] at h1 h hs
  have hji : (m : Int) + (k : Int) = (j : Int) := by omega
  rw [hs] at h1
  unfold eZ at h1
  have c0 := hL.cell 0 _ rfl; have c1 := hC.cell 0 _ rfl
  clear hv hj hmm hs hz h0 he hL hC
  go_enter Tryz.func80, Tryz.ntmps80
  go_wp2_with (go_at_call 44; (with_reducible refine (Of_any _ z H0.out H1.out HE.out).mono ?_); rintro e w1 ⟨v, rfl, rfl, hb1⟩)
  go_ret2
  exact ⟨_, rfl, rfl, hb1⟩
/-- A column's or a row's number, without the one that is gone. -/
theorem Minor1_any (w : World) (i r : Nat) (hi : i ≤ 1000000) :
    Calls Tryz.prog 84 #[.int .i64 i, .int .i64 r] w (Rets fun v w' => v = .int .i64 (sk r i : Nat) ∧ w = w') := by
  by_cases h : i < r
  · have hq : ¬ r ≤ i := by omega
    have HO := Lib.hid (show sk r i = i by simp [sk, h])
    clear h
    go_enter Tryz.func84, Tryz.ntmps84
    go_wp2
    go_ret
    exact ⟨_, rfl, by rw [HO.out]; rfl, rfl⟩
  · have hq : r ≤ i := by omega
    have HO := Lib.hid (show ((sk r i : Nat) : Int) = (i : Int) + 1 by simp [sk, h])
    clear h
    go_enter Tryz.func84, Tryz.ntmps84
    go_wp2
    go_ret
    exact ⟨_, rfl, by rw [HO.out]; rfl, rfl⟩
theorem goodsT : ∀ zs : List Int, (∀ z ∈ zs, big z = false) → Goods (zs.map txt) zs ∧ chks (zs.map txt) = 0
  | [], _ => ⟨trivial, rfl⟩
  | z :: l, h => by
    obtain ⟨h1, h2⟩ := goodsT l fun x hx => h x (List.mem_cons_of_mem _ hx)
    have hg : Good (txt z) z := .of (h z (by simp))
    exact ⟨⟨hg, h1⟩, by rw [List.map_cons, chks, if_pos hg.chk, h2]⟩
/-- The terms of an entry of a product. -/
def terms (A B : Mat) (i k q : Nat) : List Int := (List.range q).map fun j => A i j * B j k
theorem terms_len (A B : Mat) (i k q : Nat) : (terms A B i k q).length = q := by simp [terms]
theorem terms_succ (A B : Mat) (i k q : Nat) : terms A B i k (q + 1) = terms A B i k q ++ [A i q * B q k] := by simp [terms, List.range_succ]
theorem terms_sum (A B : Mat) (i k : Nat) : ∀ n, (terms A B i k n).sum = mulM n A B i k
  | 0 => rfl
  | n + 1 => by rw [terms_succ, List.sum_append, terms_sum A B i k n]; simp [mulM, sm]
set_option maxHeartbeats 4000000 in
theorem product1_any (w : World) (g1 g2 : Nat) (R R' : Int) (v v' : Value) (xs ys : List ByteArray) (n p i k : Nat) (A B : Mat) (h1 : Blk w g1 [.int .i64 R, .int .i64 n, v] 24) (h2 : Blk w g2 [.int .i64 R', .int .i64 p, v'] 24) (hv : Sl eS w v xs) (hu : Sl eS w v' ys) (hl : xs.length ≤ 256) (hl' : ys.length ≤ 256) (hn : n ≤ 16)
    (hx : ∀ j, j < n → xs[i * n + j]? = some (txt (A i j))) (hy : ∀ j, j < n → ys[j * p + k]? = some (txt (B j k))) (gx : ∀ j, j < n → big (A i j) = false) (gy : ∀ j, j < n → big (B j k) = false) (gm : ∀ j, j < n → big (A i j * B j k) = false) (gs : big (mulM n A B i k) = false) (he : Env w) :
    Calls Tryz.prog 116 #[.int .i64 i, .int .i64 k, .pointer (some ⟨g1, 0, none⟩), .pointer (some ⟨g2, 0, none⟩)] w (Rets fun r w' => r = .tuple #[.string (txt (mulM n A B i k)), .int .i64 0] ∧ Below w.heap.size w w') := by
  have HV := Lib.hid hv; have HU := Lib.hid hu; have HX := Lib.hid hx; have HY := Lib.hid hy; have HL := Lib.hid hl; have HL' := Lib.hid hl'
  have HE := Lib.hid he; have GX := Lib.hid gx; have GY := Lib.hid gy; have GM := Lib.hid gm
  have HH := Lib.hid (held_two h1 h2 h1.lt h2.lt)
  have H1 := Lib.hid h1; have H2 := Lib.hid h2
  have HB := Lib.hid (Below.refl w.heap.size w); have HU0 := Lib.hid (Up.start w)
  obtain ⟨hG, hC⟩ := goodsT (terms A B i k n) fun z hz => by
    obtain ⟨j, hj, rfl⟩ := List.mem_map.1 hz
    exact gm j (by simpa using hj)
  have HG := Lib.hid hG; have HC := Lib.hid hC
  have HS := Lib.hid (show resV (terms A B i k n).sum = .tuple #[.string (txt (mulM n A B i k)), .int .i64 0] by rw [terms_sum]; unfold resV; rw [gs]; rfl)
  obtain ⟨a, cap, rfl⟩ := sl_form hv
  obtain ⟨a', cap', rfl⟩ := sl_form hu
  obtain ⟨-, ⟨c0, c1, c2⟩, d0, d1, d2⟩ := HH.out w ⟨Nat.le_refl _, Below.refl _ _⟩
  clear hv hu hx hy hl hl' h1 h2 he gx gy gs gm hG hC
  go_enter Tryz.func116, Tryz.ntmps116
  go_wp2
  go_loopw [8, 14] (fun l j wr => ∃ q : Nat, q ≤ n ∧ j = .int .i64 q ∧ Hid (wr.ownsRow w.heap.size 26 1 l q (((terms A B i k q).map txt).map eS)) ∧ Up w.heap.size w wr) (fun _ j _ => n - (intOf j).toNat)
  case atStart => exact ⟨0, Nat.zero_le _, rfl, Lib.hid (World.ownsRow_nil _ _ _ _), ⟨Nat.le_refl _, Below.refl _ _⟩⟩
  case round =>
    clear c0 c1 c2 d0 d1 d2
    obtain ⟨q, hq, rfl, hO, hU⟩ := hrel
    have hBL := hU.2
    have HHr := Lib.hid (held_two (H1.out.below hBL (Nat.le_refl _)) (H2.out.below hBL (Nat.le_refl _)) (Nat.lt_of_lt_of_le H1.out.lt hBL.size) (Nat.lt_of_lt_of_le H2.out.lt hBL.size))
    obtain ⟨-, ⟨c0, c1, c2⟩, d0, d1, d2⟩ := HHr.out wr ⟨Nat.le_refl _, Below.refl _ _⟩
    by_cases hqn : q < n
    · have HX' := Lib.hid (HX.out q hqn); have HY' := Lib.hid (HY.out q hqn)
      have gx := GX.out q hqn; have gy := GY.out q hqn
      have HGX := Lib.hid gx; have HGY := Lib.hid gy
      have HR := Lib.hid (show resV (A i q * B q k) = .tuple #[.string (txt (A i q * B q k)), .int .i64 0] by unfold resV; rw [GM.out q hqn]; rfl)
      have HT := Lib.hid (show ((terms A B i k (q + 1)).map txt).map eS = ((terms A B i k q).map txt).map eS ++ [.string (txt (A i q * B q k))] by rw [terms_succ]; simp [eS])
      have HVr := Lib.hid (HV.out.below hBL (Nat.le_refl _)); have HUr := Lib.hid (HU.out.below hBL (Nat.le_refl _)); have HEr := Lib.hid (HE.out.below hBL (Nat.le_refl _)); have HBr := Lib.hid (Below.refl wr.heap.size wr); have HU0 := Lib.hid (Up.start wr)
      clear gx gy hU
      go_wp2_with fail
      go_region_held3 (fun w' => Up wr.heap.size wr w' ∧ (w'.cell? ⟨g1, 0, none⟩ = some (.int .i64 R) ∧ w'.cell? ⟨g1, 1, none⟩ = some (.int .i64 (n : Nat)) ∧ w'.cell? ⟨g1, 2, none⟩ = some (.slice a xs.length cap)) ∧ w'.cell? ⟨g2, 0, none⟩ = some (.int .i64 R') ∧ w'.cell? ⟨g2, 1, none⟩ = some (.int .i64 (p : Nat)) ∧ w'.cell? ⟨g2, 2, none⟩ = some (.slice a' ys.length cap'))
        (((refine HHr.out _ ?_); first
          | with_reducible exact HU0.out.drew
          | with_reducible exact Up.call (And.left (by assumption)) (by assumption)
          | with_reducible assumption
          | with_reducible exact And.left (by assumption)))
        (first
          | (go_at_call_of 86 (Value.agg #[Value.int .i64 R, Value.int .i64 (n : Int), Value.slice a xs.length cap]); (with_reducible refine (Mat_any _ R (n : Int) _ xs n i q _ (Up.sl (And.left (by assumption)) HVr.out HBr.out (Nat.le_refl _)) rfl HL.out HX'.out).mono ?_); rintro e w4 ⟨u4, rfl, rfl, hb4⟩)
          | (go_at_call_of 86 (Value.agg #[Value.int .i64 R', Value.int .i64 (p : Int), Value.slice a' ys.length cap']); (with_reducible refine (Mat_any _ R' (p : Int) _ ys p q k _ (Up.sl (And.left (by assumption)) HUr.out HBr.out (Nat.le_refl _)) rfl HL'.out HY'.out).mono ?_); rintro e w5 ⟨u5, rfl, rfl, hb5⟩)
          | (go_at_call 10; (with_reducible refine (Mul_ok _ _ _ (A i q) (B q k) (.of HGX.out) (.of HGY.out) (HEr.out.below (Up.bel (And.left (by assumption))) (Nat.le_refl _))).mono ?_); rintro e w6 ⟨u6, rfl, rfl, hb6⟩; rw [HR.out]))
      all_goals
        go_wp2_with (at_builtin; refine app1 (news := [.string (txt (A i q * B q k))]) elemStr rfl _ _ rfl rfl rfl (own_below hO.out (Up.bel (And.left (by assumption))) (Nat.le_refl _)) (hBL.trans ((Up.bel (And.left (by assumption))).mono hBL.size)) (Nat.le_refl _) (Nat.le_trans hBL.size (Up.bel (And.left (by assumption))).size) rfl (by simp [Value.oneCell']) (by omega) (by unfold maxLen; omega) ?_; intro v7 w7 hown7 hb7; have HO7 := Lib.hid hown7; clear hown7)
        go_roundw
        case rel => exact ⟨q + 1, by omega, by go_num, Lib.hid (by rw [HT.out]; exact HO7.out), Nat.le_refl _, hb7⟩
        case measure => simp [intOf]; omega
    · obtain rfl : q = n := by omega
      have HSl := Lib.hid (Sl.ofOwns (enc := eS) (xs := (terms A B i k q).map txt) (by have := hO.out; rwa [show (q : Nat) = ((terms A B i k q).map txt).length by simp [terms]] at this))
      go_wp2_with (go_at_call 117; (with_reducible refine (Sum_ok _ _ _ _ HSl.out (by simp [terms]; omega) HG.out HC.out (HE.out.below hBL (Nat.le_refl _))).mono ?_); rintro e w6 ⟨u6, rfl, rfl, hb6⟩; rw [HS.out])
      go_ret2
      exact ⟨_, rfl, rfl, Up.bel (hU.call hb6)⟩
/-- A matrix, the function that leaves out a number, a row and a column. -/
theorem held_min {h g1 g2 g3 g4 : Nat} {W : World} {a b c d e f : Value} {T T1 T2 T3 : TypeId} (h1 : Blk W g1 [a, b, c] T) (h2 : Blk W g2 [d] T1) (h3 : Blk W g3 [e] T2) (h4 : Blk W g4 [f] T3) (hg1 : g1 < h) (hg2 : g2 < h) (hg3 : g3 < h) (hg4 : g4 < h) :
    ∀ w', Up h W w' → Up h W w' ∧ (w'.cell? ⟨g1, 0, none⟩ = some a ∧ w'.cell? ⟨g1, 1, none⟩ = some b ∧ w'.cell? ⟨g1, 2, none⟩ = some c) ∧ w'.cell? ⟨g2, 0, none⟩ = some d ∧ w'.cell? ⟨g3, 0, none⟩ = some e ∧ w'.cell? ⟨g4, 0, none⟩ = some f :=
  fun _ H => ⟨H, ⟨(H.box h1 hg1).cell 0 _ rfl, (H.box h1 hg1).cell 1 _ rfl, (H.box h1 hg1).cell 2 _ rfl⟩, (H.box h2 hg2).cell 0 _ rfl, (H.box h3 hg3).cell 0 _ rfl, (H.box h4 hg4).cell 0 _ rfl⟩
set_option maxHeartbeats 4000000 in
theorem Minor2_any (w : World) (g gf gr gc : Nat) (R : Int) (v : Value) (xs : List ByteArray) (c i k r0 k0 : Nat) (s : ByteArray) (hk : Blk w g [.int .i64 R, .int .i64 c, v] 24) (hf : Blk w gf [.func (.func 84) #[] #[]] 109) (hr : Blk w gr [.int .i64 r0] 3) (hc : Blk w gc [.int .i64 k0] 3)
    (hv : Sl eS w v xs) (hl : xs.length ≤ 256) (hi : i ≤ 1000000) (hkk : k ≤ 1000000) (hs : xs[sk r0 i * c + sk k0 k]? = some s) :
    Calls Tryz.prog 85 #[.int .i64 i, .int .i64 k, .pointer (some ⟨g, 0, none⟩), .pointer (some ⟨gf, 0, none⟩), .pointer (some ⟨gr, 0, none⟩), .pointer (some ⟨gc, 0, none⟩)] w (Rets fun v w' => v = .tuple #[.string s, .int .i64 0] ∧ Below w.heap.size w w') := by
  have HV := Lib.hid hv; have HS := Lib.hid hs; have HL := Lib.hid hl
  have HB := Lib.hid (Below.refl w.heap.size w); have HU0 := Lib.hid (Up.start w)
  have HH := Lib.hid (held_min hk hf hr hc hk.lt hf.lt hr.lt hc.lt)
  obtain ⟨a, cap, rfl⟩ := sl_form hv
  obtain ⟨-, ⟨c0, c1, c2⟩, d0, d1, d2⟩ := HH.out w ⟨Nat.le_refl _, Below.refl _ _⟩
  clear hv hs hk hf hr hc hl
  go_enter Tryz.func85, Tryz.ntmps85
  go_wp2_with fail
  go_region_held3 (fun w' => Up w.heap.size w w' ∧ (w'.cell? ⟨g, 0, none⟩ = some (.int .i64 R) ∧ w'.cell? ⟨g, 1, none⟩ = some (.int .i64 (c : Nat)) ∧ w'.cell? ⟨g, 2, none⟩ = some (.slice a xs.length cap)) ∧ w'.cell? ⟨gf, 0, none⟩ = some (.func (.func 84) #[] #[]) ∧ w'.cell? ⟨gr, 0, none⟩ = some (.int .i64 (r0 : Nat)) ∧ w'.cell? ⟨gc, 0, none⟩ = some (.int .i64 (k0 : Nat)))
    (((refine HH.out _ ?_); first
      | with_reducible exact HU0.out.drew
      | with_reducible exact Up.call (And.left (by assumption)) (by assumption)
      | with_reducible assumption
      | with_reducible exact And.left (by assumption)))
    (first
      | (go_at_call_of 84 (Value.int .i64 (i : Int)); (with_reducible refine (Minor1_any _ i r0 hi).mono ?_); rintro e w4 ⟨u4, rfl, rfl, rfl⟩)
      | (go_at_call_of 84 (Value.int .i64 (k : Int)); (with_reducible refine (Minor1_any _ k k0 hkk).mono ?_); rintro e w5 ⟨u5, rfl, rfl, rfl⟩)
      | (go_at_call 86; (with_reducible refine (Mat_any _ R (c : Int) _ xs c _ _ _ (Up.sl (And.left (by assumption)) HV.out HB.out (Nat.le_refl _)) rfl HL.out HS.out).mono ?_); rintro e w6 ⟨u6, rfl, rfl, hb6⟩))
  all_goals
    go_wp2_with fail
    go_ret2
    exact ⟨_, rfl, rfl, Up.bel (And.left (by assumption))⟩
/-- The first error of two matrices. -/
def twoM (R C : Int) (xs : List ByteArray) (R' C' : Int) (ys : List ByteArray) : Int := if mchkM R C xs = 0 then mchkM R' C' ys else mchkM R C xs
set_option maxHeartbeats 2000000 in
theorem checks2_any (w : World) (g : Nat) (R C R' C' : Int) (v u : Value) (xs ys : List ByteArray) (hk : Blk w g [.int .i64 R, .int .i64 C, v, .int .i64 R', .int .i64 C', u] 24) (hv : Sl eS w v xs) (hu : Sl eS w u ys) (hsz : xs.length ≤ 256 → ∀ s ∈ xs, s.size ≤ 1000000) (hsz' : ys.length ≤ 256 → ∀ s ∈ ys, s.size ≤ 1000000) :
    Calls Tryz.prog 81 #[.slice (some ⟨g, 0, none⟩) 2 2] w (Rets fun r w' => r = .int .i64 (twoM R C xs R' C' ys) ∧ Below w.heap.size w w') := by
  have HV := Lib.hid hv; have HU := Lib.hid hu; have HSZ := Lib.hid hsz; have HSZ' := Lib.hid hsz'; have HK := Lib.hid hk
  obtain ⟨a, cap, rfl⟩ := sl_form hv
  obtain ⟨a', cap', rfl⟩ := sl_form hu
  clear hv hu hsz hsz' hk
  go_enter Tryz.func81, Tryz.ntmps81
  go_wp2
  go_loopw [8] (fun i wr => ∃ q : Nat, q ≤ 2 ∧ i = .int .i64 q ∧ Hid (1 ≤ q → mchkM R C xs = 0) ∧ Hid (2 ≤ q → mchkM R' C' ys = 0) ∧ Below w.heap.size w wr) (fun i _ => 2 - (intOf i).toNat)
  case atStart => exact ⟨0, Nat.zero_le _, rfl, Lib.hid (by omega), Lib.hid (by omega), Below.refl _ _⟩
  case round =>
    obtain ⟨q, hq, rfl, hA, hB, hb⟩ := hrel
    have hkr := HK.out.below hb (Nat.le_refl _)
    have c0 := hkr.cell 0 _ rfl; have c1 := hkr.cell 1 _ rfl; have c2 := hkr.cell 2 _ rfl; have c3 := hkr.cell 3 _ rfl; have c4 := hkr.cell 4 _ rfl; have c5 := hkr.cell 5 _ rfl
    have hba := hb.alloc hb.size (.cells #[.int .i64 R, .int .i64 C, .slice a xs.length cap] 24)
    have hba' := hb.alloc hb.size (.cells #[.int .i64 R', .int .i64 C', .slice a' ys.length cap'] 24)
    clear hkr
    rcases (show q = 0 ∨ q = 1 ∨ q = 2 by omega) with rfl | rfl | rfl
    · by_cases h : mchkM R C xs = 0
      · have H := Lib.hid h
        clear h
        go_wp2_with (go_at_call 42; (with_reducible refine (MCheck_any _ R C _ xs (HV.out.below hba (Nat.le_refl _)) HSZ.out).mono ?_); rintro e w1 ⟨v, rfl, rfl, hb1⟩; rw [H.out])
        go_roundw
        case rel => exact ⟨1, by omega, by go_num, Lib.hid (fun _ => H.out), Lib.hid (by omega), hba.trans (hb1.mono hba.size)⟩
        case measure => simp [intOf]
      · have hne : (mchkM R C xs != 0) = true := by simp [h]
        have H := Lib.hid (show twoM R C xs R' C' ys = mchkM R C xs from if_neg h)
        clear h
        go_wp2_with (go_at_call 42; (with_reducible refine (MCheck_any _ R C _ xs (HV.out.below hba (Nat.le_refl _)) HSZ.out).mono ?_); rintro e w1 ⟨v, rfl, rfl, hb1⟩)
        go_ret
        exact ⟨_, rfl, by rw [H.out]; rfl, hba.trans (hb1.mono hba.size)⟩
    · have h0 := hA.out (Nat.le_refl _)
      by_cases h : mchkM R' C' ys = 0
      · have H := Lib.hid h; have H0 := Lib.hid h0
        clear h h0
        go_wp2_with (go_at_call 42; (with_reducible refine (MCheck_any _ R' C' _ ys (HU.out.below hba' (Nat.le_refl _)) HSZ'.out).mono ?_); rintro e w1 ⟨v, rfl, rfl, hb1⟩; rw [H.out])
        go_roundw
        case rel => exact ⟨2, by omega, by go_num, Lib.hid (fun _ => H0.out), Lib.hid (fun _ => H.out), hba'.trans (hb1.mono hba'.size)⟩
        case measure => simp [intOf]
      · have hne : (mchkM R' C' ys != 0) = true := by simp [h]
        have H := Lib.hid (show twoM R C xs R' C' ys = mchkM R' C' ys from if_pos h0)
        clear h h0
        go_wp2_with (go_at_call 42; (with_reducible refine (MCheck_any _ R' C' _ ys (HU.out.below hba' (Nat.le_refl _)) HSZ'.out).mono ?_); rintro e w1 ⟨v, rfl, rfl, hb1⟩)
        go_ret
        exact ⟨_, rfl, by rw [H.out]; rfl, hba'.trans (hb1.mono hba'.size)⟩
    · have H := Lib.hid (show twoM R C xs R' C' ys = 0 by unfold twoM; rw [if_pos (hA.out (by omega)), hB.out (Nat.le_refl _)])
      go_wp2
      go_ret
      exact ⟨_, rfl, by rw [H.out]; rfl, hb⟩
end Go.Proofs.YtajkhbpffakmfaaGreatDoor

namespace Go.Proofs.YtajkhbpffakmfaaGreatDoor
open Go.RowKit
set_option maxRecDepth 100000

theorem filledA_make (w : World) (r c : Nat) (q0 q1 : Value) (A : Mat) (hr : r ≤ 16) (hc : c ≤ 16)
    (hF : ∀ i k w', i < r → k < c → Below w.heap.size w w' → Calls Tryz.prog 80 #[.int .i64 i, .int .i64 k, q0, q1] w' (Rets fun v w'' => v = .tuple #[.string (txt (A i k)), .int .i64 0] ∧ Below w'.heap.size w' w'')) :
    Calls Tryz.prog 79 #[.int .i64 r, .int .i64 c, .func (.func 80) #[] #[q0, q1]] w (Rets fun v' w' => ∃ u, v' = .tuple #[.agg #[.int .i64 r, .int .i64 c, u], .int .i64 0] ∧ Sl eS w' u (cellsF r c A) ∧ Below w.heap.size w w') :=
  filled_make w r c q0 q1 _ (cellsF_len _ _ _) hr hc fun i k h w' hi hk hb => by rw [cellsF_get A hk h]; exact hF i k w' hi hk hb
theorem filledA_product (w : World) (r c : Nat) (q0 q1 : Value) (A : Mat) (hr : r ≤ 16) (hc : c ≤ 16)
    (hF : ∀ i k w', i < r → k < c → Below w.heap.size w w' → Calls Tryz.prog 116 #[.int .i64 i, .int .i64 k, q0, q1] w' (Rets fun v w'' => v = .tuple #[.string (txt (A i k)), .int .i64 0] ∧ Below w'.heap.size w' w'')) :
    Calls Tryz.prog 79 #[.int .i64 r, .int .i64 c, .func (.func 116) #[] #[q0, q1]] w (Rets fun v' w' => ∃ u, v' = .tuple #[.agg #[.int .i64 r, .int .i64 c, u], .int .i64 0] ∧ Sl eS w' u (cellsF r c A) ∧ Below w.heap.size w w') :=
  filled_product w r c q0 q1 _ (cellsF_len _ _ _) hr hc fun i k h w' hi hk hb => by rw [cellsF_get A hk h]; exact hF i k w' hi hk hb
theorem filledA_minor (w : World) (r c : Nat) (q0 q1 q2 q3 : Value) (A : Mat) (hr : r ≤ 16) (hc : c ≤ 16)
    (hF : ∀ i k w', i < r → k < c → Below w.heap.size w w' → Calls Tryz.prog 85 #[.int .i64 i, .int .i64 k, q0, q1, q2, q3] w' (Rets fun v w'' => v = .tuple #[.string (txt (A i k)), .int .i64 0] ∧ Below w'.heap.size w' w'')) :
    Calls Tryz.prog 79 #[.int .i64 r, .int .i64 c, .func (.func 85) #[] #[q0, q1, q2, q3]] w (Rets fun v' w' => ∃ u, v' = .tuple #[.agg #[.int .i64 r, .int .i64 c, u], .int .i64 0] ∧ Sl eS w' u (cellsF r c A) ∧ Below w.heap.size w w') :=
  filled_minor w r c q0 q1 q2 q3 _ (cellsF_len _ _ _) hr hc fun i k h w' hi hk hb => by rw [cellsF_get A hk h]; exact hF i k w' hi hk hb
/-- A matrix or an error. -/
structure MR where
  R : Int
  C : Int
  xs : List ByteArray
  k : Int
def MR.bad (k : Int) : MR := ⟨0, 0, [], k⟩
def RetM (w : World) (R C : Int) (xs : List ByteArray) (k : Int) : Ending → World → Prop := Rets fun v w' => ∃ u, v = .tuple #[.agg #[.int .i64 R, .int .i64 C, u], .int .i64 k] ∧ Sl eS w' u xs ∧ Below w.heap.size w w'
def RetMR (w : World) (m : MR) : Ending → World → Prop := RetM w m.R m.C m.xs m.k
theorem Sl.nil' {α : Type} (enc : α → Value) (w : World) : Sl enc w (.slice none 0 0) [] := Sl.ofOwns (base := 0) (e := 0) (World.ownsRow_nil _ _ _ _)
theorem Blk.at1 (w : World) (o : Obj) (cs : List Value) (T : TypeId) : Blk ((w.alloc o).alloc (.cells cs.toArray T)) (w.heap.size + 1) cs T := by
  have := Blk.new (w.alloc o) cs T; rwa [World.size_alloc] at this
theorem Blk.at2 (w : World) (o o' : Obj) (cs : List Value) (T : TypeId) : Blk (((w.alloc o).alloc o').alloc (.cells cs.toArray T)) (w.heap.size + 1 + 1) cs T := by
  have := Blk.at1 (w.alloc o) o' cs T; rwa [World.size_alloc] at this
theorem Blk.at3 (w : World) (o o' o'' : Obj) (cs : List Value) (T : TypeId) : Blk ((((w.alloc o).alloc o').alloc o'').alloc (.cells cs.toArray T)) (w.heap.size + 1 + 1 + 1) cs T := by
  have := Blk.at2 (w.alloc o) o' o'' cs T; rwa [World.size_alloc] at this

/-- What Transpose answers. -/
def trS (R C : Int) (xs : List ByteArray) : MR := if mchkM R C xs = 0 then ⟨C, R, cellsF C.toNat R.toNat (tr (matF C.toNat xs)), 0⟩ else .bad (mchkM R C xs)
theorem RM.get {R C : Int} {xs : List ByteArray} {r c i k : Nat} (h : RM R C xs r c) (hi : i < r) (hk : k < c) : xs[i * c + k]? = some (txt (matF c xs i k)) := by
  have hp := h.place hi hk
  rw [List.getElem?_eq_getElem hp, (h.good hi hk).eq]
/-- What Unit answers. -/
def unitS (n : Int) : MR := if sideB n = true then ⟨n, n, cellsF n.toNat n.toNat one, 0⟩ else .bad 2
/-- What Get answers. -/
def getS (R C : Int) (xs : List ByteArray) (i k : Int) : ByteArray × Int := if MthereS R C xs i k = 0 then (txt (matF C.toNat xs i.toNat k.toNat), 0) else (⟨#[]⟩, MthereS R C xs i k)
theorem there_of {R C : Int} {xs : List ByteArray} {i k : Int} (h : MthereS R C xs i k = 0) : ∃ r c a b : Nat, RM R C xs r c ∧ i = (a : Int) ∧ k = (b : Int) ∧ a < r ∧ b < c := by
  unfold MthereS at h
  by_cases hm : mchkM R C xs = 0
  · rw [if_pos hm] at h
    obtain ⟨r, c, hrm⟩ := rm_of hm
    have h1 := hrm.rows; have h2 := hrm.cols
    by_cases hh : i < 0 ∨ R ≤ i ∨ k < 0 ∨ C ≤ k
    · rw [if_pos hh] at h; omega
    · exact ⟨r, c, i.toNat, k.toNat, hrm, by omega, by omega, by omega, by omega⟩
  · rw [if_neg hm] at h; exact absurd h hm
/-- What Make answers. -/
def makeS (R C : Int) (ls : List Int) : MR := if sideB R = true then (if sideB C = true then (if (ls.length : Int) = R * C then ⟨R, C, ls.map txt, 0⟩ else .bad 8) else .bad 2) else .bad 2
def listM (c : Nat) (ls : List Int) : Mat := fun i k => ls.getD (i * c + k) 0
theorem cells_list {r c : Nat} {ls : List Int} (h : ls.length = r * c) : ls.map txt = cellsF r c (listM c ls) := by
  refine List.ext_getElem (by rw [List.length_map, cellsF_len, h]) fun t h1 h2 => ?_
  simp only [cellsF, listM, List.getElem_map, List.getElem_range]
  have hl : t < ls.length := by simpa using h1
  rw [show t / c * c + t % c = t by rw [Nat.mul_comm]; exact Nat.div_add_mod t c, List.getD_eq_getElem?_getD, List.getElem?_eq_getElem hl]; rfl
theorem make_at {v : Value} (ls : List Int) (r c i k gL gC : Nat) (w : World) (hl : ls.length = r * c) (hl2 : ls.length ≤ 256) (hi : i < r) (hk : k < c) (hL : Blk w gL [v] 61) (hC : Blk w gC [.int .i64 (c : Nat)] 3) (hv : Sl eZ w v ls) (hz : ∀ z ∈ ls, -9223372036854775808 ≤ z ∧ z ≤ 9223372036854775807) (he : Env w) :
    Calls Tryz.prog 80 #[.int .i64 i, .int .i64 k, .pointer (some ⟨gL, 0, none⟩), .pointer (some ⟨gC, 0, none⟩)] w (Rets fun v w' => v = .tuple #[.string (txt (listM c ls i k)), .int .i64 0] ∧ Below w.heap.size w w') := by
  have h : i * c + k < ls.length := by rw [hl]; exact mul_lt hi hk
  have e : listM c ls i k = ls[i * c + k] := by unfold listM; rw [List.getD_eq_getElem?_getD, List.getElem?_eq_getElem h]; rfl
  have hz := hz _ (List.getElem_mem h)
  rw [e]
  exact Make1_any w gL gC v ls c i k _ hL hC hv hl2 (List.getElem?_eq_getElem h) hz.1 hz.2 he
set_option maxHeartbeats 4000000 in
theorem Make_any (w : World) (R C : Int) (v : Value) (ls : List Int) (hv : Sl eZ w v ls) (hz : ∀ z ∈ ls, -9223372036854775808 ≤ z ∧ z ≤ 9223372036854775807) (he : Env w) :
    Calls Tryz.prog 34 #[.int .i64 R, .int .i64 C, v] w (RetMR w (makeS R C ls)) := by
  have HV := Lib.hid hv; have HZ := Lib.hid hz; have HE := Lib.hid he
  obtain ⟨ad, cap, rfl⟩ := sl_form hv
  clear hv hz he
  by_cases hR : sideB R = true
  · by_cases hC : sideB C = true
    · have hm2 := side_mul hR hC
      obtain ⟨p, hRC⟩ : ∃ p, R * C = p := ⟨_, rfl⟩
      rw [hRC] at hm2
      have H1 := Lib.hid hR; have H2 := Lib.hid hC
      by_cases hl : (ls.length : Int) = p
      · have hne : ((ls.length : Int) != p) = false := by simp [hl]
        obtain ⟨h0, h1⟩ := (sideB_iff R).1 hR
        obtain ⟨h2, h3⟩ := (sideB_iff C).1 hC
        obtain ⟨r, rfl⟩ : ∃ r : Nat, R = (r : Int) := ⟨R.toNat, by omega⟩
        obtain ⟨c, rfl⟩ : ∃ c : Nat, C = (c : Int) := ⟨C.toNat, by omega⟩
        have hr : r ≤ 16 := by omega
        have hc : c ≤ 16 := by omega
        have hln : ls.length = r * c := by
          have : ((r * c : Nat) : Int) = (r : Int) * (c : Int) := Int.natCast_mul _ _
          omega
        have HLN := Lib.hid hln
        have hl256 : ls.length ≤ 256 := by omega
        show Calls _ _ _ _ (RetM w (makeS r c ls).R (makeS r c ls).C (makeS r c ls).xs (makeS r c ls).k)
        rw [show makeS r c ls = ⟨r, c, cellsF r c (listM c ls), 0⟩ by unfold makeS; rw [if_pos hR, if_pos hC, if_pos (by rw [hRC]; exact hl), cells_list hln]]
        have HB := Lib.hid ((((Below.refl w.heap.size w).alloc (Nat.le_refl _) (.cells #[.int .i64 c] 3)).alloc (by simp) (.cells #[.slice ad ls.length cap] 61)).alloc (by simp; omega) (.cells #[.int .i64 0, .int .i64 0, .slice none 0 0] 24))
        have q0 := HB.out
        have HKC := Lib.hid (((Blk.new w [.int .i64 c] 3).alloc (.cells #[.slice ad ls.length cap] 61)).alloc (.cells #[.int .i64 0, .int .i64 0, .slice none 0 0] 24))
        have HKL := Lib.hid ((Blk.at1 w (.cells #[.int .i64 c] 3) [.slice ad ls.length cap] 61).alloc (.cells #[.int .i64 0, .int .i64 0, .slice none 0 0] 24))
        have HR := Lib.hid (Blk.at2 w (.cells #[.int .i64 c] 3) (.cells #[.slice ad ls.length cap] 61) [.int .i64 0, .int .i64 0, .slice none 0 0] 24)
        have HV := Lib.hid (HV.out.below HB.out (Nat.le_refl _))
        have HE := Lib.hid (HE.out.below HB.out (Nat.le_refl _))
        have g0 := HKC.out.cell 0 _ rfl; have g1 := HKL.out.cell 0 _ rfl
        clear hR hC hl hln h0 h1 h2 h3
        go_enter Tryz.func34, Tryz.ntmps34
        go_wp2_with (first
          | (go_at_call 79; (with_reducible refine (filledA_make _ r c (.pointer (some ⟨w.heap.size + 1, 0, none⟩)) (.pointer (some ⟨w.heap.size, 0, none⟩)) (listM c ls) hr hc fun i k w' hi hk hb => make_at ls r c i k _ _ w' HLN.out hl256 hi hk (HKL.out.below hb (Nat.le_refl _)) (HKC.out.below hb (Nat.le_refl _)) (HV.out.below hb (Nat.le_refl _)) HZ.out (HE.out.below hb (Nat.le_refl _))).mono ?_); rintro e w3 ⟨v, rfl, x3, rfl, s3, h3⟩; have HS := Lib.hid s3; obtain ⟨a3, k3, rfl⟩ := sl_form s3; clear s3; have HR := Lib.hid (HR.out.below h3 (Nat.le_refl _)); have f3_HR_0 := HR.out.free 0; have f3_HR_1 := HR.out.free 1; have f3_HR_2 := HR.out.free 2; have c3_HR_0 := HR.out.cell 0 _ rfl; have c3_HR_1 := HR.out.cell 1 _ rfl; have c3_HR_2 := HR.out.cell 2 _ rfl; have q3 := q2.trans (h3.mono q2.size))
          | (go_at_call_of 78 (Value.int .i64 c); (with_reducible refine (Mside_any _ c).mono ?_); rintro e w' ⟨v, rfl, rfl, rfl⟩; rw [H2.out]; have q2 := q1)
          | (go_at_call_of 78 (Value.int .i64 r); (with_reducible refine (Mside_any _ r).mono ?_); rintro e w' ⟨v, rfl, rfl, rfl⟩; rw [H1.out]; have q1 := q0))
        obtain ⟨hR, hS, hW⟩ := res_done (R := r) (C := c) q3 (by omega) HR.out HS.out
        have z0 := hR.cell 0 _ rfl; have z1 := hR.cell 1 _ rfl; have z2 := hR.cell 2 _ rfl
        exact bodyPost_ret (v := .tuple #[.agg #[.int .i64 r, .int .i64 c, .slice a3 (cellsF r c (listM c ls)).length k3], .int .i64 0]) (by simp [results, Tryz.results34, go_sem, z0, z1, z2]) rfl ⟨_, rfl, _, rfl, hS, hW⟩
      · have hne : ((ls.length : Int) != p) = true := by simp [hl]
        show Calls _ _ _ _ (RetM w (makeS R C ls).R (makeS R C ls).C (makeS R C ls).xs (makeS R C ls).k)
        rw [show makeS R C ls = .bad 8 by unfold makeS; rw [if_pos hR, if_pos hC, if_neg (by rw [hRC]; exact hl)]]
        have HB := Lib.hid ((((Below.refl w.heap.size w).alloc (Nat.le_refl _) (.cells #[.int .i64 C] 3)).alloc (by simp) (.cells #[.slice ad ls.length cap] 61)).alloc (by simp; omega) (.cells #[.int .i64 0, .int .i64 0, .slice none 0 0] 24))
        have q0 := HB.out
        have HKC := Lib.hid (((Blk.new w [.int .i64 C] 3).alloc (.cells #[.slice ad ls.length cap] 61)).alloc (.cells #[.int .i64 0, .int .i64 0, .slice none 0 0] 24))
        have HKL := Lib.hid ((Blk.at1 w (.cells #[.int .i64 C] 3) [.slice ad ls.length cap] 61).alloc (.cells #[.int .i64 0, .int .i64 0, .slice none 0 0] 24))
        have HR := Lib.hid (Blk.at2 w (.cells #[.int .i64 C] 3) (.cells #[.slice ad ls.length cap] 61) [.int .i64 0, .int .i64 0, .slice none 0 0] 24)
        have HV := Lib.hid (HV.out.below HB.out (Nat.le_refl _))
        have HE := Lib.hid (HE.out.below HB.out (Nat.le_refl _))
        have g0 := HKC.out.cell 0 _ rfl; have g1 := HKL.out.cell 0 _ rfl
        clear hR hC hl
        go_enter Tryz.func34, Tryz.ntmps34
        go_wp2_with (first
          | (go_at_call_of 78 (Value.int .i64 C); (with_reducible refine (Mside_any _ C).mono ?_); rintro e w' ⟨v, rfl, rfl, rfl⟩; rw [H2.out]; have q2 := q1)
          | (go_at_call_of 78 (Value.int .i64 R); (with_reducible refine (Mside_any _ R).mono ?_); rintro e w' ⟨v, rfl, rfl, rfl⟩; rw [H1.out]; have q1 := q0))
        exact bodyPost_ret (v := .tuple #[.agg #[.int .i64 0, .int .i64 0, .slice none 0 0], .int .i64 8]) (by simp [results, Tryz.results34, go_sem]) rfl ⟨_, rfl, _, rfl, Sl.nil' _ _, HB.out⟩
    · have H1 := Lib.hid hR; have H2 := Lib.hid (show sideB C = false by simpa using hC)
      show Calls _ _ _ _ (RetM w (makeS R C ls).R (makeS R C ls).C (makeS R C ls).xs (makeS R C ls).k)
      rw [show makeS R C ls = .bad 2 by unfold makeS; rw [if_pos hR, if_neg hC]]
      have HB := Lib.hid ((((Below.refl w.heap.size w).alloc (Nat.le_refl _) (.cells #[.int .i64 C] 3)).alloc (by simp) (.cells #[.slice ad ls.length cap] 61)).alloc (by simp; omega) (.cells #[.int .i64 0, .int .i64 0, .slice none 0 0] 24))
      have q0 := HB.out
      have HKC := Lib.hid (((Blk.new w [.int .i64 C] 3).alloc (.cells #[.slice ad ls.length cap] 61)).alloc (.cells #[.int .i64 0, .int .i64 0, .slice none 0 0] 24))
      have HKL := Lib.hid ((Blk.at1 w (.cells #[.int .i64 C] 3) [.slice ad ls.length cap] 61).alloc (.cells #[.int .i64 0, .int .i64 0, .slice none 0 0] 24))
      have HR := Lib.hid (Blk.at2 w (.cells #[.int .i64 C] 3) (.cells #[.slice ad ls.length cap] 61) [.int .i64 0, .int .i64 0, .slice none 0 0] 24)
      have HV := Lib.hid (HV.out.below HB.out (Nat.le_refl _))
      have HE := Lib.hid (HE.out.below HB.out (Nat.le_refl _))
      have g0 := HKC.out.cell 0 _ rfl; have g1 := HKL.out.cell 0 _ rfl
      clear hR hC
      go_enter Tryz.func34, Tryz.ntmps34
      go_wp2_with (first
        | (go_at_call_of 78 (Value.int .i64 C); (with_reducible refine (Mside_any _ C).mono ?_); rintro e w' ⟨v, rfl, rfl, rfl⟩; rw [H2.out]; have q2 := q1)
        | (go_at_call_of 78 (Value.int .i64 R); (with_reducible refine (Mside_any _ R).mono ?_); rintro e w' ⟨v, rfl, rfl, rfl⟩; rw [H1.out]; have q1 := q0))
      exact bodyPost_ret (v := .tuple #[.agg #[.int .i64 0, .int .i64 0, .slice none 0 0], .int .i64 2]) (by simp [results, Tryz.results34, go_sem]) rfl ⟨_, rfl, _, rfl, Sl.nil' _ _, HB.out⟩
  · have H1 := Lib.hid (show sideB R = false by simpa using hR)
    show Calls _ _ _ _ (RetM w (makeS R C ls).R (makeS R C ls).C (makeS R C ls).xs (makeS R C ls).k)
    rw [show makeS R C ls = .bad 2 by unfold makeS; rw [if_neg hR]]
    have HB := Lib.hid ((((Below.refl w.heap.size w).alloc (Nat.le_refl _) (.cells #[.int .i64 C] 3)).alloc (by simp) (.cells #[.slice ad ls.length cap] 61)).alloc (by simp; omega) (.cells #[.int .i64 0, .int .i64 0, .slice none 0 0] 24))
    have q0 := HB.out
    have HKC := Lib.hid (((Blk.new w [.int .i64 C] 3).alloc (.cells #[.slice ad ls.length cap] 61)).alloc (.cells #[.int .i64 0, .int .i64 0, .slice none 0 0] 24))
    have HKL := Lib.hid ((Blk.at1 w (.cells #[.int .i64 C] 3) [.slice ad ls.length cap] 61).alloc (.cells #[.int .i64 0, .int .i64 0, .slice none 0 0] 24))
    have HR := Lib.hid (Blk.at2 w (.cells #[.int .i64 C] 3) (.cells #[.slice ad ls.length cap] 61) [.int .i64 0, .int .i64 0, .slice none 0 0] 24)
    have HV := Lib.hid (HV.out.below HB.out (Nat.le_refl _))
    have HE := Lib.hid (HE.out.below HB.out (Nat.le_refl _))
    have g0 := HKC.out.cell 0 _ rfl; have g1 := HKL.out.cell 0 _ rfl
    clear hR
    go_enter Tryz.func34, Tryz.ntmps34
    go_wp2_with (first
      | (go_at_call_of 78 (Value.int .i64 R); (with_reducible refine (Mside_any _ R).mono ?_); rintro e w' ⟨v, rfl, rfl, rfl⟩; rw [H1.out]; have q1 := q0))
    exact bodyPost_ret (v := .tuple #[.agg #[.int .i64 0, .int .i64 0, .slice none 0 0], .int .i64 2]) (by simp [results, Tryz.results34, go_sem]) rfl ⟨_, rfl, _, rfl, Sl.nil' _ _, HB.out⟩

/-- What Minor answers. -/
def minS (R C : Int) (xs : List ByteArray) (i k : Int) : MR := if MthereS R C xs i k = 0 then ⟨R - 1, C - 1, cellsF (R.toNat - 1) (C.toNat - 1) (mnr (matF C.toNat xs) i.toNat k.toNat), 0⟩ else .bad (MthereS R C xs i k)
set_option maxHeartbeats 4000000 in
theorem Minor_any (w : World) (R C : Int) (v : Value) (xs : List ByteArray) (i k : Int) (hv : Sl eS w v xs) (hsz : xs.length ≤ 256 → ∀ s ∈ xs, s.size ≤ 1000000) :
    Calls Tryz.prog 37 #[.agg #[.int .i64 R, .int .i64 C, v], .int .i64 i, .int .i64 k] w (RetMR w (minS R C xs i k)) := by
  have HV := Lib.hid hv; have HSZ := Lib.hid hsz
  obtain ⟨ad, cap, rfl⟩ := sl_form hv
  clear hv hsz
  by_cases h : MthereS R C xs i k = 0
  · have H := Lib.hid h
    obtain ⟨r, c, a, b, hrm, rfl, rfl, ha, hb⟩ := there_of h
    obtain rfl := hrm.rows; obtain rfl := hrm.cols
    have HRM := Lib.hid hrm
    have e1 : (r : Int) - 1 = ((r - 1 : Nat) : Int) := by omega
    have e2 : (c : Int) - 1 = ((c - 1 : Nat) : Int) := by omega
    have E1 := Lib.hid e1; have E2 := Lib.hid e2
    have hr16 := hrm.r16; have hc16 := hrm.c16
    have HM := Lib.hid (fun x y (hx : x < r - 1) (hy : y < c - 1) => show xs[sk a x * c + sk b y]? = some (txt (mnr (matF c xs) a b x y)) from hrm.get (show sk a x < r by have := sk_lt (r := a) hx; omega) (show sk b y < c by have := sk_lt (r := b) hy; omega))
    show Calls _ _ _ _ (RetM w (minS r c xs a b).R (minS r c xs a b).C (minS r c xs a b).xs (minS r c xs a b).k)
    rw [show minS r c xs a b = ⟨((r - 1 : Nat) : Int), ((c - 1 : Nat) : Int), cellsF (r - 1) (c - 1) (mnr (matF c xs) a b), 0⟩ by unfold minS; rw [if_pos h, e1, e2]; rfl]
    have HB := Lib.hid (((((Below.refl w.heap.size w).alloc (Nat.le_refl _) (.cells #[.int .i64 r, .int .i64 c, .slice ad xs.length cap] 24)).alloc (by simp) (.cells #[.int .i64 a] 3)).alloc (by simp; omega) (.cells #[.int .i64 b] 3)).alloc (by simp; omega) (.cells #[.int .i64 0, .int .i64 0, .slice none 0 0] 24))
    have q0 := HB.out
    have HK := Lib.hid ((((Blk.new w [.int .i64 r, .int .i64 c, .slice ad xs.length cap] 24).alloc (.cells #[.int .i64 a] 3)).alloc (.cells #[.int .i64 b] 3)).alloc (.cells #[.int .i64 0, .int .i64 0, .slice none 0 0] 24))
    have HKi := Lib.hid (((Blk.at1 w (.cells #[.int .i64 r, .int .i64 c, .slice ad xs.length cap] 24) [.int .i64 a] 3).alloc (.cells #[.int .i64 b] 3)).alloc (.cells #[.int .i64 0, .int .i64 0, .slice none 0 0] 24))
    have HKk := Lib.hid ((Blk.at2 w (.cells #[.int .i64 r, .int .i64 c, .slice ad xs.length cap] 24) (.cells #[.int .i64 a] 3) [.int .i64 b] 3).alloc (.cells #[.int .i64 0, .int .i64 0, .slice none 0 0] 24))
    have HR := Lib.hid (Blk.at3 w (.cells #[.int .i64 r, .int .i64 c, .slice ad xs.length cap] 24) (.cells #[.int .i64 a] 3) (.cells #[.int .i64 b] 3) [.int .i64 0, .int .i64 0, .slice none 0 0] 24)
    have HV := Lib.hid (HV.out.below HB.out (Nat.le_refl _))
    clear h hrm
    go_enter Tryz.func37, Tryz.ntmps37
    go_wp2_with (first
      | (go_at_call 79; go_loud (with_reducible refine (filledA_minor _ (r - 1) (c - 1) (.pointer (some ⟨w.heap.size, 0, none⟩)) (.pointer (some ⟨w1.heap.size, 0, none⟩)) (.pointer (some ⟨w.heap.size + 1, 0, none⟩)) (.pointer (some ⟨w.heap.size + 1 + 1, 0, none⟩)) (mnr (matF c xs) a b) (by omega) (by omega) fun x y w' hx hy hb => Minor2_any w' w.heap.size w1.heap.size (w.heap.size + 1) (w.heap.size + 1 + 1) r _ xs c x y a b _ ((HK.out.alloc _).below hb (Nat.le_refl _)) ((Blk.new w1 [.func (.func 84) #[] #[]] 109).below hb (Nat.le_refl _)) ((HKi.out.alloc _).below hb (Nat.le_refl _)) ((HKk.out.alloc _).below hb (Nat.le_refl _)) ((HV.out.below ((Below.refl w1.heap.size w1).alloc (Nat.le_refl _) _) (Nat.le_refl _)).below hb (Nat.le_refl _)) HRM.out.l256 (by omega) (by omega) (HM.out x y hx hy)).mono ?_); rintro e w2 ⟨v, rfl, x2, rfl, s2, h2⟩; have h2 := ((Below.refl w1.heap.size w1).alloc (Nat.le_refl _) (.cells #[.func (.func 84) #[] #[]] 109)).trans (h2.mono (by simp)); have HS := Lib.hid s2; obtain ⟨a2, k2, rfl⟩ := sl_form s2; clear s2; have HV := Lib.hid (HV.out.below h2 (Nat.le_refl _)); have HK := Lib.hid (HK.out.below h2 (Nat.le_refl _)); have c2_HK_0 := HK.out.cell 0 _ rfl; have c2_HK_1 := HK.out.cell 1 _ rfl; have c2_HK_2 := HK.out.cell 2 _ rfl; have HR := Lib.hid (HR.out.below h2 (Nat.le_refl _)); have f2_HR_0 := HR.out.free 0; have f2_HR_1 := HR.out.free 1; have f2_HR_2 := HR.out.free 2; have c2_HR_0 := HR.out.cell 0 _ rfl; have c2_HR_1 := HR.out.cell 1 _ rfl; have c2_HR_2 := HR.out.cell 2 _ rfl; have q2 := q1.trans (h2.mono q1.size))
      | (go_at_call 83; (with_reducible refine (Mthere_any _ r c _ xs a b HV.out HSZ.out).mono ?_); rintro e w1 ⟨v, rfl, rfl, h1⟩; rw [H.out]; have HKi := Lib.hid (HKi.out.below h1 (Nat.le_refl _)); have HKk := Lib.hid (HKk.out.below h1 (Nat.le_refl _)); have HK9 := Lib.hid ((HK.out.below h1 (Nat.le_refl _)).alloc (.cells #[.func (.func 84) #[] #[]] 109)); have m0 := HK9.out.cell 0 _ rfl; have m1 := HK9.out.cell 1 _ rfl; have HV := Lib.hid (HV.out.below h1 (Nat.le_refl _)); have HK := Lib.hid (HK.out.below h1 (Nat.le_refl _)); have c1_HK_0 := HK.out.cell 0 _ rfl; have c1_HK_1 := HK.out.cell 1 _ rfl; have c1_HK_2 := HK.out.cell 2 _ rfl; have HR := Lib.hid (HR.out.below h1 (Nat.le_refl _)); have f1_HR_0 := HR.out.free 0; have f1_HR_1 := HR.out.free 1; have f1_HR_2 := HR.out.free 2; have c1_HR_0 := HR.out.cell 0 _ rfl; have c1_HR_1 := HR.out.cell 1 _ rfl; have c1_HR_2 := HR.out.cell 2 _ rfl; have q1 := q0.trans (h1.mono q0.size)))
    obtain ⟨hR, hS, hW⟩ := res_done (R := ((r - 1 : Nat) : Int)) (C := ((c - 1 : Nat) : Int)) q2 (by omega) HR.out HS.out
    have z0 := hR.cell 0 _ rfl; have z1 := hR.cell 1 _ rfl; have z2 := hR.cell 2 _ rfl
    exact bodyPost_ret (v := .tuple #[.agg #[.int .i64 ((r - 1 : Nat) : Int), .int .i64 ((c - 1 : Nat) : Int), .slice a2 (cellsF (r - 1) (c - 1) (mnr (matF c xs) a b)).length k2], .int .i64 0]) (by simp [results, Tryz.results37, go_sem, z0, z1, z2]) rfl ⟨_, rfl, _, rfl, hS, hW⟩
  · have hne : (MthereS R C xs i k != 0) = true := by simp [h]
    show Calls _ _ _ _ (RetM w (minS R C xs i k).R (minS R C xs i k).C (minS R C xs i k).xs (minS R C xs i k).k)
    rw [show minS R C xs i k = .bad (MthereS R C xs i k) by unfold minS; rw [if_neg h]]
    have HB := Lib.hid (((((Below.refl w.heap.size w).alloc (Nat.le_refl _) (.cells #[.int .i64 R, .int .i64 C, .slice ad xs.length cap] 24)).alloc (by simp) (.cells #[.int .i64 i] 3)).alloc (by simp; omega) (.cells #[.int .i64 k] 3)).alloc (by simp; omega) (.cells #[.int .i64 0, .int .i64 0, .slice none 0 0] 24))
    have q0 := HB.out
    have HK := Lib.hid ((((Blk.new w [.int .i64 R, .int .i64 C, .slice ad xs.length cap] 24).alloc (.cells #[.int .i64 i] 3)).alloc (.cells #[.int .i64 k] 3)).alloc (.cells #[.int .i64 0, .int .i64 0, .slice none 0 0] 24))
    have HKi := Lib.hid (((Blk.at1 w (.cells #[.int .i64 R, .int .i64 C, .slice ad xs.length cap] 24) [.int .i64 i] 3).alloc (.cells #[.int .i64 k] 3)).alloc (.cells #[.int .i64 0, .int .i64 0, .slice none 0 0] 24))
    have HKk := Lib.hid ((Blk.at2 w (.cells #[.int .i64 R, .int .i64 C, .slice ad xs.length cap] 24) (.cells #[.int .i64 i] 3) [.int .i64 k] 3).alloc (.cells #[.int .i64 0, .int .i64 0, .slice none 0 0] 24))
    have HR := Lib.hid (Blk.at3 w (.cells #[.int .i64 R, .int .i64 C, .slice ad xs.length cap] 24) (.cells #[.int .i64 i] 3) (.cells #[.int .i64 k] 3) [.int .i64 0, .int .i64 0, .slice none 0 0] 24)
    have HV := Lib.hid (HV.out.below HB.out (Nat.le_refl _))
    clear h
    go_enter Tryz.func37, Tryz.ntmps37
    go_wp2_with (first
      | (go_at_call 83; (with_reducible refine (Mthere_any _ R C _ xs i k HV.out HSZ.out).mono ?_); rintro e w1 ⟨v, rfl, rfl, h1⟩; have HR := Lib.hid (HR.out.below h1 (Nat.le_refl _)); have f1_HR_0 := HR.out.free 0; have f1_HR_1 := HR.out.free 1; have f1_HR_2 := HR.out.free 2; have c1_HR_0 := HR.out.cell 0 _ rfl; have c1_HR_1 := HR.out.cell 1 _ rfl; have c1_HR_2 := HR.out.cell 2 _ rfl; have q1 := q0.trans (h1.mono q0.size)))
    obtain ⟨hR, hS, hW⟩ := res_done (R := 0) (C := 0) q1 (by omega) HR.out (Sl.nil' eS _)
    have z0 := hR.cell 0 _ rfl; have z1 := hR.cell 1 _ rfl; have z2 := hR.cell 2 _ rfl
    exact bodyPost_ret (v := .tuple #[.agg #[.int .i64 0, .int .i64 0, .slice none 0 0], .int .i64 (MthereS R C xs i k)]) (by simp [results, Tryz.results37, go_sem, z0, z1, z2]) rfl ⟨_, rfl, _, rfl, hS, hW⟩
end Go.Proofs.YtajkhbpffakmfaaGreatDoor

namespace Go.Proofs.YtajkhbpffakmfaaGreatDoor
set_option maxRecDepth 100000

theorem rank_rows {m n : Nat} {A : Mat} {s : Est} (h : Kept m n n A s) : ∃ B : Mat, ∀ i, i < m → ∃ (Q : Int) (w : Nat → Int), Q ≠ 0 ∧ ∀ j, j < n → Q * A i j = sm s.rank (fun t => w t * B t j) := by
  obtain ⟨B, c, hI, -, σ, hσ, hσ2⟩ := h.ex
  refine ⟨B, fun i hi => ?_⟩
  obtain ⟨i', hi', he⟩ := hσ2 i hi
  have hB : ∀ j, A i j = B i' j := fun j => by rw [(hσ i' hi').2 j, he]
  by_cases hlt : i' < s.rank
  · refine ⟨1, fun t => if t = i' then 1 else 0, by omega, fun j _ => ?_⟩
    rw [sm_one _ i' hlt fun t _ ht => by simp [ht], hB]; simp
  · obtain ⟨q, w, hq, hrel⟩ := hI.rel i' (by omega) hi'
    refine ⟨q * s.last, fun t => -w t, Int.mul_ne_zero hq hI.d0, fun j hj => ?_⟩
    have h1 := hrel j hj
    rw [hI.zero i' (by omega) hi' j hj, Int.mul_zero] at h1
    rw [hB]
    have : sm s.rank (fun t => -w t * B t j) = -sm s.rank (fun t => w t * B t j) := by
      rw [← sm_neg]; exact sm_congr fun t _ => by rw [Int.neg_mul]
    rw [this]; omega
/-- The rank of an m × n matrix: some minor of that size is not 0, and all greater ones are. -/
structure Rk (m n : Nat) (A : Mat) (r : Nat) : Prop where
  some : ∃ R C : List Nat, R.length = r ∧ C.length = r ∧ Asc m R ∧ Asc n C ∧ det r (fun i j => A (R.getD i 0) (C.getD j 0)) ≠ 0
  none : ∀ (k : Nat) (ρ γ : Nat → Nat), r < k → (∀ i, i < k → ρ i < m) → (∀ j, j < k → γ j < n) → det k (fun i j => A (ρ i) (γ j)) = 0
theorem Kept.rk {m n : Nat} {A : Mat} {s : Est} (h : Kept m n n A s) : Rk m n A s.rank := ⟨(rank_spec h).1, (rank_spec h).2⟩
theorem asc_at {m : Nat} {R : List Nat} (h : Asc m R) (i : Nat) (hi : i < R.length) : R.getD i 0 < m := by
  rw [List.getD_eq_getElem?_getD, List.getElem?_eq_getElem hi]
  exact h.2 _ (List.getElem_mem hi)
theorem Rk.le {m n r r' : Nat} {A : Mat} (h : Rk m n A r) (h' : Rk m n A r') : r' ≤ r := by
  obtain ⟨R, C, hR, hC, aR, aC, hd⟩ := h'.some
  rcases Nat.lt_or_ge r r' with hl | hl
  · exact absurd (h.none r' _ _ hl (fun i hi => asc_at aR i (by omega)) (fun j hj => asc_at aC j (by omega))) hd
  · exact hl
theorem Rk.uniq {m n r r' : Nat} {A : Mat} (h : Rk m n A r) (h' : Rk m n A r') : r = r' := Nat.le_antisymm (h'.le h) (h.le h')
theorem Rk.tr {m n r : Nat} {A : Mat} (h : Rk m n A r) : Rk n m (tr A) r := by
  refine ⟨?_, fun k ρ γ hk hρ hγ => ?_⟩
  · obtain ⟨R, C, hR, hC, aR, aC, hd⟩ := h.some
    refine ⟨C, R, hC, hR, aC, aR, ?_⟩
    rw [← det_tr] at hd
    exact hd
  · rw [← det_tr]
    exact h.none k γ ρ hk hγ hρ
theorem rk_congr {m n r : Nat} {A B : Mat} (h : Rk m n A r) (he : ∀ i j, i < m → j < n → A i j = B i j) : Rk m n B r := by
  refine ⟨?_, fun k ρ γ hk hρ hγ => ?_⟩
  · obtain ⟨R, C, hR, hC, aR, aC, hd⟩ := h.some
    refine ⟨R, C, hR, hC, aR, aC, ?_⟩
    rw [← det_congr fun i j hi hj => he _ _ (asc_at aR i (by omega)) (asc_at aC j (by omega))]
    exact hd
  · rw [← h.none k ρ γ hk hρ hγ]
    exact (det_congr fun i j hi hj => he _ _ (hρ i hi) (hγ j hj)).symm
theorem sm_swap_mul (n r : Nat) (w : Nat → Int) (B : Mat) (u : Nat → Int) : sm n (fun k => sm r (fun t => w t * B t k) * u k) = sm r (fun t => w t * sm n (fun k => B t k * u k)) := by
  have e : ∀ k, sm r (fun t => w t * B t k) * u k = sm r (fun t => w t * (B t k * u k)) := fun k => by
    rw [Int.mul_comm, ← sm_mul]
    exact sm_congr fun t _ => by rw [Int.mul_comm, Int.mul_assoc]
  rw [sm_congr (g := fun k => sm r (fun t => w t * (B t k * u k))) fun k _ => e k, sm_comm]
  exact sm_congr fun t _ => by rw [sm_mul]
/-- The rank of a product is at most that of the first factor. -/
theorem rank_left {m n p z : Nat} {A B : Mat} {s : Est} (h : Kept m n n A s) (hz : Rk m p (mulM n A B) z) : z ≤ s.rank := by
  rcases Nat.lt_or_ge s.rank z with hl | hl
  · obtain ⟨R, C, hR, hC, aR, aC, hd⟩ := hz.some
    obtain ⟨Y, hY⟩ := rank_rows h
    have H : ∀ i, i < z → ∃ (Q : Int) (w : Nat → Int), Q ≠ 0 ∧ ∀ j, j < n → Q * A (R.getD i 0) j = sm s.rank (fun t => w t * Y t j) := fun i hi => hY _ (asc_at aR i (by omega))
    refine absurd (det_comb hl _ (fun t j => sm n (fun k => Y t k * B k (C.getD j 0))) (fun i => if h : i < z then (H i h).choose else 1) (fun i => if h : i < z then (H i h).choose_spec.choose else fun _ => 0) (fun i hi => ?_) (fun i j hi hj => ?_)) hd
    · simp only [dif_pos hi]; exact (H i hi).choose_spec.choose_spec.1
    · simp only [dif_pos hi]
      have h2 := (H i hi).choose_spec.choose_spec.2
      obtain ⟨Q, hQ⟩ : ∃ Q, (H i hi).choose = Q := ⟨_, rfl⟩
      obtain ⟨w, hw⟩ : ∃ w, (H i hi).choose_spec.choose = w := ⟨_, rfl⟩
      rw [hw] at h2 ⊢
      rw [hQ] at h2
      show (H i hi).choose * mulM n A B (R.getD i 0) (C.getD j 0) = _
      rw [hQ, mulM, ← sm_mul, ← sm_swap_mul]
      exact sm_congr fun k hk => by rw [← h2 k hk, Int.mul_assoc]
  · exact hl
theorem tr_mul (n : Nat) (A B : Mat) : tr (mulM n A B) = mulM n (tr B) (tr A) := by
  funext i j
  exact sm_congr fun k _ => Int.mul_comm _ _
/-- The rank of a product is at most that of the second factor. -/
theorem rank_right {m n p z y : Nat} {A B : Mat} (hy : Rk n p B y) (hz : Rk m p (mulM n A B) z) : z ≤ y := by
  have h1 := Kept.cols (m := p) (n := n) (tr B) n (Nat.le_refl _)
  have h2 := hz.tr
  rw [tr_mul] at h2
  have h3 := rank_left h1 h2
  rwa [← hy.tr.uniq h1.rk] at h3
theorem Kept.rank_le {m n : Nat} {A : Mat} {s : Est} (h : Kept m n n A s) : s.rank ≤ m ∧ s.rank ≤ n := by
  refine ⟨by obtain ⟨B, c, hI, -⟩ := h.ex; exact hI.rk, ?_⟩
  have h1 := Kept.cols (m := n) (n := m) (tr A) m (Nat.le_refl _)
  rw [h.rk.tr.uniq h1.rk]
  obtain ⟨B, c, hI, -⟩ := h1.ex; exact hI.rk
/-- A square matrix has full rank exactly if its determinant is not 0. -/
theorem full_iff {n : Nat} {A : Mat} {s : Est} (h : Kept n n n A s) : det n A ≠ 0 ↔ s.rank = n := by
  have h1 := elim_det A h
  have hr := h.rank_le.1
  obtain ⟨B, c, hI, -⟩ := h.ex
  by_cases e : s.rank < n
  · rw [h1, if_pos e]; omega
  · rw [h1, if_neg e]
    have h2 : sgB s.neg ≠ 0 := by cases s.neg <;> simp [sgB]
    exact ⟨fun _ => by omega, fun _ => Int.mul_ne_zero h2 hI.d0⟩
end Go.Proofs.YtajkhbpffakmfaaGreatDoor

namespace Go.Proofs.YtajkhbpffakmfaaGreatDoor
open Go.RowKit Go.Shelf
set_option maxRecDepth 100000

attribute [local go_sem] Oper.semAt_some

theorem grown_below {w w' : World} (h : Below w.heap.size w w') : w.grownBy w' none := ⟨h.1, h.2, h.3, h.4, fun k hk _ => h.5 k hk⟩
/-- The rows that an iterator has handed out: each its own block. -/
structure RowsAt (base : Nat) (c : Nat) (A : Mat) (bs : List (Nat × Nat)) (W : World) : Prop where
  row : ∀ i (h : i < bs.length), W.ownsRow base 26 1 (rowV c bs[i]) c (rowL c A i)
  nod : (bs.map Prod.fst).Nodup
  lt : ∀ b ∈ bs.map Prod.fst, b < W.heap.size
theorem RowsAt.nil (base c : Nat) (A : Mat) (W : World) : RowsAt base c A [] W := ⟨fun i h => by simp at h, by simp, fun b h => by simp at h⟩
theorem RowsAt.kp {base c B : Nat} {A : Mat} {bs : List (Nat × Nat)} {W W' : World} (h : RowsAt base c A bs W) (hk : KpR B W W') (hs : W.heap.size ≤ W'.heap.size) : RowsAt base c A bs W' :=
  ⟨fun i hi => hk.own (h.row i hi), h.nod, fun b hb => Nat.lt_of_lt_of_le (h.lt b hb) hs⟩
theorem RowsAt.snoc {base c g cap : Nat} {A : Mat} {bs : List (Nat × Nat)} {W W1 : World} (h : RowsAt base c A bs W) (hb : Below W.heap.size W W1) (hB : base ≤ W.heap.size) (hr : W1.ownsRow W.heap.size 26 1 (rowV c (g, cap)) c (rowL c A bs.length)) (hg : W.heap.size ≤ g) (hg2 : g < W1.heap.size) : RowsAt base c A (bs ++ [(g, cap)]) W1 := by
  refine ⟨fun i hi => ?_, ?_, fun b hm => ?_⟩
  · by_cases e : i < bs.length
    · rw [List.getElem_append_left e]
      exact own_below (h.row i e) hb (Nat.le_refl _)
    · obtain rfl : i = bs.length := by simp at hi; omega
      simp only [List.getElem_append_right (Nat.le_refl _), Nat.sub_self, List.getElem_cons_zero]
      exact own_low hr hB
  · rw [List.map_append, List.nodup_append]
    refine ⟨h.nod, by simp, fun a ha b hb e => ?_⟩
    have h1 := h.lt a ha
    simp at hb
    omega
  · rw [List.map_append, List.mem_append] at hm
    rcases hm with hm | hm
    · exact Nat.lt_of_lt_of_le (h.lt b hm) hb.size
    · simp at hm; omega
theorem own_block {w : World} {b e s n : Nat} {v : Value} {ys : List Value} (h : w.ownsRow b e s v (n + 1) ys) : ∃ g cap, v = .slice (some ⟨g, 0, none⟩) (n + 1) cap ∧ b ≤ g ∧ g < w.heap.size := by
  rcases h.2 with ⟨_, h0⟩ | ⟨g, cap, cur, rfl, hb, hg, _⟩
  · omega
  · exact ⟨g, cap, rfl, hb, (Array.getElem?_eq_some_iff.1 hg).1⟩

theorem row_list {r c q m : Nat} {xs : List ByteArray} {A : Mat} (hx : xs = cellsF r (c + 1) A) (hm : q * (c + 1) = m) (hl : m + (c + 1) ≤ xs.length) : ((xs.drop m).take (c + 1)).map eS = rowL (c + 1) A q := by
  refine List.ext_getElem (by rw [List.length_map, List.length_take, List.length_drop, rowL_len]; omega) fun j h1 h2 => ?_
  have hj : j < c + 1 := by rw [rowL_len] at h2; exact h2
  simp only [List.getElem_map, List.getElem_take, List.getElem_drop, rowL, List.getElem_range, eS]
  subst hx
  have hjl : q * (c + 1) + j < (cellsF r (c + 1) A).length := by omega
  have e := cellsF_get (r := r) A hj hjl
  simp only [hm] at e
  rw [e]
theorem row_sl {r c q m b o cap k : Nat} {xs : List ByteArray} {A : Mat} {w : World} (hp : Cells eS w b o xs) (_hx : xs = cellsF r (c + 1) A) (_hm : q * (c + 1) = m) (hl : m + (c + 1) ≤ xs.length) (hc : xs.length ≤ cap) (hcm : cap ≤ maxLen) (hk : k = c + 1) :
    Sl eS w (.slice (some ⟨b, o + m, none⟩) k (cap - m)) ((xs.drop m).take (c + 1)) := by
  have hlen : ((xs.drop m).take (c + 1)).length = c + 1 := by rw [List.length_take, List.length_drop]; omega
  refine ⟨some ⟨b, o + m, none⟩, b, o + m, cap - m, by rw [hlen, hk], fun _ => rfl, by omega, by omega, by simp, fun _ => hp.1 (by omega), fun i hi => ?_⟩
  have h := hp.2 (m + i) (by omega)
  rw [show o + (m + i) = o + m + i by omega] at h
  rw [h]
  simp
set_option maxHeartbeats 4000000 in
theorem rows1_seq {w : World} {B r c : Nat} {v : Value} {xs : List ByteArray} (A : Mat) (hk : Blk w B [.int .i64 r, .int .i64 (c + 1 : Nat), v] 24) (hv : Sl eS w v xs) (hx : xs = cellsF r (c + 1) A) (hr : r ≤ 16) (hc : c + 1 ≤ 16) (n : Nat) (hn : 1 ≤ n) :
    SeqG Fence.wide n Tryz.prog 119 #[.pointer (some ⟨B, 0, none⟩)] (fun x : Nat × Nat => #[rowV (c + 1) x]) (KpR w.heap.size) (fun s _ W => s ≤ W.heap.size) (fun bs W => bs.length = r ∧ RowsAt w.heap.size (c + 1) A bs W) r w := by
  intro l J W hbW hJ hJc hY h0
  have hkW := hk.below hbW (Nat.le_refl _)
  have HB0 := Lib.hid hbW
  have hBw : B < w.heap.size := hk.lt
  have HY := Lib.hid hY; have HJ := Lib.hid hJ; have HX := Lib.hid hx; have HKW := Lib.hid hkW
  have hwW := hbW.size
  obtain ⟨ad, b, o, cap, rfl, ha, hcc, hm, hn0, hp⟩ := hv
  have HP := Lib.hid hp; have HA := Lib.hid ha
  unfold maxLen at hm
  clear hY hJ hJc hk hx hbW hp ha hn0
  have k0 := hkW.cell 0 _ rfl
  clear hkW
  refine callsIn_of_wp Tryz.func119 rfl trivial ?_ rfl
  simp only [Tryz.ntmps119, List.size_toArray, List.length_cons, List.length_nil, Nat.reduceAdd, Nat.reduceSub, Array.replicate_succ, Array.replicate_zero, List.push_toArray, List.append_toArray, List.nil_append, List.cons_append]
  gi_wp2
  gi_loopw [6] (fun i wr => ∃ q : Nat, q ≤ r ∧ i = .int .i64 q ∧ ∃ bs : List (Nat × Nat), bs.length = q ∧ Hid (J bs wr) ∧ Hid (RowsAt w.heap.size (c + 1) A bs wr) ∧ Below w.heap.size W wr ∧ W.heap.size ≤ wr.heap.size) (fun i _ => r - (intOf i).toNat)
  case atStart => exact ⟨0, Nat.zero_le _, rfl, [], rfl, Lib.hid h0, Lib.hid (RowsAt.nil _ _ _ _), Below.refl _ _, Nat.le_refl _⟩
  case round =>
    clear k0
    obtain ⟨q, hq, rfl, bs, hbs, hJs, hR, hbl, hsz⟩ := hrel
    have hKr := (hbl.block B hBw).trans HKW.out
    have hKr : Blk wr B _ _ := hKr
    have k0 := hKr.cell 0 _ rfl; have k1 := hKr.cell 1 _ rfl; have k2 := hKr.cell 2 _ rfl
    clear hKr
    by_cases hqr : q < r
    · obtain ⟨m, hm1⟩ : ∃ m, q * (c + 1) = m := ⟨_, rfl⟩
      have hxl : xs.length = r * (c + 1) := by rw [HX.out, cellsF_len]
      have hm2 : m + (c + 1) ≤ xs.length := by
        rw [hxl, ← hm1]
        calc q * (c + 1) + (c + 1) = (q + 1) * (c + 1) := by rw [Nat.add_mul, Nat.one_mul]
          _ ≤ r * (c + 1) := Nat.mul_le_mul_right _ hqr
      have hm3 : xs.length ≤ 256 := by rw [hxl]; exact Nat.mul_le_mul hr hc
      have e1 : (q : Int) * ((c : Int) + 1) = (m : Int) := by rw [← hm1]; simp
      have e2 : ((q : Int) + 1) * ((c : Int) + 1) = ((m + (c + 1) : Nat) : Int) := by rw [Int.add_mul, e1]; simp
      obtain ⟨m2, hmm⟩ : ∃ m2, m + (c + 1) = m2 := ⟨_, rfl⟩
      rw [hmm] at e2 hm2
      have ha := HA.out (by omega)
      subst ha
      have HS := Lib.hid (row_sl (A := A) (HP.out.below (HB0.out.trans hbl) (Nat.le_refl _)) HX.out hm1 (show m + (c + 1) ≤ xs.length by omega) hcc (by unfold maxLen; omega) (show m2 - m = c + 1 by omega))
      have HRL := Lib.hid (row_list (r := r) (A := A) HX.out hm1 (show m + (c + 1) ≤ xs.length by omega))
      obtain ⟨ys, hys⟩ : ∃ ys, (xs.drop m).take (c + 1) = ys := ⟨_, rfl⟩
      rw [hys] at HS HRL
      have HYL := Lib.hid (show ys.length = c + 1 by rw [← hys, List.length_take, List.length_drop]; omega)
      clear hys
      gi_wp2
      refine ⟨trivial, callsIn_wide.2 ((clone_any _ _ ys HS.out (by rw [HYL.out]; omega)).mono ?_)⟩
      rintro e w1 ⟨v1, rfl, ho, hb1⟩
      rw [HYL.out, HRL.out] at ho
      obtain ⟨g, gc, rfl, hg1, hg2⟩ := own_block ho
      have hR1 := hR.out.snoc (g := g) (cap := gc) hb1 (by omega) (by rw [hbs]; exact ho) hg1 hg2
      have hJ1 := HJ.out _ _ _ none hJs.out (grown_below hb1) (fun _ h => by cases h)
      have hlen : bs.length < r := by omega
      obtain ⟨fn, tmps, assign, body, hy, hRd⟩ := HY.out bs (g, gc) w1 hJ1 (by have := hb1.size; omega) hlen
      have HR1 := Lib.hid hR1
      clear hR1 hJ1 ho
      unfold rowV at hy
      gi_wp2
      refine hRd.mono ?_
      rintro e W3 ⟨rfl, hJ3, hk3⟩
      have HJ3 := Lib.hid hJ3
      have hs3 := hk3.1.size
      have HR3 := Lib.hid (HR1.out.kp hk3 hs3)
      have hb3 := hk3.1
      clear hJ3 hk3
      gi_wp2
      go_roundw
      case rel => exact ⟨q + 1, by omega, by go_num, bs ++ [(g, gc)], by simp [hbs], HJ3, HR3, (hbl.trans (hb1.mono (by omega))).trans hb3, by have := hb1.size; omega⟩
      case measure => simp [intOf]; omega
    · obtain rfl : q = r := by omega
      gi_wp2
      go_end0
      exact ⟨⟨_, rfl⟩, bs, ⟨hbs, hR.out⟩, hJs.out⟩
set_option maxHeartbeats 4000000 in
theorem rows0_seq {w : World} {B r : Nat} {v : Value} (hk : Blk w B [.int .i64 r, .int .i64 0, v] 24) (hv : Sl eS w v []) (hr : r ≤ 16) (n : Nat) (hn : 1 ≤ n) :
    SeqG Fence.wide n Tryz.prog 119 #[.pointer (some ⟨B, 0, none⟩)] (fun x : Option Addr × Nat => #[.slice x.1 0 x.2]) (KpR w.heap.size) (fun s _ W => s ≤ W.heap.size) (fun bs _ => bs.length = r) r w := by
  intro l J W hbW hJ hJc hY h0
  have hkW := hk.below hbW (Nat.le_refl _)
  have HB0 := Lib.hid hbW
  have hBw : B < w.heap.size := hk.lt
  have HY := Lib.hid hY; have HJ := Lib.hid hJ; have HKW := Lib.hid hkW
  have hwW := hbW.size
  obtain ⟨ad, b, o, cap, rfl, ha, hcc, hm, hn0, hp⟩ := hv
  unfold maxLen at hm
  have HS := Lib.hid (fun wr => show Sl eS wr (.slice ad 0 cap) [] from ⟨ad, 0, 0, cap, rfl, fun h => absurd h (by simp), by simp, by unfold maxLen; omega, hn0, fun h => absurd h (by simp), fun i h => absurd h (by simp)⟩)
  clear hY hJ hJc hk hbW hp ha hn0
  have k0 := hkW.cell 0 _ rfl
  clear hkW
  refine callsIn_of_wp Tryz.func119 rfl trivial ?_ rfl
  simp only [Tryz.ntmps119, List.size_toArray, List.length_cons, List.length_nil, Nat.reduceAdd, Nat.reduceSub, Array.replicate_succ, Array.replicate_zero, List.push_toArray, List.append_toArray, List.nil_append, List.cons_append]
  gi_wp2
  gi_loopw [6] (fun i wr => ∃ q : Nat, q ≤ r ∧ i = .int .i64 q ∧ ∃ bs : List (Option Addr × Nat), bs.length = q ∧ Hid (J bs wr) ∧ Below w.heap.size W wr ∧ W.heap.size ≤ wr.heap.size) (fun i _ => r - (intOf i).toNat)
  case atStart => exact ⟨0, Nat.zero_le _, rfl, [], rfl, Lib.hid h0, Below.refl _ _, Nat.le_refl _⟩
  case round =>
    clear k0
    obtain ⟨q, hq, rfl, bs, hbs, hJs, hbl, hsz⟩ := hrel
    have hKr : Blk wr B _ _ := (hbl.block B hBw).trans HKW.out
    have k0 := hKr.cell 0 _ rfl; have k1 := hKr.cell 1 _ rfl; have k2 := hKr.cell 2 _ rfl
    clear hKr
    by_cases hqr : q < r
    · gi_wp2
      refine ⟨trivial, callsIn_wide.2 ((clone_any _ _ [] (HS.out _) (by simp)).mono ?_)⟩
      rintro e w1 ⟨v1, rfl, ho, hb1⟩
      obtain ⟨va, vc, rfl⟩ := own_form ho
      have hJ1 := HJ.out _ _ _ none hJs.out (grown_below hb1) (fun _ h => by cases h)
      have hlen : bs.length < r := by omega
      obtain ⟨fn, tmps, assign, body, hy, hRd⟩ := HY.out bs (va, vc) w1 hJ1 (by have := hb1.size; omega) hlen
      clear hJ1 ho
      gi_wp2
      refine hRd.mono ?_
      rintro e W3 ⟨rfl, hJ3, hk3⟩
      have HJ3 := Lib.hid hJ3
      have hs3 := hk3.1.size
      have hb3 := hk3.1
      clear hJ3 hk3
      gi_wp2
      go_roundw
      case rel => exact ⟨q + 1, by omega, by go_num, bs ++ [(va, vc)], by simp [hbs], HJ3, (hbl.trans (hb1.mono (by omega))).trans hb3, by have := hb1.size; omega⟩
      case measure => simp [intOf]; omega
    · obtain rfl : q = r := by omega
      gi_wp2
      go_end0
      exact ⟨⟨_, rfl⟩, bs, hbs, hJs.out⟩
set_option maxHeartbeats 1000000 in
theorem rows_any (w : World) (R C : Int) (a : Option Addr) (n c : Nat) : Calls Tryz.prog 93 #[.agg #[.int .i64 R, .int .i64 C, .slice a n c]] w fun e w' => e = .returned (.func (.func 119) #[] #[.pointer (some ⟨w.heap.size, 0, none⟩)]) ∧ w' = w.alloc (.cells #[.int .i64 R, .int .i64 C, .slice a n c] 24) := by
  go_enter Tryz.func93, Tryz.ntmps93
  go_wp2
  go_ret
  exact ⟨rfl, rfl⟩
theorem RowsAt.put {base c : Nat} {A : Mat} {bs : List (Nat × Nat)} {W : World} {l : Nat} {o : Obj} (o' : Obj) (h : RowsAt base c A bs W) (hl : W.heap[l]? = some o) (ho : o.isCells = false) : RowsAt base c A bs (W.putObj l o') :=
  ⟨fun i hi => ownsRow_putObj (h.row i hi) o' hl ho, h.nod, fun b hb => Nat.lt_of_lt_of_le (h.lt b hb) (grownBy_putObj' W l o').size⟩
theorem appendRows_any {w : World} {B r c : Nat} {v : Value} {xs : List ByteArray} (A : Mat) (hk : Blk w B [.int .i64 r, .int .i64 (c + 1 : Nat), v] 24) (hv : Sl eS w v xs) (hx : xs = cellsF r (c + 1) A) (hr : r ≤ 16) (hc : c + 1 ≤ 16) :
    Calls Tryz.prog 118 #[.slice none 0 0, .func (.func 119) #[] #[.pointer (some ⟨B, 0, none⟩)]] w (Rets fun x w' => ∃ bs : List (Nat × Nat), (bs.length = r ∧ RowsAt w.heap.size (c + 1) A bs w') ∧ w'.ownsRow w.heap.size 22 1 x bs.length (bs.map fun b => .slice (some ⟨b.1, 0, none⟩) (c + 1) b.2) ∧ Below w.heap.size w w') :=
  callsIn_wide.1 (appendSeq_in (fun b : Nat × Nat => some ⟨b.1, 0, none⟩) (fun _ => c + 1) (fun b => b.2) (Gd := fun s _ W => s ≤ W.heap.size) (S := fun bs W => bs.length = r ∧ RowsAt w.heap.size (c + 1) A bs W) (N := r) (by omega) w _
    (fun n hn => rows1_seq A hk hv hx hr hc n hn) (fun _ _ _ h => h) (fun _ _ _ l _ o' h _ _ => Nat.le_trans h (grownBy_putObj' _ l o').size) (fun _ _ _ _ o' h hl ho => ⟨h.1, h.2.put o' hl ho⟩))
theorem appendRows0_any {w : World} {B r : Nat} {v : Value} (hk : Blk w B [.int .i64 r, .int .i64 0, v] 24) (hv : Sl eS w v []) (hr : r ≤ 16) :
    Calls Tryz.prog 118 #[.slice none 0 0, .func (.func 119) #[] #[.pointer (some ⟨B, 0, none⟩)]] w (Rets fun x w' => ∃ bs : List (Option Addr × Nat), bs.length = r ∧ w'.ownsRow w.heap.size 22 1 x bs.length (bs.map fun b => .slice b.1 0 b.2) ∧ Below w.heap.size w w') :=
  callsIn_wide.1 (appendSeq_in (fun b : Option Addr × Nat => b.1) (fun _ => 0) (fun b => b.2) (Gd := fun s _ W => s ≤ W.heap.size) (S := fun bs _ => bs.length = r) (N := r) (by omega) w _
    (fun n hn => rows0_seq hk hv hr n hn) (fun _ _ _ h => h) (fun _ _ _ l _ o' h _ _ => Nat.le_trans h (grownBy_putObj' _ l o').size) (fun _ _ _ _ _ h _ _ => h))
set_option maxHeartbeats 1000000 in
theorem collect_any {w : World} {B r c : Nat} {v : Value} {xs : List ByteArray} (A : Mat) (hk : Blk w B [.int .i64 r, .int .i64 (c + 1 : Nat), v] 24) (hv : Sl eS w v xs) (hx : xs = cellsF r (c + 1) A) (hr : r ≤ 16) (hc : c + 1 ≤ 16) :
    Calls Tryz.prog 92 #[.func (.func 119) #[] #[.pointer (some ⟨B, 0, none⟩)]] w (Rets fun x w' => ∃ bs : List (Nat × Nat), (bs.length = r ∧ RowsAt w.heap.size (c + 1) A bs w') ∧ w'.ownsRow w.heap.size 22 1 x bs.length (bs.map fun b => .slice (some ⟨b.1, 0, none⟩) (c + 1) b.2) ∧ Below w.heap.size w w') := by
  have H := Lib.hid (appendRows_any A hk hv hx hr hc)
  clear hk hv hx
  go_enter Tryz.func92, Tryz.ntmps92
  go_wp2_with (go_at_call 118; (with_reducible refine H.out.mono ?_); rintro e w1 ⟨x, rfl, bs, h1, h2, h3⟩; have H1 := Lib.hid h1; have H2 := Lib.hid h2; clear h1 h2)
  go_ret
  exact ⟨_, rfl, bs, H1.out, H2.out, h3⟩
set_option maxHeartbeats 1000000 in
theorem collect0_any {w : World} {B r : Nat} {v : Value} (hk : Blk w B [.int .i64 r, .int .i64 0, v] 24) (hv : Sl eS w v []) (hr : r ≤ 16) :
    Calls Tryz.prog 92 #[.func (.func 119) #[] #[.pointer (some ⟨B, 0, none⟩)]] w (Rets fun x w' => ∃ bs : List (Option Addr × Nat), bs.length = r ∧ w'.ownsRow w.heap.size 22 1 x bs.length (bs.map fun b => .slice b.1 0 b.2) ∧ Below w.heap.size w w') := by
  have H := Lib.hid (appendRows0_any hk hv hr)
  clear hk hv
  go_enter Tryz.func92, Tryz.ntmps92
  go_wp2_with (go_at_call 118; (with_reducible refine H.out.mono ?_); rintro e w1 ⟨x, rfl, bs, h1, h2, h3⟩; have H2 := Lib.hid h2; clear h2)
  go_ret
  exact ⟨_, rfl, bs, h1, H2.out, h3⟩
end Go.Proofs.YtajkhbpffakmfaaGreatDoor

namespace Go.Proofs.YtajkhbpffakmfaaGreatDoor
open Go.RowKit
set_option maxRecDepth 100000

/-- How column ends. -/
def ColP (w0 : World) (g : Nat) (rv : Value) (m n : Nat) (s : Est) (e : Ending) (w' : World) : Prop := e = .returned (.tuple #[]) ∧ ∃ bs', Grid w0 w' g rv bs' m n s
set_option maxHeartbeats 8000000 in
theorem column_any {w0 w : World} {g : Nat} {rv : Value} {bs : List (Nat × Nat)} {m n : Nat} {s : Est} (k : Nat) (hG : Grid w0 w g rv bs m n s) (hk : k < n) (hr : s.rank ≤ m) (hm : m ≤ 16) (hn : n ≤ 16)
    (hM : ∀ i j, s.rank ≤ i → i < m → j < n → sml (s.M i j)) (hl : sml s.last) (h0 : s.last ≠ 0) (he : Env w0) :
    Calls Tryz.prog 94 #[.pointer (some ⟨g, 0, none⟩), .int .i64 k] w (ColP w0 g rv m n (s.col m k)) := by
  obtain ⟨ra, cap, rfl, hcap⟩ : ∃ ra cap, rv = .slice ra m cap ∧ m ≤ cap := by
    rcases hG.rows.2 with ⟨rfl, h⟩ | ⟨rb, cap, cur, e, -, -, h1, -⟩
    · exact ⟨none, 0, by rw [h], by omega⟩
    · exact ⟨_, _, e, h1⟩
  have HG := Lib.hid hG; have HM := Lib.hid hM; have HL := Lib.hid hl; have H0 := Lib.hid h0; have HE := Lib.hid he
  have k0 := hG.box.cell 0 _ rfl; have k3 := hG.box.cell 3 _ rfl
  obtain ⟨S, hS⟩ : ∃ S, s.col m k = S := ⟨_, rfl⟩
  have HS := Lib.hid hS
  rw [hS]
  obtain ⟨r, hrr⟩ : ∃ r, s.rank = r := ⟨_, rfl⟩
  rw [hrr] at k3 hr
  have HR := Lib.hid hrr
  clear hG hM hl h0 he hS hrr
  go_enter Tryz.func94, Tryz.ntmps94
  go_wp2
  go_loop [4] (fun t => ∃ j : Nat, r ≤ j ∧ j ≤ m ∧ t = .int .i64 j ∧ Hid (∀ i, s.rank ≤ i → i < j → s.M i k = 0)) (fun t => m - (intOf t).toNat)
  case atStart => exact ⟨r, Nat.le_refl _, hr, rfl, Lib.hid (fun i a b => by have := HR.out; omega)⟩
  case round =>
    obtain ⟨j, hrj, hjm, rfl, hz⟩ := hrel
    by_cases hlt : j < m
    · obtain ⟨rb, cap', e, -, hc2⟩ := HG.out.rb (by omega)
      cases e
      obtain ⟨bj, cj, hbj, c1, f1, c2⟩ := HG.out.cellsE j hlt
      obtain ⟨c2, -⟩ := c2 k hk
      have HBJ := Lib.hid hbj
      clear hbj
      by_cases h0 : s.M j k = 0
      · have hz0 := txt_z h0
        have HZ := Lib.hid (show ∀ i, s.rank ≤ i → i < j + 1 → s.M i k = 0 from fun i h1 h2 => by
          by_cases e : i = j
          · rw [e]; exact h0
          · exact hz.out i h1 (by omega))
        clear h0
        go_wp2
        go_round
        case rel => exact ⟨j + 1, by omega, by omega, by go_num, HZ⟩
        case measure => simp [intOf]; omega
      · have hz0 := txt_ne0 h0
        have hne : ((j : Int) == (m : Int)) = false := by simp; omega
        have HC := Lib.hid (show S = ⟨below s.rank k s.last (swr s.M j s.rank), swr s.M j s.rank s.rank k, if j = s.rank then s.neg else !s.neg, s.rank + 1⟩ by rw [← HS.out]; exact col_go (ftop_eq (j - s.rank) s.rank j (by have := HR.out; omega) hjm hz.out fun _ => h0) hlt)
        have HP0 := Lib.hid (show swr s.M j s.rank s.rank k ≠ 0 by
          unfold swr
          by_cases e : s.rank = j
          · rw [if_pos e, e]; exact h0
          · rw [if_neg e, if_pos rfl]; exact h0)
        clear h0
        go_upto_if 48 with (fail)
        go_cut [] (fun wx => ∃ bs', Hid (Grid w0 wx g (.slice (some ⟨rb, 0, none⟩) m cap) bs' m n ⟨swr s.M j s.rank, s.last, if j = s.rank then s.neg else !s.neg, s.rank⟩))
        case first =>
          by_cases hjr : j = r
          · have hne2 : ((j : Int) != (r : Int)) = false := by simp [hjr]
            have HF := Lib.hid (show Grid w0 w g (.slice (some ⟨rb, 0, none⟩) m cap) bs m n ⟨swr s.M j s.rank, s.last, if j = s.rank then s.neg else !s.neg, s.rank⟩ by
              rw [if_pos (hjr.trans HR.out.symm), hjr, ← HR.out, swr_self]; exact HG.out)
            clear hjr
            go_wp2
            go_meet
            exact ⟨bs, HF⟩
          · have hne2 : ((j : Int) != (r : Int)) = true := by simp; omega
            obtain ⟨br, cr, hbr, d1, e1, -⟩ := HG.out.cellsE r (by omega)
            have HBR := Lib.hid hbr
            have q0 : (0 : Int) ≤ (j : Int) := by omega
            have q1 : (0 : Int) ≤ (r : Int) := by omega
            have q2 : r < m := by omega
            have q3 : j ≠ r := hjr
            have k2 := HG.out.box.cell 2 _ rfl
            have l2 := HG.out.box.free 2
            have hgrb := HG.out.ne_rb
            have hbg : -1 ≤ sgB s.neg ∧ sgB s.neg ≤ 1 := by cases s.neg <;> simp [sgB]
            obtain ⟨z, hz⟩ : ∃ z, sgB s.neg = z := ⟨_, rfl⟩
            rw [hz] at k2 hbg
            have HF := Lib.hid (show ∀ w', w' = w.drew → ∃ bs', Grid w0 (((w'.setCell ⟨rb, j, none⟩ (.slice (some ⟨br, 0, none⟩) n cr)).setCell ⟨rb, r, none⟩ (.slice (some ⟨bj, 0, none⟩) n cj)).setCell ⟨g, 2, none⟩ (.int .i64 (-z))) g (.slice (some ⟨rb, 0, none⟩) m cap) bs' m n ⟨swr s.M j s.rank, s.last, if j = s.rank then s.neg else !s.neg, s.rank⟩ from fun w' e => by
              subst e
              have hr2 := HR.out
              have e2 : swr s.M j s.rank = swr s.M j r := by rw [hr2]
              rw [if_neg (by omega), ← hz, e2]
              have h2 := (HG.out.drew.swapE HBJ.out HBR.out q3).flip
              exact ⟨_, h2⟩)
            have hb1 := hbg.1; have hb2 := hbg.2
            clear c2 hz0 hjr hne hbr hz hbg
            go_wp2_with fail
            go_region
            all_goals
              go_wp2_with fail
              go_meet
              obtain ⟨bs', h⟩ := HF.out _ rfl
              exact ⟨bs', Lib.hid h⟩
        case rest =>
          obtain ⟨bs', hG'⟩ := hcut
          obtain ⟨M1, hM1⟩ : ∃ M1, swr s.M j s.rank = M1 := ⟨_, rfl⟩
          obtain ⟨ng, hng⟩ : ∃ ng, (if j = s.rank then s.neg else !s.neg) = ng := ⟨_, rfl⟩
          have HM1 := Lib.hid (show ∀ i y, r ≤ i → i < m → y < n → sml (M1 i y) by
            rw [← hM1, ← HR.out]; exact swr_sml (by have := HR.out; omega) hlt HM.out)
          rw [hM1, hng, HR.out] at hG'
          rw [hM1, hng, HR.out] at HC
          rw [hM1, HR.out] at HP0
          obtain ⟨d, hd⟩ : ∃ d, s.last = d := ⟨_, rfl⟩
          rw [hd] at hG' HC HL H0
          clear hM1 hng hd HM HG k0 k3 c1 c2 hz0 hz hne f1 HBJ
          have hrm : r < m := by omega
          obtain ⟨br, cr, hbr, d1, -, d2⟩ := hG'.out.cellsE r hrm
          have k0 := hG'.out.box.cell 0 _ rfl; have k3 := hG'.out.box.cell 3 _ rfl
          have HBR := Lib.hid hbr
          obtain ⟨dp, -⟩ := d2 k hk
          have HD2 := Lib.hid d2
          have q1 : (0 : Int) ≤ (r : Int) := by omega
          have q2 : (r : Int) < (m : Int) := by omega
          have q4 : (r : Int) + 1 ≤ (m : Int) := by omega
          have q5 : (m : Int) ≤ (cap : Int) := by omega
          clear hbr d2
          go_wp2_with fail
          go_quiet (fail)
          have HG1 := Lib.hid (hG'.out.drewN nq)
          clear hG' k0 k3 d1 dp HD2
          generalize wc.drewN nq = W1 at *
          obtain ⟨br', cr', hbr', d1, -, d2⟩ := HG1.out.cellsE r hrm
          have k0 := HG1.out.box.cell 0 _ rfl; have k3 := HG1.out.box.cell 3 _ rfl
          go_wp2_with fail
          go_quiet (fail)
          have HG2 := Lib.hid (HG1.out.drewN nq)
          clear HG1 k0 k3 d1 d2
          generalize W1.drewN nq = W2 at *
          obtain ⟨sv, hsv⟩ : ∃ sv, (if cap = r + 1 then some (⟨rb, 0, none⟩ : Addr) else some ⟨rb, r + 1, none⟩) = sv := ⟨_, rfl⟩
          rw [hsv]
          have HSV := Lib.hid (show r + 1 < m → sv = some ⟨rb, r + 1, none⟩ from fun h => by rw [← hsv, if_neg (by omega)])
          clear hsv
          have hMp : ∃ z, M1 r k = z := ⟨_, rfl⟩
          obtain ⟨z, hz⟩ := hMp
          have HMP := Lib.hid hz
          have HT := Lib.hid (show ∀ i y, r < i → below r k d M1 i y = Int.fdiv (M1 i y * z - M1 i k * M1 r y) d from fun i y h => by unfold below; rw [if_pos h, hz])
          have HG3 := Lib.hid (HG2.out.congr (M := part (below r k d M1) M1 (r + 1) 0) fun i y _ _ => (part_start r k d M1 i y).symm)
          have HZS := Lib.hid (show sml z by rw [← hz]; exact HM1.out r k (Nat.le_refl _) hrm hk)
          clear HG2 hz
          go_wp2_with fail
          go_loopw [110] (fun i wr => ∃ q : Nat, q ≤ m - (r + 1) ∧ i = .int .i64 q ∧ Hid (Grid w0 wr g (.slice (some ⟨rb, 0, none⟩) m cap) bs' m n ⟨part (below r k d M1) M1 (r + 1 + q) 0, d, ng, r⟩)) (fun i _ => (m - (r + 1)) - (intOf i).toNat)
          case atStart => exact ⟨0, Nat.zero_le _, rfl, HG3⟩
          case round =>
            clear HG3
            obtain ⟨q, hq, rfl, hI⟩ := hrel
            by_cases hqm : q < m - (r + 1)
            · have hsv := HSV.out (by omega)
              subst hsv
              have hir : r + 1 + q < m := by omega
              obtain ⟨bi, ci, hbi, c1, -, e2⟩ := hI.out.cellsE (r + 1 + q) hir
              obtain ⟨c2, -⟩ := e2 k hk
              have e3 : part (below r k d M1) M1 (r + 1 + q) 0 (r + 1 + q) k = M1 (r + 1 + q) k := part_old (Nat.le_refl _) (fun _ => Nat.zero_le _)
              rw [show (⟨part (below r k d M1) M1 (r + 1 + q) 0, d, ng, r⟩ : Est).M = part (below r k d M1) M1 (r + 1 + q) 0 from rfl, e3] at c2
              have HBI := Lib.hid hbi
              obtain ⟨i, hi⟩ : ∃ i, r + 1 + q = i := ⟨_, rfl⟩
              rw [hi] at hI HBI hir c1 c2
              have HII := Lib.hid hi
              have hri : r < i := by omega
              clear e2 e3 hbi
              obtain ⟨W3, rfl⟩ : ∃ W, W = wr := ⟨_, rfl⟩
              go_wp2
              clear hi
              go_loopw [120] (fun jv wr => ∃ y : Nat, y ≤ n ∧ jv = .int .i64 y ∧ Hid (Grid w0 wr g (.slice (some ⟨rb, 0, none⟩) m cap) bs' m n ⟨part (below r k d M1) M1 i y, d, ng, r⟩)) (fun jv _ => n - (intOf jv).toNat)
              case atStart => exact ⟨0, Nat.zero_le _, rfl, hI⟩
              case round =>
                clear hI c1 c2
                obtain ⟨y, hy, rfl, hJ⟩ := hrel
                by_cases hyn : y < n
                · obtain ⟨b5, c5, hb5, -, -, g2⟩ := hJ.out.cellsE i hir
                  obtain ⟨rfl, rfl⟩ : bi = b5 ∧ ci = c5 := by have := HBI.out.symm.trans hb5; simpa using this
                  obtain ⟨b6, c6, hb6, -, -, g3⟩ := hJ.out.cellsE r hrm
                  obtain ⟨rfl, rfl⟩ : br = b6 ∧ cr = c6 := by have := HBR.out.symm.trans hb6; simpa using this
                  obtain ⟨x1, -⟩ := g2 y hyn
                  obtain ⟨x3, -⟩ := g3 k hk
                  obtain ⟨x4, -⟩ := g3 y hyn
                  have e1 : part (below r k d M1) M1 i y i y = M1 i y := part_old (Nat.le_refl _) (fun _ => Nat.le_refl _)
                  have e3 : part (below r k d M1) M1 i y r k = z := (part_piv hri).trans HMP.out
                  have e4 : part (below r k d M1) M1 i y r y = M1 r y := part_piv hri
                  rw [show (⟨part (below r k d M1) M1 i y, d, ng, r⟩ : Est).M = part (below r k d M1) M1 i y from rfl] at x1 x3 x4
                  rw [e1] at x1
                  rw [e3] at x3
                  rw [e4] at x4
                  have HTY := Lib.hid (HT.out i y hri)
                  have HRO := Lib.hid (redOk (HM1.out i y (by omega) hir hyn) HZS.out (HM1.out i k (by omega) hir hk) (HM1.out r y (Nat.le_refl _) hrm hyn) HL.out H0.out)
                  clear e1 e3 e4 g2 g3 hb5 hb6
                  go_wp2_with fail
                  go_region_with (go_at_call 120; (with_reducible refine (reduced_any _ g _ _ _ (M1 i y) z (M1 i k) (M1 r y) d hJ.out.drew.box HRO.out (HE.out.below hJ.out.drew.bel (Nat.le_refl _))).mono ?_); rintro e w2 ⟨v, rfl, rfl, hb2⟩; rw [← HTY.out]; have HJ2 := Lib.hid (hJ.out.drew.keep hb2); obtain ⟨b7, c7, hb7, -, -, g4⟩ := HJ2.out.cellsE i hir; obtain ⟨rfl, rfl⟩ : bi = b7 ∧ ci = c7 := (by have := HBI.out.symm.trans hb7; simpa using this); obtain ⟨y1, y2⟩ := g4 y hyn; clear g4 hb7)
                  all_goals
                    go_wp2_with fail
                    go_roundw
                    case rel => exact ⟨y + 1, by omega, by go_num, Lib.hid ((HJ2.out.putE (by omega) y (below r k d M1 i y) HBI.out).congr (M := part (below r k d M1) M1 i (y + 1)) fun a b _ _ => part_upd _ _ _ _ a b)⟩
                    case measure => simp [intOf]; omega
                · obtain rfl : y = n := by omega
                  have HJ2 := Lib.hid (hJ.out.congr (M := part (below r k d M1) M1 (r + 1 + (q + 1)) 0) fun a b _ hb => by
                    rw [show r + 1 + (q + 1) = i + 1 by have := HII.out; omega]; exact part_row a b hb)
                  clear hJ
                  go_wp2_with fail
                  go_roundw
                  case rel => exact ⟨q + 1, by omega, by go_num, HJ2⟩
                  case measure => simp [intOf]; omega
            · obtain rfl : q = m - (r + 1) := by omega
              have HI := Lib.hid (show Grid w0 wr g (.slice (some ⟨rb, 0, none⟩) m cap) bs' m n ⟨below r k d M1, d, ng, r⟩ from
                hI.out.congr (M := below r k d M1) fun i y hi _ => by show part _ _ (r + 1 + (m - (r + 1))) 0 i y = _; rw [show r + 1 + (m - (r + 1)) = m by omega]; exact part_end i y hi)
              clear hI
              obtain ⟨b4, c4, hb4, -, -, e2⟩ := HI.out.cellsE r hrm
              obtain ⟨rfl, rfl⟩ : br = b4 ∧ cr = c4 := by have := HBR.out.symm.trans hb4; simpa using this
              obtain ⟨x1, -⟩ := e2 k hk
              have e3 : below r k d M1 r k = z := by unfold below; rw [if_neg (by omega), HMP.out]
              rw [show (⟨below r k d M1, d, ng, r⟩ : Est).M = below r k d M1 from rfl, e3] at x1
              have k1 := HI.out.box.cell 1 _ rfl; have f1 := HI.out.box.free 1
              have k3 := HI.out.box.cell 3 _ rfl; have f3 := HI.out.box.free 3
              have HB := Lib.hid (HI.out.bump z)
              have HC2 := Lib.hid (show S = ⟨below r k d M1, z, ng, r + 1⟩ by rw [HC.out, HMP.out])
              clear e2 e3 hb4
              go_wp2_with fail
              go_end0
              exact ⟨rfl, bs', by rw [HC2.out]; exact HB.out⟩
    · obtain rfl : j = m := by omega
      have HC := Lib.hid (show S = s by rw [← HS.out]; exact col_stop (ftop_eq (j - s.rank) s.rank j (by have := HR.out; omega) (Nat.le_refl _) hz.out fun h => by omega))
      go_wp2
      go_end0
      exact ⟨rfl, bs, by rw [HC.out]; exact HG.out⟩
end Go.Proofs.YtajkhbpffakmfaaGreatDoor

namespace Go.Proofs.YtajkhbpffakmfaaGreatDoor
open Go.RowKit
set_option maxRecDepth 100000

theorem two_ok {R C R' C' : Int} {xs ys : List ByteArray} (h : twoM R C xs R' C' ys = 0) : mchkM R C xs = 0 ∧ mchkM R' C' ys = 0 := by
  unfold twoM at h; split at h
  · exact ⟨by assumption, h⟩
  · exact absurd h (by assumption)
/-- Entries with few digits. -/
def Fit (D : Nat) (xs : List ByteArray) : Prop := ∀ s ∈ xs, s.size ≤ D
theorem dn_size {s : ByteArray} {z : Int} (h : Good s z) : dn z ≤ s.size := by
  have h4 : (Lib.itoa z).length = s.size := by rw [← h.1, Lib.size_eq]
  have h2 := digs10_len z.natAbs
  have h3 : (Lib.decDigits z.natAbs).length ≤ (Lib.itoa z).length := by rw [itoa_cases]; split <;> simp
  unfold dn; omega
theorem RM.dn {R C : Int} {xs : List ByteArray} {r c i k D : Nat} (h : RM R C xs r c) (hf : Fit D xs) (hi : i < r) (hk : k < c) : dn (matF c xs i k) ≤ D := by
  exact Nat.le_trans (dn_size (h.good hi hk)) (hf _ (List.getElem_mem _))
theorem dn_mulM {D E n : Nat} {A B : Mat} {i k : Nat} (hA : ∀ j, j < n → dn (A i j) ≤ D) (hB : ∀ j, j < n → dn (B j k) ≤ E) : dn (mulM n A B i k) ≤ D + E + n :=
  dn_sm _ n fun j hj => by have := dn_mul (A i j) (B j k); have := hA j hj; have := hB j hj; omega

theorem side_of {R C : Int} {xs : List ByteArray} (h : mchkM R C xs = 0) : (0 ≤ R ∧ R ≤ 16) ∧ 0 ≤ C ∧ C ≤ 16 := by
  obtain ⟨r, c, hrm⟩ := rm_of h
  have := hrm.rows; have := hrm.cols; have := hrm.r16; have := hrm.c16
  omega

/-- What Add answers. -/
def addS3 (R C : Int) (xs : List ByteArray) (R' C' : Int) (ys : List ByteArray) : MR :=
  if twoM R C xs R' C' ys = 0 then (if R = R' ∧ C = C' then ⟨R, C, cellsF R.toNat C.toNat (fun i k => matF C.toNat xs i k + matF C.toNat ys i k), 0⟩ else .bad 8) else .bad (twoM R C xs R' C' ys)
set_option maxHeartbeats 4000000 in
theorem Mproduct_ok (w : World) (v u : Value) (xs ys : List ByteArray) (r n p : Nat) (hv : Sl eS w v xs) (hu : Sl eS w u ys) (hrm : RM r n xs r n) (hrm' : RM n p ys n p) (hf : Fit 500 xs) (hf' : Fit 500 ys) (he : Env w) :
    Calls Tryz.prog 82 #[.agg #[.int .i64 r, .int .i64 n, v], .agg #[.int .i64 n, .int .i64 p, u]] w (RetM w r p (cellsF r p (mulM n (matF n xs) (matF p ys))) 0) := by
  have HV := Lib.hid hv; have HU := Lib.hid hu; have HE := Lib.hid he; have HRM := Lib.hid hrm; have HRM' := Lib.hid hrm'; have HF := Lib.hid hf; have HF' := Lib.hid hf'
  obtain ⟨ad, cap, rfl⟩ := sl_form hv
  obtain ⟨ad', cap', rfl⟩ := sl_form hu
  clear hv hu he hrm hrm' hf hf'
  have HB := Lib.hid ((((Below.refl w.heap.size w).alloc (Nat.le_refl _) (.cells #[.int .i64 r, .int .i64 n, .slice ad xs.length cap] 24)).alloc (by simp) (.cells #[.int .i64 n, .int .i64 p, .slice ad' ys.length cap'] 24)).alloc (by simp; omega) (.cells #[.int .i64 0, .int .i64 0, .slice none 0 0] 24))
  have q0 := HB.out
  have HK := Lib.hid (((Blk.new w [.int .i64 r, .int .i64 n, .slice ad xs.length cap] 24).alloc (.cells #[.int .i64 n, .int .i64 p, .slice ad' ys.length cap'] 24)).alloc (.cells #[.int .i64 0, .int .i64 0, .slice none 0 0] 24))
  have HK2 := Lib.hid ((Blk.at1 w (.cells #[.int .i64 r, .int .i64 n, .slice ad xs.length cap] 24) [.int .i64 n, .int .i64 p, .slice ad' ys.length cap'] 24).alloc (.cells #[.int .i64 0, .int .i64 0, .slice none 0 0] 24))
  have HR := Lib.hid (Blk.at2 w (.cells #[.int .i64 r, .int .i64 n, .slice ad xs.length cap] 24) (.cells #[.int .i64 n, .int .i64 p, .slice ad' ys.length cap'] 24) [.int .i64 0, .int .i64 0, .slice none 0 0] 24)
  have HV := Lib.hid (HV.out.below HB.out (Nat.le_refl _))
  have HU := Lib.hid (HU.out.below HB.out (Nat.le_refl _))
  have HE := Lib.hid (HE.out.below HB.out (Nat.le_refl _))
  go_enter Tryz.func82, Tryz.ntmps82
  go_wp2_with (first
    | (go_at_call 79; (with_reducible refine (filledA_product _ r p (.pointer (some ⟨w.heap.size, 0, none⟩)) (.pointer (some ⟨w.heap.size + 1, 0, none⟩)) (mulM n (matF n xs) (matF p ys)) HRM.out.r16 HRM'.out.c16 fun i k w' hi hk hb => product1_any w' w.heap.size (w.heap.size + 1) r n _ _ xs ys n p i k (matF n xs) (matF p ys) (HK.out.below hb (Nat.le_refl _)) (HK2.out.below hb (Nat.le_refl _)) (HV.out.below hb (Nat.le_refl _)) (HU.out.below hb (Nat.le_refl _)) HRM.out.l256 HRM'.out.l256 HRM.out.c16 (fun j hj => HRM.out.get hi hj) (fun j hj => HRM'.out.get hj hk) (fun j hj => bigD (by have := HRM.out.dn HF.out hi hj; omega)) (fun j hj => bigD (by have := HRM'.out.dn HF'.out hj hk; omega)) (fun j hj => bigD (by have := HRM.out.dn HF.out hi hj; have := HRM'.out.dn HF'.out hj hk; have := dn_mul (matF n xs i j) (matF p ys j k); omega)) (bigD (by have := dn_mulM (A := matF n xs) (B := matF p ys) (i := i) (k := k) (fun j hj => HRM.out.dn HF.out hi hj) (fun j hj => HRM'.out.dn HF'.out hj hk); have := HRM.out.c16; omega)) (HE.out.below hb (Nat.le_refl _))).mono ?_); rintro e w1 ⟨v, rfl, x1, rfl, s1, h1⟩; have HS := Lib.hid s1; obtain ⟨a1, k1, rfl⟩ := sl_form s1; clear s1; have HV := Lib.hid (HV.out.below h1 (Nat.le_refl _)); have HU := Lib.hid (HU.out.below h1 (Nat.le_refl _)); have HE := Lib.hid (HE.out.below h1 (Nat.le_refl _)); have HK := Lib.hid (HK.out.below h1 (Nat.le_refl _)); have c1_HK_0 := HK.out.cell 0 _ rfl; have c1_HK_1 := HK.out.cell 1 _ rfl; have c1_HK_2 := HK.out.cell 2 _ rfl; have HK2 := Lib.hid (HK2.out.below h1 (Nat.le_refl _)); have c1_HK2_0 := HK2.out.cell 0 _ rfl; have c1_HK2_1 := HK2.out.cell 1 _ rfl; have c1_HK2_2 := HK2.out.cell 2 _ rfl; have HR := Lib.hid (HR.out.below h1 (Nat.le_refl _)); have f1_HR_0 := HR.out.free 0; have f1_HR_1 := HR.out.free 1; have f1_HR_2 := HR.out.free 2; have c1_HR_0 := HR.out.cell 0 _ rfl; have c1_HR_1 := HR.out.cell 1 _ rfl; have c1_HR_2 := HR.out.cell 2 _ rfl; have q1 := q0.trans (h1.mono q0.size)))
  obtain ⟨hR, hS, hW⟩ := res_done (R := r) (C := p) q1 (by omega) HR.out HS.out
  have z0 := hR.cell 0 _ rfl; have z1 := hR.cell 1 _ rfl; have z2 := hR.cell 2 _ rfl
  exact bodyPost_ret (v := .tuple #[.agg #[.int .i64 r, .int .i64 p, .slice a1 (cellsF r p (mulM n (matF n xs) (matF p ys))).length k1], .int .i64 0]) (by simp [results, Tryz.results82, go_sem, z0, z1, z2]) rfl ⟨_, rfl, _, rfl, hS, hW⟩

/-- What Product answers. -/
def prodS (R C : Int) (xs : List ByteArray) (R' C' : Int) (ys : List ByteArray) : MR :=
  if twoM R C xs R' C' ys = 0 then (if C = R' then ⟨R, C', cellsF R.toNat C'.toNat (mulM C.toNat (matF C.toNat xs) (matF C'.toNat ys)), 0⟩ else .bad 8) else .bad (twoM R C xs R' C' ys)
set_option maxHeartbeats 4000000 in
theorem Product_any (w : World) (R C R' C' : Int) (v u : Value) (xs ys : List ByteArray) (hv : Sl eS w v xs) (hu : Sl eS w u ys) (hsz : xs.length ≤ 256 → ∀ s ∈ xs, s.size ≤ 1000000) (hsz' : ys.length ≤ 256 → ∀ s ∈ ys, s.size ≤ 1000000) (hf : Fit 500 xs) (hf' : Fit 500 ys) (he : Env w) :
    Calls Tryz.prog 35 #[.agg #[.int .i64 R, .int .i64 C, v], .agg #[.int .i64 R', .int .i64 C', u]] w (RetMR w (prodS R C xs R' C' ys)) := by
  have HV := Lib.hid hv; have HU := Lib.hid hu; have HSZ := Lib.hid hsz; have HSZ' := Lib.hid hsz'; have HE := Lib.hid he
  obtain ⟨ad, cap, rfl⟩ := sl_form hv
  obtain ⟨ad', cap', rfl⟩ := sl_form hu
  clear hv hu hsz hsz' he
  by_cases h : twoM R C xs R' C' ys = 0
  · have H := Lib.hid h
    obtain ⟨h1, h2⟩ := two_ok h
    obtain ⟨r, n, hrm⟩ := rm_of h1
    obtain ⟨n', p, hrm'⟩ := rm_of h2
    by_cases hs : C = R'
    · obtain rfl := hrm.rows; obtain rfl := hrm.cols
      obtain rfl := hrm'.rows; obtain rfl := hrm'.cols
      obtain rfl : n = n' := by omega
      have HRM := Lib.hid hrm; have HRM' := Lib.hid hrm'; have HF := Lib.hid hf; have HF' := Lib.hid hf'
      show Calls _ _ _ _ (RetM w (prodS r n xs n p ys).R (prodS r n xs n p ys).C (prodS r n xs n p ys).xs (prodS r n xs n p ys).k)
      rw [show prodS r n xs n p ys = ⟨r, p, cellsF r p (mulM n (matF n xs) (matF p ys)), 0⟩ by unfold prodS; rw [if_pos h, if_pos rfl]; rfl]
      have HB := Lib.hid ((((Below.refl w.heap.size w).alloc (Nat.le_refl _) (.cells #[.int .i64 r, .int .i64 n, .slice ad xs.length cap] 24)).alloc (by simp) (.cells #[.int .i64 n, .int .i64 p, .slice ad' ys.length cap'] 24)).alloc (by simp; omega) (.cells #[.int .i64 0, .int .i64 0, .slice none 0 0] 24))
      have q0 := HB.out
      have HK := Lib.hid (((Blk.new w [.int .i64 r, .int .i64 n, .slice ad xs.length cap] 24).alloc (.cells #[.int .i64 n, .int .i64 p, .slice ad' ys.length cap'] 24)).alloc (.cells #[.int .i64 0, .int .i64 0, .slice none 0 0] 24))
      have HK2 := Lib.hid ((Blk.at1 w (.cells #[.int .i64 r, .int .i64 n, .slice ad xs.length cap] 24) [.int .i64 n, .int .i64 p, .slice ad' ys.length cap'] 24).alloc (.cells #[.int .i64 0, .int .i64 0, .slice none 0 0] 24))
      have HR := Lib.hid (Blk.at2 w (.cells #[.int .i64 r, .int .i64 n, .slice ad xs.length cap] 24) (.cells #[.int .i64 n, .int .i64 p, .slice ad' ys.length cap'] 24) [.int .i64 0, .int .i64 0, .slice none 0 0] 24)
      have HV := Lib.hid (HV.out.below HB.out (Nat.le_refl _))
      have HU := Lib.hid (HU.out.below HB.out (Nat.le_refl _))
      have HE := Lib.hid (HE.out.below HB.out (Nat.le_refl _))
      clear h h1 h2 hrm hrm' hf hf' hs
      go_enter Tryz.func35, Tryz.ntmps35
      go_wp2_with (first
        | (go_at_call 82; (with_reducible refine (Mproduct_ok _ _ _ xs ys r n p HV.out HU.out HRM.out HRM'.out HF.out HF'.out HE.out).mono ?_); rintro e w2 ⟨v, rfl, x2, rfl, s2, h2⟩; have HS := Lib.hid s2; obtain ⟨a2, k2, rfl⟩ := sl_form s2; clear s2; have HV := Lib.hid (HV.out.below h2 (Nat.le_refl _)); have HU := Lib.hid (HU.out.below h2 (Nat.le_refl _)); have HE := Lib.hid (HE.out.below h2 (Nat.le_refl _)); have HK := Lib.hid (HK.out.below h2 (Nat.le_refl _)); have c2_HK_0 := HK.out.cell 0 _ rfl; have c2_HK_1 := HK.out.cell 1 _ rfl; have c2_HK_2 := HK.out.cell 2 _ rfl; have HK2 := Lib.hid (HK2.out.below h2 (Nat.le_refl _)); have c2_HK2_0 := HK2.out.cell 0 _ rfl; have c2_HK2_1 := HK2.out.cell 1 _ rfl; have c2_HK2_2 := HK2.out.cell 2 _ rfl; have HR := Lib.hid (HR.out.below h2 (Nat.le_refl _)); have f2_HR_0 := HR.out.free 0; have f2_HR_1 := HR.out.free 1; have f2_HR_2 := HR.out.free 2; have c2_HR_0 := HR.out.cell 0 _ rfl; have c2_HR_1 := HR.out.cell 1 _ rfl; have c2_HR_2 := HR.out.cell 2 _ rfl; have q2 := q1.trans (h2.mono q1.size))
        | (go_at_call 81; (with_reducible refine (checks2_any _ _ r n n p _ _ xs ys (Blk.at3 w (.cells #[.int .i64 r, .int .i64 n, .slice ad xs.length cap] 24) (.cells #[.int .i64 n, .int .i64 p, .slice ad' ys.length cap'] 24) (.cells #[.int .i64 0, .int .i64 0, .slice none 0 0] 24) [.int .i64 r, .int .i64 n, .slice ad xs.length cap, .int .i64 n, .int .i64 p, .slice ad' ys.length cap'] 24) (HV.out.below ((Below.refl (((w.alloc (.cells #[.int .i64 r, .int .i64 n, .slice ad xs.length cap] 24)).alloc (.cells #[.int .i64 n, .int .i64 p, .slice ad' ys.length cap'] 24)).alloc (.cells #[.int .i64 0, .int .i64 0, .slice none 0 0] 24)).heap.size (((w.alloc (.cells #[.int .i64 r, .int .i64 n, .slice ad xs.length cap] 24)).alloc (.cells #[.int .i64 n, .int .i64 p, .slice ad' ys.length cap'] 24)).alloc (.cells #[.int .i64 0, .int .i64 0, .slice none 0 0] 24))).alloc (Nat.le_refl _) _) (Nat.le_refl _)) (HU.out.below ((Below.refl (((w.alloc (.cells #[.int .i64 r, .int .i64 n, .slice ad xs.length cap] 24)).alloc (.cells #[.int .i64 n, .int .i64 p, .slice ad' ys.length cap'] 24)).alloc (.cells #[.int .i64 0, .int .i64 0, .slice none 0 0] 24)).heap.size (((w.alloc (.cells #[.int .i64 r, .int .i64 n, .slice ad xs.length cap] 24)).alloc (.cells #[.int .i64 n, .int .i64 p, .slice ad' ys.length cap'] 24)).alloc (.cells #[.int .i64 0, .int .i64 0, .slice none 0 0] 24))).alloc (Nat.le_refl _) _) (Nat.le_refl _)) HSZ.out HSZ'.out).mono ?_); rintro e w1 ⟨v, rfl, rfl, h1⟩; have h1 := ((Below.refl (((w.alloc (.cells #[.int .i64 r, .int .i64 n, .slice ad xs.length cap] 24)).alloc (.cells #[.int .i64 n, .int .i64 p, .slice ad' ys.length cap'] 24)).alloc (.cells #[.int .i64 0, .int .i64 0, .slice none 0 0] 24)).heap.size (((w.alloc (.cells #[.int .i64 r, .int .i64 n, .slice ad xs.length cap] 24)).alloc (.cells #[.int .i64 n, .int .i64 p, .slice ad' ys.length cap'] 24)).alloc (.cells #[.int .i64 0, .int .i64 0, .slice none 0 0] 24))).alloc (Nat.le_refl _) (.cells #[.int .i64 r, .int .i64 n, .slice ad xs.length cap, .int .i64 n, .int .i64 p, .slice ad' ys.length cap'] 24)).trans (h1.mono (by simp)); rw [H.out]; have HV := Lib.hid (HV.out.below h1 (Nat.le_refl _)); have HU := Lib.hid (HU.out.below h1 (Nat.le_refl _)); have HE := Lib.hid (HE.out.below h1 (Nat.le_refl _)); have HK := Lib.hid (HK.out.below h1 (Nat.le_refl _)); have c1_HK_0 := HK.out.cell 0 _ rfl; have c1_HK_1 := HK.out.cell 1 _ rfl; have c1_HK_2 := HK.out.cell 2 _ rfl; have HK2 := Lib.hid (HK2.out.below h1 (Nat.le_refl _)); have c1_HK2_0 := HK2.out.cell 0 _ rfl; have c1_HK2_1 := HK2.out.cell 1 _ rfl; have c1_HK2_2 := HK2.out.cell 2 _ rfl; have HR := Lib.hid (HR.out.below h1 (Nat.le_refl _)); have f1_HR_0 := HR.out.free 0; have f1_HR_1 := HR.out.free 1; have f1_HR_2 := HR.out.free 2; have c1_HR_0 := HR.out.cell 0 _ rfl; have c1_HR_1 := HR.out.cell 1 _ rfl; have c1_HR_2 := HR.out.cell 2 _ rfl; have q1 := q0.trans (h1.mono q0.size)))
      obtain ⟨hR, hS, hW⟩ := res_done (R := r) (C := p) q2 (by omega) HR.out HS.out
      have z0 := hR.cell 0 _ rfl; have z1 := hR.cell 1 _ rfl; have z2 := hR.cell 2 _ rfl
      exact bodyPost_ret (v := .tuple #[.agg #[.int .i64 r, .int .i64 p, .slice a2 (cellsF r p (mulM n (matF n xs) (matF p ys))).length k2], .int .i64 0]) (by simp [results, Tryz.results35, go_sem, z0, z1, z2]) rfl ⟨_, rfl, _, rfl, hS, hW⟩
    · have HX := Lib.hid (show prodS R C xs R' C' ys = .bad 8 by unfold prodS; rw [if_pos h, if_neg hs])
      have hne : (C != R') = true := by simp [hs]
      show Calls _ _ _ _ (RetM w (prodS R C xs R' C' ys).R (prodS R C xs R' C' ys).C (prodS R C xs R' C' ys).xs (prodS R C xs R' C' ys).k)
      rw [show prodS R C xs R' C' ys = .bad 8 by exact HX.out]
      have HB := Lib.hid ((((Below.refl w.heap.size w).alloc (Nat.le_refl _) (.cells #[.int .i64 R, .int .i64 C, .slice ad xs.length cap] 24)).alloc (by simp) (.cells #[.int .i64 R', .int .i64 C', .slice ad' ys.length cap'] 24)).alloc (by simp; omega) (.cells #[.int .i64 0, .int .i64 0, .slice none 0 0] 24))
      have q0 := HB.out
      have HK := Lib.hid (((Blk.new w [.int .i64 R, .int .i64 C, .slice ad xs.length cap] 24).alloc (.cells #[.int .i64 R', .int .i64 C', .slice ad' ys.length cap'] 24)).alloc (.cells #[.int .i64 0, .int .i64 0, .slice none 0 0] 24))
      have HK2 := Lib.hid ((Blk.at1 w (.cells #[.int .i64 R, .int .i64 C, .slice ad xs.length cap] 24) [.int .i64 R', .int .i64 C', .slice ad' ys.length cap'] 24).alloc (.cells #[.int .i64 0, .int .i64 0, .slice none 0 0] 24))
      have HR := Lib.hid (Blk.at2 w (.cells #[.int .i64 R, .int .i64 C, .slice ad xs.length cap] 24) (.cells #[.int .i64 R', .int .i64 C', .slice ad' ys.length cap'] 24) [.int .i64 0, .int .i64 0, .slice none 0 0] 24)
      have HV := Lib.hid (HV.out.below HB.out (Nat.le_refl _))
      have HU := Lib.hid (HU.out.below HB.out (Nat.le_refl _))
      have HE := Lib.hid (HE.out.below HB.out (Nat.le_refl _))
      clear h h1 h2 hrm hrm' hs
      go_enter Tryz.func35, Tryz.ntmps35
      go_wp2_with (first
        | (go_at_call 81; (with_reducible refine (checks2_any _ _ R C R' C' _ _ xs ys (Blk.at3 w (.cells #[.int .i64 R, .int .i64 C, .slice ad xs.length cap] 24) (.cells #[.int .i64 R', .int .i64 C', .slice ad' ys.length cap'] 24) (.cells #[.int .i64 0, .int .i64 0, .slice none 0 0] 24) [.int .i64 R, .int .i64 C, .slice ad xs.length cap, .int .i64 R', .int .i64 C', .slice ad' ys.length cap'] 24) (HV.out.below ((Below.refl (((w.alloc (.cells #[.int .i64 R, .int .i64 C, .slice ad xs.length cap] 24)).alloc (.cells #[.int .i64 R', .int .i64 C', .slice ad' ys.length cap'] 24)).alloc (.cells #[.int .i64 0, .int .i64 0, .slice none 0 0] 24)).heap.size (((w.alloc (.cells #[.int .i64 R, .int .i64 C, .slice ad xs.length cap] 24)).alloc (.cells #[.int .i64 R', .int .i64 C', .slice ad' ys.length cap'] 24)).alloc (.cells #[.int .i64 0, .int .i64 0, .slice none 0 0] 24))).alloc (Nat.le_refl _) _) (Nat.le_refl _)) (HU.out.below ((Below.refl (((w.alloc (.cells #[.int .i64 R, .int .i64 C, .slice ad xs.length cap] 24)).alloc (.cells #[.int .i64 R', .int .i64 C', .slice ad' ys.length cap'] 24)).alloc (.cells #[.int .i64 0, .int .i64 0, .slice none 0 0] 24)).heap.size (((w.alloc (.cells #[.int .i64 R, .int .i64 C, .slice ad xs.length cap] 24)).alloc (.cells #[.int .i64 R', .int .i64 C', .slice ad' ys.length cap'] 24)).alloc (.cells #[.int .i64 0, .int .i64 0, .slice none 0 0] 24))).alloc (Nat.le_refl _) _) (Nat.le_refl _)) HSZ.out HSZ'.out).mono ?_); rintro e w1 ⟨v, rfl, rfl, h1⟩; have h1 := ((Below.refl (((w.alloc (.cells #[.int .i64 R, .int .i64 C, .slice ad xs.length cap] 24)).alloc (.cells #[.int .i64 R', .int .i64 C', .slice ad' ys.length cap'] 24)).alloc (.cells #[.int .i64 0, .int .i64 0, .slice none 0 0] 24)).heap.size (((w.alloc (.cells #[.int .i64 R, .int .i64 C, .slice ad xs.length cap] 24)).alloc (.cells #[.int .i64 R', .int .i64 C', .slice ad' ys.length cap'] 24)).alloc (.cells #[.int .i64 0, .int .i64 0, .slice none 0 0] 24))).alloc (Nat.le_refl _) (.cells #[.int .i64 R, .int .i64 C, .slice ad xs.length cap, .int .i64 R', .int .i64 C', .slice ad' ys.length cap'] 24)).trans (h1.mono (by simp)); rw [H.out]; have HK := Lib.hid (HK.out.below h1 (Nat.le_refl _)); have c1_HK_0 := HK.out.cell 0 _ rfl; have c1_HK_1 := HK.out.cell 1 _ rfl; have c1_HK_2 := HK.out.cell 2 _ rfl; have HK2 := Lib.hid (HK2.out.below h1 (Nat.le_refl _)); have c1_HK2_0 := HK2.out.cell 0 _ rfl; have c1_HK2_1 := HK2.out.cell 1 _ rfl; have c1_HK2_2 := HK2.out.cell 2 _ rfl; have HR := Lib.hid (HR.out.below h1 (Nat.le_refl _)); have f1_HR_0 := HR.out.free 0; have f1_HR_1 := HR.out.free 1; have f1_HR_2 := HR.out.free 2; have c1_HR_0 := HR.out.cell 0 _ rfl; have c1_HR_1 := HR.out.cell 1 _ rfl; have c1_HR_2 := HR.out.cell 2 _ rfl; have q1 := q0.trans (h1.mono q0.size)))
      obtain ⟨hR, hS, hW⟩ := res_done (R := 0) (C := 0) q1 (by omega) HR.out (Sl.nil' eS _)
      have z0 := hR.cell 0 _ rfl; have z1 := hR.cell 1 _ rfl; have z2 := hR.cell 2 _ rfl
      exact bodyPost_ret (v := .tuple #[.agg #[.int .i64 0, .int .i64 0, .slice none 0 0], .int .i64 8]) (by simp [results, Tryz.results35, go_sem, z0, z1, z2]) rfl ⟨_, rfl, _, rfl, hS, hW⟩
  · have hne : (twoM R C xs R' C' ys != 0) = true := by simp [h]
    show Calls _ _ _ _ (RetM w (prodS R C xs R' C' ys).R (prodS R C xs R' C' ys).C (prodS R C xs R' C' ys).xs (prodS R C xs R' C' ys).k)
    rw [show prodS R C xs R' C' ys = .bad (twoM R C xs R' C' ys) by unfold prodS; rw [if_neg h]]
    have HB := Lib.hid ((((Below.refl w.heap.size w).alloc (Nat.le_refl _) (.cells #[.int .i64 R, .int .i64 C, .slice ad xs.length cap] 24)).alloc (by simp) (.cells #[.int .i64 R', .int .i64 C', .slice ad' ys.length cap'] 24)).alloc (by simp; omega) (.cells #[.int .i64 0, .int .i64 0, .slice none 0 0] 24))
    have q0 := HB.out
    have HK := Lib.hid (((Blk.new w [.int .i64 R, .int .i64 C, .slice ad xs.length cap] 24).alloc (.cells #[.int .i64 R', .int .i64 C', .slice ad' ys.length cap'] 24)).alloc (.cells #[.int .i64 0, .int .i64 0, .slice none 0 0] 24))
    have HK2 := Lib.hid ((Blk.at1 w (.cells #[.int .i64 R, .int .i64 C, .slice ad xs.length cap] 24) [.int .i64 R', .int .i64 C', .slice ad' ys.length cap'] 24).alloc (.cells #[.int .i64 0, .int .i64 0, .slice none 0 0] 24))
    have HR := Lib.hid (Blk.at2 w (.cells #[.int .i64 R, .int .i64 C, .slice ad xs.length cap] 24) (.cells #[.int .i64 R', .int .i64 C', .slice ad' ys.length cap'] 24) [.int .i64 0, .int .i64 0, .slice none 0 0] 24)
    have HV := Lib.hid (HV.out.below HB.out (Nat.le_refl _))
    have HU := Lib.hid (HU.out.below HB.out (Nat.le_refl _))
    have HE := Lib.hid (HE.out.below HB.out (Nat.le_refl _))
    clear h
    go_enter Tryz.func35, Tryz.ntmps35
    go_wp2_with (first
      | (go_at_call 81; (with_reducible refine (checks2_any _ _ R C R' C' _ _ xs ys (Blk.at3 w (.cells #[.int .i64 R, .int .i64 C, .slice ad xs.length cap] 24) (.cells #[.int .i64 R', .int .i64 C', .slice ad' ys.length cap'] 24) (.cells #[.int .i64 0, .int .i64 0, .slice none 0 0] 24) [.int .i64 R, .int .i64 C, .slice ad xs.length cap, .int .i64 R', .int .i64 C', .slice ad' ys.length cap'] 24) (HV.out.below ((Below.refl (((w.alloc (.cells #[.int .i64 R, .int .i64 C, .slice ad xs.length cap] 24)).alloc (.cells #[.int .i64 R', .int .i64 C', .slice ad' ys.length cap'] 24)).alloc (.cells #[.int .i64 0, .int .i64 0, .slice none 0 0] 24)).heap.size (((w.alloc (.cells #[.int .i64 R, .int .i64 C, .slice ad xs.length cap] 24)).alloc (.cells #[.int .i64 R', .int .i64 C', .slice ad' ys.length cap'] 24)).alloc (.cells #[.int .i64 0, .int .i64 0, .slice none 0 0] 24))).alloc (Nat.le_refl _) _) (Nat.le_refl _)) (HU.out.below ((Below.refl (((w.alloc (.cells #[.int .i64 R, .int .i64 C, .slice ad xs.length cap] 24)).alloc (.cells #[.int .i64 R', .int .i64 C', .slice ad' ys.length cap'] 24)).alloc (.cells #[.int .i64 0, .int .i64 0, .slice none 0 0] 24)).heap.size (((w.alloc (.cells #[.int .i64 R, .int .i64 C, .slice ad xs.length cap] 24)).alloc (.cells #[.int .i64 R', .int .i64 C', .slice ad' ys.length cap'] 24)).alloc (.cells #[.int .i64 0, .int .i64 0, .slice none 0 0] 24))).alloc (Nat.le_refl _) _) (Nat.le_refl _)) HSZ.out HSZ'.out).mono ?_); rintro e w1 ⟨v, rfl, rfl, h1⟩; have h1 := ((Below.refl (((w.alloc (.cells #[.int .i64 R, .int .i64 C, .slice ad xs.length cap] 24)).alloc (.cells #[.int .i64 R', .int .i64 C', .slice ad' ys.length cap'] 24)).alloc (.cells #[.int .i64 0, .int .i64 0, .slice none 0 0] 24)).heap.size (((w.alloc (.cells #[.int .i64 R, .int .i64 C, .slice ad xs.length cap] 24)).alloc (.cells #[.int .i64 R', .int .i64 C', .slice ad' ys.length cap'] 24)).alloc (.cells #[.int .i64 0, .int .i64 0, .slice none 0 0] 24))).alloc (Nat.le_refl _) (.cells #[.int .i64 R, .int .i64 C, .slice ad xs.length cap, .int .i64 R', .int .i64 C', .slice ad' ys.length cap'] 24)).trans (h1.mono (by simp)); skip; have HK := Lib.hid (HK.out.below h1 (Nat.le_refl _)); have c1_HK_0 := HK.out.cell 0 _ rfl; have c1_HK_1 := HK.out.cell 1 _ rfl; have c1_HK_2 := HK.out.cell 2 _ rfl; have HK2 := Lib.hid (HK2.out.below h1 (Nat.le_refl _)); have c1_HK2_0 := HK2.out.cell 0 _ rfl; have c1_HK2_1 := HK2.out.cell 1 _ rfl; have c1_HK2_2 := HK2.out.cell 2 _ rfl; have HR := Lib.hid (HR.out.below h1 (Nat.le_refl _)); have f1_HR_0 := HR.out.free 0; have f1_HR_1 := HR.out.free 1; have f1_HR_2 := HR.out.free 2; have c1_HR_0 := HR.out.cell 0 _ rfl; have c1_HR_1 := HR.out.cell 1 _ rfl; have c1_HR_2 := HR.out.cell 2 _ rfl; have q1 := q0.trans (h1.mono q0.size)))
    obtain ⟨hR, hS, hW⟩ := res_done (R := 0) (C := 0) q1 (by omega) HR.out (Sl.nil' eS _)
    have z0 := hR.cell 0 _ rfl; have z1 := hR.cell 1 _ rfl; have z2 := hR.cell 2 _ rfl
    exact bodyPost_ret (v := .tuple #[.agg #[.int .i64 0, .int .i64 0, .slice none 0 0], .int .i64 (twoM R C xs R' C' ys)]) (by simp [results, Tryz.results35, go_sem, z0, z1, z2]) rfl ⟨_, rfl, _, rfl, hS, hW⟩
end Go.Proofs.YtajkhbpffakmfaaGreatDoor
