/- The walk of the reference's division of digits. The walk of the reference's division of digits: the loops. The walks of slices.Clone, DeleteFunc and Equal over texts, and of abelian's Of. -/
import Derived.Test.YtajkhbpffakmfaaGreatDoorPk3
import Derived.Laws.AppendOwnNone
import Derived.Test.YtajkhbpffakmfaaGreatDoorPk4
import Derived.Test.YtajkhbpffakmfaaGreatDoorPk5
import Derived.Lib.SliceRun
namespace Go.Proofs.YtajkhbpffakmfaaGreatDoor
open Go.RowKit
set_option maxRecDepth 100000

/-- The slice's block is not below B. -/
def From (B : Nat) (v : Value) : Prop := ∀ b o p n c, v = .slice (some ⟨b, o, p⟩) n c → B ≤ b
theorem From.mono {B B' : Nat} {v : Value} (h : From B' v) (hb : B ≤ B') : From B v := fun b o p n c e => Nat.le_trans hb (h b o p n c e)
theorem From.none {B n c : Nat} : From B (.slice none n c) := fun b o p n c e => by cases e
theorem From.len {B n c : Nat} {a : Option Addr} (h : From B (.slice a n c)) (n' c' : Nat) : From B (.slice a n' c') := fun b o p n c e => by cases e; exact h b o p _ _ rfl
theorem From.ofOwns {w : World} {base e sz n : Nat} {v : Value} {xs : List Value} (h : w.ownsRow base e sz v n xs) : From base v := by
  rcases h.2 with ⟨rfl, _⟩ | ⟨g, cap, cur, rfl, hg, _⟩
  · exact From.none
  · intro b o p n c e; cases e; exact hg
theorem Sl.setFrom {w : World} {v : Value} {xs : List Nat} {B g k : Nat} {u : Value} (h : Sl eI w v xs) (hf : From B v) (hg : g < B) : Sl eI (w.setCell ⟨g, k, none⟩ u) v xs := by
  obtain ⟨a, b, o, c, rfl, ha, hc, hm, hn, hx⟩ := h
  refine ⟨a, b, o, c, rfl, ha, hc, hm, hn, fun h => by have := hx.1 h; simpa [World.setCell] using this, fun i hi => ?_⟩
  have hb : B ≤ b := hf b o Option.none _ _ (by rw [ha (by omega)])
  rw [← hx.2 i hi]
  exact World.cell?_of_block (w := w) (Below.heap_setCell _ _ _ _ (show b ≠ g by omega))

section
variable {P : Program} {t e : TypeId} {z : Value} {bytes : Nat} {ops : Array Oper} {rest : List Oper} {o : Oper} {a : Act} {Q : Exit → Act → World → Prop}
/-- 'append([]T{u}, xs...)'. -/
theorem appS {α : Type} {enc : α → Value} (hE : ElemOk P t e z 1 bytes) (hgd : o.guard = none) (s x : Operand) (ho : o.op = .call { callee := .builtin .append, args := #[s, x], argTypes := #[t, t] })
    {u v : Value} {xs : List α} {B : Nat} {w0 W : World} (hs : a.eval s = .slice (some ⟨w0.heap.size, 0, none⟩) 1 1) (hx : a.eval x = v) (hv : Sl enc w0 v xs) (hb : Below B W w0) (hB : B ≤ w0.heap.size)
    (h2 : ∀ y, (enc y).oneCell' = true) (hn : (1 + xs.length) * bytes ≤ 140737488355328) (hn' : 1 + xs.length ≤ maxLen)
    (h : ∀ v' w', w'.ownsRow w0.heap.size e 1 v' (1 + xs.length) (u :: xs.map enc) → Below B W w' → wpList P ops Q rest (a.put o.dst v') w') :
    wpList P ops Q (o :: rest) a (w0.alloc (.cells #[u] e)) := by
  obtain ⟨i, hi, hz, hsz, hby⟩ := hE.info
  have hown : (w0.alloc (.cells #[u] e)).ownsRow w0.heap.size e 1 (.slice (some ⟨w0.heap.size, 0, none⟩) 1 1) 1 [u] := ⟨rfl, .inr ⟨w0.heap.size, 1, #[u], rfl, by omega, heap_alloc_new w0 _, by omega, by simp [maxLen], rfl, rfl⟩⟩
  have hv := hv.below ((Below.refl _ w0).alloc (Nat.le_refl _) (.cells #[u] e)) (Nat.le_refl _)
  obtain ⟨ad, b, off, c, rfl, ha, hc, hm, hnn, hcell⟩ := hv
  cases ad with
  | none =>
    have hc0 := hnn rfl
    have hl0 : xs.length = 0 := by omega
    obtain rfl : xs = [] := List.length_eq_zero_iff.1 hl0
    subst hc0
    refine wpList_append_own_none hgd s x t ho w0.heap.size e i 1 hE.und hi _ 1 [u] hs hown hx ?_
    exact h _ _ hown (hb.alloc (by omega) _)
  | some ad =>
    have hnews : ∀ j y, (xs.map enc)[j]? = some y → (w0.alloc (.cells #[u] e)).cell? (ad.add j) = some y := by
      intro j y hj
      have hj' : j < xs.length := by have := (List.getElem?_eq_some_iff.1 hj).1; simpa using this
      have := ha (by omega)
      cases this
      have h3 := hcell.2 j hj'
      simp [hj'] at hj
      rw [show (⟨b, off, none⟩ : Addr).add j = ⟨b, off + j, none⟩ by simp [Addr.add], h3, hj]
    refine wpList_append_own _ hgd s x t ho w0.heap.size e i z 1 bytes hE.und hi hz hsz hby hE.cells hE.pos _ 1 [u] hs hown ad xs.length c (xs.map enc) hx (by simp) hnews (by intro y hy; obtain ⟨y', _, rfl⟩ := List.mem_map.1 hy; exact h2 y') hn' hn (by simp) ?_
    intro v' w' ho' hg _
    exact h v' w' ho' ((hb.alloc (by omega) _).grown hg (by simp; omega) (fun j hj => by have := (hown.lt j hj).1; omega))
end

set_option maxHeartbeats 400000 in
theorem cut_from (w : World) (v : Value) (xs : List Nat) (hv : Sl eI w v xs) :
    Calls Tryz.prog 132 #[v] w (Rets fun v' w' => Sl eI w' v' (trim xs) ∧ (∀ B, From B v → From B v') ∧ w = w') := by
  have HV := Lib.hid hv
  obtain ⟨a, b, o, c, rfl, hi, hx, hc, hm⟩ := hv.open elemInt
  clear hv
  unfold maxLen at hm
  go_enter Tryz.func132, Tryz.ntmps132
  go_wp2
  go_loop [3] (fun v => ∃ k : Nat, k ≤ xs.length ∧ v = .int .i64 k ∧ Hid (trim (xs.take k) = trim xs)) (fun v => (intOf v).toNat)
  case atStart => exact ⟨xs.length, Nat.le_refl _, rfl, Lib.hid (by simp)⟩
  case round =>
    obtain ⟨k, hk, rfl, HT⟩ := hrel
    rcases k with _ | k
    · go_wp2
      go_ret
      exact ⟨_, rfl, by rw [← HT.out]; exact HV.out.take 0 (Nat.zero_le _), fun B h => h.len _ _, rfl⟩
    · have hp : (0 : Int) < ((k + 1 : Nat) : Int) := by omega
      have h1 : w.cell? ⟨b, o + k, none⟩ = some (.int .i64 (xs[k] : Nat)) := hx.2 k (by omega)
      go_wp2
      · go_round
        case rel =>
          have h0 : ((xs[k] : Nat) == (0 : Int)) = true := by assumption
          have h0 : xs[k] = 0 := by simpa using h0
          exact ⟨k, by omega, by go_num, Lib.hid (by rw [← HT.out, take_snoc xs k (by omega), h0, trim_snoc_zero])⟩
        case measure => simp [intOf]
      · go_ret
        have h0 : ((xs[k] : Nat) == (0 : Int)) = false := by assumption
        have h0 : xs[k] ≠ 0 := by simpa using h0
        exact ⟨_, rfl, by rw [← HT.out, take_snoc xs k (by omega), trim_snoc _ _ h0, ← take_snoc xs k (by omega)]; exact HV.out.take (k + 1) hk, fun B h => h.len _ _, rfl⟩


set_option maxHeartbeats 1000000 in
theorem taken_from (w : World) (x y : Value) (m n : Nat) (hx : Sl eI w x (digs 10 m)) (hy : Sl eI w y (digs 10 n)) (hl : (digs 10 m).length ≤ 1000000) (hmn : n ≤ m) :
    Calls Tryz.prog 130 #[x, y] w (Rets fun v w' => Sl eI w' v (digs 10 (m - n)) ∧ From w.heap.size v ∧ Below w.heap.size w w') := by
  have hle := digs_len_mono 10 (by omega) hmn
  have ba := digs_lt 10 m (by omega)
  have bb := digs_lt 10 n (by omega)
  have va := val_digs 10 m (by omega)
  have vb := val_digs 10 n (by omega)
  generalize digs 10 m = xs at *
  generalize digs 10 n = ys at *
  have HX := Lib.hid hx; have HY := Lib.hid hy
  obtain ⟨ad, bl, o, c, rfl, hi, hp, -, -⟩ := hx.open elemInt
  obtain ⟨a', b', o', c', rfl, hi', hq, -, -⟩ := hy.open elemInt
  have BX := Lib.hid ba; have BY := Lib.hid bb; have VA := Lib.hid va; have VB := Lib.hid vb; have HLE := Lib.hid hle; have HMN := Lib.hid hmn
  clear ba bb va vb hx hy hle hq hi' hmn
  go_enter Tryz.func130, Tryz.ntmps130
  go_wp2
  go_loopw [5, 6, 7] (fun out bw i wr => ∃ (k c : Nat) (os : List Nat), k ≤ xs.length ∧ i = .int .i64 k ∧ bw = .int .i64 c ∧ c ≤ 1 ∧ Hid (os.length = k) ∧ Hid (∀ a ∈ os, a < 10) ∧
      Hid (val 10 (xs.take k) + 10 ^ k * c = val 10 os + val 10 (ys.take k)) ∧ wr.ownsRow w.heap.size 3 1 out os.length (os.map eI) ∧ Below w.heap.size w wr) (fun _ _ i _ => xs.length - (intOf i).toNat)
  case atStart => exact ⟨0, 0, [], by omega, rfl, rfl, by omega, Lib.hid rfl, Lib.hid (by simp), Lib.hid (by simp [val]), World.ownsRow_nil _ _ _ _, Below.refl _ _⟩
  case round =>
    obtain ⟨k, cy, os, hk, rfl, rfl, hcy, hol, hos, hv, hown, hb⟩ := hrel
    have hbs := hb.size
    by_cases hlt : k < xs.length
    · have hbp := BX.out xs[k] (List.getElem_mem hlt)
      have h1 : wr.cell? ⟨bl, o + k, none⟩ = some (.int .i64 (xs[k] : Nat)) := hp.at hb (Nat.le_refl _) k hlt
      have hgx : xs.getD k 0 = xs[k] := by simp [hlt]
      obtain ⟨d, hd⟩ : ∃ d, d = xs[k] := ⟨_, rfl⟩
      obtain ⟨d', hd'⟩ : ∃ d, ys.getD k 0 = d := ⟨_, rfl⟩
      have hdl' : d' < 10 := by rw [← hd']; exact getD_lt BY.out (by omega)
      rw [← hd] at h1 hbp hgx
      have HGX := Lib.hid hgx
      have HD' := Lib.hid hd'
      have HDG := Lib.hid (digit_d ys k d' hd')
      have hol2 : os.length ≤ 1000000 := by rw [hol.out]; omega
      clear hd hd' hgx
      have hbk := hb
      by_cases hneg : d < cy + d'
      · have HR := Lib.hid (less_step 10 xs ys os k cy (d + 10 - cy - d') 1 hol.out hos.out hv.out (by omega) (by rw [HGX.out, HD'.out]; omega))
        go_wp2
        go_quiet ((go_at_call 131; exact Calls.quiet_of_same (HDG.out _ _ (HY.out.below (below_drewN hb _) (Nat.le_refl _)))))
        have hbk := below_drewN hb nq
        have hok := own_drewN hown nq
        have hbs2 : w.heap.size ≤ (wr.drewN nq).heap.size := hbk.size
        clear hown hb hbs
        go_wp2_with (at_builtin; refine app1 elemInt rfl _ _ rfl rfl rfl hok hbk (Nat.le_refl _) hbs2 rfl (by simp [Value.oneCell']) (by omega) (by unfold maxLen; omega) ?_; intro v' w2 hown' hb')
        have ev : (d : Int) - d' - cy + 10 = ((d + 10 - cy - d' : Nat) : Int) := by omega
        rw [ev] at hown'
        go_roundw
        case rel => exact ⟨k + 1, 1, os ++ [d + 10 - cy - d'], by omega, by go_num, rfl, by omega, Lib.hid (by simp [hol.out]), Lib.hid HR.out.2.1, Lib.hid HR.out.2.2, by simpa [eI] using hown', hb'⟩
        case measure => simp [intOf]; omega
      · have HR := Lib.hid (less_step 10 xs ys os k cy (d - cy - d') 0 hol.out hos.out hv.out (by omega) (by rw [HGX.out, HD'.out]; omega))
        go_wp2
        go_quiet ((go_at_call 131; exact Calls.quiet_of_same (HDG.out _ _ (HY.out.below (below_drewN hb _) (Nat.le_refl _)))))
        have hbk := below_drewN hb nq
        have hok := own_drewN hown nq
        have hbs2 : w.heap.size ≤ (wr.drewN nq).heap.size := hbk.size
        clear hown hb hbs
        go_wp2_with (at_builtin; refine app1 elemInt rfl _ _ rfl rfl rfl hok hbk (Nat.le_refl _) hbs2 rfl (by simp [Value.oneCell']) (by omega) (by unfold maxLen; omega) ?_; intro v' w2 hown' hb')
        have ev : (d : Int) - d' - cy = ((d - cy - d' : Nat) : Int) := by omega
        rw [ev] at hown'
        go_roundw
        case rel => exact ⟨k + 1, 0, os ++ [d - cy - d'], by omega, by go_num, rfl, by omega, Lib.hid (by simp [hol.out]), Lib.hid HR.out.2.1, Lib.hid HR.out.2.2, by simpa [eI] using hown', hb'⟩
        case measure => simp [intOf]; omega
    · obtain rfl : k = xs.length := by omega
      have hfin : val 10 os = m - n := by
        have h1 := hv.out
        rw [List.take_of_length_le (Nat.le_refl _), List.take_of_length_le HLE.out, VA.out, VB.out] at h1
        have h2 := val_lt 10 os hos.out
        rw [hol.out] at h2
        have h3 := HMN.out
        rcases (show cy = 0 ∨ cy = 1 by omega) with rfl | rfl <;> omega
      have HF := Lib.hid hfin; clear hfin
      go_wp2_with fail
      refine (cut_from _ _ os (Sl.ofOwns hown)).mono ?_
      rintro e w2 ⟨v2, rfl, hs2, hf2, rfl⟩
      have HS2 := Lib.hid hs2; have HF2 := Lib.hid (hf2 _ (From.ofOwns hown)); clear hs2 hf2
      go_wp2
      go_ret
      exact ⟨_, rfl, by rw [← trim_of 10 os _ (by omega) hos.out HF.out]; exact HS2.out, HF2.out, hb⟩
end Go.Proofs.YtajkhbpffakmfaaGreatDoor

namespace Go.Proofs.YtajkhbpffakmfaaGreatDoor
open Go.RowKit
set_option maxRecDepth 100000

theorem Sl.uniqueI {w : World} {v : Value} {xs ys : List Nat} (h : Sl eI w v xs) (h' : Sl eI w v ys) : xs = ys := by
  obtain ⟨a, b, o, c, rfl, ha, -, -, -, hx⟩ := h
  obtain ⟨a', b', o', c', he, ha', -, -, -, hx'⟩ := h'
  injection he with e1 e2 e3
  refine List.ext_getElem e2 fun i h1 h2 => ?_
  have p1 := ha (by omega)
  have p2 := ha' (by omega)
  rw [← e1, p1] at p2
  injection p2 with p2
  injection p2 with q1 q2
  have c1 := hx.2 i h1
  have c2 := hx'.2 i h2
  rw [← q1, ← q2, c1] at c2
  simp [eI] at c2
  exact_mod_cast c2
open Classical in
/-- The natural number that a slice of digits reads as. -/
noncomputable def rdD (w : World) (v : Value) : Nat := if h : ∃ n, Sl eI w v (digs 10 n) then Classical.choose h else 0
theorem rdD_eq {w : World} {v : Value} {n : Nat} (h : Sl eI w v (digs 10 n)) : rdD w v = n := by
  have hex : ∃ n, Sl eI w v (digs 10 n) := ⟨n, h⟩
  unfold rdD
  rw [dif_pos hex]
  have := (Classical.choose_spec hex).uniqueI h
  have e := congrArg (val 10) this
  rwa [val_digs _ _ (by omega), val_digs _ _ (by omega)] at e
theorem own_lt {w : World} {base e g n cap : Nat} {xs : List Value} (h : w.ownsRow base e 1 (.slice (some ⟨g, 0, none⟩) n cap) n xs) : g < w.heap.size := by
  rcases h.2 with ⟨h0, _⟩ | ⟨g', cap', cur, he, _, hg, _⟩
  · cases h0
  · cases he; exact (Array.getElem?_eq_some_iff.1 hg).1
theorem trim_cons (x r : Nat) (hx : x < 10) : trim (x :: digs 10 r) = digs 10 (x + 10 * r) :=
  trim_of 10 _ _ (by omega) (by intro a ha; rcases List.mem_cons.1 ha with rfl | h; exact hx; exact digs_lt 10 r (by omega) a h) (by rw [val, val_digs _ _ (by omega)])
theorem zeros_val (n : Nat) : val 10 (List.replicate n 0) = 0 := by
  induction n with
  | zero => rfl
  | succ n ih => rw [List.replicate_succ, val, ih]

set_option maxHeartbeats 4000000 in
theorem rdivided_any (w : World) (x y : Value) (m n : Nat) (hx : Sl eI w x (digs 10 m)) (hy : Sl eI w y (digs 10 n)) (hl : (digs 10 m).length ≤ 1000000) (hl' : (digs 10 n).length ≤ 900000) (hn : 0 < n) :
    Calls Tryz.prog 148 #[x, y] w (Rets fun v w' => ∃ q a k c, v = .tuple #[q, .slice a k c] ∧ Sl eI w' q (digs 10 (m / n)) ∧ Sl eI w' (.slice a k c) (digs 10 (m % n)) ∧ Below w.heap.size w w') := by
  have ba := digs_lt 10 m (by omega)
  have va := val_digs 10 m (by omega)
  generalize digs 10 m = xs at *
  have HY := Lib.hid hy; have HN := Lib.hid hn; have HL' := Lib.hid hl'
  obtain ⟨a, b, o, c, rfl, hi, hp, -, -⟩ := hx.open elemInt
  obtain ⟨a', b', o', c', rfl, -, -, -, -⟩ := hy.open elemInt
  have BX := Lib.hid ba; have VA := Lib.hid va
  clear ba va hx hy hn hl'
  go_enter Tryz.func148, Tryz.ntmps148
  go_wp2_with (at_make; refine mkN elemInt rfl _ _ rfl xs.length rfl rfl (by omega) (by omega) (by omega) (by unfold maxLen; omega) (Below.refl _ _) (Nat.le_refl _) rfl ?_; intro w1 hown hb hb2; clear hb2)
  have hown := ownsRow_cast hown rfl (show List.replicate xs.length (Value.int .i64 0) = (List.replicate xs.length 0).map eI by simp [eI])
  go_loopw [7, 8] (fun rv i wr => ∃ (k q r : Nat) (cur : List Nat), k ≤ xs.length ∧ i = .int .i64 ((k : Int) - 1) ∧ Hid (Sl eI wr rv (digs 10 r)) ∧ Hid (From (w.heap.size + 1) rv) ∧ Hid (r < n) ∧ Hid (val 10 (xs.drop k) = q * n + r) ∧ Hid (∀ a ∈ cur, a < 10) ∧ Hid (cur.length = xs.length) ∧
      Hid (∀ j, j < k → cur.getD j 0 = 0) ∧ Hid (val 10 (cur.drop k) = q) ∧ wr.ownsRow w.heap.size 3 1 (.slice (some ⟨w.heap.size, 0, none⟩) xs.length xs.length) xs.length (cur.map eI) ∧ Below w.heap.size w wr) (fun _ i _ => (intOf i + 1).toNat)
  case atStart =>
    refine ⟨xs.length, 0, 0, _, Nat.le_refl _, rfl, Lib.hid ?_, Lib.hid From.none, HN, Lib.hid ?_, Lib.hid ?_, Lib.hid ?_, Lib.hid ?_, Lib.hid ?_, hown, hb⟩
    · rw [digs_zero]; exact Sl.nil
    · rw [List.drop_length]; simp [val]
    · intro a ha; rw [List.eq_of_mem_replicate ha]; omega
    · simp
    · intro j hj; rw [List.getD_eq_getElem?_getD, List.getElem?_replicate]; split <;> rfl
    · rw [List.drop_of_length_le (by simp)]; rfl
  case round =>
    clear hown hb
    obtain ⟨k, q, r, cur, hk, rfl, hR, hF, hrn, hV, HC, HL, HZ, HQ, hown, hb⟩ := hrel
    rcases k with _ | k
    · obtain ⟨ar, nr, cr, rfl⟩ := hR.out.shape
      have hq : m / n = q ∧ m % n = r := (Nat.div_mod_unique HN.out).2 ⟨by have := hV.out; rw [List.drop_zero, VA.out] at this; rw [this, Nat.mul_comm n q, Nat.add_comm], hrn.out⟩
      have HQ2 := Lib.hid hq
      have HQ3 : Hid (trim cur = digs 10 q) := Lib.hid (trim_of 10 cur _ (by omega) HC.out (by have := HQ.out; rwa [List.drop_zero] at this))
      clear hq
      go_wp2_with fail
      refine (cut_any _ _ cur (Sl.ofOwns hown)).mono ?_
      rintro e w2 ⟨v2, rfl, hs2, rfl⟩
      have HS2 := Lib.hid hs2; clear hs2
      go_wp2
      go_ret2
      exact ⟨_, rfl, _, _, _, _, rfl, by rw [HQ2.out.1, ← HQ3.out]; exact HS2.out, by rw [HQ2.out.2]; exact hR.out, hb⟩
    · have ek : (((k + 1 : Nat) : Int) - 1) = (k : Int) := by omega
      rw [ek]
      clear ek
      have hkl : k < xs.length := by omega
      have hc1 : wr.cell? ⟨b, o + k, none⟩ = some (.int .i64 (xs[k] : Nat)) := hp.at hb (Nat.le_refl _) k hkl
      have hbx := BX.out xs[k] (List.getElem_mem hkl)
      have hvc := val_drop_cons xs k hkl
      obtain ⟨d, hd⟩ : ∃ d, d = xs[k] := ⟨_, rfl⟩
      rw [← hd] at hc1 hbx hvc
      have HT := Lib.hid (trim_cons d r hbx)
      have HVC := Lib.hid hvc; have HBX := Lib.hid hbx
      have hrl : (digs 10 r).length ≤ 1000000 := Nat.le_trans (digs_len_mono 10 (by omega) (Nat.le_of_lt hrn.out)) (Nat.le_trans HL'.out (by omega))
      have hog := own_lt hown
      obtain ⟨ar, nr, cr, rfl⟩ := hR.out.shape
      have HOG := Lib.hid hog
      clear hd hvc hbx hog
      go_wp2_with (first
        | (at_builtin; refine appS elemInt rfl _ _ rfl rfl rfl hR.out (Below.refl _ wr) (Nat.le_refl _) (fun y => by simp [eI, Value.oneCell']) (by omega) (by unfold maxLen; omega) ?_; intro v' w2 howna hb2; have HOA := Lib.hid howna; clear howna)
        | (go_at_call 132; (with_reducible refine (cut_from _ _ (d :: digs 10 r) (Sl.ofOwns HOA.out)).mono ?_); rintro e w3 ⟨v3, rfl, hs3, hf3, rfl⟩; have HS3 := Lib.hid hs3; have HF3 := Lib.hid ((hf3 _ (From.ofOwns HOA.out)).mono HOG.out); clear hs3 hf3))
      have hown2 := own_below hown hb2 (Nat.le_refl _)
      have hb3 := hb.trans (hb2.mono hb.size)
      rw [HT.out] at HS3
      go_loopw [7] (fun rv wr => ∃ (t r' : Nat) (cur : List Nat), Hid (Sl eI wr rv (digs 10 r')) ∧ Hid (From (w.heap.size + 1) rv) ∧ Hid (t * n + r' = d + 10 * r) ∧ Hid (∀ a ∈ cur, a < 10) ∧ Hid (cur.length = xs.length) ∧
        Hid (∀ j, j < k → cur.getD j 0 = 0) ∧ Hid (cur.getD k 0 = t) ∧ Hid (val 10 (cur.drop (k + 1)) = q) ∧ wr.ownsRow w.heap.size 3 1 (.slice (some ⟨w.heap.size, 0, none⟩) xs.length xs.length) xs.length (cur.map eI) ∧ Below w.heap.size w wr) (fun rv wr => rdD wr rv)
      case atStart => exact ⟨0, d + 10 * r, cur, HS3, HF3, Lib.hid (by omega), HC, HL, Lib.hid (fun j hj => HZ.out j (by omega)), Lib.hid (HZ.out k (by omega)), HQ, hown2, hb3⟩
      case round =>
        clear hown hb hown2 hb3 HC HL HZ HQ HS3 HF3 HT HOG HOA hb2 hc1 hrl hR hF
        obtain ⟨t, r', cur, hR, hF, hE, HC, HL, HZ, HK, HQ, hown, hb⟩ := hrel
        obtain ⟨ar, nr, cr, rfl⟩ := hR.out.shape
        have hrl : (digs 10 r').length ≤ 1000000 := by
          have h1 : r' ≤ 10 * n + 9 := by have := hE.out; have := HBX.out; have := hrn.out; omega
          have h2 := digs_len_mono 10 (by omega) h1
          have h3 := digs_len_add 10 (10 * n) 9 (by omega)
          have h4 := digs_len_mul 10 10 n (by omega)
          have h5 : (digs 10 10).length ≤ 2 := (digs_len 10 10 2 (by omega)).2 (by omega)
          have h6 : (digs 10 9).length ≤ 2 := (digs_len 10 9 2 (by omega)).2 (by omega)
          have := HL'.out
          omega
        by_cases hlt : r' < n
        · have HO := Lib.hid (order_lt hlt)
          have HLT := Lib.hid hlt
          clear hlt
          go_wp2_with (go_at_call 129; (with_reducible refine (rorder_any _ _ _ r' n hR.out (HY.out.below hb (Nat.le_refl _)) (by omega)).mono ?_); rintro e w5 ⟨v, rfl, rfl, hb5⟩; rw [HO.out])
          go_roundw
          case rel =>
            refine ⟨k, 10 * q + t, r', cur, by omega, rfl, Lib.hid (hR.out.below hb5 (Nat.le_refl _)), hF, HLT, Lib.hid ?_, HC, HL, HZ, Lib.hid ?_, own_below hown hb5 (Nat.le_refl _), hb.trans (hb5.mono hb.size)⟩
            · rw [HVC.out, hV.out, Nat.add_mul, Nat.mul_assoc]; have := hE.out; omega
            · have hkc : k < cur.length := by rw [HL.out]; exact hkl
              rw [val_drop_cons cur k hkc, HQ.out]
              have := HK.out
              simp [hkc] at this
              rw [this]; omega
          case measure => simp [intOf]
        · have hge : n ≤ r' := by omega
          obtain ⟨u, hu, hu0⟩ : ∃ u, ((r' : Int) - n).sign = u ∧ 0 ≤ u := ⟨_, rfl, by
            rcases Nat.lt_or_eq_of_le hge with h | h
            · rw [order_gt h]; omega
            · rw [order_eq h.symm]; omega⟩
          have ht8 : t ≤ 8 := by
            rcases Nat.lt_or_ge t 9 with h | h
            · omega
            · have h1 := Nat.mul_le_mul_right n h; have := hE.out; have := HBX.out; have := hrn.out; omega
          have hkc : k < cur.length := by rw [HL.out]; exact hkl
          have hK : cur[k] = t := by have := HK.out; simpa [hkc] using this
          have HU := Lib.hid hu; have HGE := Lib.hid hge; have HCK := Lib.hid hK; have HOW := Lib.hid hown; have HKC := Lib.hid hkc
          have hog := own_lt hown
          have HOG := Lib.hid hog
          clear hu hge hlt hK hown hog
          go_wp2_with (first
            | (go_at_call 129; (with_reducible refine (rorder_any _ _ _ r' n hR.out (HY.out.below hb (Nat.le_refl _)) hrl).mono ?_); rintro e w5 ⟨v, rfl, rfl, hb5⟩; rw [HU.out]; have b5 := hb.trans (hb5.mono hb.size))
            | (go_at_call 130; (with_reducible refine (taken_from _ _ _ r' n (hR.out.below hb5 (Nat.le_refl _)) (HY.out.below b5 (Nat.le_refl _)) hrl HGE.out).mono ?_); rintro e w6 ⟨v6, rfl, hs6, hf6, hb6⟩; have HS6 := Lib.hid hs6; have HF6 := Lib.hid (hf6.mono (Nat.lt_of_lt_of_le HOG.out hb5.size)); have b6 := b5.trans (hb6.mono b5.size); have HOK := Lib.hid (own_below (own_below HOW.out hb5 (Nat.le_refl _)) hb6 (Nat.le_refl _)); have hcu : w6.cell? ⟨w.heap.size, k, none⟩ = some (.int .i64 (t : Nat)) := (by have h7 := (own_get HOK.out HKC.out).1; rw [HCK.out] at h7; exact h7); have hfr := (own_get HOK.out HKC.out).2; clear hs6 hf6))
          go_roundw
          case rel =>
            have R := fun (q : Value) (hq : q = eI (t + 1)) => own_put HOK.out b6 (Nat.le_refl _) k (t + 1) q hq
            refine ⟨t + 1, r' - n, cur.set k (t + 1), Lib.hid (HS6.out.setFrom HF6.out (Nat.lt_succ_self _)), HF6, Lib.hid ?_, Lib.hid ?_, Lib.hid ?_, Lib.hid ?_, Lib.hid ?_, Lib.hid ?_, (R _ ?_).1, (R _ ?_).2⟩
            · rw [Nat.add_mul]; have := hE.out; have := HGE.out; omega
            · intro a ha
              rcases List.mem_or_eq_of_mem_set ha with h | h
              · exact HC.out a h
              · omega
            · rw [List.length_set]; exact HL.out
            · intro j hj
              have := HZ.out j hj
              rw [List.getD_eq_getElem?_getD] at this ⊢
              rw [List.getElem?_set_ne (by omega)]; exact this
            · simp [HKC.out]
            · rw [List.drop_set_of_lt (by omega)]; exact HQ.out
            · exact congrArg (Value.int .i64) (by simp)
            · exact congrArg (Value.int .i64) (by simp)
          case measure => rw [rdD_eq (HS6.out.setFrom HF6.out (Nat.lt_succ_self _)), rdD_eq hR.out]; have := HGE.out; have := HN.out; omega
end Go.Proofs.YtajkhbpffakmfaaGreatDoor

namespace Go.Proofs.YtajkhbpffakmfaaGreatDoor
open Go.RowKit
set_option maxRecDepth 100000

section
variable {P : Program} {t e : TypeId} {z : Value} {bytes : Nat} {ops : Array Oper} {rest : List Oper} {o : Oper} {a : Act} {Q : Exit → Act → World → Prop}
/-- 'append([]T{}, xs...)', xs not nil. -/
theorem appC {α : Type} {enc : α → Value} (hE : ElemOk P t e z 1 bytes) (hgd : o.guard = none) (s x : Operand) (ho : o.op = .call { callee := .builtin .append, args := #[s, x], argTypes := #[t, t] })
    {xs : List α} {B : Nat} {w0 w1 W : World} {v : Value} {ad : Addr} {c : Nat} (hown : w1.ownsRow w0.heap.size e 1 v 0 []) (hb1 : Below B W w1) (hs0 : w0.heap.size ≤ w1.heap.size) (hBw : B ≤ w0.heap.size) (hs : a.eval s = v) (hx : a.eval x = .slice (some ad) xs.length c) (hv : Sl enc w1 (.slice (some ad) xs.length c) xs)
    (h2 : ∀ y, (enc y).oneCell' = true) (hn : xs.length * bytes ≤ 140737488355328) (hn' : xs.length ≤ maxLen)
    (h : ∀ v' w', w'.ownsRow w0.heap.size e 1 v' xs.length (xs.map enc) → Below B W w' → wpList P ops Q rest (a.put o.dst v') w') :
    wpList P ops Q (o :: rest) a w1 := by
  obtain ⟨i, hi, hz, hsz, hby⟩ := hE.info
  obtain ⟨ad', b, off, c', he, ha, hc, hm, hnn, hcell⟩ := hv
  cases he
  have hnews : ∀ j y, (xs.map enc)[j]? = some y → w1.cell? (ad.add j) = some y := by
    intro j y hj
    have hj' : j < xs.length := by have := (List.getElem?_eq_some_iff.1 hj).1; simpa using this
    have := ha (by omega)
    cases this
    have h3 := hcell.2 j hj'
    simp [hj'] at hj
    rw [show (⟨b, off, none⟩ : Addr).add j = ⟨b, off + j, none⟩ by simp [Addr.add], h3, hj]
  refine wpList_append_own _ hgd s x t ho w0.heap.size e i z 1 bytes hE.und hi hz hsz hby hE.cells hE.pos _ 0 [] hs hown ad xs.length c (xs.map enc) hx (by simp) hnews (by intro y hy; obtain ⟨y', _, rfl⟩ := List.mem_map.1 hy; exact h2 y') (by rw [Nat.zero_add]; exact hn') (by rw [Nat.zero_add]; exact hn) hs0 ?_
  intro v' w' ho' hg _
  rw [Nat.zero_add, List.nil_append] at ho'
  exact h v' w' ho' (hb1.grown hg (by omega) (fun j hj => by have := (hown.lt j hj).1; omega))
end

theorem nil_no (a : Addr) (n c : Nat) (w : World) : (binOp BinOp.eql 22 (.slice (some a) n c) (.slice none 0 0)).run Tryz.prog w = .ok (.bool false) w := by kernel_rfl
theorem nil_yes (w : World) : (binOp BinOp.eql 22 (.slice none 0 0) (.slice none 0 0)).run Tryz.prog w = .ok (.bool true) w := by kernel_rfl
set_option maxHeartbeats 1000000 in
theorem clone_any (w : World) (v : Value) (xs : List ByteArray) (hv : Sl eS w v xs) (hl : xs.length ≤ 1000000) :
    Calls Tryz.prog 9 #[v] w (Rets fun v' w' => w'.ownsRow w.heap.size 26 1 v' xs.length (xs.map eS) ∧ Below w.heap.size w w') := by
  have HV := Lib.hid hv
  have hn1 := nil_no
  have hn2 := nil_yes
  obtain ⟨a, b, o, c, rfl, ha, hc, hm, hn0, hp⟩ := hv
  cases a with
  | none =>
    have hc0 := hn0 rfl
    have hl0 : xs.length = 0 := by omega
    obtain rfl : xs = [] := List.length_eq_zero_iff.1 hl0
    subst hc0
    clear HV ha hp hn0
    go_enter Tryz.func9, Tryz.ntmps9
    go_wp2
    go_ret
    exact ⟨_, rfl, World.ownsRow_nil _ _ _ _, Below.refl _ _⟩
  | some a =>
    clear ha hp hn0
    have HO : Hid ((w.alloc (.cells #[] 26)).ownsRow w.heap.size 26 1 (.slice (some ⟨w.heap.size, 0, none⟩) 0 0) 0 []) := Lib.hid ⟨rfl, .inr ⟨w.heap.size, 0, #[], rfl, by omega, heap_alloc_new w _, by omega, by simp [maxLen], rfl, rfl⟩⟩
    have HB0 := Lib.hid ((Below.refl w.heap.size w).alloc (Nat.le_refl _) (.cells #[] 26))
    go_enter Tryz.func9, Tryz.ntmps9
    go_wp2_with (at_builtin; refine appC elemStr rfl _ _ rfl (w0 := w) HO.out HB0.out (by simp) (Nat.le_refl _) rfl rfl (HV.out.below HB0.out (Nat.le_refl _)) (fun y => by simp [eS, Value.oneCell']) (by omega) (by unfold maxLen; omega) ?_; intro v' w2 hown' hb'; have HO2 := Lib.hid hown'; clear hown')
    go_ret
    exact ⟨_, rfl, HO2.out, hb'⟩

theorem size_sc (b : Nat) : ∀ (vs : List Value) (o : Nat) (w : World), (w.setCells b o vs).heap.size = w.heap.size
  | [], _, _ => rfl
  | _ :: r, o, _ => by rw [World.setCells, size_sc b r]; simp
theorem below_sc {B b : Nat} {a : World} (hb : B ≤ b) : ∀ (vs : List Value) (o : Nat) (w : World), Below B a w → Below B a (w.setCells b o vs)
  | [], _, _, h => h
  | v :: r, o, _, h => below_sc hb r (o + 1) _ (h.setCell hb v)
theorem take_filter (p : ByteArray → Bool) (xs : List ByteArray) (j : Nat) (h : j < xs.length) : (xs.take (j + 1)).filter p = (xs.take j).filter p ++ (if p xs[j] then [xs[j]] else []) := by
  rw [List.take_succ_eq_append_getElem h, List.filter_append]
  congr 1
  by_cases hp : p xs[j] <;> simp [hp]
set_option maxHeartbeats 4000000 in
theorem delete_any (w : World) (v : Value) (xs : List ByteArray) (base : Nat) (hown : w.ownsRow base 26 1 v xs.length (xs.map eS)) (hl : xs.length ≤ 1000000) :
    Calls Tryz.prog 107 #[v, .func (.func 108) #[] #[]] w (Rets fun v' w' => Sl eS w' v' (xs.filter fun s => !isOne s) ∧ Below base w w') := by
  have HS := Lib.hid (Sl.ofOwns hown)
  have HO := Lib.hid hown
  cases ha : xs.any isOne
  · have hn : ∀ s ∈ xs, isOne s = false := fun s hs => by have := List.any_eq_false.1 ha s hs; simpa using this
    have HN := Lib.hid hn
    have HF := Lib.hid (show (xs.filter fun s => !isOne s) = xs by rw [List.filter_eq_self]; intro s hs; rw [hn s hs]; rfl)
    obtain ⟨a, b, o, c, rfl, -, -, -, -⟩ := (Sl.ofOwns hown).open elemStr
    clear hown ha hn
    go_enter Tryz.func107, Tryz.ntmps107
    go_wp2_with (go_at_call 133; (with_reducible refine (idx_one_none _ _ xs HS.out HN.out).mono ?_); rintro e w1 ⟨v, rfl, rfl, rfl⟩)
    go_ret
    exact ⟨_, rfl, by rw [HF.out]; exact HS.out, Below.refl _ _⟩
  · obtain ⟨m, hm, h1, h2⟩ := first_hit isOne xs ha
    rcases hown.2 with ⟨rfl, h0⟩ | ⟨g, cap, cur0, rfl, hg, hgl, hc, hcm, hsz, ht⟩
    · exact absurd hm (by have h9 : xs = [] := by simpa using h0
                          rw [h9]; simp)
    · have HFM := Lib.hid (show (xs.take m).filter (fun s => !isOne s) = xs.take m by
        rw [List.filter_eq_self]; intro s hs
        obtain ⟨i, hi, rfl⟩ := List.getElem_of_mem hs
        simp at hi
        rw [List.getElem_take, h2 i (by omega)]; rfl)
      have HP := Lib.hid h1; have HQ := Lib.hid h2
      have hm0 : (0 : Int) ≤ (m : Int) := by omega
      have hmn : ((m : Int) == -1) = false := by simp
      have HGB := Lib.hid hg
      clear hown ha h1 h2 hgl hsz ht hg
      go_enter Tryz.func107, Tryz.ntmps107
      go_wp2_with (go_at_call 133; (with_reducible refine (idx_one_some _ _ xs HS.out m hm HP.out HQ.out).mono ?_); rintro e w1 ⟨v, rfl, rfl, rfl⟩)
      go_loopw [5, 6] (fun iv jv wr => ∃ (i j : Nat) (cur : List ByteArray), i < j ∧ j ≤ xs.length ∧ iv = .int .i64 i ∧ jv = .int .i64 j ∧ Hid (cur.length = xs.length) ∧ Hid (cur.drop j = xs.drop j) ∧ Hid (cur.take i = (xs.take j).filter fun s => !isOne s) ∧
        wr.ownsRow base 26 1 (.slice (some ⟨g, 0, none⟩) xs.length cap) xs.length (cur.map eS) ∧ Below base w wr) (fun _ jv _ => xs.length - (intOf jv).toNat)
      case atStart => exact ⟨m, m + 1, xs, by omega, by omega, rfl, by go_num, Lib.hid rfl, Lib.hid rfl, Lib.hid (by rw [take_filter _ _ _ hm, HFM.out, HP.out]; simp), HO.out, Below.refl _ _⟩
      case round =>
        obtain ⟨i, j, cur, hij, hj, rfl, rfl, hcl, hdr, htk, hown, hb⟩ := hrel
        by_cases hjn : j < xs.length
        · have hjc : j < cur.length := by rw [hcl.out]; exact hjn
          have hic : i < cur.length := by omega
          have hxj : cur[j] = xs[j] := by
            have := hdr.out
            rw [List.drop_eq_getElem_cons hjc, List.drop_eq_getElem_cons hjn] at this
            injection this
          have h1 : wr.cell? ⟨g, j, none⟩ = some (.string xs[j]) := by have := (own_get hown hjc).1; rw [hxj] at this; exact this
          have hin : i < xs.length := by omega
          obtain ⟨u, -, hcu, hfr⟩ := own_at hown hin
          have HOW := Lib.hid hown
          have hdr1 : cur.drop (j + 1) = xs.drop (j + 1) := by
            have := hdr.out
            rw [List.drop_eq_getElem_cons hjc, List.drop_eq_getElem_cons hjn] at this
            injection this
          have HD1 := Lib.hid hdr1
          have htf := take_filter (fun s => !isOne s) xs j hjn
          cases hp : isOne xs[j]
          · have HPP := Lib.hid hp
            rw [hp] at htf
            have HTF := Lib.hid htf
            clear hown hxj hdr1 htf hp
            go_wp2_with (go_at_call 108; (with_reducible refine (of1 _ xs[j]).mono ?_); rintro e w2 ⟨v, rfl, rfl, rfl⟩; rw [HPP.out])
            go_roundw
            case rel =>
              have R := fun (q : Value) (hq : q = eS xs[j]) => own_put HOW.out hb HGB.out i xs[j] q hq
              refine ⟨i + 1, j + 1, cur.set i xs[j], by omega, by omega, by go_num, by go_num, Lib.hid (by rw [List.length_set]; exact hcl.out), Lib.hid ?_, Lib.hid ?_, (R _ rfl).1, (R _ rfl).2⟩
              · rw [List.drop_set_of_lt (by omega)]; exact HD1.out
              · rw [HTF.out, ← htk.out]
                have hi2 : i < (cur.set i xs[j]).length := by rw [List.length_set]; exact hic
                rw [List.take_succ_eq_append_getElem hi2, List.take_set_of_le (Nat.le_refl _), List.getElem_set_self]
                rfl
            case measure => simp [intOf]; omega
          · have HPP := Lib.hid hp
            rw [hp] at htf
            have HTF : Hid ((xs.take (j + 1)).filter (fun s => !isOne s) = (xs.take j).filter fun s => !isOne s) := Lib.hid (by rw [htf]; simp)
            clear hown hxj hdr1 htf hp
            go_wp2_with (go_at_call 108; (with_reducible refine (of1 _ xs[j]).mono ?_); rintro e w2 ⟨v, rfl, rfl, rfl⟩; rw [HPP.out])
            go_roundw
            case rel => exact ⟨i, j + 1, cur, by omega, by omega, rfl, by go_num, hcl, HD1, Lib.hid (by rw [HTF.out]; exact htk.out), HOW.out, hb⟩
            case measure => simp [intOf]; omega
        · obtain rfl : j = xs.length := by omega
          have hic : i < xs.length := hij
          have HOW := Lib.hid hown
          have HTK := Lib.hid (show cur.take i = xs.filter fun s => !isOne s by have := htk.out; rwa [List.take_length] at this)
          have hcl2 : ∀ ty, (Builtin.clear_ #[22] ty #[.slice (some ⟨g, i, none⟩) (xs.length - i) (cap - i)]).run Tryz.prog wr = .ok (.tuple #[]) (wr.setCells g i (List.replicate (xs.length - i) (.string ⟨#[]⟩))) := fun ty =>
            Lib.run_clear_slice wr _ _ ty _ Tryz.underlying22 (fun w => by kernel_rfl) rfl rfl g i _ _ (by omega) (fun t ht => by rw [(own_get hown (k := i + t) (by rw [hcl.out]; omega)).1]; rfl) (fun t ht => (own_get hown (k := i + t) (by rw [hcl.out]; omega)).2)
          have q1 : (0 : Int) ≤ (i : Int) := by omega
          have q2 : (i : Int) ≤ (xs.length : Int) := by omega
          have q3 : ¬ cap = i := by omega
          clear hown hcl hdr htk
          go_wp2
          go_ret
          have hcl3 : cur.length = xs.length := by have := HOW.out.1; simpa using this
          have hL : (xs.filter fun s => !isOne s).length = i := by rw [← HTK.out, List.length_take]; omega
          refine ⟨_, rfl, ⟨some ⟨g, 0, none⟩, g, 0, cap, by rw [hL]; rfl, fun _ => rfl, by omega, hcm, fun h => absurd h (by simp), ⟨fun _ => by rw [size_sc]; exact own_lt HOW.out, fun t ht => ?_⟩⟩, below_sc HGB.out _ _ _ hb⟩
          have hti : t < i := by omega
          have htc : t < cur.length := by omega
          rw [Nat.zero_add, World.cell?_setCells_out g _ _ _ _ (fun _ _ => .inl hti), (own_get HOW.out htc).1]
          congr 2
          have : (xs.filter fun s => !isOne s)[t] = (cur.take i)[t]'(by rw [HTK.out]; exact ht) := by simp only [HTK.out]
          rw [this, List.getElem_take]
end Go.Proofs.YtajkhbpffakmfaaGreatDoor
