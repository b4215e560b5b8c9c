/- The walk of the reference's division of digits. -/
import Derived.Test.YtcjcknncajinpaaGreatDoorR5
import Derived.Laws.AppendOwnNone
namespace Go.Proofs.YtcjcknncajinpaaGreatDoor
open Go.RowKit
set_option maxRecDepth 100000

/-- The slice's block is not below B. -/
def From (B : Nat) (v : Value) : Prop := ∀ b o p n c, v = .slice (some ⟨b, o, p⟩) n c → B ≤ b
theorem From.mono {B B' : Nat} {v : Value} (h : From B' v) (hb : B ≤ B') : From B v := fun b o p n c e => Nat.le_trans hb (h b o p n c e)
theorem From.none {B n c : Nat} : From B (.slice none n c) := fun b o p n c e => by cases e
theorem From.len {B n c : Nat} {a : Option Addr} (h : From B (.slice a n c)) (n' c' : Nat) : From B (.slice a n' c') := fun b o p n c e => by cases e; exact h b o p _ _ rfl
theorem From.ofOwns {w : World} {base e sz n : Nat} {v : Value} {xs : List Value} (h : w.ownsRow base e sz v n xs) : From base v := by
  rcases h.2 with ⟨rfl, _⟩ | ⟨g, cap, cur, rfl, hg, _⟩
  · exact From.none
  · intro b o p n c e; cases e; exact hg
theorem Sl.setFrom {w : World} {v : Value} {xs : List Nat} {B g k : Nat} {u : Value} (h : Sl eI w v xs) (hf : From B v) (hg : g < B) : Sl eI (w.setCell ⟨g, k, none⟩ u) v xs := by
  obtain ⟨a, b, o, c, rfl, ha, hc, hm, hn, hx⟩ := h
  refine ⟨a, b, o, c, rfl, ha, hc, hm, hn, fun h => by have := hx.1 h; simpa [World.setCell] using this, fun i hi => ?_⟩
  have hb : B ≤ b := hf b o Option.none _ _ (by rw [ha (by omega)])
  rw [← hx.2 i hi]
  exact World.cell?_of_block (w := w) (Below.heap_setCell _ _ _ _ (show b ≠ g by omega))

section
variable {P : Program} {t e : TypeId} {z : Value} {bytes : Nat} {ops : Array Oper} {rest : List Oper} {o : Oper} {a : Act} {Q : Exit → Act → World → Prop}
/-- 'append([]T{u}, xs...)'. -/
theorem appS {α : Type} {enc : α → Value} (hE : ElemOk P t e z 1 bytes) (hgd : o.guard = none) (s x : Operand) (ho : o.op = .call { callee := .builtin .append, args := #[s, x], argTypes := #[t, t] })
    {u v : Value} {xs : List α} {B : Nat} {w0 W : World} (hs : a.eval s = .slice (some ⟨w0.heap.size, 0, none⟩) 1 1) (hx : a.eval x = v) (hv : Sl enc w0 v xs) (hb : Below B W w0) (hB : B ≤ w0.heap.size)
    (h2 : ∀ y, (enc y).oneCell' = true) (hn : (1 + xs.length) * bytes ≤ 140737488355328) (hn' : 1 + xs.length ≤ maxLen)
    (h : ∀ v' w', w'.ownsRow w0.heap.size e 1 v' (1 + xs.length) (u :: xs.map enc) → Below B W w' → wpList P ops Q rest (a.put o.dst v') w') :
    wpList P ops Q (o :: rest) a (w0.alloc (.cells #[u] e)) := by
  obtain ⟨i, hi, hz, hsz, hby⟩ := hE.info
  have hown : (w0.alloc (.cells #[u] e)).ownsRow w0.heap.size e 1 (.slice (some ⟨w0.heap.size, 0, none⟩) 1 1) 1 [u] := ⟨rfl, .inr ⟨w0.heap.size, 1, #[u], rfl, by omega, heap_alloc_new w0 _, by omega, by simp [maxLen], rfl, rfl⟩⟩
  have hv := hv.below ((Below.refl _ w0).alloc (Nat.le_refl _) (.cells #[u] e)) (Nat.le_refl _)
  obtain ⟨ad, b, off, c, rfl, ha, hc, hm, hnn, hcell⟩ := hv
  cases ad with
  | none =>
    have hc0 := hnn rfl
    have hl0 : xs.length = 0 := by omega
    obtain rfl : xs = [] := List.length_eq_zero_iff.1 hl0
    subst hc0
    refine wpList_append_own_none hgd s x t ho w0.heap.size e i 1 hE.und hi _ 1 [u] hs hown hx ?_
    exact h _ _ hown (hb.alloc (by omega) _)
  | some ad =>
    have hnews : ∀ j y, (xs.map enc)[j]? = some y → (w0.alloc (.cells #[u] e)).cell? (ad.add j) = some y := by
      intro j y hj
      have hj' : j < xs.length := by have := (List.getElem?_eq_some_iff.1 hj).1; simpa using this
      have := ha (by omega)
      cases this
      have h3 := hcell.2 j hj'
      simp [hj'] at hj
      rw [show (⟨b, off, none⟩ : Addr).add j = ⟨b, off + j, none⟩ by simp [Addr.add], h3, hj]
    refine wpList_append_own _ hgd s x t ho w0.heap.size e i z 1 bytes hE.und hi hz hsz hby hE.cells hE.pos _ 1 [u] hs hown ad xs.length c (xs.map enc) hx (by simp) hnews (by intro y hy; obtain ⟨y', _, rfl⟩ := List.mem_map.1 hy; exact h2 y') hn' hn (by simp) ?_
    intro v' w' ho' hg _
    exact h v' w' ho' ((hb.alloc (by omega) _).grown hg (by simp; omega) (fun j hj => by have := (hown.lt j hj).1; omega))
end

set_option maxHeartbeats 400000 in
theorem cut_from (w : World) (v : Value) (xs : List Nat) (hv : Sl eI w v xs) :
    Calls Tryz.prog 75 #[v] w (Rets fun v' w' => Sl eI w' v' (trim xs) ∧ (∀ B, From B v → From B v') ∧ w = w') := by
  have HV := Lib.hid hv
  obtain ⟨a, b, o, c, rfl, hi, hx, hc, hm⟩ := hv.open elemInt
  clear hv
  unfold maxLen at hm
  go_enter Tryz.func75, Tryz.ntmps75
  go_wp2
  go_loop [3] (fun v => ∃ k : Nat, k ≤ xs.length ∧ v = .int .i64 k ∧ Hid (trim (xs.take k) = trim xs)) (fun v => (intOf v).toNat)
  case atStart => exact ⟨xs.length, Nat.le_refl _, rfl, Lib.hid (by simp)⟩
  case round =>
    obtain ⟨k, hk, rfl, HT⟩ := hrel
    rcases k with _ | k
    · go_wp2
      go_ret
      exact ⟨_, rfl, by rw [← HT.out]; exact HV.out.take 0 (Nat.zero_le _), fun B h => h.len _ _, rfl⟩
    · have hp : (0 : Int) < ((k + 1 : Nat) : Int) := by omega
      have h1 : w.cell? ⟨b, o + k, none⟩ = some (.int .i64 (xs[k] : Nat)) := hx.2 k (by omega)
      go_wp2
      · go_round
        case rel =>
          have h0 : ((xs[k] : Nat) == (0 : Int)) = true := by assumption
          have h0 : xs[k] = 0 := by simpa using h0
          exact ⟨k, by omega, by go_num, Lib.hid (by rw [← HT.out, take_snoc xs k (by omega), h0, trim_snoc_zero])⟩
        case measure => simp [intOf]
      · go_ret
        have h0 : ((xs[k] : Nat) == (0 : Int)) = false := by assumption
        have h0 : xs[k] ≠ 0 := by simpa using h0
        exact ⟨_, rfl, by rw [← HT.out, take_snoc xs k (by omega), trim_snoc _ _ h0, ← take_snoc xs k (by omega)]; exact HV.out.take (k + 1) hk, fun B h => h.len _ _, rfl⟩


set_option maxHeartbeats 1000000 in
theorem taken_from (w : World) (x y : Value) (m n : Nat) (hx : Sl eI w x (digs 10 m)) (hy : Sl eI w y (digs 10 n)) (hl : (digs 10 m).length ≤ 1000000) (hmn : n ≤ m) :
    Calls Tryz.prog 74 #[x, y] w (Rets fun v w' => Sl eI w' v (digs 10 (m - n)) ∧ From w.heap.size v ∧ Below w.heap.size w w') := by
  have hle := digs_len_mono 10 (by omega) hmn
  have ba := digs_lt 10 m (by omega)
  have bb := digs_lt 10 n (by omega)
  have va := val_digs 10 m (by omega)
  have vb := val_digs 10 n (by omega)
  generalize digs 10 m = xs at *
  generalize digs 10 n = ys at *
  have HX := Lib.hid hx; have HY := Lib.hid hy
  obtain ⟨ad, bl, o, c, rfl, hi, hp, -, -⟩ := hx.open elemInt
  obtain ⟨a', b', o', c', rfl, hi', hq, -, -⟩ := hy.open elemInt
  have BX := Lib.hid ba; have BY := Lib.hid bb; have VA := Lib.hid va; have VB := Lib.hid vb; have HLE := Lib.hid hle; have HMN := Lib.hid hmn
  clear ba bb va vb hx hy hle hq hi' hmn
  go_enter Tryz.func74, Tryz.ntmps74
  go_wp2
  go_loopw [5, 6, 7] (fun out bw i wr => ∃ (k c : Nat) (os : List Nat), k ≤ xs.length ∧ i = .int .i64 k ∧ bw = .int .i64 c ∧ c ≤ 1 ∧ Hid (os.length = k) ∧ Hid (∀ a ∈ os, a < 10) ∧
      Hid (val 10 (xs.take k) + 10 ^ k * c = val 10 os + val 10 (ys.take k)) ∧ wr.ownsRow w.heap.size 3 1 out os.length (os.map eI) ∧ Below w.heap.size w wr) (fun _ _ i _ => xs.length - (intOf i).toNat)
  case atStart => exact ⟨0, 0, [], by omega, rfl, rfl, by omega, Lib.hid rfl, Lib.hid (by simp), Lib.hid (by simp [val]), World.ownsRow_nil _ _ _ _, Below.refl _ _⟩
  case round =>
    obtain ⟨k, cy, os, hk, rfl, rfl, hcy, hol, hos, hv, hown, hb⟩ := hrel
    have hbs := hb.size
    by_cases hlt : k < xs.length
    · have hbp := BX.out xs[k] (List.getElem_mem hlt)
      have h1 : wr.cell? ⟨bl, o + k, none⟩ = some (.int .i64 (xs[k] : Nat)) := hp.at hb (Nat.le_refl _) k hlt
      have hgx : xs.getD k 0 = xs[k] := by simp [hlt]
      obtain ⟨d, hd⟩ : ∃ d, d = xs[k] := ⟨_, rfl⟩
      obtain ⟨d', hd'⟩ : ∃ d, ys.getD k 0 = d := ⟨_, rfl⟩
      have hdl' : d' < 10 := by rw [← hd']; exact getD_lt BY.out (by omega)
      rw [← hd] at h1 hbp hgx
      have HGX := Lib.hid hgx
      have HD' := Lib.hid hd'
      have HDG := Lib.hid (digit_d ys k d' hd')
      have hol2 : os.length ≤ 1000000 := by rw [hol.out]; omega
      clear hd hd' hgx
      have hbk := hb
      by_cases hneg : d < cy + d'
      · have HR := Lib.hid (less_step 10 xs ys os k cy (d + 10 - cy - d') 1 hol.out hos.out hv.out (by omega) (by rw [HGX.out, HD'.out]; omega))
        go_wp2
        go_quiet ((go_at_call 88; exact Calls.quiet_of_same (HDG.out _ _ (HY.out.below (below_drewN hb _) (Nat.le_refl _)))))
        have hbk := below_drewN hb nq
        have hok := own_drewN hown nq
        have hbs2 : w.heap.size ≤ (wr.drewN nq).heap.size := hbk.size
        clear hown hb hbs
        go_wp2_with (at_builtin; refine app1 elemInt rfl _ _ rfl rfl rfl hok hbk (Nat.le_refl _) hbs2 rfl (by simp [Value.oneCell']) (by omega) (by unfold maxLen; omega) ?_; intro v' w2 hown' hb')
        have ev : (d : Int) - d' - cy + 10 = ((d + 10 - cy - d' : Nat) : Int) := by omega
        rw [ev] at hown'
        go_roundw
        case rel => exact ⟨k + 1, 1, os ++ [d + 10 - cy - d'], by omega, by go_num, rfl, by omega, Lib.hid (by simp [hol.out]), Lib.hid HR.out.2.1, Lib.hid HR.out.2.2, by simpa [eI] using hown', hb'⟩
        case measure => simp [intOf]; omega
      · have HR := Lib.hid (less_step 10 xs ys os k cy (d - cy - d') 0 hol.out hos.out hv.out (by omega) (by rw [HGX.out, HD'.out]; omega))
        go_wp2
        go_quiet ((go_at_call 88; exact Calls.quiet_of_same (HDG.out _ _ (HY.out.below (below_drewN hb _) (Nat.le_refl _)))))
        have hbk := below_drewN hb nq
        have hok := own_drewN hown nq
        have hbs2 : w.heap.size ≤ (wr.drewN nq).heap.size := hbk.size
        clear hown hb hbs
        go_wp2_with (at_builtin; refine app1 elemInt rfl _ _ rfl rfl rfl hok hbk (Nat.le_refl _) hbs2 rfl (by simp [Value.oneCell']) (by omega) (by unfold maxLen; omega) ?_; intro v' w2 hown' hb')
        have ev : (d : Int) - d' - cy = ((d - cy - d' : Nat) : Int) := by omega
        rw [ev] at hown'
        go_roundw
        case rel => exact ⟨k + 1, 0, os ++ [d - cy - d'], by omega, by go_num, rfl, by omega, Lib.hid (by simp [hol.out]), Lib.hid HR.out.2.1, Lib.hid HR.out.2.2, by simpa [eI] using hown', hb'⟩
        case measure => simp [intOf]; omega
    · obtain rfl : k = xs.length := by omega
      have hfin : val 10 os = m - n := by
        have h1 := hv.out
        rw [List.take_of_length_le (Nat.le_refl _), List.take_of_length_le HLE.out, VA.out, VB.out] at h1
        have h2 := val_lt 10 os hos.out
        rw [hol.out] at h2
        have h3 := HMN.out
        rcases (show cy = 0 ∨ cy = 1 by omega) with rfl | rfl <;> omega
      have HF := Lib.hid hfin; clear hfin
      go_wp2_with fail
      refine (cut_from _ _ os (Sl.ofOwns hown)).mono ?_
      rintro e w2 ⟨v2, rfl, hs2, hf2, rfl⟩
      have HS2 := Lib.hid hs2; have HF2 := Lib.hid (hf2 _ (From.ofOwns hown)); clear hs2 hf2
      go_wp2
      go_ret
      exact ⟨_, rfl, by rw [← trim_of 10 os _ (by omega) hos.out HF.out]; exact HS2.out, HF2.out, hb⟩
end Go.Proofs.YtcjcknncajinpaaGreatDoor
