/- The walks of the reference's digits, text and order of integers. -/
import Derived.Test.YtcjcknncajinpaaGreatDoorR1
namespace Go.Proofs.YtcjcknncajinpaaGreatDoor
open Go.RowKit
set_option maxRecDepth 100000

theorem itoa_mem (z : Int) : ∀ c ∈ Lib.itoa z, c = 45 ∨ (48 ≤ c.toNat ∧ c.toNat ≤ 57) := by
  intro c hc
  rw [itoa_cases] at hc
  split at hc
  · rcases List.mem_cons.1 hc with h | h
    · exact .inl h
    · exact .inr (dec_mem _ c h)
  · exact .inr (dec_mem _ c hc)

set_option maxHeartbeats 1000000 in
theorem digits_any (w : World) (z : Int) (hz : (Lib.itoa z).length ≤ 1000000) :
    Calls Tryz.prog 54 #[.string (txt z)] w (Rets fun v w' => Sl eI w' v (digs 10 z.natAbs) ∧ Below w.heap.size w w') := by
  unfold txt
  have ht := trim_dl z
  have hm := itoa_mem z
  generalize Lib.itoa z = l at *
  have HT := Lib.hid ht; have HM := Lib.hid hm
  clear ht hm
  go_enter Tryz.func54, Tryz.ntmps54
  go_wp2
  go_loopw [3, 4] (fun out i wr => ∃ (k : Nat) (os : List Nat), k ≤ l.length ∧ i = .int .i64 ((k : Int) - 1) ∧ Hid (os = (dl (l.drop k)).reverse) ∧ Hid (os.length ≤ 1000000 - k) ∧ wr.ownsRow w.heap.size 3 1 out os.length (os.map eI) ∧ Below w.heap.size w wr) (fun _ i _ => (intOf i + 1).toNat)
  case atStart => exact ⟨l.length, [], Nat.le_refl _, by simp, Lib.hid (by rw [List.drop_of_length_le (Nat.le_refl _)]; rfl), Lib.hid (by simp), World.ownsRow_nil _ _ _ _, Below.refl _ _⟩
  case round =>
    obtain ⟨k, os, hk, rfl, ho, hol, hown, hb⟩ := hrel
    have hbs := hb.size
    rcases k with _ | k
    · have hos := ho.out
      rw [List.drop_zero] at hos
      have HOS := Lib.hid hos; clear hos
      go_wp2_with fail
      refine (cut_any _ _ os (Sl.ofOwns hown)).mono ?_
      rintro e w2 ⟨v2, rfl, hs2, rfl⟩
      have HS2 := Lib.hid hs2; clear hs2
      go_wp2
      go_ret
      exact ⟨_, rfl, by rw [← HT.out, ← HOS.out]; exact HS2.out, hb⟩
    · have ek : (((k + 1 : Nat) : Int) - 1) = (k : Int) := by omega
      rw [ek]
      clear ek
      have hkl : k < l.length := by omega
      obtain ⟨x, hx⟩ : ∃ x, x = l[k] := ⟨_, rfl⟩
      have hxm := HM.out l[k] (List.getElem_mem hkl)
      rw [← hx] at hxm
      have hsx : ∀ h, (({ data := l.toArray } : ByteArray)[k]'h) = x := fun h => by rw [hx]; rfl
      have HD := Lib.hid (show l.drop k = x :: l.drop (k + 1) by rw [hx]; exact List.drop_eq_getElem_cons hkl)
      clear hx
      by_cases h45 : x = 45
      · have HX := Lib.hid h45
        have hne : ((x.toNat : Int) != 45) = false := by rw [h45]; rfl
        clear h45 hxm
        go_wp2
        go_roundw
        case rel => exact ⟨k, os, by omega, rfl, Lib.hid (by rw [HD.out, HX.out, dl_minus]; exact ho.out), Lib.hid (by have := hol.out; omega), hown, hb⟩
        case measure => simp [intOf]
      · have hxd : 48 ≤ x.toNat ∧ x.toNat ≤ 57 := by rcases hxm with h | h; exact absurd h h45; exact h
        have hx1 := hxd.1
        have hx2 := hxd.2
        have hne : ((x.toNat : Int) != 45) = true := by simp; omega
        have HX := Lib.hid h45
        clear h45 hxm hxd
        have hl2 := hol.out
        go_wp2_with (at_builtin; refine app1 elemInt rfl _ _ rfl rfl rfl hown hb (Nat.le_refl _) hbs rfl (by simp [Value.oneCell']) (by omega) (by unfold maxLen; omega) ?_; intro v' w2 hown' hb')
        have ex : (x.toNat : Int) - 48 = ((x.toNat - 48 : Nat) : Int) := by omega
        rw [ex] at hown'
        go_roundw
        case rel => exact ⟨k, os ++ [x.toNat - 48], by omega, rfl, Lib.hid (by rw [HD.out, dl_dig _ _ HX.out, List.reverse_cons, ← ho.out]), Lib.hid (by simp; omega), by simpa [eI] using hown', hb'⟩
        case measure => simp [intOf]

theorem bytesOf_length (l : List Nat) : (bytesOf l).length = l.length := by simp [bytesOf]
theorem sg_zero (m : Bool) : sg m 0 = 0 := by cases m <;> rfl
theorem txt_pos (m : Bool) (n : Nat) (h : 0 < n) : txt (sg m n) = ⟨(if m then 45 :: Lib.decDigits n else Lib.decDigits n).toArray⟩ := by
  unfold txt
  rw [itoa_cases, sg_abs]
  cases m
  · rw [if_neg (by simp [sg])]; rfl
  · rw [if_pos (by simp [sg]; omega)]; rfl
set_option maxHeartbeats 1000000 in
theorem rtext_any (w : World) (v : Value) (n : Nat) (m : Bool) (hv : Sl eI w v (digs 10 n)) (hl : (digs 10 n).length ≤ 1000000) :
    Calls Tryz.prog 53 #[v, .bool m] w (Rets fun v w' => v = .string (txt (sg m n)) ∧ Below w.heap.size w w') := by
  have hd := digs_lt 10 n (by omega)
  have hb := fun h : 0 < n => bytes_digs n h
  have hz : (digs 10 n).length = 0 ↔ n = 0 := by rw [List.length_eq_zero_iff]; exact digs_nil (by omega)
  generalize digs 10 n = xs at *
  obtain ⟨a, b, o, c, rfl, hi, hx, hc, hm⟩ := hv.open elemInt
  clear hv
  have HD := Lib.hid hd; have HB := Lib.hid hb
  clear hd hb
  by_cases h0 : n = 0
  · have hl0 : xs.length = 0 := hz.2 h0
    have hr : txt (sg m n) = ⟨#[48]⟩ := by rw [h0, sg_zero]; unfold txt; rw [itoa_cases, if_neg (by omega), show Int.natAbs 0 = 0 from rfl, Lib.decDigits_one (by omega)]; rfl
    have HR := Lib.hid hr
    have hl0' : ((xs.length : Int) == 0) = true := by simp [hl0]
    clear h0 hz hr hl0
    go_enter Tryz.func53, Tryz.ntmps53
    go_wp2
    go_ret
    exact ⟨_, rfl, by rw [HR.out]; rfl, Below.refl _ _⟩
  · have hl0 : ((xs.length : Int) == 0) = false := by simp; intro e; exact h0 (hz.1 (by rw [e]; rfl))
    have hr := txt_pos m n (by omega)
    rw [← HB.out (by omega)] at hr
    have HR := Lib.hid hr
    clear h0 hz hr HB
    go_enter Tryz.func53, Tryz.ntmps53
    go_wp2
    go_loopw [5, 6] (fun s i wr => ∃ k : Nat, k ≤ xs.length ∧ i = .int .i64 k ∧ Hid (s = .string ⟨(bytesOf (xs.take k)).toArray⟩) ∧ Below w.heap.size w wr) (fun _ i _ => xs.length - (intOf i).toNat)
    case atStart => exact ⟨0, Nat.zero_le _, rfl, Lib.hid rfl, Below.refl _ _⟩
    case round =>
      obtain ⟨k, hk, rfl, hs, hb⟩ := hrel
      obtain rfl := hs.out
      clear hs
      by_cases hkn : k < xs.length
      · have h1 : wr.cell? ⟨b, o + k, none⟩ = some (.int .i64 (xs[k] : Nat)) := hx.at hb (Nat.le_refl _) k hkn
        have hd := HD.out xs[k] (List.getElem_mem hkn)
        have hcv : (convert 78 9 (.slice (some ⟨wr.heap.size, 0, none⟩) 1 1)).run Tryz.prog (wr.alloc (.cells #[.int .u8 (48 + (xs[k] : Int))] 5)) = .ok (.string ⟨[UInt8.ofNat (48 + xs[k])].toArray⟩) (wr.alloc (.cells #[.int .u8 (48 + (xs[k] : Int))] 5)) := by
          refine run_convert_bytes_back _ 78 9 5 ⟨wr.heap.size, 0, none⟩ 1 [UInt8.ofNat (48 + xs[k])] Tryz.underlying78 Tryz.underlying5 Tryz.underlying9 ?_
          intro j hj
          obtain rfl : j = 0 := by simpa using hj
          rw [addr0, cell_of_row _ wr.heap.size 0 #[.int .u8 (48 + (xs[k] : Int))] 5 (0, 0) (heap_alloc_new wr _)]
          simp; omega
        have hcat : ¬ 9223372036854775807 < 1 + (bytesOf (xs.take k)).length := by rw [bytesOf_length, List.length_take]; omega
        go_wp2
        go_roundw
        case rel =>
          refine ⟨k + 1, by omega, by go_num, Lib.hid ?_, hb.alloc hb.size _⟩
          rw [take_snoc xs k hkn, bytesOf_snoc]
          simp [ByteArray.append, ← ByteArray.append_eq]
        case measure => simp [intOf]; omega
      · obtain rfl : k = xs.length := by omega
        rw [List.take_length]
        have hcat : ¬ 9223372036854775807 < 1 + (bytesOf xs).length := by rw [bytesOf_length]; omega
        cases m
        · go_wp2
          go_ret
          exact ⟨_, rfl, by rw [HR.out]; rfl, hb⟩
        · go_wp2
          go_ret
          exact ⟨_, rfl, by rw [HR.out]; simp [ByteArray.append, ← ByteArray.append_eq], hb⟩

theorem order_lt {m n : Nat} (h : m < n) : ((m : Int) - n).sign = -1 := Int.sign_eq_neg_one_of_neg (by omega)
theorem order_gt {m n : Nat} (h : n < m) : ((m : Int) - n).sign = 1 := Int.sign_eq_one_of_pos (by omega)
theorem order_eq {m n : Nat} (h : m = n) : ((m : Int) - n).sign = 0 := by subst h; rw [Int.sub_self]; rfl
set_option maxHeartbeats 1000000 in
theorem rorder_any (w : World) (x y : Value) (m n : Nat) (hx : Sl eI w x (digs 10 m)) (hy : Sl eI w y (digs 10 n)) (hl : (digs 10 m).length ≤ 1000000) :
    Calls Tryz.prog 73 #[x, y] w (Rets fun v w' => v = .int .i64 ((m : Int) - n).sign ∧ Below w.heap.size w w') := by
  have hla : (digs 10 n).length < (digs 10 m).length → n < m := fun h => lt_of_len _ _ _ (by omega) h
  have hlb : (digs 10 m).length < (digs 10 n).length → m < n := fun h => lt_of_len _ _ _ (by omega) h
  have ba := digs_lt 10 m (by omega)
  have bb := digs_lt 10 n (by omega)
  have va := val_digs 10 m (by omega)
  have vb := val_digs 10 n (by omega)
  generalize digs 10 m = xs at *
  generalize digs 10 n = ys at *
  obtain ⟨ad, bl, o, c, rfl, hi, hp, -, -⟩ := hx.open elemInt
  obtain ⟨a', b', o', c', rfl, hi', hq, -, -⟩ := hy.open elemInt
  have HLA := Lib.hid hla; have HLB := Lib.hid hlb
  have BX := Lib.hid ba; have BY := Lib.hid bb
  have VA := Lib.hid va; have VB := Lib.hid vb
  clear hla hlb ba bb va vb hx hy
  by_cases hlen : xs.length = ys.length
  · have hne : ((xs.length : Int) != (ys.length : Int)) = false := by simp [hlen]
    have HLen := Lib.hid hlen; clear hlen
    go_enter Tryz.func73, Tryz.ntmps73
    go_wp2
    go_loopw [5] (fun i wr => ∃ k : Nat, k ≤ xs.length ∧ i = .int .i64 ((k : Int) - 1) ∧ xs.drop k = ys.drop k ∧ Below w.heap.size w wr) (fun i _ => (intOf i + 1).toNat)
    case atStart => exact ⟨xs.length, Nat.le_refl _, rfl, by rw [List.drop_of_length_le (Nat.le_refl _), HLen.out, List.drop_of_length_le (Nat.le_refl _)], Below.refl _ _⟩
    case round =>
      obtain ⟨k, hk, rfl, hd, hb⟩ := hrel
      have HD := Lib.hid hd; clear hd
      rcases k with _ | k
      · have heq : m = n := by
          have := HD.out
          simp only [List.drop_zero] at this
          rw [← VA.out, ← VB.out, this]
        have HE := Lib.hid (order_eq heq); clear heq
        go_wp2
        go_ret
        exact ⟨_, rfl, by rw [HE.out]; rfl, hb⟩
      · have hk2 : k < ys.length := by rw [← HLen.out]; omega
        have h1 : wr.cell? ⟨bl, o + k, none⟩ = some (.int .i64 (xs[k] : Nat)) := hp.at hb (Nat.le_refl _) k (by omega)
        have h2 : wr.cell? ⟨b', o' + k, none⟩ = some (.int .i64 (ys[k] : Nat)) := hq.at hb (Nat.le_refl _) k hk2
        have hbx := BX.out xs[k] (List.getElem_mem (by omega))
        have hby := BY.out ys[k] (List.getElem_mem hk2)
        have ek : (((k + 1 : Nat) : Int) - 1) = (k : Int) := by omega
        rw [ek]
        clear ek
        by_cases he : xs[k] = ys[k]
        · have hb1 : ((xs[k] : Int) != (ys[k] : Int)) = false := by simp [he]
          have HEK := Lib.hid he; clear he
          go_wp2
          go_quiet (fail)
          go_wp2
          go_roundw
          case rel => exact ⟨k, by omega, rfl, by rw [drop_eq xs k (by omega), drop_eq ys k hk2, HD.out, HEK.out], below_drewN hb _⟩
          case measure => simp [intOf]
        · have hb1 : ((xs[k] : Int) != (ys[k] : Int)) = true := by simp; omega
          rcases Nat.lt_or_gt_of_ne he with hlt | hlt
          · have hfin : m < n := by rw [← VA.out, ← VB.out]; exact lt_of_digit _ xs ys k (by omega) hk2 BX.out HD.out hlt
            have HF := Lib.hid (order_lt hfin)
            have hdc : decide (xs[k] < ys[k]) = true := by simp [hlt]
            clear he hfin
            go_wp2
            go_quiet (fail)
            go_wp2
            go_quiet (fail)
            go_wp2
            go_ret
            exact ⟨_, rfl, by rw [HF.out]; rfl, below_drewN (below_drewN hb _) _⟩
          · have hfin : n < m := by rw [← VA.out, ← VB.out]; exact lt_of_digit _ ys xs k hk2 (by omega) BY.out HD.out.symm hlt
            have HF := Lib.hid (order_gt hfin)
            have hdc : decide (xs[k] < ys[k]) = false := by simp; omega
            clear he hfin
            go_wp2
            go_quiet (fail)
            go_wp2
            go_quiet (fail)
            go_wp2
            go_ret
            exact ⟨_, rfl, by rw [HF.out]; rfl, below_drewN (below_drewN hb _) _⟩
  · have hne : ((xs.length : Int) != (ys.length : Int)) = true := by simp; omega
    rcases Nat.lt_or_gt_of_ne hlen with h | h
    · have HF := Lib.hid (order_lt (HLB.out h))
      clear hlen
      go_enter Tryz.func73, Tryz.ntmps73
      go_wp2
      go_ret
      exact ⟨_, rfl, by rw [HF.out]; rfl, Below.refl _ _⟩
    · have HF := Lib.hid (order_gt (HLA.out h))
      clear hlen
      go_enter Tryz.func73, Tryz.ntmps73
      go_wp2
      go_ret
      exact ⟨_, rfl, by rw [HF.out]; rfl, Below.refl _ _⟩
end Go.Proofs.YtcjcknncajinpaaGreatDoor
