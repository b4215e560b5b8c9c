/- The walk of the reference's Check. -/
import Derived.Test.YtcjcknncajinpaaGreatDoorR5
namespace Go.Proofs.YtcjcknncajinpaaGreatDoor
open Go.RowKit
set_option maxRecDepth 100000

theorem chkD_bad (d : List UInt8) (m : Bool) (x : UInt8) (hx : x ∈ d) (h : isDig x = false) : chkD d m = 3 := by
  unfold chkD; rw [if_pos]
  rw [List.all_eq_false]; exact ⟨x, hx, by simp [h]⟩
theorem chkD_lead (t : List UInt8) (m : Bool) (ht : 0 < t.length) : chkD (48 :: t) m = 3 := by
  cases h : (48 :: t : List UInt8).all isDig
  · unfold chkD; rw [if_pos h]
  · rw [chkD_cons _ _ _ h, if_pos ⟨rfl, .inl ht⟩]
theorem chkD_good (x : UInt8) (t : List UInt8) (m : Bool) (h : (x :: t).all isDig = true) (h1 : ¬ (x = 48 ∧ 0 < t.length)) (h2 : m = true → x :: t ≠ [48]) : chkD (x :: t) m = if 1023 < t.length then 11 else 0 := by
  rw [chkD_cons _ _ _ h, if_neg]
  rintro ⟨e, h3⟩
  have e2 : x = 48 := UInt8.toNat_inj.1 e
  rcases h3 with h3 | h3
  · exact h1 ⟨e2, h3⟩
  · refine h2 h3 ?_
    subst e2
    cases t with
    | nil => rfl
    | cons c t => exact absurd ⟨rfl, by simp⟩ h1

set_option maxHeartbeats 1000000 in
theorem rCheck_any (w : World) (s : ByteArray) (hsz : s.size ≤ 1000000) :
    Calls Tryz.prog 21 #[.string s] w (Rets fun v w' => v = .int .i64 (chk s.data.toList) ∧ w = w') := by
  obtain ⟨l, rfl⟩ : ∃ l : List UInt8, s = ⟨l.toArray⟩ := ⟨s.data.toList, by simp⟩
  have hl : l.length ≤ 1000000 := by simpa [ByteArray.size] using hsz
  have e0 : (⟨l.toArray⟩ : ByteArray).data.toList = l := by simp
  rw [e0]
  unfold chk
  have hp := pre_cases l
  generalize Lib.trimPrefix l [45] = d at *
  generalize hm : Lib.hasPrefix l [45] = m at *
  clear hsz e0
  rcases hp with ⟨rfl, rfl⟩ | ⟨rfl, rfl⟩
  · clear hm
    have hx0 : ∀ h, (({ data := (45 :: d).toArray } : ByteArray)[0]'h) = 45 := fun _ => rfl
    have hpos : 0 < (45 :: d : List UInt8).length := by simp
    by_cases hd : d = [48]
    · subst hd
      have hex : ({ data := #[45, 48] } : ByteArray).extract 1 2 = ⟨#[48]⟩ := rfl
      go_enter Tryz.func21, Tryz.ntmps21
      go_wp2
      go_ret
      exact ⟨_, rfl, by rw [show chkD [48] true = 3 from by decide]; rfl, rfl⟩
    · have hd2 : (d == [48]) = false := by simpa using hd
      have HNE : Hid (true = true → d ≠ [48]) := Lib.hid (fun _ => hd)
      clear hd
      rcases d with _ | ⟨x, t⟩
      · have HR := Lib.hid (show chkD [] true = 3 by simp [chkD])
        have hex : ({ data := #[45] } : ByteArray).extract 1 1 = ⟨#[]⟩ := rfl
        go_enter Tryz.func21, Tryz.ntmps21
        go_wp2
        go_ret
        exact ⟨_, rfl, by rw [HR.out]; rfl, rfl⟩
      · have hx1 : ∀ h, (({ data := (x :: t).toArray } : ByteArray)[0]'h) = x := fun _ => rfl
        have hex : ({ data := (45 :: x :: t).toArray } : ByteArray).extract 1 (t.length + 1 + 1) = ⟨(x :: t).toArray⟩ := by
          apply ByteArray.ext; simp [ByteArray.data_extract]
        by_cases hlead : x = 48 ∧ 0 < t.length
        · obtain ⟨rfl, ht⟩ := hlead
          have hr := chkD_lead t true ht
          have HR := Lib.hid hr; clear hr
          go_enter Tryz.func21, Tryz.ntmps21
          go_wp2
          go_ret
          exact ⟨_, rfl, by rw [HR.out]; rfl, rfl⟩
        · have h48 : true = true → x :: t ≠ [48] := HNE.out
          have hl2 : ((x.toNat : Int) == 48) = true → ¬ 1 < t.length + 1 := fun e => by
            have : x = 48 := UInt8.toNat_inj.1 (by have : x.toNat = 48 := by simp at e; omega
                                                   rw [this]; rfl)
            intro h; exact hlead ⟨this, by omega⟩
          have hzero : (x = 48 ∧ ¬ (1 : Int) < (t.length : Int) + 1) ∨ ((x.toNat : Int) == 48) = false := by
            by_cases e : x = 48
            · exact .inl ⟨e, by have : ¬ 0 < t.length := fun h => hlead ⟨e, h⟩; omega⟩
            · refine .inr ?_
              simp; intro h; exact e (UInt8.toNat_inj.1 (by rw [show x.toNat = 48 by omega]; rfl))
          obtain ⟨D, hD⟩ : ∃ D, D = x :: t := ⟨_, rfl⟩
          have hDl : D.length = t.length + 1 := by rw [hD]; rfl
          have hDb : D.length ≤ 1000000 := by simp at hl; omega
          have hG : D.all isDig = true → chkD D true = if 1023 < t.length then 11 else 0 := by rw [hD]; exact fun h => chkD_good x t true h hlead h48
          have HG := Lib.hid hG
          have HDE := Lib.hid hD; have HDL := Lib.hid hDl
          have hDx : ∀ (k : Nat) (h : k < D.length), ∀ h', (({ data := (x :: t).toArray } : ByteArray)[k]'h') = D[k] := fun k h h' => by subst hD; rfl
          have HDX := Lib.hid hDx
          clear hlead h48 hl2 hD hDl hDx HNE hG
          go_enter Tryz.func21, Tryz.ntmps21
          skip
          rcases hzero with ⟨rfl, ht0⟩ | hz
          all_goals
            go_wp2
            go_loop [4] (fun i => ∃ k : Nat, k ≤ t.length + 1 ∧ i = .int .i64 k ∧ Hid (∀ (j : Nat) (h : j < D.length), j < k → isDig D[j] = true)) (fun i => t.length + 1 - (intOf i).toNat)
            case atStart => exact ⟨0, Nat.zero_le _, rfl, Lib.hid fun j h hj => absurd hj (Nat.not_lt_zero _)⟩
            case round =>
              obtain ⟨k, hk, rfl, hall⟩ := hrel
              by_cases hkn : k < t.length + 1
              · have hkD : k < D.length := by rw [HDL.out]; exact hkn
                obtain ⟨y, hy⟩ : ∃ y, D[k] = y := ⟨_, rfl⟩
                have hyx := HDX.out k hkD
                rw [hy] at hyx
                have hyl := UInt8.toNat_lt y
                have HY := Lib.hid hy
                clear hy
                cases hdy : isDig y
                · have hr : chkD D true = 3 := chkD_bad _ _ y (by rw [← HY.out]; exact List.getElem_mem hkD) hdy
                  have HR := Lib.hid hr; clear hr
                  have hx2 : y.toNat < 48 ∨ (48 ≤ y.toNat ∧ 57 < y.toNat) := by simp [isDig] at hdy; omega
                  clear hdy
                  rcases hx2 with h | ⟨h, h'⟩
                  · go_wp2
                    go_ret
                    exact ⟨_, rfl, by rw [← HDE.out, HR.out]; rfl, rfl⟩
                  · go_wp2
                    go_ret
                    exact ⟨_, rfl, by rw [← HDE.out, HR.out]; rfl, rfl⟩
                · have h1 : 48 ≤ y.toNat := by simp [isDig] at hdy; omega
                  have h2 : y.toNat ≤ 57 := by simp [isDig] at hdy; omega
                  have HDY := Lib.hid hdy
                  clear hdy
                  go_wp2
                  go_round
                  case rel =>
                    refine ⟨k + 1, by omega, by go_num, Lib.hid fun j h hj => ?_⟩
                    by_cases e : j = k
                    · subst e; rw [HY.out]; exact HDY.out
                    · exact hall.out j h (by omega)
                  case measure => simp [intOf]; omega
              · obtain rfl : k = t.length + 1 := by omega
                have hall' : D.all isDig = true := by
                  rw [List.all_eq_true]; intro z hz
                  obtain ⟨j, hj, rfl⟩ := List.getElem_of_mem hz
                  exact hall.out j hj (by rw [← HDL.out]; exact hj)
                have HR := Lib.hid (HG.out hall')
                clear hall hall' hkn hk
                by_cases hbig : 1023 < t.length
                · have hb1 : (1024 : Int) < (t.length : Int) + 1 := by omega
                  go_wp2
                  go_ret
                  exact ⟨_, rfl, by rw [← HDE.out, HR.out, if_pos hbig]; rfl, rfl⟩
                · have hb1 : ¬ (1024 : Int) < (t.length : Int) + 1 := by omega
                  go_wp2
                  go_ret
                  exact ⟨_, rfl, by rw [← HDE.out, HR.out, if_neg hbig]; rfl, rfl⟩
  · rcases l with _ | ⟨x, t⟩
    · have HR := Lib.hid (show chkD [] false = 3 by simp [chkD])
      clear hm
      go_enter Tryz.func21, Tryz.ntmps21
      go_wp2
      go_ret
      exact ⟨_, rfl, by rw [HR.out]; rfl, rfl⟩
    · have hx45 : x ≠ 45 := fun e => by subst e; simp [Lib.hasPrefix, List.isPrefixOf] at hm
      have hx2 : ((x.toNat : Int) == 45) = false := by simp; intro e; exact hx45 (UInt8.toNat_inj.1 (by rw [show x.toNat = 45 by omega]; rfl))
      have hx1 : ∀ h, (({ data := (x :: t).toArray } : ByteArray)[0]'h) = x := fun _ => rfl
      have hpos : 0 < (x :: t : List UInt8).length := by simp
      have HNE : Hid (false = true → x :: t ≠ [48]) := Lib.hid (fun h => by cases h)
      clear hm hx45
      by_cases hlead : x = 48 ∧ 0 < t.length
      · obtain ⟨rfl, ht⟩ := hlead
        have hr := chkD_lead t false ht
        have HR := Lib.hid hr; clear hr
        go_enter Tryz.func21, Tryz.ntmps21
        go_wp2
        go_ret
        exact ⟨_, rfl, by rw [HR.out]; rfl, rfl⟩
      · have h48 : false = true → x :: t ≠ [48] := HNE.out
        have hl2 : ((x.toNat : Int) == 48) = true → ¬ 1 < t.length + 1 := fun e => by
          have : x = 48 := UInt8.toNat_inj.1 (by have : x.toNat = 48 := by simp at e; omega
                                                 rw [this]; rfl)
          intro h; exact hlead ⟨this, by omega⟩
        have hzero : (x = 48 ∧ ¬ (1 : Int) < (t.length : Int) + 1) ∨ ((x.toNat : Int) == 48) = false := by
          by_cases e : x = 48
          · exact .inl ⟨e, by have : ¬ 0 < t.length := fun h => hlead ⟨e, h⟩; omega⟩
          · refine .inr ?_
            simp; intro h; exact e (UInt8.toNat_inj.1 (by rw [show x.toNat = 48 by omega]; rfl))
        obtain ⟨D, hD⟩ : ∃ D, D = x :: t := ⟨_, rfl⟩
        have hDl : D.length = t.length + 1 := by rw [hD]; rfl
        have hDb : D.length ≤ 1000000 := by simp at hl; omega
        have hG : D.all isDig = true → chkD D false = if 1023 < t.length then 11 else 0 := by rw [hD]; exact fun h => chkD_good x t false h hlead h48
        have HG := Lib.hid hG
        have HDE := Lib.hid hD; have HDL := Lib.hid hDl
        have hDx : ∀ (k : Nat) (h : k < D.length), ∀ h', (({ data := (x :: t).toArray } : ByteArray)[k]'h') = D[k] := fun k h h' => by subst hD; rfl
        have HDX := Lib.hid hDx
        clear hlead h48 hl2 hD hDl hDx HNE hG
        go_enter Tryz.func21, Tryz.ntmps21
        skip
        rcases hzero with ⟨rfl, ht0⟩ | hz
        all_goals
          go_wp2
          go_loop [4] (fun i => ∃ k : Nat, k ≤ t.length + 1 ∧ i = .int .i64 k ∧ Hid (∀ (j : Nat) (h : j < D.length), j < k → isDig D[j] = true)) (fun i => t.length + 1 - (intOf i).toNat)
          case atStart => exact ⟨0, Nat.zero_le _, rfl, Lib.hid fun j h hj => absurd hj (Nat.not_lt_zero _)⟩
          case round =>
            obtain ⟨k, hk, rfl, hall⟩ := hrel
            by_cases hkn : k < t.length + 1
            · have hkD : k < D.length := by rw [HDL.out]; exact hkn
              obtain ⟨y, hy⟩ : ∃ y, D[k] = y := ⟨_, rfl⟩
              have hyx := HDX.out k hkD
              rw [hy] at hyx
              have hyl := UInt8.toNat_lt y
              have HY := Lib.hid hy
              clear hy
              cases hdy : isDig y
              · have hr : chkD D false = 3 := chkD_bad _ _ y (by rw [← HY.out]; exact List.getElem_mem hkD) hdy
                have HR := Lib.hid hr; clear hr
                have hx2 : y.toNat < 48 ∨ (48 ≤ y.toNat ∧ 57 < y.toNat) := by simp [isDig] at hdy; omega
                clear hdy
                rcases hx2 with h | ⟨h, h'⟩
                · go_wp2
                  go_ret
                  exact ⟨_, rfl, by rw [← HDE.out, HR.out]; rfl, rfl⟩
                · go_wp2
                  go_ret
                  exact ⟨_, rfl, by rw [← HDE.out, HR.out]; rfl, rfl⟩
              · have h1 : 48 ≤ y.toNat := by simp [isDig] at hdy; omega
                have h2 : y.toNat ≤ 57 := by simp [isDig] at hdy; omega
                have HDY := Lib.hid hdy
                clear hdy
                go_wp2
                go_round
                case rel =>
                  refine ⟨k + 1, by omega, by go_num, Lib.hid fun j h hj => ?_⟩
                  by_cases e : j = k
                  · subst e; rw [HY.out]; exact HDY.out
                  · exact hall.out j h (by omega)
                case measure => simp [intOf]; omega
            · obtain rfl : k = t.length + 1 := by omega
              have hall' : D.all isDig = true := by
                rw [List.all_eq_true]; intro z hz
                obtain ⟨j, hj, rfl⟩ := List.getElem_of_mem hz
                exact hall.out j hj (by rw [← HDL.out]; exact hj)
              have HR := Lib.hid (HG.out hall')
              clear hall hall' hkn hk
              by_cases hbig : 1023 < t.length
              · have hb1 : (1024 : Int) < (t.length : Int) + 1 := by omega
                go_wp2
                go_ret
                exact ⟨_, rfl, by rw [← HDE.out, HR.out, if_pos hbig]; rfl, rfl⟩
              · have hb1 : ¬ (1024 : Int) < (t.length : Int) + 1 := by omega
                go_wp2
                go_ret
                exact ⟨_, rfl, by rw [← HDE.out, HR.out, if_neg hbig]; rfl, rfl⟩
end Go.Proofs.YtcjcknncajinpaaGreatDoor
