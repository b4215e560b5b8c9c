/- The walk of integer's iterator over the groups of digits. -/
import Derived.RangeFuncBox
import Derived.RangeFuncNested
import Derived.RangeFuncBound
import Derived.RangeFuncCalls
import Derived.RangeFuncLeaves
import Derived.Shelf.Abstract
import Derived.Shelf.RegionOpen
import Derived.WalkKit
import Derived.OwnWalkIn
import Derived.TacticsInMore
import Derived.LoopNIn
import Derived.LoopIn
import Derived.Maps.AppendAt
import Derived.Test.YtcjcknncajinpaaDoorIM
import Derived.Test.YtcjcknncajinpaaDoorIN1
namespace Go.Proofs.YtcjcknncajinpaaDoor
open Go.RowKit Go.Shelf
set_option maxRecDepth 100000

attribute [local go_sem] Oper.semAt_some

/-- A cell stands as it stood. -/
def KpC (B : Nat) (W W' : World) : Prop := ∀ v, W.cell? ⟨B, 0, none⟩ = some v → W'.cell? ⟨B, 0, none⟩ = some v
theorem KpC.tr {B : Nat} {X Y Z : World} (h : KpC B X Y) (h' : KpC B Y Z) : KpC B X Z := fun v hv => h' v (h v hv)
theorem KpC.put {B : Nat} (W : World) (l : Nat) (o o' : Obj) (ho : W.heap[l]? = some o) (hc : o.isCells = false) : KpC B W (W.putObj l o') := fun v hv =>
  cell_kept hv (grownBy_putObj' W l o') (fun r e => by cases e; exact ⟨_, ho, hc⟩)
theorem KpC.grown {B : Nat} {W W' : World} (hg : W.grownBy W' none) : KpC B W W' := fun v hv => cell_kept hv hg (fun r e => by cases e)

set_option maxHeartbeats 1000000 in
theorem groups1_in (d : List UInt8) (hd : d.all isDig = true) (hdl : d.length ≤ 1000000) (n : Nat) (hn : 1 ≤ n) (l Bn : Nat) (J Jx : List Nat → World → Prop) (W : World)
    (hJ : AbidesFrom W.heap.size J)
    (hY : ∀ pre x W, J pre W → pre.length < 1000000 → YieldAt Fence.wide (n - 1) Tryd.prog l #[.int .u32 (x : Nat)] W fun e W' =>
      (e = .returned (.bool true) ∧ J (pre ++ [x]) W' ∧ KpC Bn W W') ∨ (e = .returned (.bool false) ∧ Jx (pre ++ [x]) W'))
    (hBn : W.cell? ⟨Bn, 0, none⟩ = some (.string ⟨d.toArray⟩)) (h0 : J [] W) :
    CallsIn Fence.wide n Tryd.prog 89 #[.func (.yield l) #[] #[], .pointer (some ⟨Bn, 0, none⟩)] W fun e W' => (∃ v, e = .returned v) ∧
      ((∃ ys, ys = ws d d.length ∧ J ys W') ∨ (∃ pre, pre <+: ws d d.length ∧ Jx pre W')) := by
  refine callsIn_of_wp Tryd.func89 rfl trivial ?_ rfl
  simp only [Tryd.ntmps89, List.size_toArray, List.length_cons, List.length_nil, Nat.reduceAdd, Nat.reduceSub, Array.replicate_succ, Array.replicate_zero, List.push_toArray, List.append_toArray, List.nil_append, List.cons_append]
  have hwl := ws_len d d.length
  have HY := Lib.hid hY; have HJ := Lib.hid hJ; have HD := Lib.hid hd; have HWL := Lib.hid hwl
  clear hY hJ hd hwl
  gi_wp2
  gi_loopw [3] (fun i wr => ∃ (pre : List Nat) (e : Int), i = .int .i64 e ∧ -9 ≤ e ∧ e ≤ d.length ∧ Hid (pre ++ ws d e.toNat = ws d d.length) ∧ J pre wr ∧ KpC Bn W wr) (fun i _ => (intOf i).toNat)
  case atStart => exact ⟨[], d.length, rfl, by omega, by omega, Lib.hid rfl, h0, fun _ h => h⟩
  case round =>
    obtain ⟨pre, e, rfl, he0, he1, hpre, hJs, hb⟩ := hrel
    by_cases hpos : 0 < e
    · obtain ⟨k, rfl⟩ : ∃ k : Nat, e = (k : Int) := ⟨e.toNat, by omega⟩
      have hk0 : 0 < k := by omega
      have hkd : k ≤ d.length := by omega
      have hc : wr.cell? ⟨Bn, 0, none⟩ = some (.string ⟨d.toArray⟩) := hb _ hBn
      have hw := ws_word d k HD.out hk0 hkd
      have hp2 := hpre.out
      rw [Int.toNat_natCast, ws_pos d k hk0] at hp2
      generalize hx : dv 0 ((d.drop (k - 9)).take (k - (k - 9))) = x at hw hp2
      have hmx : max (0 : Int) ((k : Int) - 9) = ((k - 9 : Nat) : Int) := by omega
      have hex : ((⟨d.toArray⟩ : ByteArray).extract (k - 9) k).data.toList = (d.drop (k - 9)).take (k - (k - 9)) := by rw [Lib.extract_data]
      have hlen : pre.length < 1000000 := by
        have := congrArg List.length hp2
        have hl := HWL.out
        simp only [List.length_append, List.length_cons] at this
        omega
      have hsz : (⟨d.toArray⟩ : ByteArray).size = d.length := by simp [ByteArray.size]
      have HW := Lib.hid hw; have HP := Lib.hid hp2; have HEX := Lib.hid hex
      have hxl := hw.2
      clear hw hp2 hex hx
      gi_wp2
      refine ⟨trivial, callsIn_wide.2 ((Tryd.strconv_ParseUint_10_at32_ok _ (by rw [Lib.size_eq, HEX.out, List.length_take, List.length_drop]; omega) x (by rw [HEX.out]; exact HW.out.1) _).mono ?_)⟩
      rintro e w' ⟨rfl, hw⟩
      have hg : wr.grownBy w' none := by
        rcases hw with rfl | rfl
        · exact World.grownBy.refl _ _
        · have hb9 := Lib.bytesWorld_below wr 5 ((⟨d.toArray⟩ : ByteArray).extract (k - 9) k)
          exact ⟨hb9.os, hb9.tape, hb9.output, hb9.size, fun j hj _ => hb9.block j hj⟩
      have hb' : KpC Bn W w' := hb.tr (KpC.grown hg)
      obtain ⟨fn, tmps, assign, body, hy, hR⟩ := HY.out pre x w' (HJ.out pre wr w' none hJs hg (fun r h => by cases h)) hlen
      clear hw
      gi_wp2
      refine hR.mono ?_
      rintro e W3 (⟨rfl, hJ3, hk3⟩ | ⟨rfl, hJx3⟩)
      · gi_wp2
        go_roundw
        case rel =>
          refine ⟨pre ++ [x], (k : Int) - 9, rfl, by omega, by omega, Lib.hid ?_, hJ3, hb'.tr hk3⟩
          rw [show ((k : Int) - 9).toNat = k - 9 by omega, List.append_assoc]; exact HP.out
        case measure => simp [intOf]; omega
      · gi_wp2
        refine bodyPost_ret (results_none rfl _ _ _) rfl ?_
        exact ⟨⟨_, rfl⟩, .inr ⟨pre ++ [x], ⟨ws d (k - 9), by rw [List.append_assoc]; exact HP.out⟩, hJx3⟩⟩
    · have e0 : e.toNat = 0 := by omega
      have hp := hpre.out
      rw [e0, ws_zero, List.append_nil] at hp
      have HP := Lib.hid hp
      clear hp hpre
      gi_wp2
      go_end0
      exact ⟨⟨_, rfl⟩, .inl (HP.out ▸ hJs)⟩

theorem groups_stops (d : List UInt8) (hd : d.all isDig = true) (hdl : d.length ≤ 1000000) (n : Nat) (hn : 1 ≤ n) (Bn : Nat) (w : World) (hBn : Bn < w.heap.size) (hc : w.cell? ⟨Bn, 0, none⟩ = some (.string ⟨d.toArray⟩)) :
    SeqStopsK Fence.wide n Tryd.prog 89 #[.pointer (some ⟨Bn, 0, none⟩)] (fun x : Nat => #[Value.int .u32 (x : Nat)]) (KpC Bn) (fun ys => ys = ws d d.length) (fun pre => pre <+: ws d d.length) 1000000 w := fun l J Jx W hW hJ _ hY h0 =>
  groups1_in d hd hdl n hn l Bn J Jx W hJ hY ((hW.cell (p := ⟨Bn, 0, none⟩) hBn).trans hc) h0

set_option maxHeartbeats 400000 in
theorem groups_any (s : ByteArray) (w : World) :
    Calls Tryd.prog 70 #[.string s] w fun e w' => e = .returned (.func (.func 89) #[] #[.pointer (some ⟨w.heap.size, 0, none⟩)]) ∧ w' = w.alloc (.cells #[.string s] 9) := by
  go_enter Tryd.func70, Tryd.ntmps70
  go_wp2
  go_ret
  exact ⟨rfl, rfl⟩
end Go.Proofs.YtcjcknncajinpaaDoor
