/- The walk of abelian's Elements. The walks of abelian's Elements at wrong and at great groups, and of the reference's Elements, Tiny and SameAll. -/
import Derived.Test.YtajkhbpffakmfaaGreatDoorPk12
namespace Go.Proofs.YtajkhbpffakmfaaGreatDoor
open Go.RowKit Go.Shelf
set_option maxRecDepth 100000

attribute [local go_sem] Oper.semAt_some

theorem prods_foldl : ∀ (ss : List Nat) (a : Int), (ss.map fun (n : Nat) => (n : Int)).foldl (· * ·) a = a * (pr ss : Int)
  | [], a => by simp [pr]
  | n :: l, a => by simp only [List.map_cons, List.foldl_cons, prods_foldl l, pr, Int.natCast_mul, Int.mul_assoc]
theorem prods_pr (ss : List Nat) : prods (ss.map fun (n : Nat) => (n : Int)) = (pr ss : Int) := by
  unfold prods; rw [prods_foldl, Int.one_mul]
theorem KpT.drew (w : World) : KpT w w.drew := fun _ _ _ _ _ h => h
theorem KpT.alloc (w : World) (o : Obj) : KpT w (w.alloc o) := KpT.below ((Below.refl w.heap.size w).alloc (Nat.le_refl _) o) (Nat.le_refl _)
theorem KpT.set {w : World} {g : Nat} {cs : List Value} (h : Blk w g cs 42) (j : Nat) (u : Value) : KpT w (w.setCell ⟨g, j, none⟩ u) := fun b cs' m T hT e => by
  have hne : b ≠ g := fun e2 => by
    subst e2
    rw [h] at e; cases e
    rcases hT with hT | hT <;> exact absurd hT (by decide)
  exact (Below.heap_setCell _ _ _ _ hne).trans e
theorem KeepsOthers.below {W W' : World} (h : Below W.heap.size W W') : KeepsOthers W W' := ⟨h.size, fun k _ hk _ => (h.block k (Array.getElem?_eq_some_iff.1 hk).1).trans hk⟩
theorem grown_drew (w : World) : w.grownBy w.drew none := ⟨rfl, rfl, rfl, Nat.le_refl _, fun _ _ _ => rfl⟩
theorem Blk.putObj {w : World} {g l : Nat} {cs : List Value} {T : TypeId} {o : Obj} (h : Blk w g cs T) (o' : Obj) (hl : w.heap[l]? = some o) (ho : o.isCells = false) : Blk (w.putObj l o') g cs T := by
  have hne : g ≠ l := fun e => by subst e; rw [h] at hl; cases hl; cases ho
  exact (World.putObj_heap_other hne).trans h
theorem ItO.below {w0 w w' : World} {D S : Nat} {xs : List (Nat × List Nat)} (h : ItO w0 D S xs w) (hb : Below w.heap.size w w') (h0 : D ≤ w0.heap.size) : ItO w0 D S xs w' := by
  obtain ⟨v, us, h1, h2, h3, h4⟩ := h
  exact ⟨v, us, h1.below hb (Nat.le_refl _), h2.below hb (Nat.le_refl _), h3, h4.trans (hb.mono (Nat.le_trans h0 h4.size))⟩

theorem ItO.drewR {w0 W : World} {D S : Nat} {xs : List (Nat × List Nat)} (h : ItO w0 D S xs W) (h0 : D ≤ w0.heap.size) :
    ∃ v us, Blk W.drew D [v] 42 ∧ ORow W.drew 0 v us (xs.map fun x => x.2.map tx) ∧ Far S v us ∧ Below D w0 W.drew :=
  ItO.own w0 D S D (Nat.le_refl _) h0 _ _ _ none h (grown_drew W) (fun _ h => by cases h)
theorem wideFn (f : Nat) : Fence.wide.fn f := trivial
set_option maxHeartbeats 4000000 in
theorem Elements_in (w : World) (v : Value) (g : List ByteArray) (ss : List Nat) (hv : Sl eS w v g) (hg : g = ss.map tx) (h2 : ∀ n ∈ ss, 2 ≤ n) (hgc : gchk g = 0) (hz : Goods g (ss.map fun (n : Nat) => (n : Int))) (hl : ss.length ≤ 16) (hpr : pr ss ≤ 16384) (hsz : ∀ s ∈ g, s.size ≤ 1000000) (he : Env w) :
    CallsIn Fence.wide 4 Tryz.prog 21 #[v] w (Rets fun r w' => ∃ u us, r = .tuple #[u, .int .i64 0] ∧ ORow w' 0 u us (allL ss) ∧ Below w.heap.size w w') := by
  have hp : ∀ n ∈ ss, 0 < n := fun n hn => by have := h2 n hn; omega
  have h2z : ∀ z ∈ ss.map (fun (n : Nat) => (n : Int)), 2 ≤ z := fun z hz => by
    obtain ⟨n, hn, rfl⟩ := List.mem_map.1 hz; have := h2 n hn; omega
  have hR : resV (prods (ss.map fun (n : Nat) => (n : Int))) = .tuple #[.string (txt (pr ss : Nat)), .int .i64 0] := by
    rw [prods_pr]; unfold resV; rw [(good_tx (pr ss) (by omega)).2]; rfl
  have HGP : Hid (Good (txt (pr ss : Nat)) (pr ss : Nat)) := Lib.hid (good_tx (pr ss) (by omega))
  have G16 : Hid (Good (txt 16384) 16384) := Lib.hid (good_tx 16384 (by omega))
  obtain ⟨sg, hsg, hs0⟩ : ∃ s : Int, ((pr ss : Nat) - 16384 : Int).sign = s ∧ s ≤ 0 := ⟨_, rfl, by
    rcases Int.lt_or_le ((pr ss : Nat) : Int) 16384 with h | h
    · rw [Int.sign_eq_neg_one_of_neg (by omega)]; omega
    · rw [show ((pr ss : Nat) - 16384 : Int) = 0 by omega]; decide⟩
  have hgl : g.length = ss.length := by rw [hg, List.length_map]
  obtain ⟨ad, b, o, c, rfl, hi, hq, hcc, hm⟩ := hv.open elemStr
  unfold maxLen at hm
  have HG := Lib.hid hg; have HP := Lib.hid hp; have HPR := Lib.hid hpr; have HV := Lib.hid hv; have HGC := Lib.hid hgc; have HZ := Lib.hid hz; have HSZ := Lib.hid hsz; have HE := Lib.hid he
  have H2 := Lib.hid h2z; have HR := Lib.hid hR; have HSG := Lib.hid hsg; have HGL := Lib.hid hgl
  have hgl16 : g.length ≤ 16 := by omega
  have HS16 := Lib.hid (fun (_ : g.length ≤ 16) => hsz)
  clear hv hg h2 hgc hz hpr hsz he hp h2z hR hsg hgl
  refine callsIn_of_wp_marks Tryz.func21 rfl trivial ?_ rfl
  simp only [Tryz.ntmps21, List.size_toArray, List.length_cons, List.length_nil, Nat.reduceAdd, Nat.reduceSub, Array.replicate_succ, Array.replicate_zero, List.push_toArray, List.append_toArray, List.nil_append, List.cons_append]
  have HK := Lib.hid (Blk.new w [.slice ad g.length c] 22)
  have q0 := (Below.refl w.heap.size w).alloc (Nat.le_refl _) (.cells #[.slice ad g.length c] 22)
  gi_wp2_with (first
    | ((with_reducible refine ⟨wideFn _, callsIn_wide.2 ((aorder_any _ _ _ ((pr ss : Nat) : Int) 16384 HGP.out G16.out).mono ?_)⟩); rintro e w4 ⟨v, rfl, rfl, hb4⟩; rw [HSG.out]; have HK4 := Lib.hid (HK3.out.below hb4 (Nat.le_refl _)); have c4 := HK4.out.cell 0 _ rfl; have q4 := q3.trans (hb4.mono q3.size))
    | ((with_reducible refine ⟨wideFn _, callsIn_wide.2 ((Of_any _ 16384 (by omega) (by omega) (HE.out.below q2 (Nat.le_refl _))).mono ?_)⟩); rintro e w3 ⟨v, rfl, rfl, hb3⟩; have HK3 := Lib.hid (HK2.out.below hb3 (Nat.le_refl _)); have c3 := HK3.out.cell 0 _ rfl; have q3 := q2.trans (hb3.mono q2.size))
    | ((with_reducible refine ⟨wideFn _, callsIn_wide.2 ((Order_ok _ _ g _ (HV.out.below q1 (Nat.le_refl _)) HZ.out H2.out HGC.out HSZ.out (HE.out.below q1 (Nat.le_refl _))).mono ?_)⟩); rintro e w2 ⟨v, rfl, rfl, hb2⟩; rw [HR.out]; have HK2 := Lib.hid (HK1.out.below hb2 (Nat.le_refl _)); have c2 := HK2.out.cell 0 _ rfl; have q2 := q1.trans (hb2.mono q1.size))
    | ((with_reducible refine ⟨wideFn _, callsIn_wide.2 ((ACheck_any _ _ g (HV.out.below q0 (Nat.le_refl _)) HS16.out (HE.out.below q0 (Nat.le_refl _))).mono ?_)⟩); rintro e w1 ⟨v, rfl, rfl, hb1⟩; rw [HGC.out]; have HK1 := Lib.hid (HK.out.below hb1 (Nat.le_refl _)); have c1 := HK1.out.cell 0 _ rfl; have q1 := q0.trans (hb1.mono q0.size))
    | (gi_at_make; refine mkNI elemInt rfl _ _ rfl g.length rfl rfl rfl rfl (by omega) (by unfold maxLen; omega) rfl ?_; intro w5 hown hg5; have HK5 := Lib.hid (HK4.out.below ((Below.refl w4.heap.size w4).grown hg5 (Nat.le_refl _) (fun _ h => by cases h)) (Nat.le_refl _)); have c5 := HK5.out.cell 0 _ rfl; have q5 := q4.trans (((Below.refl w4.heap.size w4).grown hg5 (Nat.le_refl _) (fun _ h => by cases h)).mono q4.size)))
  have q5' := Lib.hid q5; have HO5 := Lib.hid hown; have HS4 := Lib.hid q4.size
  obtain ⟨s7, hs7⟩ : ∃ s, w4.heap.size = s := ⟨_, rfl⟩
  rw [hs7] at HO5 HS4 ⊢
  have HO5 := Lib.hid (ownsRow_cast HO5.out rfl (show List.replicate g.length (Value.int .i64 0) = (ss.take 0 ++ List.replicate (ss.length - 0) 0).map eI by rw [HGL.out]; simp [eI]))
  clear hown hg5 q0 q1 q2 q3 q4 q5 c1 c2 c3 c4 c5 hs7
  gi_loopw [35] (fun i wr => ∃ k : Nat, k ≤ g.length ∧ i = .int .i64 k ∧ Hid (wr.ownsRow s7 3 1 (.slice (some ⟨s7, 0, none⟩) g.length g.length) g.length ((ss.take k ++ List.replicate (ss.length - k) 0).map eI)) ∧ Hid (Blk wr w.heap.size [.slice ad g.length c] 22) ∧ Hid (Below w.heap.size w wr)) (fun i _ => g.length - (intOf i).toNat)
  case atStart => exact ⟨0, Nat.zero_le _, rfl, HO5, HK5, q5'⟩
  case round =>
    clear HO5 HK5 q5'
    obtain ⟨k, hk, rfl, hO, hKw, hB⟩ := hrel
    by_cases hkn : k < g.length
    · have hkn2 : k < ss.length := by have := HGL.out; omega
      have h1 : wr.cell? ⟨b, o + k, none⟩ = some (.string g[k]) := hq.at hB.out (Nat.le_refl _) k hkn
      obtain ⟨n, hn⟩ : ∃ n, ss[k] = n := ⟨_, rfl⟩
      have hgn : g[k] = tx n := by simp [HG.out, hn]
      have hn6 : n ≤ 1000000 := Nat.le_trans (mem_le_pr ss HP.out n (by rw [← hn]; exact List.getElem_mem hkn2)) (by have := HPR.out; omega)
      rw [hgn] at h1
      have HN := Lib.hid (good_tx n hn6); have HI := Lib.hid (isI64_nat n hn6); have HNN := Lib.hid hn
      clear hn hgn
      gi_wp2_with ((with_reducible refine ⟨wideFn _, callsIn_wide.2 ((Small_ok _ _ (n : Int) HN.out HI.out).mono ?_)⟩); rintro e w6 ⟨v, rfl, rfl, hb6⟩; have HO6 := Lib.hid (own_below hO.out hb6 (Nat.le_refl _)); obtain ⟨u, -, hcu, hfr⟩ := own_at HO6.out hkn; have HB6 := Lib.hid (hB.out.trans (hb6.mono hB.out.size)); have HK6 := Lib.hid (hKw.out.below hb6 (Nat.le_refl _)))
      have hwlt : w.heap.size ≤ s7 := HS4.out
      have hne7 : Hid (w.heap.size ≠ s7) := Lib.hid fun e => by
        have := HK6.out; have h9 := HO6.out.2
        rcases h9 with ⟨e9, _⟩ | ⟨g9, cap9, cur9, e9, _, hg9, _⟩
        · cases e9
        · cases e9; unfold Blk at this; rw [e, hg9] at this; cases this
      go_roundw
      case rel =>
        have R := fun (q : Value) (hq : q = eI n) => fill_own (B := w.heap.size) (k := k) (os := ss.take k) (z := 0) (ownsRow_cast HO6.out rfl (by rw [HGL.out])) HB6.out hwlt (by simp; omega) (by omega) n q hq
        have e9 : ss.take k ++ [n] = ss.take (k + 1) := by rw [List.take_succ_eq_append_getElem hkn2, HNN.out]
        rw [e9] at R
        exact ⟨k + 1, by omega, by go_num, Lib.hid (by rw [← HGL.out]; exact (R _ rfl).1), Lib.hid (HK6.out.setCell hne7.out _), Lib.hid (R _ rfl).2⟩
      case measure => simp [intOf]; omega
    · obtain rfl : k = g.length := by omega
      have hO' := Lib.hid (ownsRow_cast hO.out rfl (show (ss.take g.length ++ List.replicate (ss.length - g.length) 0).map eI = ss.map eI by rw [HGL.out]; simp))
      have hwd := hB.out.size
      have HS7 := Lib.hid (show s7 < wr.heap.size by
        rcases hO'.out.2 with ⟨e9, _⟩ | ⟨g9, cap9, cur9, e9, _, hg9, _⟩
        · cases e9
        · cases e9; exact (Array.getElem?_eq_some_iff.1 hg9).1)
      clear hO
      gi_wp2_with ((with_reducible refine ⟨wideFn _, callsIn_wide.2 ((elements_any _ _ _ _).mono ?_)⟩); rintro e w6 ⟨v, rfl, rfl, rfl⟩)
      obtain ⟨W, hW⟩ : ∃ W, (wr.alloc (.cells #[.slice none 0 0] 42)).alloc (.cells #[.slice (some ⟨s7, 0, none⟩) g.length g.length] 61) = W := ⟨_, rfl⟩
      have hWs : W.heap.size = wr.heap.size + 2 := by rw [← hW]; simp
      have bW : Below wr.heap.size wr W := by rw [← hW]; exact ((Below.refl _ _).alloc (Nat.le_refl _) _).alloc (by simp) _
      have kD : Blk W wr.heap.size [.slice none 0 0] 42 := by rw [← hW]; exact (Blk.new wr [.slice none 0 0] _).alloc _
      have kB : Blk W (wr.heap.size + 1) [.slice (some ⟨s7, 0, none⟩) ss.length ss.length] 61 := by
        rw [← hW, ← HGL.out]; have := Blk.new (wr.alloc (.cells #[.slice none 0 0] 42)) [.slice (some ⟨s7, 0, none⟩) g.length g.length] 61; rwa [World.size_alloc] at this
      have hrw : W.ownsRow 0 3 1 (.slice (some ⟨s7, 0, none⟩) ss.length ss.length) ss.length (ss.map eI) := by
        rw [← HGL.out]; exact own_base (own_below hO'.out bW (Nat.le_refl _)) (Nat.zero_le _)
      have hseq := Lib.hid (elements1_seq (w := W) kB hrw HP.out hl (by have := HPR.out; omega) (4 - 1) (by omega))
      have HWS := Lib.hid hWs; have BW := Lib.hid bW; have KD := Lib.hid kD
      clear kB hrw hWs bW kD
      rw [hW]
      clear hW
      refine wpIn_rangeA rfl (by omega) (gf := 110) (lb := #[.pointer (some ⟨wr.heap.size + 1, 0, none⟩)]) rfl trivial (enters_of Tryz.func110 (by kernel_rfl) rfl) hseq.out KpT.tr (fun W l o o' _ ho hc => KpT.put W l o o' ho hc) (fun _ _ _ _ _ h _ _ => h) (Below.refl _ _) (fun _ => rfl) (ItO W wr.heap.size (W.heap.size + 2))
        (ItO.own _ _ _ _ (by have := HWS.out; omega) (by have := HWS.out; omega)) (fun pre W1 u j h => h.setS (by have := HWS.out; omega) u j) ?h0 ?round ?done
      case h0 => exact ⟨_, [], KD.out, ORow.nil _ _, ⟨fun g e => by simp [Value.ownBlock] at e, fun u hu => by cases hu⟩, Below.refl _ _⟩
      case round =>
        rintro l pre ⟨xd, xl⟩ W1 hI ⟨hx1, hs1, hx2, hx6, hrow⟩ hlen hll
        simp only at hx1 hx2 hx6 hrow
        subst hx1
        have HI := Lib.hid hI; have HX2 := Lib.hid hx2; have HX6 := Lib.hid hx6; have HROW := Lib.hid hrow; have HS1 := Lib.hid hs1
        clear hI hx2 hx6 hrow hs1
        gi_wp2
        refine ⟨KeepsOthers.alloc _ _, KpT.alloc _ _, fun ob o' hlo hoc => ?_⟩
        have IW := ItO.own W wr.heap.size (W.heap.size + 2) W.heap.size (by have := HWS.out; omega) (by have := HWS.out; omega)
        have hI2 := IW.putObj o' (IW.alloc (.cells #[.slice (some ⟨W.heap.size + 2, 0, none⟩) ss.length ss.length] 61) HI.out) hll hlo hoc
        have kX := (Blk.new W1 [.slice (some ⟨W.heap.size + 2, 0, none⟩) ss.length ss.length] 61).putObj o' hlo hoc
        have kR := ((KpT.alloc W1 _).tr (KpT.put _ l ob o' hlo hoc)).own HROW.out
        have hs2 : W.heap.size + 2 < ((W1.alloc (.cells #[.slice (some ⟨W.heap.size + 2, 0, none⟩) ss.length ss.length] 61)).putObj l o').heap.size := by have := HS1.out; simp; omega
        obtain ⟨W2, hW2⟩ : ∃ W2, (W1.alloc (.cells #[.slice (some ⟨W.heap.size + 2, 0, none⟩) ss.length ss.length] 61)).putObj l o' = W2 := ⟨_, rfl⟩
        obtain ⟨bX, hbX⟩ : ∃ b, W1.heap.size = b := ⟨_, rfl⟩
        rw [hbX] at kX ⊢
        rw [hW2] at hI2 kX kR hs2 ⊢
        have HI2 := Lib.hid hI2; have KX := Lib.hid kX; have KR := Lib.hid kR; have HS2 := Lib.hid hs2
        clear hW2 hbX hlo hoc IW hI2 kX kR hs2 HI HROW HS1
        obtain ⟨vo, us, kD2, hO2, hF2, hb2⟩ := HI2.out.drewR (by have := HWS.out; omega)
        have hbw := BW.out.trans hb2
        have hbe := hB.out.trans (hbw.mono hwd)
        have hE2 := HE.out.below hbe (Nat.le_refl _)
        have hV2 := HV.out.below hbe (Nat.le_refl _)
        have hK2 := hKw.out.below hbw (Nat.le_refl _)
        have hSd : W2.drew.cell? ⟨wr.heap.size, 0, none⟩ = some vo ∧ W2.drew.cell? ⟨w.heap.size, 0, none⟩ = some (.slice ad g.length c) := ⟨kD2.cell 0 _ rfl, hK2.cell 0 _ rfl⟩
        have KD2 := Lib.hid kD2; have HO2 := Lib.hid hO2; have HF2 := Lib.hid hF2; have HBW := Lib.hid hbw; have HE2 := Lib.hid hE2; have HV2 := Lib.hid hV2; have HK2 := Lib.hid hK2; have HB2 := Lib.hid hb2
        clear kD2 hO2 hF2 hbw hbe hE2 hV2 hK2 hb2
        gi_wp2_with fail
        refine wpIn_region_plain (by kernel_rfl) (by kernel_rfl) (by rintro ⟨a, w, h⟩; exact h) (wpAny_ofJ (S := fun w' => w'.cell? ⟨wr.heap.size, 0, none⟩ = some vo ∧ w'.cell? ⟨w.heap.size, 0, none⟩ = some (.slice ad g.length c)) (A := fun i => decide (i < 5)) _ _ _ _ ?_)
        show wpAnyJ _ _ _ _ _ _ 7 _ _ W2.drew
        have KXd : Hid (Blk W2.drew bX [.slice (some ⟨W.heap.size + 2, 0, none⟩) ss.length ss.length] 61) := Lib.hid KX.out; have KRd : Hid (W2.drew.ownsRow (W.heap.size + 2) 3 1 (.slice (some ⟨W.heap.size + 2, 0, none⟩) ss.length ss.length) ss.length (xl.map eI)) := Lib.hid KR.out; have HSd : Hid (W.heap.size + 2 < W2.drew.heap.size) := Lib.hid HS2.out
        have hko := Lib.hid (KeepsOthers.drew W2); have hkp := Lib.hid (KpT.drew W2)
        obtain ⟨v0, hv0⟩ : ∃ v0, W2.drew = v0 := ⟨_, rfl⟩
        rw [hv0] at KD2 HO2 HBW HE2 HV2 HK2 HB2 hSd KXd KRd HSd hko hkp ⊢
        clear hv0 KX KR HS2
        refine wpAnyJ_take (i := 0) (oi := { dst := some 52, op := .load _ (.tmp 10), type := _, pos := _, after := _, guard := _ }) (v := ?_) rfl (by kernel_rfl) (by kernel_rfl) (by kernel_rfl) (early_sat (by kernel_rfl)) (fun _ _ _ h => h) (Or.inl ⟨by rfl, ?_⟩) hSd ?_
        rotate_left
        · intro wl hSw
          obtain ⟨s0, s1⟩ := hSw
          go_simp
          with_reducible rfl
        simp only [Act.put, List.setIfInBounds_toArray, List.set_cons_zero, List.set_cons_succ]
        refine wpAnyJ_take (i := 1) (oi := { dst := some 53, op := .load _ (.tmp 1), type := _, pos := _, after := _, guard := _ }) (v := ?_) rfl (by kernel_rfl) (by kernel_rfl) (by kernel_rfl) (early_sat (by kernel_rfl)) (fun _ _ _ h => h) (Or.inl ⟨by rfl, ?_⟩) hSd ?_
        rotate_left
        · intro wl hSw
          obtain ⟨s0, s1⟩ := hSw
          go_simp
          with_reducible rfl
        simp only [Act.put, List.setIfInBounds_toArray, List.set_cons_zero, List.set_cons_succ]
        refine wpAnyJ_take (i := 2) (oi := { dst := some 54, op := _, type := _, pos := _, after := _, guard := _ }) (v := ?_) rfl (by kernel_rfl) (by kernel_rfl) (by kernel_rfl) (early_sat (by kernel_rfl)) (fun _ _ _ h => h) (Or.inl ⟨by rfl, ?_⟩) hSd ?_
        rotate_left
        · intro wl hSw
          obtain ⟨s0, s1⟩ := hSw
          go_simp
          with_reducible rfl
        simp only [Act.put, List.setIfInBounds_toArray, List.set_cons_zero, List.set_cons_succ]
        refine wpAnyJ_only (i := 3) (o := { dst := some 55, op := _, type := _, pos := _, after := _, guard := _ }) (by kernel_rfl) rfl (fun K hK => ?_)
        go_simp
        refine (each_elements _ _ (.pointer (some ⟨bX, 0, none⟩)) g (xl.map tx) HV2.out (by omega) (by rw [List.length_map, HX2.out, HGL.out]) (fun k hk hk' w' hb' => (el1_any w' bX (W.heap.size + 2) ss.length xl k (by have := HX2.out; have := HGL.out; omega) _ (KXd.out.below hb' (Nat.le_refl _)) (own_base (own_below KRd.out hb' (Nat.le_refl _)) (Nat.zero_le _)) HX6.out (HE2.out.below hb' (Nat.le_refl _))).mono ?_)).mono ?_
        · rintro e w'' ⟨v, rfl, rfl, h⟩; exact ⟨_, rfl, by simp, h⟩
        rintro e v1 ⟨u, rfl, hu, hb1⟩
        have KD3 := Lib.hid (KD2.out.below hb1 (Nat.le_refl _)); have HK3 := Lib.hid (HK2.out.below hb1 (Nat.le_refl _)); have HO3 := Lib.hid (HO2.out.below hb1 (Nat.le_refl _)); have HU := Lib.hid (own_base hu (Nat.zero_le _)); have HFU := Lib.hid (show ∀ g, u.ownBlock = some g → W.heap.size + 2 < g from fun g e => by
          rcases hu.2 with ⟨rfl, -⟩ | ⟨g', cap, cur, rfl, hb', -⟩
          · simp [Value.ownBlock] at e
          · simp [Value.ownBlock] at e; have := HSd.out; omega)
        have hko1 := Lib.hid (hko.out.trans (KeepsOthers.below hb1)); have hkp1 := Lib.hid (hkp.out.tr (KpT.below hb1 (Nat.le_refl _))); have HB3 := Lib.hid (HB2.out.trans (hb1.mono (by have := HWS.out; have := HSd.out; omega))); have HS3 := Lib.hid (Nat.lt_of_lt_of_le HSd.out hb1.size)
        clear hu hb1
        obtain ⟨ys, hys⟩ : ∃ ys, xl.map tx = ys := ⟨_, rfl⟩
        rw [hys] at HU
        have HYS := Lib.hid hys
        clear hys
        obtain ⟨ua, uc, rfl⟩ := own_form HU.out
        refine hK.out _ _ (fun _ => ⟨KD3.out.cell 0 _ rfl, HK3.out.cell 0 _ rfl⟩) ?_
        try simp only [Act.put, List.setIfInBounds_toArray, List.set_cons_zero, List.set_cons_succ]
        clear hK K
        refine wpAnyJ_only (i := 4) (o := { dst := some 56, op := _, type := _, pos := _, after := _, guard := _ }) (by kernel_rfl) rfl (fun K hK => ?_)
        go_simp
        refine hK.out _ _ (fun _ => ⟨(KD3.out.alloc _).cell 0 _ rfl, (HK3.out.alloc _).cell 0 _ rfl⟩) ?_
        try simp only [Act.put, List.setIfInBounds_toArray, List.set_cons_zero, List.set_cons_succ]
        clear hK K
        refine wpAnyJ_only (i := 5) (o := { dst := some 57, op := _, type := _, pos := _, after := _, guard := _ }) (by kernel_rfl) rfl (fun K hK => ?_)
        refine appR_step elemSl rfl (.tmp 52) (.tmp 56) rfl (by rfl) (by rfl) HO3.out HU.out HF2.out HFU.out HS3.out HB3.out (by have := HWS.out; omega) (by rw [List.length_map]; have := HPR.out; omega) (by rw [List.length_map]; have := HPR.out; unfold maxLen; omega) ?_
        intro v' v2 hO4 hF4 hB4 hs4 hko4
        obtain ⟨va, vc, rfl⟩ := own_form hO4.own
        have KD4 := Lib.hid (show Blk v2 wr.heap.size [vo] 42 from hs4 _ _ _ _ (by decide) KD3.out)
        have HO4 := Lib.hid hO4; have HF4 := Lib.hid hF4; have HB4 := Lib.hid hB4; have HKO4 := Lib.hid (hko1.out.trans hko4); have HKP4 := Lib.hid (hkp1.out.tr (fun b cs m T hT => hs4 b cs m T (by rcases hT with rfl | rfl <;> decide)))
        clear hO4 hF4 hB4 hs4 hko4
        refine hK.out _ _ (fun h => absurd h (by decide)) ?_
        try simp only [Act.put, List.setIfInBounds_toArray, List.set_cons_zero, List.set_cons_succ]
        clear hK K
        have g0 := KD4.out.free 0; have g1 := KD4.out.cell 0 _ rfl
        refine wpAnyJ_only (i := 6) (o := { dst := none, op := .store _ (.tmp 10) (.tmp 57), type := _, pos := _, after := _, guard := _ }) (by kernel_rfl) rfl (fun K hK => ?_)
        go_simp
        refine hK.out _ _ (fun h => absurd h (by decide)) ?_
        try simp only [Act.put, List.setIfInBounds_toArray, List.set_cons_zero, List.set_cons_succ]
        clear hK K
        refine wpAnyJ_done (by kernel_rfl) ?_ _
        clear g0 g1 hSd
        have e9 : (List.map (fun x : Nat × List Nat => List.map tx x.snd) pre ++ [ys]).length = pre.length + 1 := by simp
        have hO := HO4.out
        have hF := HF4.out
        have hDS := HWS.out
        have hOw := hO.own
        rw [e9] at hF hOw
        refine ⟨HKO4.out.trans (KeepsOthers.setCell _ _ _), HKP4.out.tr (KpT.set KD4.out _ _), _, us ++ [.slice ua ys.length uc], KD4.out.set 0 _, ?_, hF, HB4.out.setCell (Nat.le_refl _) _⟩
        rw [List.map_append, List.map_cons, HYS.out, List.map_nil]
        exact ⟨by rw [e9]; exact own_other hOw (fun e => by have := hF.1 _ e; omega), fun i hi hi' => own_other (hO.items i hi hi') (fun e => by have := hF.2 _ (List.getElem_mem hi) _ e; omega)⟩
      case done =>
        rintro D' ys W' hD' ⟨d, rfl⟩ hI hK
        obtain ⟨vo, us, kD2, hO2, -, hb2⟩ := hI
        have c0 := kD2.cell 0 _ rfl
        have HO2 := Lib.hid hO2; have HK := Lib.hid hK; have HB2 := Lib.hid hb2
        clear hO2 hK hb2 kD2
        gi_wp2
        have hwdd := HWS.out
        have hr : ∀ r, some D' = some r → ∃ o : Obj, W'.heap[r]? = some o ∧ o.isCells = false := fun r e => by cases e; exact ⟨_, HK.out, rfl⟩
        have hgp := grownBy_putObj' W' D' (.deferred none)
        have hO3 : ORow (W'.putObj D' (.deferred none)) 0 vo us (allL ss) := by
          have hO := HO2.out
          rw [show (upto d ss (pr ss)).map (fun x => x.2.map tx) = allL ss by simp [upto, allL]] at hO
          exact ⟨own_kept_nc hO.own hgp hr, fun i hi hi' => own_kept_nc (hO.items i hi hi') hgp hr⟩
        have hb9 := hB.out.trans ((BW.out.trans HB2.out).mono hwd)
        refine ⟨by simp, .inl ⟨_, _, rfl, run_takeDeferred HK.out, ?_⟩⟩
        exact ⟨.tuple #[vo, .int .i64 0], by simp [results, Tryz.results21, go_sem], _, rfl, vo, us, rfl, hO3,
          hb9.trans (belowK_b (w := w) (Nat.le_refl _) W' D' _ _ (by omega) HK.out rfl rfl)⟩
theorem Elements_ok (w : World) (v : Value) (g : List ByteArray) (ss : List Nat) (hv : Sl eS w v g) (hg : g = ss.map tx) (h2 : ∀ n ∈ ss, 2 ≤ n) (hgc : gchk g = 0) (hz : Goods g (ss.map fun (n : Nat) => (n : Int))) (hl : ss.length ≤ 16) (hpr : pr ss ≤ 16384) (hsz : ∀ s ∈ g, s.size ≤ 1000000) (he : Env w) :
    Calls Tryz.prog 21 #[v] w (Rets fun r w' => ∃ u us, r = .tuple #[u, .int .i64 0] ∧ ORow w' 0 u us (allL ss) ∧ Below w.heap.size w w') :=
  callsIn_wide.1 (Elements_in w v g ss hv hg h2 hgc hz hl hpr hsz he)
end Go.Proofs.YtajkhbpffakmfaaGreatDoor

namespace Go.Proofs.YtajkhbpffakmfaaGreatDoor
open Go.RowKit
set_option maxRecDepth 100000

set_option maxHeartbeats 400000 in
theorem Elements_err (w : World) (v : Value) (g : List ByteArray) (hv : Sl eS w v g) (hg : gchk g ≠ 0) (hsz : g.length ≤ 16 → ∀ s ∈ g, s.size ≤ 1000000) (he : Env w) :
    Calls Tryz.prog 21 #[v] w (Rets fun r w' => r = .tuple #[.slice none 0 0, .int .i64 (gchk g)] ∧ Below w.heap.size w w') := by
  have hne : (gchk g != 0) = true := by simp [hg]
  obtain ⟨ad, b, o, c, rfl, -, -, -, -⟩ := hv.open elemStr
  have q0 := (Below.refl w.heap.size w).alloc (Nat.le_refl _) (.cells #[.slice ad g.length c] 22)
  have HV := Lib.hid (hv.below q0 (Nat.le_refl _)); have HSZ := Lib.hid hsz; have HE := Lib.hid (he.below q0 (Nat.le_refl _)); have HQ := Lib.hid q0
  clear hv hsz he hg q0
  go_enter Tryz.func21, Tryz.ntmps21
  go_wp2_with (go_at_call 56; (with_reducible refine (ACheck_any _ _ g HV.out HSZ.out HE.out).mono ?_); rintro e w1 ⟨v, rfl, rfl, hb1⟩)
  go_ret2
  exact ⟨_, rfl, rfl, HQ.out.trans (hb1.mono HQ.out.size)⟩
set_option maxHeartbeats 800000 in
theorem Elements_big (w : World) (v : Value) (g : List ByteArray) (zs : List Int) (hv : Sl eS w v g) (hz : Goods g zs) (h2 : ∀ z ∈ zs, 2 ≤ z) (hg : gchk g = 0) (hP : 16384 < prods zs) (hd : dn (prods zs) ≤ 1024) (hsz : ∀ s ∈ g, s.size ≤ 1000000) (he : Env w) :
    Calls Tryz.prog 21 #[v] w (Rets fun r w' => r = .tuple #[.slice none 0 0, .int .i64 12] ∧ Below w.heap.size w w') := by
  obtain ⟨P, hPP⟩ : ∃ P, prods zs = P := ⟨_, rfl⟩
  have hR : resV (prods zs) = .tuple #[.string (txt P), .int .i64 0] := by rw [hPP]; rw [hPP] at hd; unfold resV; rw [big_dn hd]; rfl
  rw [hPP] at hP hd
  obtain ⟨sg, hsg, hs0⟩ : ∃ s : Int, (P - 16384).sign = s ∧ 0 < s := ⟨_, rfl, by rw [Int.sign_eq_one_of_pos (by omega)]; omega⟩
  obtain ⟨ad, b, o, c, rfl, -, -, -, -⟩ := hv.open elemStr
  have HK := Lib.hid (Blk.new w [.slice ad g.length c] 22)
  have q0 := (Below.refl w.heap.size w).alloc (Nat.le_refl _) (.cells #[.slice ad g.length c] 22)
  have HS16 := Lib.hid (fun (_ : g.length ≤ 16) => hsz)
  have HV := Lib.hid hv; have HSZ := Lib.hid hsz; have HE := Lib.hid he; have HZ := Lib.hid hz; have H2 := Lib.hid h2; have HGC := Lib.hid hg; have HR := Lib.hid hR; have HSG := Lib.hid hsg
  have HGP := Lib.hid (Good.of (big_dn hd)); have G16 : Hid (Good (txt 16384) 16384) := Lib.hid (good_tx 16384 (by omega))
  clear hv hsz he hz h2 hg hR hP hd hPP hsg
  go_enter Tryz.func21, Tryz.ntmps21
  go_wp2_with (first
    | (go_at_call 57; (with_reducible refine (aorder_any _ _ _ P 16384 HGP.out G16.out).mono ?_); rintro e w4 ⟨v, rfl, rfl, hb4⟩; rw [HSG.out]; have q4 := q3.trans (hb4.mono q3.size))
    | (go_at_call 44; (with_reducible refine (Of_any _ 16384 (by omega) (by omega) (HE.out.below q2 (Nat.le_refl _))).mono ?_); rintro e w3 ⟨v, rfl, rfl, hb3⟩; have q3 := q2.trans (hb3.mono q2.size))
    | (go_at_call 25; (with_reducible refine (Order_ok _ _ g _ (HV.out.below q1 (Nat.le_refl _)) HZ.out H2.out HGC.out HSZ.out (HE.out.below q1 (Nat.le_refl _))).mono ?_); rintro e w2 ⟨v, rfl, rfl, hb2⟩; rw [HR.out]; have q2 := q1.trans (hb2.mono q1.size))
    | (go_at_call 56; (with_reducible refine (ACheck_any _ _ g (HV.out.below q0 (Nat.le_refl _)) HS16.out (HE.out.below q0 (Nat.le_refl _))).mono ?_); rintro e w1 ⟨v, rfl, rfl, hb1⟩; rw [HGC.out]; have HK1 := Lib.hid (HK.out.below hb1 (Nat.le_refl _)); have c1 := HK1.out.cell 0 _ rfl; have q1 := q0.trans (hb1.mono q0.size)))
  go_ret2
  exact ⟨_, rfl, rfl, q4⟩

set_option maxHeartbeats 400000 in
theorem rElements_err (w : World) (v : Value) (g : List ByteArray) (hv : Sl eS w v g) (hg : gchk g ≠ 0) (hsz : g.length ≤ 16 → ∀ s ∈ g, s.size ≤ 1000000) :
    Calls Tryz.prog 22 #[v] w (Rets fun r w' => r = .tuple #[.slice none 0 0, .int .i64 (gchk g)] ∧ Below w.heap.size w w') := by
  have hne : (gchk g != 0) = true := by simp [hg]
  obtain ⟨ad, b, o, c, rfl, -, -, -, -⟩ := hv.open elemStr
  have HV := Lib.hid hv; have HSZ := Lib.hid hsz
  clear hv hsz hg
  go_enter Tryz.func22, Tryz.ntmps22
  go_wp2_with (go_at_call 15; (with_reducible refine (rACheck_any _ _ g HV.out HSZ.out).mono ?_); rintro e w1 ⟨v, rfl, rfl, hb1⟩)
  go_ret2
  exact ⟨_, rfl, rfl, hb1⟩
theorem ord_t16 (w : World) (x : Int) (hx : dn x ≤ 90000) : Calls Tryz.prog 17 #[.string (txt x), .string (txt 16384)] w (Rets fun v w' => v = .int .i64 (x - 16384).sign ∧ Below w.heap.size w w') := Order_any w x 16384 hx (by decide +kernel)
set_option maxHeartbeats 800000 in
theorem rElements_big (w : World) (v : Value) (g : List ByteArray) (zs : List Int) (hv : Sl eS w v g) (hz : g = zs.map txt) (hdz : ∀ z ∈ zs, dn z ≤ 500) (hl : zs.length ≤ 16) (hg : gchk g = 0) (hP : 16384 < prods zs) (hd : dn (prods zs) ≤ 1024) (hsz : g.length ≤ 16 → ∀ s ∈ g, s.size ≤ 1000000) :
    Calls Tryz.prog 22 #[v] w (Rets fun r w' => r = .tuple #[.slice none 0 0, .int .i64 12] ∧ Below w.heap.size w w') := by
  obtain ⟨P, hPP⟩ : ∃ P, prods zs = P := ⟨_, rfl⟩
  have HPP := Lib.hid hPP
  rw [hPP] at hP hd
  obtain ⟨sg, hsg, hs0⟩ : ∃ s : Int, (P - 16384).sign = s ∧ 0 < s := ⟨_, rfl, by rw [Int.sign_eq_one_of_pos (by omega)]; omega⟩
  obtain ⟨ad, b, o, c, rfl, -, -, -, -⟩ := hv.open elemStr
  have HV := Lib.hid hv; have HSZ := Lib.hid hsz; have HZ := Lib.hid hz; have HDZ := Lib.hid hdz; have HGC := Lib.hid hg; have HSG := Lib.hid hsg
  have q0 := Below.refl w.heap.size w
  clear hv hsz hz hdz hg hP hPP hsg
  go_enter Tryz.func22, Tryz.ntmps22
  go_wp2_with (first
    | (go_at_call 17; (with_reducible refine (ord_t16 _ P (by omega)).mono ?_); rintro e w4 ⟨v, rfl, rfl, hb4⟩; rw [HSG.out]; have q4 := q3.trans (hb4.mono q3.size))
    | (go_at_call 19; (with_reducible refine (rOf_any _ 16384 (by omega) (by omega)).mono ?_); rintro e w3 ⟨v, rfl, rfl, hb3⟩; have q3 := q2.trans (hb3.mono q2.size))
    | (go_at_call 18; (with_reducible refine (Size_any _ _ g zs (HV.out.below q1 (Nat.le_refl _)) HZ.out HDZ.out hl).mono ?_); rintro e w2 ⟨v, rfl, rfl, hb2⟩; rw [HPP.out]; have q2 := q1.trans (hb2.mono q1.size))
    | (go_at_call 15; (with_reducible refine (rACheck_any _ _ g HV.out HSZ.out).mono ?_); rintro e w1 ⟨v, rfl, rfl, hb1⟩; rw [HGC.out]; have q1 := q0.trans (hb1.mono q0.size)))
  go_ret2
  exact ⟨_, rfl, rfl, q4⟩
set_option maxHeartbeats 800000 in
theorem rElements_ok (w : World) (v : Value) (g : List ByteArray) (zs : List Int) (ss : List Nat) (hv : Sl eS w v g) (hz : g = zs.map txt) (hdz : ∀ z ∈ zs, dn z ≤ 500) (hl : zs.length ≤ 16) (hg : gchk g = 0) (hP : prods zs ≤ 16384) (hd : dn (prods zs) ≤ 1024) (hsz : g.length ≤ 16 → ∀ s ∈ g, s.size ≤ 1000000)
    (hgs : g = ss.map tx) (hp : ∀ n ∈ ss, 0 < n) (hpr : pr ss ≤ 16384) :
    Calls Tryz.prog 22 #[v] w (Rets fun r w' => ∃ u us, r = .tuple #[u, .int .i64 0] ∧ ORow w' 0 u us (allL ss) ∧ Below w.heap.size w w') := by
  obtain ⟨P, hPP⟩ : ∃ P, prods zs = P := ⟨_, rfl⟩
  have HPP := Lib.hid hPP
  rw [hPP] at hP hd
  obtain ⟨sg, hsg, hs0⟩ : ∃ s : Int, (P - 16384).sign = s ∧ s ≤ 0 := ⟨_, rfl, by
    rcases Int.lt_or_le P 16384 with h | h
    · rw [Int.sign_eq_neg_one_of_neg (by omega)]; omega
    · rw [show P - 16384 = 0 by omega]; decide⟩
  have HL := Lib.hid (show ss.length ≤ 16 by have := congrArg List.length hgs; rw [hz] at this; simp at this; omega)
  obtain ⟨ad, b, o, c, rfl, -, -, -, -⟩ := hv.open elemStr
  have HV := Lib.hid hv; have HSZ := Lib.hid hsz; have HZ := Lib.hid hz; have HDZ := Lib.hid hdz; have HGC := Lib.hid hg; have HSG := Lib.hid hsg; have HGS := Lib.hid hgs; have HP := Lib.hid hp; have HPR := Lib.hid (show pr ss ≤ 1000000 by omega)
  have q0 := Below.refl w.heap.size w
  clear hv hsz hz hdz hg hP hPP hsg hgs hp hpr
  go_enter Tryz.func22, Tryz.ntmps22
  go_wp2_with (first
    | (go_at_call 62; (with_reducible refine (rAll_any _ _ g ss (HV.out.below q4 (Nat.le_refl _)) HGS.out HP.out HL.out HPR.out).mono ?_); rintro e w5 ⟨v, rfl, us, hO, hb5⟩; have HO := Lib.hid hO; clear hO; have q5 := q4.trans (hb5.mono q4.size))
    | (go_at_call 17; (with_reducible refine (ord_t16 _ P (by omega)).mono ?_); rintro e w4 ⟨v, rfl, rfl, hb4⟩; rw [HSG.out]; have q4 := q3.trans (hb4.mono q3.size))
    | (go_at_call 19; (with_reducible refine (rOf_any _ 16384 (by omega) (by omega)).mono ?_); rintro e w3 ⟨v, rfl, rfl, hb3⟩; have q3 := q2.trans (hb3.mono q2.size))
    | (go_at_call 18; (with_reducible refine (Size_any _ _ g zs (HV.out.below q1 (Nat.le_refl _)) HZ.out HDZ.out hl).mono ?_); rintro e w2 ⟨v, rfl, rfl, hb2⟩; rw [HPP.out]; have q2 := q1.trans (hb2.mono q1.size))
    | (go_at_call 15; (with_reducible refine (rACheck_any _ _ g HV.out HSZ.out).mono ?_); rintro e w1 ⟨v, rfl, rfl, hb1⟩; rw [HGC.out]; have q1 := q0.trans (hb1.mono q0.size)))
  obtain ⟨ua, uc, rfl⟩ := own_form HO.out.own
  go_ret2
  exact ⟨_, rfl, _, us, rfl, HO.out.base (Nat.zero_le _), q5⟩
theorem ord_600 (w : World) (x : Int) (hx : dn x ≤ 90000) : Calls Tryz.prog 17 #[.string (txt x), .string ⟨#[54, 48, 48]⟩] w (Rets fun v w' => v = .int .i64 (x - 600).sign ∧ Below w.heap.size w w') := by
  rw [show (⟨#[54, 48, 48]⟩ : ByteArray) = txt 600 by decide +kernel]; exact Order_any w x 600 hx (by decide +kernel)
set_option maxHeartbeats 400000 in
theorem rTiny_any (w : World) (v : Value) (g : List ByteArray) (zs : List Int) (hv : Sl eS w v g) (hz : g = zs.map txt) (hdz : ∀ z ∈ zs, dn z ≤ 500) (hl : zs.length ≤ 16) (hd : dn (prods zs) ≤ 1024) :
    Calls Tryz.prog 16 #[v] w (Rets fun r w' => r = .bool (decide (prods zs ≤ 600)) ∧ Below w.heap.size w w') := by
  obtain ⟨P, hPP⟩ : ∃ P, prods zs = P := ⟨_, rfl⟩
  have HPP := Lib.hid hPP
  rw [hPP] at hd ⊢
  obtain ⟨sg, hsg, hs0⟩ : ∃ s : Int, (P - 600).sign = s ∧ decide (s ≤ 0) = decide (P ≤ 600) := ⟨_, rfl, by
    rw [decide_eq_decide]
    rcases Int.lt_or_le 600 P with h | h
    · rw [Int.sign_eq_one_of_pos (by omega)]; omega
    · rcases Int.lt_or_le P 600 with h' | h'
      · rw [Int.sign_eq_neg_one_of_neg (by omega)]; omega
      · rw [show P - 600 = 0 by omega]; simp; omega⟩
  obtain ⟨ad, b, o, c, rfl, -, -, -, -⟩ := hv.open elemStr
  have HV := Lib.hid hv; have HZ := Lib.hid hz; have HDZ := Lib.hid hdz; have HSG := Lib.hid hsg; have HS0 := Lib.hid hs0
  clear hv hz hdz hPP hsg hs0
  go_enter Tryz.func16, Tryz.ntmps16
  go_wp2_with (first
    | (go_at_call 17; (with_reducible refine (ord_600 _ P (by omega)).mono ?_); rintro e w4 ⟨v, rfl, rfl, hb4⟩; rw [HSG.out]; have q4 := hb2.trans (hb4.mono hb2.size))
    | (go_at_call 18; (with_reducible refine (Size_any _ _ g zs HV.out HZ.out HDZ.out hl).mono ?_); rintro e w2 ⟨v, rfl, rfl, hb2⟩; rw [HPP.out]))
  go_ret
  exact ⟨_, rfl, by rw [HS0.out]; rfl, q4⟩
theorem slForm {α : Type} {enc : α → Value} {w : World} {v : Value} {xs : List α} (h : Sl enc w v xs) : ∃ a c, v = .slice a xs.length c := by
  obtain ⟨a, b, o, c, rfl, -⟩ := h
  exact ⟨a, c, rfl⟩
set_option maxHeartbeats 1000000 in
theorem SameAll_self (w : World) (v u : Value) (vs us : List Value) (xss : List (List ByteArray)) (hv : Lst w v vs xss) (hu : Lst w u us xss) :
    Calls Tryz.prog 23 #[v, u] w (Rets fun r w' => r = .bool true ∧ Below w.heap.size w w') := by
  have HV := Lib.hid hv; have HU := Lib.hid hu
  obtain ⟨ad, b, o, c, rfl, hi, hp, -, hm⟩ := hv.sl.open elemSl
  obtain ⟨ad', b', o', c', rfl, hi', hp', -, hm'⟩ := hu.sl.open elemSl
  have hlu : us.length = vs.length := by rw [← hu.len, hv.len]
  have HLU := Lib.hid hlu
  rw [hlu] at hi' ⊢
  have HL := Lib.hid hv.len
  clear hv hu hlu
  unfold maxLen at hm hm'
  have hml : vs.length ≤ 9223372036854775807 := by have := HV.out.len2; unfold maxLen at this; omega
  go_enter Tryz.func23, Tryz.ntmps23
  go_wp2
  go_loopw [5] (fun i wr => ∃ k : Nat, k ≤ vs.length ∧ i = .int .i64 k ∧ Below w.heap.size w wr) (fun i _ => vs.length - (intOf i).toNat)
  case atStart => exact ⟨0, Nat.zero_le _, rfl, Below.refl _ _⟩
  case round =>
    obtain ⟨k, hk, rfl, hb⟩ := hrel
    by_cases hkn : k < vs.length
    · have hku : k < us.length := by rw [HLU.out]; exact hkn
      have hkx : k < xss.length := by rw [HL.out]; exact hkn
      have H1 := Lib.hid (show ∀ w', Below wr.heap.size wr w' → w'.cell? ⟨b, o + k, none⟩ = some vs[k] from fun w' hb' => hp.at (hb.trans (hb'.mono hb.size)) (Nat.le_refl _) k hkn)
      have H2 := Lib.hid (show ∀ w', Below wr.heap.size wr w' → w'.cell? ⟨b', o' + k, none⟩ = some us[k] from fun w' hb' => hp'.at (hb.trans (hb'.mono hb.size)) (Nat.le_refl _) k hku)
      have HX := Lib.hid ((HV.out.get k hkn hkx).below hb (Nat.le_refl _)); have HY := Lib.hid ((HU.out.get k hku hkx).below hb (Nat.le_refl _))
      obtain ⟨a1, ha1⟩ : ∃ a, vs[k] = a := ⟨_, rfl⟩
      obtain ⟨a2, ha2⟩ : ∃ a, us[k] = a := ⟨_, rfl⟩
      rw [ha1] at H1 HX
      rw [ha2] at H2 HY
      obtain ⟨x1, c1, rfl⟩ := slForm HX.out
      obtain ⟨x2, c2, rfl⟩ := slForm HY.out
      obtain ⟨ys, hys⟩ : ∃ ys, xss[k] = ys := ⟨_, rfl⟩
      rw [hys] at HX HY H1 H2
      clear ha1 ha2 hys
      have q1 : (0 : Int) ≤ (k : Int) := by omega
      have q2 : (k : Int) < (vs.length : Int) := by omega
      have HH := Lib.hid (held_both H1.out H2.out)
      go_wp2_with fail
      go_region_held3 (fun w' => Below wr.heap.size wr w' ∧ w'.cell? ⟨b, o + k, none⟩ = some (.slice x1 ys.length c1) ∧ w'.cell? ⟨b', o' + k, none⟩ = some (.slice x2 ys.length c2))
        (((refine HH.out _ ?_); first
          | with_reducible exact (Below.refl _ _).drew
          | with_reducible exact Below.trans (And.left (by assumption)) (Below.mono (by assumption) (Below.size (And.left (by assumption))))))
        ((go_at_call 63; (with_reducible refine (rSame_self _ _ _ ys (HX.out.below (And.left (by assumption)) (Nat.le_refl _)) (HY.out.below (And.left (by assumption)) (Nat.le_refl _))).mono ?_); rintro e w3 ⟨v, rfl, rfl, hb3⟩))
      all_goals
        have hf : Below wr.heap.size wr w3 := And.left (by assumption)
        have b3 := hb.trans (hf.mono hb.size)
        clear hf
        go_wp2
        go_roundw
        case rel => exact ⟨k + 1, by omega, by go_num, b3⟩
        case measure => simp [intOf]; omega
    · obtain rfl : k = vs.length := by omega
      go_wp2
      go_ret
      exact ⟨_, rfl, rfl, hb⟩
end Go.Proofs.YtajkhbpffakmfaaGreatDoor
