/- Plain laws for the long division. The walk of integer's step of the long division. -/
import Derived.Test.YtlnhocgjgmhfgaaGreatDoorPk18
namespace Go.Proofs.YtlnhocgjgmhfgaaGreatDoor

theorem knuth1 (q vt v2 vl top u2 ul B P U V : Nat) (hV : V = (vt*B+v2)*P+vl) (hU : U = (top*B+u2)*P+ul) (h2 : u2 < B) (hul : ul < P) (hq : q * V ≤ U) : q*vt*(B*P) < (top+1)*(B*P) := by
  subst hV hU
  have h1 : (u2+1)*P ≤ B*P := Nat.mul_le_mul_right _ h2
  grind
theorem knuth2 (g r vt v2 vl top u2 ul B P U V : Nat) (hV : V = (vt*B+v2)*P+vl) (hU : U = (top*B+u2)*P+ul) (hul : ul < P) (hgr : g * vt + r = top) (h : r * B + u2 < g * v2) : U < g * V := by
  subst hV hU hgr
  have h1 : (r * B + u2 + 1)*P ≤ g * v2 *P := Nat.mul_le_mul_right _ h
  grind
theorem knuth3 (g r vt v2 vl top u2 ul B P U V : Nat) (hV : V = (vt*B+v2)*P+vl) (hU : U = (top*B+u2)*P+ul) (hvl : vl < P) (hvt : 0 < vt) (hgr : g * vt + r = top) (hg : g < B) (h : g * v2 ≤ r * B + u2) : g * V < U + V := by
  subst hV hU hgr
  have h1 : g * v2 *P ≤ (r * B + u2)*P := Nat.mul_le_mul_right _ h
  have h2 : g * vl ≤ g * P := Nat.mul_le_mul_left _ (by omega)
  have h3 : (g+1) * P ≤ B * P := Nat.mul_le_mul_right _ hg
  have h4 : 1 * (B * P) ≤ vt * (B*P) := Nat.mul_le_mul_right _ hvt
  grind
theorem knuth4 (g r vt v2 vl top u2 ul B P U V : Nat) (hV : V = (vt*B+v2)*P+vl) (hU : U = (top*B+u2)*P+ul) (hvl : vl < P) (hv2 : v2 < B) (hgr : g * vt + r = top) (hg : g < B) (h : B ≤ r) : g * V ≤ U := by
  subst hV hU hgr
  have h1 : g * vl ≤ g * P := Nat.mul_le_mul_left _ (by omega)
  have h2 : g * ((v2 + 1) * P) ≤ g * (B * P) := Nat.mul_le_mul_left _ (Nat.mul_le_mul_right _ hv2)
  have h3 : g * (B * P) ≤ r * (B * P) := Nat.mul_le_mul_right _ (by omega)
  grind
theorem knuth5 (g r vt v2 vl un un1 u2 ul B P U V : Nat) (hV : V = (vt*B+v2)*P+vl) (hU : U = ((un * B + un1)*B+u2)*P+ul) (hvl : vl < P) (hv2 : v2 < B) (hun1 : un1 < B) (hgr : g * vt + r = un * B + un1) (hUV : U < B * V) (hg : B ≤ g) : r < B ∧ un ≤ vt := by
  have hun : un ≤ vt := by
    rcases Nat.lt_or_ge vt un with h | h
    · exfalso
      subst hV hU
      have h1 : (vt + 1) * (B * B * P) ≤ un * (B * B * P) := Nat.mul_le_mul_right _ h
      have h2 : B * ((v2 + 1) * P) ≤ B * (B * P) := Nat.mul_le_mul_left _ (Nat.mul_le_mul_right _ hv2)
      have h3 : B * (vl + 1) ≤ B * P := Nat.mul_le_mul_left _ hvl
      grind
    · exact h
  refine ⟨?_, hun⟩
  have h4 : B * vt ≤ g * vt := Nat.mul_le_mul_right _ hg
  have h5 : un * B ≤ vt * B := Nat.mul_le_mul_right _ hun
  grind

/-- One round of taking away: the digit d goes out, c' is borrowed. -/
theorem msub_step (B g : Nat) (us vs os : List Nat) (k c d c' : Nat) (ho : os.length = k) (hos : ∀ a ∈ os, a < B) (hv : val B os + g * val B (vs.take k) = val B (us.take k) + B ^ k * c)
    (hd : d < B) (hs : d + c + g * vs.getD k 0 = us.getD k 0 + B * c') :
    (os ++ [d]).length = k + 1 ∧ (∀ a ∈ os ++ [d], a < B) ∧ val B (os ++ [d]) + g * val B (vs.take (k + 1)) = val B (us.take (k + 1)) + B ^ (k + 1) * c' := by
  refine ⟨by simp [ho], ?_, ?_⟩
  · intro a ha
    rcases List.mem_append.1 ha with h | h
    · exact hos a h
    · simp at h; omega
  · rw [val_take_succ, val_take_succ, val_snoc, ho, Nat.pow_succ]
    have h1 : B ^ k * (d + c + g * vs.getD k 0) = B ^ k * (us.getD k 0 + B * c') := by rw [hs]
    grind

theorem set_mid {α : Type} (A os rs C : List α) (r d : α) : (A ++ ((os ++ (r :: rs)) ++ C)).set (A.length + os.length) d = A ++ (((os ++ [d]) ++ rs) ++ C) := by
  rw [List.set_append_right _ _ (by omega), show A.length + os.length - A.length = os.length by omega, List.append_assoc, List.set_append_right _ _ (by omega)]
  simp
theorem get_mid {α : Type} (A os rs C : List α) (r : α) : (A ++ ((os ++ (r :: rs)) ++ C))[A.length + os.length]? = some r := by
  rw [List.getElem?_append_right (by omega), show A.length + os.length - A.length = os.length by omega, List.append_assoc, List.getElem?_append_right (by omega)]
  simp

/-- What is left when a number is taken away q or q + 1 times. -/
theorem sub_end (P U V q g bw o : Nat) (hP : o < P) (hV : V ≤ P) (hq : q = U / V) (hV0 : 0 < V) (h1 : q ≤ g) (h2 : g ≤ q + 1) (h : o + g * V = U + P * bw) :
    (bw = 0 → g = q ∧ o = U % V) ∧ (bw ≠ 0 → g = q + 1 ∧ (o + V) % P = U % V) := by
  have hm := Nat.div_add_mod U V
  have hl := Nat.mod_lt U hV0
  rw [← hq] at hm
  rcases (show g = q ∨ g = q + 1 by omega) with rfl | rfl
  · have hb : bw = 0 := by
      rcases Nat.eq_zero_or_pos bw with h0 | h0
      · exact h0
      · exfalso
        have := Nat.mul_le_mul_left P h0
        rw [Nat.mul_comm g V] at h
        omega
    subst hb
    exact ⟨fun _ => ⟨rfl, by rw [Nat.mul_comm g V] at h; omega⟩, fun h => absurd rfl h⟩
  · have e : o + V = U % V + P * bw := by
      rw [Nat.add_mul, Nat.one_mul, Nat.mul_comm q V] at h; omega
    have hb : bw = 1 := by
      rcases Nat.eq_zero_or_pos bw with h0 | h0
      · subst h0; omega
      · rcases Nat.lt_or_ge 1 bw with h3 | h3
        · have := Nat.mul_le_mul_left P h3; omega
        · omega
    subst hb
    refine ⟨fun h => absurd h (by decide), fun _ => ⟨rfl, ?_⟩⟩
    rw [e, Nat.mul_one, Nat.add_mod_right, Nat.mod_eq_of_lt (by omega)]

theorem split2 (B : Nat) (l : List Nat) (m : Nat) (h : m + 2 = l.length) : val B l = (l.getD (m + 1) 0 * B + l.getD m 0) * B ^ m + val B (l.take m) := by
  have h1 := val_take_succ B l (m + 1)
  have h2 := val_take_succ B l m
  rw [show m + 1 + 1 = l.length by omega, List.take_of_length_le (Nat.le_refl _)] at h1
  rw [h1, h2, Nat.pow_succ]; grind
theorem split3 (B : Nat) (l : List Nat) (m : Nat) (h : m + 3 = l.length) : val B l = ((l.getD (m + 2) 0 * B + l.getD (m + 1) 0) * B + l.getD m 0) * B ^ m + val B (l.take m) := by
  have h1 := val_take_succ B l (m + 2)
  have h2 := val_take_succ B l (m + 1)
  have h3 := val_take_succ B l m
  rw [show m + 2 + 1 = l.length by omega, List.take_of_length_le (Nat.le_refl _)] at h1
  rw [h1, h2, h3, Nat.pow_succ, Nat.pow_succ]; grind
/-- All that the long division wants of its guess. -/
structure Guess (us vs : List Nat) (q vt v2 un u1 u2 : Nat) : Prop where
  first : q ≤ (un * 1000000000 + u1) / vt
  small : q < 1000000000
  high : ∀ g r, g * vt + r = un * 1000000000 + u1 → r * 1000000000 + u2 < g * v2 → q < g
  near : ∀ g r, g * vt + r = un * 1000000000 + u1 → g < 1000000000 → g * v2 ≤ r * 1000000000 + u2 → g ≤ q + 1
  far : ∀ g r, g * vt + r = un * 1000000000 + u1 → g < 1000000000 → 1000000000 ≤ r → g ≤ q + 1
  over : ∀ g r, g * vt + r = un * 1000000000 + u1 → 1000000000 ≤ g → r < 1000000000
theorem guess_of (us vs : List Nat) (m vt v2 un u1 u2 : Nat) (bu : ∀ a ∈ us, a < 1000000000) (bv : ∀ a ∈ vs, a < 1000000000) (hvl : m + 2 = vs.length) (hul : m + 3 = us.length)
    (hvt : vt = vs.getD (m + 1) 0) (hv2 : v2 = vs.getD m 0) (hun : un = us.getD (m + 2) 0) (hu1 : u1 = us.getD (m + 1) 0) (hu2 : u2 = us.getD m 0) (h0 : 0 < vt)
    (hlt : val 1000000000 us < 1000000000 * val 1000000000 vs) : Guess us vs (val 1000000000 us / val 1000000000 vs) vt v2 un u1 u2 := by
  have hV := split2 1000000000 vs m hvl
  have hU := split3 1000000000 us m hul
  have hvlt := val_lt 1000000000 (vs.take m) (mem_take bv)
  have hult := val_lt 1000000000 (us.take m) (mem_take bu)
  rw [List.length_take_of_le (by omega)] at hvlt hult
  have l2 : v2 < 1000000000 := by rw [hv2]; exact getD_lt bv (by omega)
  have l1 : u1 < 1000000000 := by rw [hu1]; exact getD_lt bu (by omega)
  have l0 : u2 < 1000000000 := by rw [hu2]; exact getD_lt bu (by omega)
  rw [← hvt, ← hv2] at hV
  rw [← hun, ← hu1, ← hu2] at hU
  generalize val 1000000000 (vs.take m) = vl at *
  generalize val 1000000000 (us.take m) = ul at *
  generalize (1000000000 : Nat) ^ m = P at *
  generalize val 1000000000 vs = V at *
  generalize val 1000000000 us = U at *
  have hP : 0 < P := by omega
  have hVp : 0 < V := by
    rw [hV]
    have h1 : 1 * 1000000000 ≤ vt * 1000000000 := Nat.mul_le_mul_right _ h0
    have := Nat.mul_pos (show 0 < vt * 1000000000 + v2 by omega) hP
    omega
  have hq : U / V * V ≤ U := Nat.div_mul_le_self U V
  have key : ∀ g, U < g * V → U / V < g := fun g h => (Nat.div_lt_iff_lt_mul hVp).2 h
  have key2 : ∀ g, g * V < U + V → g ≤ U / V + 1 := by
    intro g h
    rcases Nat.eq_zero_or_pos g with h0 | h0
    · rw [h0]; exact Nat.zero_le _
    · obtain ⟨k, rfl⟩ : ∃ k, g = k + 1 := ⟨g - 1, by omega⟩
      rw [Nat.add_mul, Nat.one_mul] at h
      have := (Nat.le_div_iff_mul_le hVp).2 (show k * V ≤ U by omega)
      exact Nat.succ_le_succ this
  refine ⟨?_, ?_, ?_, ?_, ?_, ?_⟩
  · have h1 := knuth1 (U / V) vt v2 vl (un * 1000000000 + u1) u2 ul 1000000000 P U V hV hU l0 hult hq
    have h2 := Nat.lt_of_mul_lt_mul_right h1
    exact (Nat.le_div_iff_mul_le h0).2 (Nat.le_of_lt_succ h2)
  · exact (Nat.div_lt_iff_lt_mul hVp).2 hlt
  · intro g r h1 h2
    exact key g (knuth2 g r vt v2 vl _ u2 ul 1000000000 P U V hV hU hult h1 h2)
  · intro g r h1 h2 h3
    exact key2 g (knuth3 g r vt v2 vl _ u2 ul 1000000000 P U V hV hU hvlt h0 h1 h2 h3)
  · intro g r h1 h2 h3
    exact key2 g (Nat.lt_of_le_of_lt (knuth4 g r vt v2 vl _ u2 ul 1000000000 P U V hV hU hvlt l2 h1 h2 h3) (Nat.lt_add_of_pos_right hVp))
  · intro g r h1 h2
    exact (knuth5 g r vt v2 vl un u1 u2 ul 1000000000 P U V hV hU hvlt l2 l1 h1 hlt h2).1
end Go.Proofs.YtlnhocgjgmhfgaaGreatDoor
namespace Go.Proofs.YtlnhocgjgmhfgaaGreatDoor
open Go.RowKit
set_option maxRecDepth 100000

/-- What step leaves. -/
def Stepped (W w : World) (base N cap g : Nat) (A C : List Nat) (U V n : Nat) (v : Value) (w' : World) : Prop :=
  ∃ us' : List Nat, v = .int .u32 ((U / V : Nat) : Int) ∧ val 1000000000 us' = U % V ∧ (∀ a ∈ us', a < 1000000000) ∧ us'.length = n ∧
    w'.ownsRow base 150 1 (.slice (some ⟨g, 0, none⟩) N cap) N ((A ++ (us' ++ C)).map eU) ∧ Kg W w g w'

theorem seg_cell {w : World} {base N cap g i : Nat} {A us C : List Nat} (hown : w.ownsRow base 150 1 (.slice (some ⟨g, 0, none⟩) N cap) N ((A ++ (us ++ C)).map eU)) (h : i < us.length) :
    w.cell? ⟨g, A.length + i, none⟩ = some (.int .u32 (us.getD i 0 : Nat)) ∧ w.frozen? ⟨g, A.length + i, none⟩ = false := by
  have h1 : A.length + i < (A ++ (us ++ C)).length := by simp; omega
  refine ⟨?_, (own_get hown h1).2⟩
  rw [(own_get hown h1).1, List.getElem_append_right (by omega), List.getElem_append_left (by omega)]
  simp [eU, show i < us.length by omega]
theorem getD_out (l : List Nat) (k : Nat) (h : l.length ≤ k) : l.getD k 0 = 0 := by simp [h]
theorem own_drewN {w : World} {base e sz n : Nat} {v : Value} {xs : List Value} (h : w.ownsRow base e sz v n xs) (k : Nat) : (w.drewN k).ownsRow base e sz v n xs := h

set_option maxHeartbeats 4000000 in
theorem step_any (W w : World) (v : Value) (base N cap g cu m : Nat) (A us C vs : List Nat) (hv : Sl eU W v vs) (hb : Below W.heap.size W w) (hg : W.heap.size ≤ g)
    (hown : w.ownsRow base 150 1 (.slice (some ⟨g, 0, none⟩) N cap) N ((A ++ (us ++ C)).map eU)) (bu : ∀ a ∈ us, a < 1000000000) (bv : ∀ a ∈ vs, a < 1000000000)
    (hvl : m + 2 = vs.length) (hul : m + 3 = us.length) (hcu : us.length ≤ cu) (hcm : A.length + cu ≤ maxLen) (hm : m ≤ 1099511627776)
    (htop : 500000000 ≤ vs.getD (m + 1) 0) (hlt : val 1000000000 us < 1000000000 * val 1000000000 vs) :
    Calls Tryz.prog 178 #[.slice (some ⟨g, A.length, none⟩) (m + 3) cu, v] w (Rets (Stepped W w base N cap g A C (val 1000000000 us) (val 1000000000 vs) (m + 3))) := by
  obtain ⟨av, bl, o, c, rfl, hi, hp, hc, hcm'⟩ := hv.open elemNat
  have hkg : Kg W w g w := ⟨hb, World.grownBy.refl _ _⟩
  rw [← hvl] at hi hc ⊢
  rw [← hul] at hcu
  obtain ⟨vt, hvt⟩ : ∃ x, x = vs.getD (m + 1) 0 := ⟨_, rfl⟩
  obtain ⟨v2, hv2⟩ : ∃ x, x = vs.getD m 0 := ⟨_, rfl⟩
  obtain ⟨un, hun⟩ : ∃ x, x = us.getD (m + 2) 0 := ⟨_, rfl⟩
  obtain ⟨u1, hu1⟩ : ∃ x, x = us.getD (m + 1) 0 := ⟨_, rfl⟩
  obtain ⟨u2, hu2⟩ : ∃ x, x = us.getD m 0 := ⟨_, rfl⟩
  have cell_v : ∀ i (w : World), Below W.heap.size W w → i < m + 2 → w.cell? ⟨bl, o + i, none⟩ = some (.int .u32 (vs.getD i 0 : Nat)) := by
    intro i w hb h
    rw [hp.at hb (Nat.le_refl _) i (by omega)]
    simp [eU, show i < vs.length by omega]
  have cn := (seg_cell (i := m + 2) hown (by omega)).1
  have c1 := (seg_cell (i := m + 1) hown (by omega)).1
  have ct := cell_v (m + 1) w hb (by omega)
  rw [← hun] at cn; rw [← hu1] at c1; rw [← hvt] at ct htop
  have bt : vt < 1000000000 := by rw [hvt]; exact getD_lt bv (by omega)
  have b2 : v2 < 1000000000 := by rw [hv2]; exact getD_lt bv (by omega)
  have bn : un < 1000000000 := by rw [hun]; exact getD_lt bu (by omega)
  have b1 : u1 < 1000000000 := by rw [hu1]; exact getD_lt bu (by omega)
  have b0 : u2 < 1000000000 := by rw [hu2]; exact getD_lt bu (by omega)
  have bu' := bu
  have bv' := bv
  have BU := Lib.hid bu; clear bu
  have BV := Lib.hid bv; clear bv hv
  have HG := guess_of us vs m vt v2 un u1 u2 bu' bv' hvl hul hvt hv2 hun hu1 hu2 (by omega) hlt
  have HLT := Lib.hid hlt; clear hlt bu' bv'
  have HVT := Lib.hid hvt; have HV2 := Lib.hid hv2; have HUN := Lib.hid hun; have HU1 := Lib.hid hu1; have HU2 := Lib.hid hu2
  clear hvt hv2 hun hu1 hu2
  have CV := Lib.hid cell_v; clear cell_v
  have HVL := Lib.hid hvl; clear hvl
  have HUL := Lib.hid hul; clear hul
  unfold maxLen at hcm'
  unfold maxLen at hcm
  go_enter Tryz.func178, Tryz.ntmps178
  go_wp2
  go_quiet (fail)
  go_wp2
  go_quiet (fail)
  go_upto_block 0 with fail
  clear cn c1 ct
  have htq : (un * 1000000000 + u1) / vt ≤ 2000000000 := by
    have h1 : (un * 1000000000 + u1) / vt ≤ (un * 1000000000 + u1) / 500000000 := Nat.div_le_div_left htop (by omega)
    omega
  have hrr := Nat.mod_lt (un * 1000000000 + u1) (show 0 < vt by omega)
  have hdm := Nat.div_add_mod (un * 1000000000 + u1) vt
  have HQ : Hid ((un * 1000000000 + u1) / vt ≤ 2000000000 ∧ (un * 1000000000 + u1) % vt < vt ∧ vt * ((un * 1000000000 + u1) / vt) + (un * 1000000000 + u1) % vt = un * 1000000000 + u1) := ⟨htq, hrr, hdm⟩
  clear htq hrr hdm
  obtain ⟨q, hq⟩ : ∃ q, q = val 1000000000 us / val 1000000000 vs := ⟨_, rfl⟩
  rw [← hq] at HG
  have HQQ := Lib.hid hq; clear hq
  go_cut [7] (fun gv wr => ∃ gs : Nat, gv = .int .u64 gs ∧ q ≤ gs ∧ gs ≤ q + 1 ∧ gs < 1000000000 ∧
      wr.ownsRow base 150 1 (.slice (some ⟨g, 0, none⟩) N cap) N ((A ++ (us ++ C)).map eU) ∧ Kg W w g wr)
  case first =>
    go_wp2_with fail
    go_loopw [7, 8] (fun gv rv wr => ∃ gs r : Nat, gv = .int .u64 gs ∧ rv = .int .u64 r ∧ gs * vt + r = un * 1000000000 + u1 ∧ q ≤ gs ∧ gs ≤ 2000000000 ∧ r < 2000000000 ∧
      wr.ownsRow base 150 1 (.slice (some ⟨g, 0, none⟩) N cap) N ((A ++ (us ++ C)).map eU) ∧ Kg W w g wr) (fun gv _ _ => (intOf gv).toNat)
    case atStart =>
      exact ⟨(un * 1000000000 + u1) / vt, (un * 1000000000 + u1) % vt, congrArg (Value.int .u64) (by simp), congrArg (Value.int .u64) (by simp), by rw [Nat.mul_comm]; exact HQ.out.2.2, HG.first, HQ.out.1,
        by have := HQ.out.2.1; omega, hown, (hkg.drewN _).drewN _⟩
    case round =>
      clear hown hkg hb
      obtain ⟨gs, r, rfl, rfl, hgr, hqg, hg2, hr2, hown, hkg⟩ := hrel
      have hb := hkg.1
      have HGR := Lib.hid hgr; clear hgr
      have cv := CV.out m wr hb (by omega)
      have ct := CV.out (m + 1) wr hb (by omega)
      have c2 := (seg_cell (i := m) hown (by have := HUL.out; omega)).1
      rw [← HV2.out] at cv
      rw [← HVT.out] at ct
      rw [← HU2.out] at c2
      have hmul : gs * v2 ≤ 2000000000 * 1000000000 := Nat.mul_le_mul hg2 (by omega)
      have hm1 : (gs : Int) * (v2 : Int) ≤ 2000000000000000000 := by rw [← Int.natCast_mul]; omega
      have hm0 : 0 ≤ (gs : Int) * (v2 : Int) := by rw [← Int.natCast_mul]; omega
      clear hmul
      by_cases hr : r < 1000000000
      · have d1 : decide ((r : Int) < 1000000000) = true := by simp; omega
        by_cases hgB : gs < 1000000000
        · have d2 : decide ((1000000000 : Int) ≤ gs) = false := by simp; omega
          by_cases hgv : r * 1000000000 + u2 < gs * v2
          · have d3 : decide ((r : Int) * 1000000000 + (u2 : Int) < (gs : Int) * (v2 : Int)) = true := by rw [← Int.natCast_mul gs v2]; simp; omega
            have hlow := HG.high gs r HGR.out hgv
            go_wp2
            go_quiet (fail)
            clear d1 d2 d3 hm1 hm0 hgv
            go_wp2
            go_roundw
            case rel => exact ⟨gs - 1, r + vt, congrArg (Value.int .u64) (by omega), congrArg (Value.int .u64) (by omega), by have := HGR.out; obtain ⟨k, rfl⟩ : ∃ k, gs = k + 1 := ⟨gs - 1, by omega⟩; rw [Nat.add_mul, Nat.one_mul] at this; simp; omega, by omega, by omega, by omega, hown, hkg.drewN _⟩
            case measure => simp [intOf]; omega
          · have d3 : decide ((r : Int) * 1000000000 + (u2 : Int) < (gs : Int) * (v2 : Int)) = false := by rw [← Int.natCast_mul gs v2]; simp; omega
            have hnear := HG.near gs r HGR.out hgB (by omega)
            go_wp2
            go_quiet (fail)
            clear d1 d2 d3 hm1 hm0 hgv
            go_wp2
            go_meet
            exact ⟨gs, rfl, hqg, hnear, hgB, hown, hkg.drewN _⟩
        · have d2 : decide ((1000000000 : Int) ≤ gs) = true := by simp; omega
          have hsm := HG.small
          go_wp2
          go_quiet (fail)
          clear d1 d2 hm1 hm0
          go_wp2
          go_roundw
          case rel => exact ⟨gs - 1, r + vt, congrArg (Value.int .u64) (by omega), congrArg (Value.int .u64) (by omega), by have := HGR.out; obtain ⟨k, rfl⟩ : ∃ k, gs = k + 1 := ⟨gs - 1, by omega⟩; rw [Nat.add_mul, Nat.one_mul] at this; simp; omega, by omega, by omega, by omega, hown, hkg.drewN _⟩
          case measure => simp [intOf]; omega
      · have d1 : decide ((r : Int) < 1000000000) = false := by simp; omega
        have hgB : gs < 1000000000 := by
          rcases Nat.lt_or_ge gs 1000000000 with h | h
          · exact h
          · have := HG.over gs r HGR.out h; omega
        have hfar := HG.far gs r HGR.out hgB (by omega)
        go_wp2
        go_quiet (fail)
        clear d1 hm1 hm0
        go_wp2
        go_meet
        exact ⟨gs, rfl, hqg, hfar, hgB, hown, hkg.drewN _⟩
  case rest =>
    clear hown hkg hb
    obtain ⟨gs, rfl, hqg, hgq, hgB, hown, hkg⟩ := hcut
    have hb := hkg.1
    go_wp2_with fail
    go_loopw [9, 85] (fun bv iv wr => ∃ (k bw : Nat) (os : List Nat), k ≤ m + 3 ∧ iv = .int .i64 k ∧ bv = .int .i64 bw ∧ bw ≤ 1000000000 ∧ os.length = k ∧ (∀ a ∈ os, a < 1000000000) ∧
        val 1000000000 os + gs * val 1000000000 (vs.take k) = val 1000000000 (us.take k) + 1000000000 ^ k * bw ∧
        wr.ownsRow base 150 1 (.slice (some ⟨g, 0, none⟩) N cap) N ((A ++ ((os ++ us.drop k) ++ C)).map eU) ∧ Kg W w g wr) (fun _ iv _ => m + 3 - (intOf iv).toNat)
    case atStart => exact ⟨0, 0, [], by omega, rfl, rfl, by omega, rfl, by simp, by simp [val], hown, hkg⟩
    case round =>
      clear hown hkg hb
      obtain ⟨k, bw, os, hk, rfl, rfl, hbw, hol, hos, hv, hown, hkg⟩ := hrel
      have hb := hkg.1
      have HOL := Lib.hid hol; clear hol
      have HOS := Lib.hid hos; clear hos
      have HV := Lib.hid hv; clear hv
      by_cases hlt : k < m + 3
      · obtain ⟨uk, huk⟩ : ∃ x, x = us.getD k 0 := ⟨_, rfl⟩
        have buk : uk < 1000000000 := by rw [huk]; exact getD_lt BU.out (by omega)
        have hdr : us.drop k = us.getD k 0 :: us.drop (k + 1) := by rw [drop_eq us k (by have := HUL.out; omega)]; simp [show k < us.length by have := HUL.out; omega]
        have hkl : A.length + k < (A ++ ((os ++ us.drop k) ++ C)).length := by have := HUL.out; have := HOL.out; simp; omega
        have hgm := get_mid A os (us.drop (k + 1)) C (us.getD k 0)
        rw [HOL.out, ← hdr] at hgm
        have cu' : wr.cell? ⟨g, A.length + k, none⟩ = some (.int .u32 (uk : Nat)) := by
          rw [(own_get hown hkl).1]
          rw [List.getElem?_eq_getElem hkl] at hgm
          rw [Option.some.inj hgm, ← huk]; rfl
        have cf := (own_get hown hkl).2
        have HUK := Lib.hid huk
        have HDR := Lib.hid hdr
        clear huk hdr hgm hkl
        by_cases hlt' : k < m + 2
        · obtain ⟨vk, hvk⟩ : ∃ x, x = vs.getD k 0 := ⟨_, rfl⟩
          have bvk : vk < 1000000000 := by rw [hvk]; exact getD_lt BV.out (by omega)
          have cvk := CV.out k wr hb (by omega)
          rw [← hvk] at cvk
          have HVK := Lib.hid hvk; clear hvk
          have hmul : gs * vk ≤ 999999999 * 999999999 := Nat.mul_le_mul (by omega) (by omega)
          have hm1 : (gs : Int) * (vk : Int) ≤ 999999998000000001 := by rw [← Int.natCast_mul]; omega
          have hm0 : 0 ≤ (gs : Int) * (vk : Int) := by rw [← Int.natCast_mul]; omega
          clear hmul
          go_wp2
          go_loop [9, 11] (fun bv dv => ∃ d b : Int, bv = .int .i64 b ∧ dv = .int .i64 d ∧ d < 1000000000 ∧ -2000000000 ≤ d ∧ 0 ≤ b ∧ b ≤ 1000000002 ∧ d + bw + (gs : Int) * vk = uk + 1000000000 * b) (fun _ d => (- intOf d).toNat)
          case atStart => exact ⟨_, _, rfl, rfl, by omega, by omega, by omega, by omega, by omega⟩
          case round =>
            obtain ⟨d, b', rfl, rfl, hd1, hd2, hb1, hb2, hinv⟩ := hrel
            have HI := Lib.hid hinv; clear hinv
            by_cases hneg : d < 0
            · go_wp2
              go_round
              case rel => exact ⟨d + 1000000000, b' + 1, rfl, rfl, by omega, by omega, by omega, by have := HI.out; omega, by have := HI.out; omega⟩
              case measure => simp [intOf]; omega
            · obtain ⟨dn, rfl⟩ : ∃ n : Nat, d = n := ⟨d.toNat, by omega⟩
              obtain ⟨bn', rfl⟩ : ∃ n : Nat, b' = n := ⟨b'.toNat, by omega⟩
              have HS := Lib.hid (msub_step 1000000000 gs us vs os k bw dn bn' HOL.out HOS.out HV.out (by omega) (by rw [← HUK.out, ← HVK.out]; have := HI.out; rw [← Int.natCast_mul] at this; omega))
              have HM := Lib.hid hm1; clear hm1 hm0
              go_wp2
              go_roundw
              case rel =>
                have R := fun (u : Value) (hu : u = eU dn) => own_putK hown hkg hg (A.length + k) dn u hu
                rw [HDR.out] at R
                have e1 := set_mid A os (us.drop (k + 1)) C (us.getD k 0) dn
                rw [HOL.out] at e1
                rw [e1] at R
                exact ⟨k + 1, bn', os ++ [dn], by omega, by go_num, rfl, by have := HI.out; have := HM.out; omega, HS.out.1, HS.out.2.1, HS.out.2.2, (R _ rfl).1, (R _ rfl).2⟩
              case measure => simp [intOf]; omega
        · obtain rfl : k = m + 2 := by omega
          go_wp2
          go_loop [9, 11] (fun bv dv => ∃ d b : Int, bv = .int .i64 b ∧ dv = .int .i64 d ∧ d < 1000000000 ∧ -2000000000 ≤ d ∧ 0 ≤ b ∧ b ≤ 1000000002 ∧ d + bw = uk + 1000000000 * b) (fun _ d => (- intOf d).toNat)
          case atStart => exact ⟨_, _, rfl, rfl, by omega, by omega, by omega, by omega, by omega⟩
          case round =>
            obtain ⟨d, b', rfl, rfl, hd1, hd2, hb1, hb2, hinv⟩ := hrel
            have HI := Lib.hid hinv; clear hinv
            by_cases hneg : d < 0
            · go_wp2
              go_round
              case rel => exact ⟨d + 1000000000, b' + 1, rfl, rfl, by omega, by omega, by omega, by have := HI.out; omega, by have := HI.out; omega⟩
              case measure => simp [intOf]; omega
            · obtain ⟨dn, rfl⟩ : ∃ n : Nat, d = n := ⟨d.toNat, by omega⟩
              obtain ⟨bn', rfl⟩ : ∃ n : Nat, b' = n := ⟨b'.toNat, by omega⟩
              have HS := Lib.hid (msub_step 1000000000 gs us vs os (m + 2) bw dn bn' HOL.out HOS.out HV.out (by omega) (by rw [← HUK.out, getD_out vs (m + 2) (by have := HVL.out; omega)]; have := HI.out; omega))
              go_wp2
              go_roundw
              case rel =>
                have R := fun (u : Value) (hu : u = eU dn) => own_putK hown hkg hg (A.length + (m + 2)) dn u hu
                rw [HDR.out] at R
                have e1 := set_mid A os (us.drop (m + 3)) C (us.getD (m + 2) 0) dn
                rw [HOL.out] at e1
                rw [e1] at R
                exact ⟨m + 3, bn', os ++ [dn], by omega, by go_num, rfl, by have := HI.out; omega, HS.out.1, HS.out.2.1, HS.out.2.2, (R _ rfl).1, (R _ rfl).2⟩
              case measure => simp [intOf]; omega
      · obtain rfl : k = m + 3 := by omega
        have hVP : val 1000000000 vs ≤ 1000000000 ^ (m + 3) := by
          have h1 := val_lt 1000000000 vs BV.out
          rw [← HVL.out] at h1
          exact Nat.le_trans (Nat.le_of_lt h1) (Nat.pow_le_pow_right (by omega) (by omega))
        have hV0 : 0 < val 1000000000 vs := by
          rcases Nat.eq_zero_or_pos (val 1000000000 vs) with h | h
          · have := HLT.out; omega
          · exact h
        have hoP := val_lt 1000000000 os HOS.out
        rw [HOL.out] at hoP
        have hvv := HV.out
        rw [List.take_of_length_le (by have := HVL.out; omega), List.take_of_length_le (by have := HUL.out; omega)] at hvv
        have hend := sub_end (1000000000 ^ (m + 3)) (val 1000000000 us) (val 1000000000 vs) q gs bw (val 1000000000 os) hoP hVP HQQ.out hV0 hqg hgq hvv
        have HEND := Lib.hid hend
        have HOP := Lib.hid hoP
        clear hend hoP hvv hVP hV0
        by_cases hz : bw = 0
        · have hb0 : ((bw : Int) == 0) = true := by simp [hz]
          have HZ := Lib.hid hz; clear hz
          go_wp2
          go_ret
          refine ⟨_, rfl, os, congrArg (Value.int .u32) ?_, (HEND.out.1 HZ.out).2, HOS.out, HOL.out, ?_, hkg⟩
          · have := (HEND.out.1 HZ.out).1
            have h2 := HQQ.out
            rw [this, h2]
          · have h := hown
            rw [List.drop_of_length_le (by have := HUL.out; omega), List.append_nil] at h
            exact h
        · have hb0 : ((bw : Int) == 0) = false := by simp [hz]
          have HZ := Lib.hid hz; clear hz
          have hown2 := hown
          rw [List.drop_of_length_le (by have := HUL.out; omega), List.append_nil] at hown2
          have HB := Lib.hid hkg
          clear hown hkg hb
          go_wp2_with fail
          go_loopw [13, 131] (fun cv iv wr => ∃ (k c : Nat) (o2 : List Nat), k ≤ m + 3 ∧ iv = .int .i64 k ∧ cv = .int .u32 c ∧ c ≤ 1 ∧ o2.length = k ∧ (∀ a ∈ o2, a < 1000000000) ∧
              val 1000000000 o2 + 1000000000 ^ k * c = val 1000000000 (os.take k) + val 1000000000 (vs.take k) ∧
              wr.ownsRow base 150 1 (.slice (some ⟨g, 0, none⟩) N cap) N ((A ++ ((o2 ++ os.drop k) ++ C)).map eU) ∧ Kg W w g wr) (fun _ iv _ => m + 3 - (intOf iv).toNat)
          case atStart => exact ⟨0, 0, [], by omega, rfl, rfl, by omega, rfl, by simp, by simp [val], hown2, HB.out⟩
          case round =>
            clear hown2 HB
            obtain ⟨k, cy, o2, hk, rfl, rfl, hcy, ho2, hb2, hv2', hown, hkg⟩ := hrel
            have hb := hkg.1
            have HO2 := Lib.hid ho2; clear ho2
            have HB2 := Lib.hid hb2; clear hb2
            have HV2' := Lib.hid hv2'; clear hv2'
            by_cases hlt : k < m + 3
            · obtain ⟨ok, hok⟩ : ∃ x, x = os.getD k 0 := ⟨_, rfl⟩
              have bok : ok < 1000000000 := by rw [hok]; exact getD_lt HOS.out (by omega)
              have hdr : os.drop k = os.getD k 0 :: os.drop (k + 1) := by rw [drop_eq os k (by rw [HOL.out]; omega)]; simp [show k < os.length by rw [HOL.out]; omega]
              have hkl : A.length + k < (A ++ ((o2 ++ os.drop k) ++ C)).length := by have := HOL.out; have := HO2.out; simp; omega
              have hgm := get_mid A o2 (os.drop (k + 1)) C (os.getD k 0)
              rw [HO2.out, ← hdr] at hgm
              have cu' : wr.cell? ⟨g, A.length + k, none⟩ = some (.int .u32 (ok : Nat)) := by
                rw [(own_get hown hkl).1]
                rw [List.getElem?_eq_getElem hkl] at hgm
                rw [Option.some.inj hgm, ← hok]; rfl
              have cf := (own_get hown hkl).2
              have HOK := Lib.hid hok
              have HDR := Lib.hid hdr
              clear hok hdr hgm hkl
              by_cases hlt' : k < m + 2
              · obtain ⟨vk, hvk⟩ : ∃ x, x = vs.getD k 0 := ⟨_, rfl⟩
                have bvk : vk < 1000000000 := by rw [hvk]; exact getD_lt BV.out (by omega)
                have cvk := CV.out k wr hb (by omega)
                rw [← hvk] at cvk
                have HVK := Lib.hid hvk; clear hvk
                have HS := Lib.hid (plus_step 1000000000 os vs o2 k cy (ok + cy + vk) (by omega) HO2.out HB2.out HV2'.out (by rw [← HOK.out, ← HVK.out]))
                go_wp2
                go_roundw
                case rel =>
                  have R := fun (u : Value) (hu : u = eU ((ok + cy + vk) % 1000000000)) => own_putK hown hkg hg (A.length + k) ((ok + cy + vk) % 1000000000) u hu
                  rw [HDR.out] at R
                  have e1 := set_mid A o2 (os.drop (k + 1)) C (os.getD k 0) ((ok + cy + vk) % 1000000000)
                  rw [HO2.out] at e1
                  rw [e1] at R
                  exact ⟨k + 1, (ok + cy + vk) / 1000000000, _, by omega, by go_num, congrArg (Value.int .u32) (by omega), by omega, HS.out.1, HS.out.2.1, HS.out.2.2, (R _ (congrArg (Value.int .u32) (by omega))).1, (R _ (congrArg (Value.int .u32) (by omega))).2⟩
                case measure => simp [intOf]; omega
              · skip
                have HS := Lib.hid (plus_step 1000000000 os vs o2 k cy (ok + cy) (by omega) HO2.out HB2.out HV2'.out (by rw [← HOK.out, getD_out vs k (by have := HVL.out; omega)]; rfl))
                go_wp2
                go_roundw
                case rel =>
                  have R := fun (u : Value) (hu : u = eU ((ok + cy) % 1000000000)) => own_putK hown hkg hg (A.length + k) ((ok + cy) % 1000000000) u hu
                  rw [HDR.out] at R
                  have e1 := set_mid A o2 (os.drop (k + 1)) C (os.getD k 0) ((ok + cy) % 1000000000)
                  rw [HO2.out] at e1
                  rw [e1] at R
                  exact ⟨k + 1, (ok + cy) / 1000000000, _, by omega, by go_num, congrArg (Value.int .u32) (by omega), by omega, HS.out.1, HS.out.2.1, HS.out.2.2, (R _ (congrArg (Value.int .u32) (by omega))).1, (R _ (congrArg (Value.int .u32) (by omega))).2⟩
                case measure => simp [intOf]; omega
            · obtain rfl : k = m + 3 := by omega
              have hg1 := (HEND.out.2 HZ.out).1
              have hgp : 1 ≤ gs := by omega
              have HG1 := Lib.hid hg1; clear hg1
              go_wp2
              go_ret
              refine ⟨_, rfl, o2, congrArg (Value.int .u32) ?_, ?_, HB2.out, HO2.out, ?_, hkg⟩
              · have h1 := HG1.out
                have h2 := HQQ.out
                rw [← h2]; omega
              · have h1 := HV2'.out
                have h2 := val_lt 1000000000 o2 HB2.out
                rw [HO2.out] at h2
                rw [List.take_of_length_le (by rw [HOL.out]; omega), List.take_of_length_le (by have := HVL.out; omega)] at h1
                rw [← (HEND.out.2 HZ.out).2, ← h1, Nat.add_mul_mod_self_left, Nat.mod_eq_of_lt h2]
              · have h := hown
                rw [List.drop_of_length_le (by rw [HOL.out]; omega), List.append_nil] at h
                exact h
end Go.Proofs.YtlnhocgjgmhfgaaGreatDoor
