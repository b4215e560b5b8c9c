/- Plain laws for the long division. -/
import Derived.Test.YtcjcknncajinpaaDoorIC0
import Derived.Test.YtcjcknncajinpaaDoorID
namespace Go.Proofs.YtcjcknncajinpaaDoor

theorem knuth1 (q vt v2 vl top u2 ul B P U V : Nat) (hV : V = (vt*B+v2)*P+vl) (hU : U = (top*B+u2)*P+ul) (h2 : u2 < B) (hul : ul < P) (hq : q * V ≤ U) : q*vt*(B*P) < (top+1)*(B*P) := by
  subst hV hU
  have h1 : (u2+1)*P ≤ B*P := Nat.mul_le_mul_right _ h2
  grind
theorem knuth2 (g r vt v2 vl top u2 ul B P U V : Nat) (hV : V = (vt*B+v2)*P+vl) (hU : U = (top*B+u2)*P+ul) (hul : ul < P) (hgr : g * vt + r = top) (h : r * B + u2 < g * v2) : U < g * V := by
  subst hV hU hgr
  have h1 : (r * B + u2 + 1)*P ≤ g * v2 *P := Nat.mul_le_mul_right _ h
  grind
theorem knuth3 (g r vt v2 vl top u2 ul B P U V : Nat) (hV : V = (vt*B+v2)*P+vl) (hU : U = (top*B+u2)*P+ul) (hvl : vl < P) (hvt : 0 < vt) (hgr : g * vt + r = top) (hg : g < B) (h : g * v2 ≤ r * B + u2) : g * V < U + V := by
  subst hV hU hgr
  have h1 : g * v2 *P ≤ (r * B + u2)*P := Nat.mul_le_mul_right _ h
  have h2 : g * vl ≤ g * P := Nat.mul_le_mul_left _ (by omega)
  have h3 : (g+1) * P ≤ B * P := Nat.mul_le_mul_right _ hg
  have h4 : 1 * (B * P) ≤ vt * (B*P) := Nat.mul_le_mul_right _ hvt
  grind
theorem knuth4 (g r vt v2 vl top u2 ul B P U V : Nat) (hV : V = (vt*B+v2)*P+vl) (hU : U = (top*B+u2)*P+ul) (hvl : vl < P) (hv2 : v2 < B) (hgr : g * vt + r = top) (hg : g < B) (h : B ≤ r) : g * V ≤ U := by
  subst hV hU hgr
  have h1 : g * vl ≤ g * P := Nat.mul_le_mul_left _ (by omega)
  have h2 : g * ((v2 + 1) * P) ≤ g * (B * P) := Nat.mul_le_mul_left _ (Nat.mul_le_mul_right _ hv2)
  have h3 : g * (B * P) ≤ r * (B * P) := Nat.mul_le_mul_right _ (by omega)
  grind
theorem knuth5 (g r vt v2 vl un un1 u2 ul B P U V : Nat) (hV : V = (vt*B+v2)*P+vl) (hU : U = ((un * B + un1)*B+u2)*P+ul) (hvl : vl < P) (hv2 : v2 < B) (hun1 : un1 < B) (hgr : g * vt + r = un * B + un1) (hUV : U < B * V) (hg : B ≤ g) : r < B ∧ un ≤ vt := by
  have hun : un ≤ vt := by
    rcases Nat.lt_or_ge vt un with h | h
    · exfalso
      subst hV hU
      have h1 : (vt + 1) * (B * B * P) ≤ un * (B * B * P) := Nat.mul_le_mul_right _ h
      have h2 : B * ((v2 + 1) * P) ≤ B * (B * P) := Nat.mul_le_mul_left _ (Nat.mul_le_mul_right _ hv2)
      have h3 : B * (vl + 1) ≤ B * P := Nat.mul_le_mul_left _ hvl
      grind
    · exact h
  refine ⟨?_, hun⟩
  have h4 : B * vt ≤ g * vt := Nat.mul_le_mul_right _ hg
  have h5 : un * B ≤ vt * B := Nat.mul_le_mul_right _ hun
  grind

/-- One round of taking away: the digit d goes out, c' is borrowed. -/
theorem msub_step (B g : Nat) (us vs os : List Nat) (k c d c' : Nat) (ho : os.length = k) (hos : ∀ a ∈ os, a < B) (hv : val B os + g * val B (vs.take k) = val B (us.take k) + B ^ k * c)
    (hd : d < B) (hs : d + c + g * vs.getD k 0 = us.getD k 0 + B * c') :
    (os ++ [d]).length = k + 1 ∧ (∀ a ∈ os ++ [d], a < B) ∧ val B (os ++ [d]) + g * val B (vs.take (k + 1)) = val B (us.take (k + 1)) + B ^ (k + 1) * c' := by
  refine ⟨by simp [ho], ?_, ?_⟩
  · intro a ha
    rcases List.mem_append.1 ha with h | h
    · exact hos a h
    · simp at h; omega
  · rw [val_take_succ, val_take_succ, val_snoc, ho, Nat.pow_succ]
    have h1 : B ^ k * (d + c + g * vs.getD k 0) = B ^ k * (us.getD k 0 + B * c') := by rw [hs]
    grind

theorem set_mid {α : Type} (A os rs C : List α) (r d : α) : (A ++ ((os ++ (r :: rs)) ++ C)).set (A.length + os.length) d = A ++ (((os ++ [d]) ++ rs) ++ C) := by
  rw [List.set_append_right _ _ (by omega), show A.length + os.length - A.length = os.length by omega, List.append_assoc, List.set_append_right _ _ (by omega)]
  simp
theorem get_mid {α : Type} (A os rs C : List α) (r : α) : (A ++ ((os ++ (r :: rs)) ++ C))[A.length + os.length]? = some r := by
  rw [List.getElem?_append_right (by omega), show A.length + os.length - A.length = os.length by omega, List.append_assoc, List.getElem?_append_right (by omega)]
  simp

/-- What is left when a number is taken away q or q + 1 times. -/
theorem sub_end (P U V q g bw o : Nat) (hP : o < P) (hV : V ≤ P) (hq : q = U / V) (hV0 : 0 < V) (h1 : q ≤ g) (h2 : g ≤ q + 1) (h : o + g * V = U + P * bw) :
    (bw = 0 → g = q ∧ o = U % V) ∧ (bw ≠ 0 → g = q + 1 ∧ (o + V) % P = U % V) := by
  have hm := Nat.div_add_mod U V
  have hl := Nat.mod_lt U hV0
  rw [← hq] at hm
  rcases (show g = q ∨ g = q + 1 by omega) with rfl | rfl
  · have hb : bw = 0 := by
      rcases Nat.eq_zero_or_pos bw with h0 | h0
      · exact h0
      · exfalso
        have := Nat.mul_le_mul_left P h0
        rw [Nat.mul_comm g V] at h
        omega
    subst hb
    exact ⟨fun _ => ⟨rfl, by rw [Nat.mul_comm g V] at h; omega⟩, fun h => absurd rfl h⟩
  · have e : o + V = U % V + P * bw := by
      rw [Nat.add_mul, Nat.one_mul, Nat.mul_comm q V] at h; omega
    have hb : bw = 1 := by
      rcases Nat.eq_zero_or_pos bw with h0 | h0
      · subst h0; omega
      · rcases Nat.lt_or_ge 1 bw with h3 | h3
        · have := Nat.mul_le_mul_left P h3; omega
        · omega
    subst hb
    refine ⟨fun h => absurd h (by decide), fun _ => ⟨rfl, ?_⟩⟩
    rw [e, Nat.mul_one, Nat.add_mod_right, Nat.mod_eq_of_lt (by omega)]

theorem split2 (B : Nat) (l : List Nat) (m : Nat) (h : m + 2 = l.length) : val B l = (l.getD (m + 1) 0 * B + l.getD m 0) * B ^ m + val B (l.take m) := by
  have h1 := val_take_succ B l (m + 1)
  have h2 := val_take_succ B l m
  rw [show m + 1 + 1 = l.length by omega, List.take_of_length_le (Nat.le_refl _)] at h1
  rw [h1, h2, Nat.pow_succ]; grind
theorem split3 (B : Nat) (l : List Nat) (m : Nat) (h : m + 3 = l.length) : val B l = ((l.getD (m + 2) 0 * B + l.getD (m + 1) 0) * B + l.getD m 0) * B ^ m + val B (l.take m) := by
  have h1 := val_take_succ B l (m + 2)
  have h2 := val_take_succ B l (m + 1)
  have h3 := val_take_succ B l m
  rw [show m + 2 + 1 = l.length by omega, List.take_of_length_le (Nat.le_refl _)] at h1
  rw [h1, h2, h3, Nat.pow_succ, Nat.pow_succ]; grind
/-- All that the long division wants of its guess. -/
structure Guess (us vs : List Nat) (q vt v2 un u1 u2 : Nat) : Prop where
  first : q ≤ (un * 1000000000 + u1) / vt
  small : q < 1000000000
  high : ∀ g r, g * vt + r = un * 1000000000 + u1 → r * 1000000000 + u2 < g * v2 → q < g
  near : ∀ g r, g * vt + r = un * 1000000000 + u1 → g < 1000000000 → g * v2 ≤ r * 1000000000 + u2 → g ≤ q + 1
  far : ∀ g r, g * vt + r = un * 1000000000 + u1 → g < 1000000000 → 1000000000 ≤ r → g ≤ q + 1
  over : ∀ g r, g * vt + r = un * 1000000000 + u1 → 1000000000 ≤ g → r < 1000000000
theorem guess_of (us vs : List Nat) (m vt v2 un u1 u2 : Nat) (bu : ∀ a ∈ us, a < 1000000000) (bv : ∀ a ∈ vs, a < 1000000000) (hvl : m + 2 = vs.length) (hul : m + 3 = us.length)
    (hvt : vt = vs.getD (m + 1) 0) (hv2 : v2 = vs.getD m 0) (hun : un = us.getD (m + 2) 0) (hu1 : u1 = us.getD (m + 1) 0) (hu2 : u2 = us.getD m 0) (h0 : 0 < vt)
    (hlt : val 1000000000 us < 1000000000 * val 1000000000 vs) : Guess us vs (val 1000000000 us / val 1000000000 vs) vt v2 un u1 u2 := by
  have hV := split2 1000000000 vs m hvl
  have hU := split3 1000000000 us m hul
  have hvlt := val_lt 1000000000 (vs.take m) (mem_take bv)
  have hult := val_lt 1000000000 (us.take m) (mem_take bu)
  rw [List.length_take_of_le (by omega)] at hvlt hult
  have l2 : v2 < 1000000000 := by rw [hv2]; exact getD_lt bv (by omega)
  have l1 : u1 < 1000000000 := by rw [hu1]; exact getD_lt bu (by omega)
  have l0 : u2 < 1000000000 := by rw [hu2]; exact getD_lt bu (by omega)
  rw [← hvt, ← hv2] at hV
  rw [← hun, ← hu1, ← hu2] at hU
  generalize val 1000000000 (vs.take m) = vl at *
  generalize val 1000000000 (us.take m) = ul at *
  generalize (1000000000 : Nat) ^ m = P at *
  generalize val 1000000000 vs = V at *
  generalize val 1000000000 us = U at *
  have hP : 0 < P := by omega
  have hVp : 0 < V := by
    rw [hV]
    have h1 : 1 * 1000000000 ≤ vt * 1000000000 := Nat.mul_le_mul_right _ h0
    have := Nat.mul_pos (show 0 < vt * 1000000000 + v2 by omega) hP
    omega
  have hq : U / V * V ≤ U := Nat.div_mul_le_self U V
  have key : ∀ g, U < g * V → U / V < g := fun g h => (Nat.div_lt_iff_lt_mul hVp).2 h
  have key2 : ∀ g, g * V < U + V → g ≤ U / V + 1 := by
    intro g h
    rcases Nat.eq_zero_or_pos g with h0 | h0
    · rw [h0]; exact Nat.zero_le _
    · obtain ⟨k, rfl⟩ : ∃ k, g = k + 1 := ⟨g - 1, by omega⟩
      rw [Nat.add_mul, Nat.one_mul] at h
      have := (Nat.le_div_iff_mul_le hVp).2 (show k * V ≤ U by omega)
      exact Nat.succ_le_succ this
  refine ⟨?_, ?_, ?_, ?_, ?_, ?_⟩
  · have h1 := knuth1 (U / V) vt v2 vl (un * 1000000000 + u1) u2 ul 1000000000 P U V hV hU l0 hult hq
    have h2 := Nat.lt_of_mul_lt_mul_right h1
    exact (Nat.le_div_iff_mul_le h0).2 (Nat.le_of_lt_succ h2)
  · exact (Nat.div_lt_iff_lt_mul hVp).2 hlt
  · intro g r h1 h2
    exact key g (knuth2 g r vt v2 vl _ u2 ul 1000000000 P U V hV hU hult h1 h2)
  · intro g r h1 h2 h3
    exact key2 g (knuth3 g r vt v2 vl _ u2 ul 1000000000 P U V hV hU hvlt h0 h1 h2 h3)
  · intro g r h1 h2 h3
    exact key2 g (Nat.lt_of_le_of_lt (knuth4 g r vt v2 vl _ u2 ul 1000000000 P U V hV hU hvlt l2 h1 h2 h3) (Nat.lt_add_of_pos_right hVp))
  · intro g r h1 h2
    exact (knuth5 g r vt v2 vl un u1 u2 ul 1000000000 P U V hV hU hvlt l2 l1 h1 hlt h2).1
end Go.Proofs.YtcjcknncajinpaaDoor
