/- What the operations on doubles come to for rungs that are not negative: order, sum, product, quotient. No program in sight. -/
import Derived.Test.YtemlhkognjhgbaaFRound
import Derived.Test.YtemlhkognjhgbaaWMoreAll
namespace Go.Proofs.YtemlhkognjhgbaaF
open Ieee
set_option linter.unusedVariables false
set_option linter.unusedSimpArgs false

/-- the significand and the exponent of a rung -/
def sig (r : Nat) : Nat := if r < 2 ^ 52 then r else 2 ^ 52 + r % 2 ^ 52
def expo (r : Nat) : Nat := r / 2 ^ 52 - 1
theorem val_sig (r : Nat) : val r = sig r * 2 ^ expo r := by
  unfold val sig expo
  by_cases h : r < 2 ^ 52
  · rw [if_pos h, if_pos h, Nat.div_eq_of_lt h]; simp
  · rw [if_neg h, if_neg h]
theorem sig_lt (r : Nat) : sig r < 2 ^ 53 := by unfold sig; split <;> omega
theorem read_rung {r : Nat} (h : r < inf) : double.read r = .number false (sig r) ((expo r : Int) - 1074) := by
  have hs : double.signWeight = 2 ^ 63 := by decide
  have hb : double.binade = 2 ^ 52 := by decide
  have hi : double.infRung = 2047 * 2 ^ 52 := by decide
  have hl : double.leastPlace = -1074 := by decide
  unfold inf at h
  unfold Format.read
  rw [hs, hb, hi, hl]
  have e1 : r / 2 ^ 63 = 0 := Nat.div_eq_of_lt (by omega)
  have e2 : r % 2 ^ 63 = r := Nat.mod_eq_of_lt (by omega)
  simp only [e1, e2]
  unfold sig expo
  by_cases c : r < 2 ^ 52
  · rw [if_pos c, if_pos c, Nat.div_eq_of_lt c]
    simp
  · rw [if_neg c, if_neg c, if_pos h]
    simp
    omega
theorem read_inf : double.read inf = .infinity false := by decide
theorem sgn (m u : Nat) : signed false m u = ((m * 2 ^ u : Nat) : Int) := by simp [signed, Nat.shiftLeft_eq]
theorem cmpN_lt {a b : Nat} (h : a < b) : compare a b = .lt := by show compareOfLessAndEq a b = _; unfold compareOfLessAndEq; rw [if_pos h]
theorem cmpN_gt {a b : Nat} (h : b < a) : compare a b = .gt := by show compareOfLessAndEq a b = _; unfold compareOfLessAndEq; rw [if_neg (by omega), if_neg (by omega)]
theorem cmpI_lt {a b : Int} (h : a < b) : compare a b = .lt := by show compareOfLessAndEq a b = _; unfold compareOfLessAndEq; rw [if_pos h]
theorem cmpI_gt {a b : Int} (h : b < a) : compare a b = .gt := by show compareOfLessAndEq a b = _; unfold compareOfLessAndEq; rw [if_neg (by omega), if_neg (by omega)]
/-- any two places at once -/
theorem at_base (a b : Nat) : ∃ c : Nat, c = min a b ∧ (((a : Int) - 1074) - min ((a : Int) - 1074) ((b : Int) - 1074)).toNat + c = a ∧ (((b : Int) - 1074) - min ((a : Int) - 1074) ((b : Int) - 1074)).toNat + c = b ∧ min ((a : Int) - 1074) ((b : Int) - 1074) = (c : Int) - 1074 := ⟨min a b, rfl, by omega, by omega, by omega⟩
theorem order_fin {x y : Nat} (hx : x < inf) (hy : y < inf) : double.order x y = some (compare x y) := by
  unfold Format.order
  rw [read_rung hx, read_rung hy]
  simp only [Datum.order, sgn]
  obtain ⟨c, _, e1, e2, _⟩ := at_base (expo x) (expo y)
  generalize (((expo x : Int) - 1074) - min ((expo x : Int) - 1074) ((expo y : Int) - 1074)).toNat = p at *
  generalize (((expo y : Int) - 1074) - min ((expo x : Int) - 1074) ((expo y : Int) - 1074)).toNat = q at *
  have vx : val x = (sig x * 2 ^ p) * 2 ^ c := by rw [val_sig, ← e1, Nat.pow_add, Nat.mul_assoc]
  have vy : val y = (sig y * 2 ^ q) * 2 ^ c := by rw [val_sig, ← e2, Nat.pow_add, Nat.mul_assoc]
  have hc := Nat.two_pow_pos c
  congr 1
  rcases Nat.lt_trichotomy x y with h | h | h
  · have := val_lt h
    rw [vx, vy] at this
    have := Nat.lt_of_mul_lt_mul_right this
    rw [cmpN_lt h]
    exact cmpI_lt (by omega)
  · subst h
    have : sig x * 2 ^ p = sig x * 2 ^ q := Nat.eq_of_mul_eq_mul_right hc (by rw [← vx, ← vy])
    rw [this]
    simp
  · have := val_lt h
    rw [vx, vy] at this
    have := Nat.lt_of_mul_lt_mul_right this
    rw [cmpN_gt h]
    exact cmpI_gt (by omega)
/-- the order of rungs, infinity among them -/
theorem order_rung {x y : Nat} (hx : x ≤ inf) (hy : y ≤ inf) : double.order x y = some (compare x y) := by
  by_cases cx : x = inf <;> by_cases cy : y = inf
  · subst cx; subst cy; decide
  · have h : y < inf := by omega
    subst cx
    unfold Format.order
    rw [read_inf, read_rung h]
    simp only [Datum.order]
    rw [cmpN_gt h]; rfl
  · have h : x < inf := by omega
    subst cy
    unfold Format.order
    rw [read_inf, read_rung h]
    simp only [Datum.order]
    rw [cmpN_lt h]; rfl
  · exact order_fin (by omega) (by omega)

theorem Rounds.cap {P Q r0 : Nat} (up : 2 * P ≤ (val r0 + val (r0 + 1)) * Q ∧ (2 * P = (val r0 + val (r0 + 1)) * Q → r0 % 2 = 0))
    (lo : r0 = 0 ∨ ((val (r0 - 1) + val r0) * Q ≤ 2 * P ∧ ((val (r0 - 1) + val r0) * Q = 2 * P → r0 % 2 = 0))) : Rounds P Q (min r0 inf) := by
  by_cases hc1 : r0 < inf
  · have : min r0 inf = r0 := Nat.min_eq_left (Nat.le_of_lt hc1)
    rw [this]
    refine ⟨Nat.le_of_lt hc1, ?_, .inr ?_⟩
    · rcases lo with h | ⟨h, h'⟩
      · exact .inl h
      · rcases Nat.lt_or_eq_of_le h with h | h
        · exact .inr (.inl h)
        · exact .inr (.inr ⟨h, h' h⟩)
    · rcases Nat.lt_or_eq_of_le up.1 with h | h
      · exact .inl h
      · exact .inr ⟨h, up.2 h⟩
  · have : min r0 inf = inf := Nat.min_eq_right (Nat.le_of_not_lt hc1)
    rw [this]
    refine ⟨Nat.le_refl _, ?_, .inl rfl⟩
    rcases lo with h | ⟨h, h'⟩
    · have : inf ≠ 0 := by decide
      omega
    · have h1 : (val (inf - 1) + val inf) * Q ≤ (val (r0 - 1) + val r0) * Q := Nat.mul_le_mul_right _ (Nat.add_le_add (val_le (by omega)) (val_le (by omega)))
      rcases Nat.lt_or_eq_of_le (Nat.le_trans h1 h) with h | h
      · exact .inr (.inl h)
      · exact .inr (.inr ⟨h, by decide⟩)
/-- what 'nearest' comes to -/
theorem nearest_rounds (mag : Nat) (place : Int) {a b : Nat} (e : place + 1074 = (a : Int) - b) : Rounds (mag * 2 ^ a) (2 ^ b) (double.nearest false mag place) := by
  have hb : double.binade = 2 ^ 52 := by decide
  have hi : double.infRung = inf := by decide
  have hl : double.leastPlace = -1074 := by decide
  have hfb : double.fractionBits = 52 := rfl
  have hbp := Nat.two_pow_pos b
  unfold Format.nearest
  by_cases h0 : mag = 0
  · subst h0
    rw [if_pos rfl]
    simp only [Format.word, Bool.false_eq_true, if_false]
    refine ⟨Nat.zero_le _, .inl rfl, .inr (.inl ?_)⟩
    rw [val_zero, show val (0 + 1) = 1 from by decide, Nat.zero_mul]
    omega
  · rw [if_neg h0]
    rw [hb, hi, hl, hfb]
    simp only [Format.word, Bool.false_eq_true, if_false]
    rw [show ((52 : Nat) : Int) = 52 from rfl]
    obtain ⟨S, hS⟩ : ∃ S : Nat, (S : Int) = max (place + mag.log2 - 52) (-1074) + 1074 := ⟨(max (place + mag.log2 - 52) (-1074) + 1074).toNat, by omega⟩
    obtain ⟨c, hc⟩ : ∃ c : Nat, c = (place - max (place + mag.log2 - 52) (-1074)).toNat := ⟨_, rfl⟩
    obtain ⟨d, hd⟩ : ∃ d : Nat, d = (max (place + mag.log2 - 52) (-1074) - place).toNat := ⟨_, rfl⟩
    have eS : (max (place + mag.log2 - 52) (-1074) - -1074).toNat = S := by omega
    have hor : (S = 0 ∧ place + mag.log2 - 52 ≤ -1074) ∨ ((S : Int) = place + mag.log2 - 52 + 1074) := by omega
    have hrel : a + d = c + S + b := by omega
    have hcd : c = 0 ∨ d = 0 := by omega
    have hlog : (c : Int) - d + mag.log2 ≤ 52 := by omega
    have hlog2 : S = 0 ∨ (c : Int) - d + mag.log2 = 52 := by omega
    rw [eS, ← hc, ← hd, Nat.shiftLeft_eq]
    clear hS hc eS hor
    have hcut := cut_even false (mag * 2 ^ c) d
    have hm1 : mag < 2 ^ (mag.log2 + 1) := Nat.lt_log2_self
    have hm2 : 2 ^ mag.log2 ≤ mag := Nat.log2_self_le h0
    -- the exact quotient lies below 2^53, and at 2^52 or above where S is not 0
    have hup : mag * 2 ^ c < 2 ^ 53 * 2 ^ d := by
      have : mag * 2 ^ c < 2 ^ (mag.log2 + 1) * 2 ^ c := Nat.mul_lt_mul_of_pos_right hm1 (Nat.two_pow_pos c)
      rw [← Nat.pow_add] at this
      refine Nat.lt_of_lt_of_le this ?_
      rw [← Nat.pow_add]
      exact Nat.pow_le_pow_right (by omega) (by omega)
    have hlo : S = 0 ∨ 2 ^ 52 * 2 ^ d ≤ mag * 2 ^ c := by
      rcases hlog2 with h | h
      · exact .inl h
      · refine .inr ?_
        have : 2 ^ mag.log2 * 2 ^ c ≤ mag * 2 ^ c := Nat.mul_le_mul_right _ hm2
        rw [← Nat.pow_add] at this
        refine Nat.le_trans ?_ this
        rw [← Nat.pow_add]
        exact Nat.pow_le_pow_right (by omega) (by omega)
    -- it is enough over the denominator 2^d
    have hval : (mag * 2 ^ c * 2 ^ S) * 2 ^ b = (mag * 2 ^ a) * 2 ^ d := by
      rw [Nat.mul_assoc, Nat.mul_assoc, Nat.mul_assoc, ← Nat.pow_add, ← Nat.pow_add, ← Nat.pow_add, hrel, Nat.add_assoc]
    refine Rounds.congr (P := mag * 2 ^ c * 2 ^ S) (Q := 2 ^ d) (Nat.two_pow_pos d) hbp hval ?_
    have hdp := Nat.two_pow_pos d
    have hsp := Nat.two_pow_pos S
    generalize mag * 2 ^ c = n at *
    generalize hk : Toward.even.cut false n d = k at *
    generalize 2 ^ d = D at *
    simp only at hcut
    obtain ⟨k1, k2, k3, k4⟩ := hcut
    have hk53 : k ≤ 2 ^ 53 := by
      refine Decidable.byContradiction fun hh => ?_
      have : 2 * (2 ^ 53 + 1) * D ≤ 2 * k * D := Nat.mul_le_mul_right _ (by omega)
      omega
    have hk52 : S = 0 ∨ 2 ^ 52 ≤ k := by
      rcases hlo with h | h
      · exact .inl h
      · refine .inr (Decidable.byContradiction fun hh => ?_)
        have : 2 * k * D ≤ 2 * (2 ^ 52 - 1) * D := Nat.mul_le_mul_right _ (by omega)
        omega
    clear hk hval hup
    have hv := val_form (S := S) hk53 hk52
    -- the upper side, for the rung that is not held down
    have up : 2 * (n * 2 ^ S) ≤ (val (S * 2 ^ 52 + k) + val (S * 2 ^ 52 + k + 1)) * D ∧ (2 * (n * 2 ^ S) = (val (S * 2 ^ 52 + k) + val (S * 2 ^ 52 + k + 1)) * D → (S * 2 ^ 52 + k) % 2 = 0) := by
      have hu : 2 ^ S ≤ ulp (S * 2 ^ 52 + k) := by
        unfold ulp
        exact Nat.pow_le_pow_right (by omega) (by omega)
      rw [val_succ, hv]
      have e1 : (2 * n) * 2 ^ S ≤ (2 * k * D + D) * 2 ^ S := Nat.mul_le_mul_right _ k2
      have e2 : (2 * k * D + D) * 2 ^ S ≤ (k * 2 ^ S + (k * 2 ^ S + ulp (S * 2 ^ 52 + k))) * D := by
        have : (2 * k * D + D) * 2 ^ S = (k * 2 ^ S + (k * 2 ^ S + 2 ^ S)) * D := by
          rw [Nat.add_mul, Nat.add_mul, Nat.add_mul]
          have : 2 * k * D * 2 ^ S = 2 * (k * 2 ^ S * D) := by ac_rfl
          have : D * 2 ^ S = 2 ^ S * D := by ac_rfl
          omega
        rw [this]
        exact Nat.mul_le_mul_right _ (by omega)
      have e3 : 2 * (n * 2 ^ S) = 2 * n * 2 ^ S := by ac_rfl
      refine ⟨by omega, fun he => ?_⟩
      have : (2 * n) * 2 ^ S = (2 * k * D + D) * 2 ^ S := by omega
      have := Nat.eq_of_mul_eq_mul_right hsp this
      have := k4 this
      omega
    have lo : S * 2 ^ 52 + k = 0 ∨ ((val (S * 2 ^ 52 + k - 1) + val (S * 2 ^ 52 + k)) * D ≤ 2 * (n * 2 ^ S) ∧ ((val (S * 2 ^ 52 + k - 1) + val (S * 2 ^ 52 + k)) * D = 2 * (n * 2 ^ S) → (S * 2 ^ 52 + k) % 2 = 0)) := by
      by_cases hz : S * 2 ^ 52 + k = 0
      · exact .inl hz
      · refine .inr ?_
        have hs := val_succ (S * 2 ^ 52 + k - 1)
        rw [show S * 2 ^ 52 + k - 1 + 1 = S * 2 ^ 52 + k by omega] at hs
        have e3 : 2 * (n * 2 ^ S) = 2 * n * 2 ^ S := by ac_rfl
        by_cases h52 : S ≠ 0 ∧ k = 2 ^ 52
        · rcases hlo with h | h
          · omega
          · obtain ⟨_, rfl⟩ := h52
            have h5 : (2 * (2 ^ 52 * D)) * 2 ^ S ≤ (2 * n) * 2 ^ S := Nat.mul_le_mul_right _ (by omega)
            have h6 : (val (S * 2 ^ 52 + 2 ^ 52 - 1) + val (S * 2 ^ 52 + 2 ^ 52)) * D < (2 * val (S * 2 ^ 52 + 2 ^ 52)) * D := Nat.mul_lt_mul_of_pos_right (by have := ulp_pos (S * 2 ^ 52 + 2 ^ 52 - 1); omega) hdp
            have h7 : (2 * val (S * 2 ^ 52 + 2 ^ 52)) * D = (2 * (2 ^ 52 * D)) * 2 ^ S := by rw [hv]; ac_rfl
            exact ⟨by omega, by omega⟩
        · have hu : ulp (S * 2 ^ 52 + k - 1) = 2 ^ S := by
            unfold ulp
            congr 1
            omega
          have e1 : (2 * k * D) * 2 ^ S ≤ (2 * n + D) * 2 ^ S := Nat.mul_le_mul_right _ k1
          have e2 : (2 * val (S * 2 ^ 52 + k)) * D = (2 * k * D) * 2 ^ S := by rw [hv]; ac_rfl
          have e4 : (val (S * 2 ^ 52 + k - 1) + val (S * 2 ^ 52 + k)) * D + D * 2 ^ S = (2 * val (S * 2 ^ 52 + k)) * D := by
            rw [hs, hu, Nat.mul_comm D, ← Nat.add_mul]
            congr 1
            omega
          rw [Nat.add_mul] at e1
          refine ⟨by omega, fun he => ?_⟩
          have : (2 * k * D) * 2 ^ S = (2 * n + D) * 2 ^ S := by rw [Nat.add_mul]; omega
          have := k3 (Nat.eq_of_mul_eq_mul_right hsp this)
          omega
    exact Rounds.cap up lo
end Go.Proofs.YtemlhkognjhgbaaF
