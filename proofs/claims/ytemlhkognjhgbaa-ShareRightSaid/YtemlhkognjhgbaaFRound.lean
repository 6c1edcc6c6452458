/- Rounding to the nearest double, told by midpoints of neighbours: existence, uniqueness, monotony. No condition. -/
import Derived.Laws.FloatArith
namespace Go.Proofs.YtemlhkognjhgbaaF
open Ieee

/-- the magnitude of a rung, in units of the least place -/
def val (r : Nat) : Nat := if r < 2 ^ 52 then r else (2 ^ 52 + r % 2 ^ 52) * 2 ^ (r / 2 ^ 52 - 1)
def ulp (r : Nat) : Nat := 2 ^ (r / 2 ^ 52 - 1)
def inf : Nat := 2047 * 2 ^ 52
theorem ulp_pos (r : Nat) : 0 < ulp r := Nat.two_pow_pos _
theorem val_succ (r : Nat) : val (r + 1) = val r + ulp r := by
  unfold val ulp
  by_cases h : r + 1 < 2 ^ 52
  · rw [if_pos h, if_pos (by omega), Nat.div_eq_of_lt (by omega)]
  · rw [if_neg h]
    by_cases h1 : r < 2 ^ 52
    · obtain rfl : r = 2 ^ 52 - 1 := by omega
      decide
    · rw [if_neg h1]
      by_cases h2 : r % 2 ^ 52 = 2 ^ 52 - 1
      · have e1 : (r + 1) / 2 ^ 52 = r / 2 ^ 52 + 1 := by omega
        have e2 : (r + 1) % 2 ^ 52 = 0 := by omega
        have e3 : r / 2 ^ 52 + 1 - 1 = (r / 2 ^ 52 - 1) + 1 := by omega
        rw [e1, e2, e3, h2, Nat.pow_succ 2 (r / 2 ^ 52 - 1)]
        generalize 2 ^ (r / 2 ^ 52 - 1) = z
        omega
      · have e1 : (r + 1) / 2 ^ 52 = r / 2 ^ 52 := by omega
        have e2 : (r + 1) % 2 ^ 52 = r % 2 ^ 52 + 1 := by omega
        rw [e1, e2, ← Nat.add_assoc, Nat.add_mul (2 ^ 52 + r % 2 ^ 52) 1, Nat.one_mul]
theorem val_lt {a b : Nat} (h : a < b) : val a < val b := by
  induction b with
  | zero => omega
  | succ b ih =>
    rw [val_succ]
    have := ulp_pos b
    by_cases c : a = b
    · subst c; omega
    · have := ih (by omega); omega
theorem val_le {a b : Nat} (h : a ≤ b) : val a ≤ val b := by
  by_cases c : a = b
  · subst c; exact Nat.le_refl _
  · exact Nat.le_of_lt (val_lt (by omega))
theorem lt_of_val {a b : Nat} (h : val a < val b) : a < b := by
  refine Decidable.byContradiction fun c => ?_
  have := val_le (show b ≤ a by omega); omega
theorem le_of_val {a b : Nat} (h : val a ≤ val b) : a ≤ b := by
  refine Decidable.byContradiction fun c => ?_
  have := val_lt (show b < a by omega); omega
theorem val_inj {a b : Nat} (h : val a = val b) : a = b := Nat.le_antisymm (le_of_val (by omega)) (le_of_val (by omega))
theorem val_zero : val 0 = 0 := by decide
theorem val_pos {a : Nat} (h : 0 < a) : 0 < val a := by have := val_lt h; rw [val_zero] at this; exact this
/-- the form of a rung: significand and exponent -/
theorem val_form {S k : Nat} (h : k ≤ 2 ^ 53) (h2 : S = 0 ∨ 2 ^ 52 ≤ k) : val (S * 2 ^ 52 + k) = k * 2 ^ S := by
  unfold val
  by_cases c : S * 2 ^ 52 + k < 2 ^ 52
  · rw [if_pos c]
    obtain rfl : S = 0 := by omega
    simp
  · rw [if_neg c]
    by_cases c1 : k = 2 ^ 53
    · subst c1
      have e1 : (S * 2 ^ 52 + 2 ^ 53) / 2 ^ 52 - 1 = S + 1 := by omega
      have e2 : (S * 2 ^ 52 + 2 ^ 53) % 2 ^ 52 = 0 := by omega
      rw [e1, e2, Nat.pow_succ 2 S]
      generalize 2 ^ S = z
      omega
    · have e1 : (S * 2 ^ 52 + k) / 2 ^ 52 - 1 = S := by omega
      have e2 : (S * 2 ^ 52 + k) % 2 ^ 52 = k - 2 ^ 52 := by omega
      rw [e1, e2, show 2 ^ 52 + (k - 2 ^ 52) = k by omega]

/-- r is the rung nearest to P / Q -/
def Rounds (P Q r : Nat) : Prop :=
  r ≤ inf ∧ (r = 0 ∨ (val (r - 1) + val r) * Q < 2 * P ∨ ((val (r - 1) + val r) * Q = 2 * P ∧ r % 2 = 0))
    ∧ (r = inf ∨ 2 * P < (val r + val (r + 1)) * Q ∨ (2 * P = (val r + val (r + 1)) * Q ∧ r % 2 = 0))
theorem Rounds.congr {P Q P' Q' r : Nat} (hQ : 0 < Q) (hQ' : 0 < Q') (e : P * Q' = P' * Q) (h : Rounds P Q r) : Rounds P' Q' r := by
  have lt1 : ∀ X, X * Q < 2 * P → X * Q' < 2 * P' := fun X hX => by
    refine Nat.lt_of_mul_lt_mul_left (a := Q) ?_
    calc Q * (X * Q') = (X * Q) * Q' := by ac_rfl
      _ < (2 * P) * Q' := Nat.mul_lt_mul_of_pos_right hX hQ'
      _ = Q * (2 * P') := by rw [Nat.mul_assoc, e]; ac_rfl
  have lt2 : ∀ X, 2 * P < X * Q → 2 * P' < X * Q' := fun X hX => by
    refine Nat.lt_of_mul_lt_mul_left (a := Q) ?_
    calc Q * (2 * P') = (2 * P) * Q' := by rw [Nat.mul_assoc, e]; ac_rfl
      _ < (X * Q) * Q' := Nat.mul_lt_mul_of_pos_right hX hQ'
      _ = Q * (X * Q') := by ac_rfl
  have eq1 : ∀ X, X * Q = 2 * P → X * Q' = 2 * P' := fun X hX => by
    refine Nat.eq_of_mul_eq_mul_left hQ ?_
    calc Q * (X * Q') = (X * Q) * Q' := by ac_rfl
      _ = (2 * P) * Q' := by rw [hX]
      _ = Q * (2 * P') := by rw [Nat.mul_assoc, e]; ac_rfl
  obtain ⟨h0, h1, h2⟩ := h
  refine ⟨h0, ?_, ?_⟩
  · rcases h1 with h | h | ⟨h, p⟩
    · exact .inl h
    · exact .inr (.inl (lt1 _ h))
    · exact .inr (.inr ⟨eq1 _ h, p⟩)
  · rcases h2 with h | h | ⟨h, p⟩
    · exact .inl h
    · exact .inr (.inl (lt2 _ h))
    · exact .inr (.inr ⟨(eq1 _ h.symm).symm, p⟩)
/-- rounding is monotone -/
theorem Rounds.le {P P' Q r r' : Nat} (hQ : 0 < Q) (e : P ≤ P') (h : Rounds P Q r) (h' : Rounds P' Q r') : r ≤ r' := by
  refine Decidable.byContradiction fun c => ?_
  obtain ⟨h0, h1, h2⟩ := h
  obtain ⟨h0', h1', h2'⟩ := h'
  have a1 : (val (r - 1) + val r) * Q ≤ 2 * P ∧ ((val (r - 1) + val r) * Q = 2 * P → r % 2 = 0) := by
    rcases h1 with h | h | ⟨h, p⟩
    · omega
    · exact ⟨by omega, by omega⟩
    · exact ⟨by omega, fun _ => p⟩
  have a2 : 2 * P' ≤ (val r' + val (r' + 1)) * Q ∧ (2 * P' = (val r' + val (r' + 1)) * Q → r' % 2 = 0) := by
    rcases h2' with h | h | ⟨h, p⟩
    · omega
    · exact ⟨by omega, by omega⟩
    · exact ⟨by omega, fun _ => p⟩
  by_cases d : r = r' + 1
  · subst d
    rw [show r' + 1 - 1 = r' by omega] at a1
    have := a1.2 (by omega)
    have := a2.2 (by omega)
    omega
  · have h3 := val_lt (show r' < r - 1 by omega)
    have h4 := val_le (show r' + 1 ≤ r by omega)
    have : (val r' + val (r' + 1)) * Q < (val (r - 1) + val r) * Q := Nat.mul_lt_mul_of_pos_right (by omega) hQ
    omega
theorem Rounds.unique {P Q r r' : Nat} (hQ : 0 < Q) (h : Rounds P Q r) (h' : Rounds P Q r') : r = r' :=
  Nat.le_antisymm (h.le hQ (Nat.le_refl _) h') (h'.le hQ (Nat.le_refl _) h)
theorem Rounds.exact {r : Nat} (h : r ≤ inf) : Rounds (val r) 1 r := by
  refine ⟨h, ?_, ?_⟩
  · by_cases c : r = 0
    · exact .inl c
    · have := val_lt (show r - 1 < r by omega)
      exact .inr (.inl (by omega))
  · have := val_lt (show r < r + 1 by omega)
    exact .inr (.inl (by omega))

/-- the cut to the nearest, ties to the even -/
theorem cut_even (neg : Bool) (n drop : Nat) : let k := Toward.even.cut neg n drop; 2 * k * 2 ^ drop ≤ 2 * n + 2 ^ drop ∧ 2 * n ≤ 2 * k * 2 ^ drop + 2 ^ drop ∧ (2 * k * 2 ^ drop = 2 * n + 2 ^ drop → k % 2 = 0) ∧ (2 * n = 2 * k * 2 ^ drop + 2 ^ drop → k % 2 = 0) := by
  intro k
  by_cases c : drop ≤ n.log2 + 2
  · have ek : k = n / 2 ^ drop + (decide (2 ^ drop < 2 * (n % 2 ^ drop)) || (2 ^ drop == 2 * (n % 2 ^ drop) && (n / 2 ^ drop) % 2 == 1)).toNat := by
      show Toward.cut .even neg n drop = _
      unfold Toward.cut
      simp only [Nat.shiftLeft_eq, Nat.one_mul, Nat.min_eq_left c]
    have hg := Nat.two_pow_pos drop
    have hd := Nat.div_add_mod n (2 ^ drop)
    have hm := Nat.mod_lt n hg
    clear_value k
    generalize 2 ^ drop = g at *
    generalize n % g = t at *
    generalize hq : n / g = q at *
    by_cases c1 : g < 2 * t
    · simp only [c1, decide_true, Bool.true_or, Bool.toNat_true] at ek
      subst ek
      have : 2 * (q + 1) * g = 2 * (g * q) + 2 * g := by rw [Nat.mul_comm g q, Nat.mul_assoc, Nat.add_mul, Nat.one_mul]; omega
      refine ⟨by omega, by omega, by omega, by omega⟩
    · by_cases c2 : g = 2 * t
      · by_cases c3 : q % 2 = 1
        · have : (decide (g < 2 * t) || (g == 2 * t && q % 2 == 1)) = true := by simp [c2, c3]
          rw [this] at ek
          simp only [Bool.toNat_true] at ek
          subst ek
          have : 2 * (q + 1) * g = 2 * (g * q) + 2 * g := by rw [Nat.mul_comm g q, Nat.mul_assoc, Nat.add_mul, Nat.one_mul]; omega
          refine ⟨by omega, by omega, by omega, by omega⟩
        · have : (decide (g < 2 * t) || (g == 2 * t && q % 2 == 1)) = false := by simp [c1, c3]
          rw [this] at ek
          simp only [Bool.toNat_false, Nat.add_zero] at ek
          subst ek
          have : 2 * k * g = 2 * (g * k) := by rw [Nat.mul_comm g k, Nat.mul_assoc]
          refine ⟨by omega, by omega, by omega, by omega⟩
      · have : (decide (g < 2 * t) || (g == 2 * t && q % 2 == 1)) = false := by simp [c1, c2]
        rw [this] at ek
        simp only [Bool.toNat_false, Nat.add_zero] at ek
        subst ek
        have : 2 * k * g = 2 * (g * k) := by rw [Nat.mul_comm g k, Nat.mul_assoc]
        refine ⟨by omega, by omega, by omega, by omega⟩
  · have hn : n < 2 ^ (n.log2 + 1) := Nat.lt_log2_self
    have hn2 : 2 ^ (n.log2 + 2) = 2 * 2 ^ (n.log2 + 1) := by rw [Nat.pow_succ 2 (n.log2 + 1)]; omega
    have hd2 : 2 ^ (n.log2 + 2) ≤ 2 ^ drop := Nat.pow_le_pow_right (by omega) (by omega)
    have ek : k = 0 := by
      show Toward.cut .even neg n drop = _
      unfold Toward.cut
      simp only [Nat.shiftLeft_eq, Nat.one_mul, Nat.min_eq_right (show n.log2 + 2 ≤ drop by omega)]
      rw [Nat.div_eq_of_lt (by omega), Nat.mod_eq_of_lt (by omega)]
      have h1 : ¬ (2 ^ (n.log2 + 2) < 2 * n) := by omega
      have h2 : ¬ (2 ^ (n.log2 + 2) = 2 * n) := by omega
      simp [h1]
    rw [ek]
    refine ⟨by omega, by omega, by omega, by omega⟩
end Go.Proofs.YtemlhkognjhgbaaF
