/- Sum, product, quotient of doubles that are not negative: each is the rung nearest to the exact result. No program in sight. -/
import Derived.Test.YtemlhkognjhgbaaFOps
namespace Go.Proofs.YtemlhkognjhgbaaF
open Ieee Go
set_option linter.unusedVariables false
set_option linter.unusedSimpArgs false

theorem inf_eq : inf = 9218868437227405312 := by decide
theorem f64d : FloatKind.f64.format = double := rfl
theorem write_num (mag : Nat) (place : Int) : double.write (.number false mag place) = double.nearest false mag place := rfl
theorem fok_of {op : BinOp} {x y r : Nat} (h : floatBits op .f64 x y = some r) : fok op x y = true ∧ fop op x y = r := by
  unfold fok fop; rw [h]; exact ⟨rfl, rfl⟩
theorem fadd {x y : Nat} (hx : x < inf) (hy : y < inf) : fok .add x y = true ∧ Rounds (val x + val y) 1 (fop .add x y) := by
  have hr : ∃ r, floatBits .add .f64 x y = some r ∧ Rounds (val x + val y) 1 r := by
    show ∃ r, double.add x y = some r ∧ _
    unfold Format.add
    rw [read_rung hx, read_rung hy]
    obtain ⟨c, _, e1, e2, e3⟩ := at_base (expo x) (expo y)
    simp only [Datum.sum, sgn, Option.map_some]
    rw [e3]
    rw [e3] at e1 e2
    generalize (((expo x : Int) - 1074) - ((c : Int) - 1074)).toNat = p at *
    generalize (((expo y : Int) - 1074) - ((c : Int) - 1074)).toNat = q at *
    have vx : val x = (sig x * 2 ^ p) * 2 ^ c := by rw [val_sig, ← e1, Nat.pow_add, Nat.mul_assoc]
    have vy : val y = (sig y * 2 ^ q) * 2 ^ c := by rw [val_sig, ← e2, Nat.pow_add, Nat.mul_assoc]
    have hneg : (if ((sig x * 2 ^ p : Nat) : Int) + ((sig y * 2 ^ q : Nat) : Int) = 0 then (false && false) else decide (((sig x * 2 ^ p : Nat) : Int) + ((sig y * 2 ^ q : Nat) : Int) < 0)) = false := by
      split
      · rfl
      · exact decide_eq_false (by omega)
    have habs : (((sig x * 2 ^ p : Nat) : Int) + ((sig y * 2 ^ q : Nat) : Int)).natAbs = sig x * 2 ^ p + sig y * 2 ^ q := by omega
    rw [hneg, habs, write_num]
    refine ⟨_, rfl, ?_⟩
    have := nearest_rounds (sig x * 2 ^ p + sig y * 2 ^ q) ((c : Int) - 1074) (a := c) (b := 0) (by omega)
    rw [vx, vy, ← Nat.add_mul]
    simpa using this
  obtain ⟨r, h1, h2⟩ := hr
  obtain ⟨h3, h4⟩ := fok_of h1
  exact ⟨h3, h4 ▸ h2⟩
theorem fmul {x y : Nat} (hx : x < inf) (hy : y < inf) : fok .mul x y = true ∧ Rounds (val x * val y) (2 ^ 1074) (fop .mul x y) := by
  have hr : ∃ r, floatBits .mul .f64 x y = some r ∧ Rounds (val x * val y) (2 ^ 1074) r := by
    show ∃ r, double.mul x y = some r ∧ _
    unfold Format.mul
    rw [read_rung hx, read_rung hy]
    simp only [Datum.product, Option.map_some, Bool.xor_self]
    rw [write_num]
    refine ⟨_, rfl, ?_⟩
    have := nearest_rounds (sig x * sig y) (((expo x : Int) - 1074) + ((expo y : Int) - 1074)) (a := expo x + expo y) (b := 1074) (by omega)
    rw [Nat.pow_add] at this
    rw [val_sig x, val_sig y]
    have e : sig x * 2 ^ expo x * (sig y * 2 ^ expo y) = sig x * sig y * (2 ^ expo x * 2 ^ expo y) := by ac_rfl
    rw [e]
    exact this
  obtain ⟨r, h1, h2⟩ := hr
  obtain ⟨h3, h4⟩ := fok_of h1
  exact ⟨h3, h4 ▸ h2⟩
theorem pow_cancel (a b : Nat) {x y : Nat} (h : x = y) : 2 ^ a * x = 2 ^ a * y := by rw [h]
/-- x / 0 -/
theorem fdiv_zero {x : Nat} (h0 : 0 < x) (hx : x < inf) : fok .quo x 0 = true ∧ fop .quo x 0 = inf := by
  have hs : sig x ≠ 0 := by
    intro e
    have := val_pos h0
    rw [val_sig, e] at this
    simp at this
  have hr : floatBits .quo .f64 x 0 = some inf := by
    show double.div x 0 = _
    unfold Format.div
    rw [read_rung hx, read_rung (show 0 < inf by decide)]
    have : sig 0 = 0 := rfl
    simp only [Datum.quotient, this, if_true, if_neg hs, Option.map_some, Bool.xor_self]
    rfl
  exact fok_of hr
theorem val_dvd {e r : Nat} (h : (e + 1) * 2 ^ 52 ≤ r) : 2 ^ e ∣ val r := by
  rw [val_sig]
  refine Nat.dvd_trans (Nat.pow_dvd_pow 2 (show e ≤ expo r from ?_)) (Nat.dvd_mul_left _ _)
  unfold expo
  omega
/-- what is left over is told by the last digit: no midpoint lies between -/
theorem sticky {D n K : Nat} (hn : 0 < n) : (K * n < D ↔ 2 * K < 2 * (D / n) + (D % n != 0).toNat) ∧ (K * n = D ↔ 2 * K = 2 * (D / n) + (D % n != 0).toNat) := by
  have hd := Nat.div_add_mod D n
  have hm := Nat.mod_lt D hn
  generalize D / n = q at *
  generalize D % n = t at *
  obtain ⟨s, hs, hs2⟩ : ∃ s, (t != 0).toNat = s ∧ ((t = 0 ∧ s = 0) ∨ (0 < t ∧ s = 1)) := by
    by_cases h : t = 0
    · exact ⟨0, by simp [h], .inl ⟨h, rfl⟩⟩
    · exact ⟨1, by simp [h], .inr ⟨by omega, rfl⟩⟩
  rw [hs]
  rcases Nat.lt_trichotomy K q with h | h | h
  · have h1 : (K + 1) * n ≤ q * n := Nat.mul_le_mul_right _ h
    rw [Nat.add_mul, Nat.one_mul] at h1
    have h2 : q * n = n * q := Nat.mul_comm _ _
    exact ⟨⟨fun _ => by omega, fun _ => by omega⟩, ⟨fun _ => by omega, fun _ => by omega⟩⟩
  · subst h
    have h2 : K * n = n * K := Nat.mul_comm _ _
    exact ⟨⟨fun _ => by omega, fun _ => by omega⟩, ⟨fun _ => by omega, fun _ => by omega⟩⟩
  · have h1 : (q + 1) * n ≤ K * n := Nat.mul_le_mul_right _ h
    rw [Nat.add_mul, Nat.one_mul] at h1
    have h2 : q * n = n * q := Nat.mul_comm _ _
    exact ⟨⟨fun _ => by omega, fun _ => by omega⟩, ⟨fun _ => by omega, fun _ => by omega⟩⟩
/-- from the quotient with its last digit to the quotient itself -/
theorem Rounds.unstick {D n a b r C : Nat} (hC : 2 ^ 53 = C) (hn : 0 < n) (hq : C ≤ D / n) (h : Rounds ((2 * (D / n) + (D % n != 0).toNat) * 2 ^ a) (2 ^ b) r) : Rounds (D * 2 ^ (a + 1)) (n * 2 ^ b) r := by
  have hb := Nat.two_pow_pos b
  have ha2 := Nat.two_pow_pos (a + 1)
  have pa : 2 ^ (a + 2) = 2 * 2 ^ (a + 1) := by rw [Nat.pow_succ 2 (a + 1)]; omega
  have pa1 : 2 ^ (a + 1) = 2 * 2 ^ a := by rw [Nat.pow_succ 2 a]; omega
  -- a midpoint that is a whole number of units
  have key : ∀ M K, M * 2 ^ b = K * 2 ^ (a + 2) → (M * 2 ^ b < 2 * ((2 * (D / n) + (D % n != 0).toNat) * 2 ^ a) ↔ M * (n * 2 ^ b) < 2 * (D * 2 ^ (a + 1))) ∧ (M * 2 ^ b = 2 * ((2 * (D / n) + (D % n != 0).toNat) * 2 ^ a) ↔ M * (n * 2 ^ b) = 2 * (D * 2 ^ (a + 1))) := by
    intro M K hM
    obtain ⟨s1, s2⟩ := sticky (D := D) (n := n) (K := K) hn
    generalize 2 * (D / n) + (D % n != 0).toNat = v at *
    have e1 : M * 2 ^ b = (2 * K) * 2 ^ (a + 1) := by rw [hM, pa]; ac_rfl
    have e2 : 2 * (v * 2 ^ a) = v * 2 ^ (a + 1) := by rw [pa1]; ac_rfl
    have e3 : M * (n * 2 ^ b) = (K * n) * (2 * 2 ^ (a + 1)) := by
      rw [Nat.mul_left_comm, hM, pa]; ac_rfl
    have e4 : 2 * (D * 2 ^ (a + 1)) = D * (2 * 2 ^ (a + 1)) := by ac_rfl
    rw [e1, e2, e3, e4, Nat.mul_lt_mul_right ha2, Nat.mul_lt_mul_right (by omega)]
    refine ⟨s1.symm, ⟨fun h => ?_, fun h => ?_⟩⟩
    · rw [s2.2 (Nat.eq_of_mul_eq_mul_right ha2 h)]
    · rw [s2.1 (Nat.eq_of_mul_eq_mul_right (by omega) h)]
  obtain ⟨h0, h1, h2⟩ := h
  by_cases ht : a + 2 ≤ b
  · have hk : ∀ M, M * 2 ^ b = (M * 2 ^ (b - (a + 2))) * 2 ^ (a + 2) := fun M => by
      rw [Nat.mul_assoc, ← Nat.pow_add, Nat.sub_add_cancel ht]
    refine ⟨h0, ?_, ?_⟩
    · rcases h1 with h | h | ⟨h, p⟩
      · exact .inl h
      · exact .inr (.inl ((key _ _ (hk _)).1.1 h))
      · exact .inr (.inr ⟨(key _ _ (hk _)).2.1 h, p⟩)
    · rcases h2 with h | h | ⟨h, p⟩
      · exact .inl h
      · refine .inr (.inl ?_)
        refine Decidable.byContradiction fun hh => ?_
        have k := key _ _ (hk (val r + val (r + 1)))
        rcases Nat.lt_or_eq_of_le (Nat.le_of_not_lt hh) with h' | h'
        · have := k.1.2 h'; omega
        · have := k.2.2 h'; omega
      · exact .inr (.inr ⟨((key _ _ (hk _)).2.1 h.symm).symm, p⟩)
  · -- the unit is a whole number of least units: 2^t
    obtain ⟨t, ht'⟩ : ∃ t, a + 1 = b + t := ⟨a + 1 - b, by omega⟩
    have hR : val ((t + 1) * 2 ^ 52 + 2 ^ 52) = 2 ^ 52 * 2 ^ (t + 1) := val_form (by omega) (.inr (by omega))
    have hRv : val ((t + 1) * 2 ^ 52 + 2 ^ 52) * 2 ^ b = C * 2 ^ (a + 1) := by
      rw [hR, ht', ← hC, Nat.mul_assoc, ← Nat.pow_add, ← Nat.pow_add, ← Nat.pow_add]
      rw [show 52 + (t + 1 + b) = 53 + (b + t) by omega]
    have hnq : D / n * n ≤ D := Nat.div_mul_le_self D n
    -- the exact quotient is no less than the number of that rung
    have hbig : val ((t + 1) * 2 ^ 52 + 2 ^ 52) * (n * 2 ^ b) ≤ D * 2 ^ (a + 1) := by
      have e1 : val ((t + 1) * 2 ^ 52 + 2 ^ 52) * (n * 2 ^ b) = (C * n) * 2 ^ (a + 1) := by
        rw [Nat.mul_left_comm, hRv]
        ac_rfl
      rw [e1]
      refine Nat.mul_le_mul_right _ (Nat.le_trans ?_ hnq)
      exact Nat.mul_le_mul_right _ hq
    have hlowdir : ∀ M, M < 2 * val ((t + 1) * 2 ^ 52 + 2 ^ 52) → M * (n * 2 ^ b) < 2 * (D * 2 ^ (a + 1)) := fun M hM => by
      have h1 : M * (n * 2 ^ b) < (2 * val ((t + 1) * 2 ^ 52 + 2 ^ 52)) * (n * 2 ^ b) := Nat.mul_lt_mul_of_pos_right hM (Nat.mul_pos hn hb)
      rw [Nat.mul_assoc] at h1
      omega
    have hdk : ∀ M, 2 ^ (t + 1) ∣ M → ∃ K, M * 2 ^ b = K * 2 ^ (a + 2) := fun M ⟨c, hc⟩ => ⟨c, by
      rw [hc, show a + 2 = (t + 1) + b by omega, Nat.pow_add 2 (t + 1) b]; ac_rfl⟩
    -- r is at that rung or above, or the last one
    have hrR : (t + 1) * 2 ^ 52 + 2 ^ 52 ≤ r ∨ (r = inf ∧ inf < (t + 1) * 2 ^ 52 + 2 ^ 52) := by
      by_cases c : (t + 1) * 2 ^ 52 + 2 ^ 52 ≤ inf
      · refine .inl ?_
        refine Rounds.le hb (P := val ((t + 1) * 2 ^ 52 + 2 ^ 52) * 2 ^ b) ?_ ((Rounds.exact c).congr (by omega) hb (by rw [Nat.mul_one])) ⟨h0, h1, h2⟩
        rw [hRv, pa1]
        have : (2 * (D / n)) * 2 ^ a ≤ (2 * (D / n) + (D % n != 0).toNat) * 2 ^ a := Nat.mul_le_mul_right _ (by omega)
        refine Nat.le_trans ?_ this
        have e : C * (2 * 2 ^ a) = (2 * C) * 2 ^ a := by rw [← Nat.mul_assoc, Nat.mul_comm C 2]
        rw [e]
        exact Nat.mul_le_mul_right _ (by omega)
      · refine .inr ⟨?_, by omega⟩
        refine Nat.le_antisymm h0 ?_
        refine Rounds.le hb (P := val inf * 2 ^ b) ?_ ((Rounds.exact (Nat.le_refl _)).congr (by omega) hb (by rw [Nat.mul_one])) ⟨h0, h1, h2⟩
        have hv := val_le (show inf ≤ (t + 1) * 2 ^ 52 + 2 ^ 52 by omega)
        refine Nat.le_trans (Nat.mul_le_mul_right _ hv) ?_
        rw [hRv, pa1]
        have : (2 * (D / n)) * 2 ^ a ≤ (2 * (D / n) + (D % n != 0).toNat) * 2 ^ a := Nat.mul_le_mul_right _ (by omega)
        refine Nat.le_trans ?_ this
        have e : C * (2 * 2 ^ a) = (2 * C) * 2 ^ a := by rw [← Nat.mul_assoc, Nat.mul_comm C 2]
        rw [e]
        exact Nat.mul_le_mul_right _ (by omega)
    have hdv : ∀ z, (t + 1) * 2 ^ 52 + 2 ^ 52 ≤ z → 2 ^ (t + 1) ∣ val z := fun z hz => by
      refine val_dvd ?_
      rw [Nat.add_mul (t + 1) 1, Nat.one_mul]
      exact hz
    refine ⟨h0, ?_, ?_⟩
    · by_cases hr0 : r = 0
      · exact .inl hr0
      have hdn : val (r - 1) < val r := val_lt (by omega)
      rcases hrR with hge | ⟨rfl, hlt⟩
      · by_cases hrr : r = (t + 1) * 2 ^ 52 + 2 ^ 52
        · exact .inr (.inl (hlowdir _ (by rw [← hrr]; omega)))
        · obtain ⟨K, hK⟩ := hdk (val (r - 1) + val r) (Nat.dvd_add (hdv _ (by omega)) (hdv _ hge))
          have k := key _ _ hK
          rcases h1 with h | h | ⟨h, p⟩
          · exact .inl h
          · exact .inr (.inl (k.1.1 h))
          · exact .inr (.inr ⟨k.2.1 h, p⟩)
      · have := val_lt hlt
        exact .inr (.inl (hlowdir _ (by omega)))
    · by_cases hri : r = inf
      · exact .inl hri
      rcases hrR with hge | ⟨h, _⟩
      · obtain ⟨K, hK⟩ := hdk (val r + val (r + 1)) (Nat.dvd_add (hdv _ hge) (hdv _ (by omega)))
        have k := key _ _ hK
        rcases h2 with h | h | ⟨h, p⟩
        · exact .inl h
        · refine .inr (.inl ?_)
          refine Decidable.byContradiction fun hh => ?_
          rcases Nat.lt_or_eq_of_le (Nat.le_of_not_lt hh) with h' | h'
          · have := k.1.2 h'; omega
          · have := k.2.2 h'; omega
        · exact .inr (.inr ⟨(k.2.1 h.symm).symm, p⟩)
      · exact absurd h hri
theorem log2_sig (r : Nat) : (sig r).log2 ≤ 52 := by
  by_cases h : sig r = 0
  · rw [h]; decide
  · have := (Nat.log2_lt h).2 (sig_lt r)
    omega
theorem fdiv {x y : Nat} (hx : x < inf) (hy : y < inf) (hx0 : 0 < x) (hy0 : 0 < y) : fok .quo x y = true ∧ Rounds (val x * 2 ^ 1074) (val y) (fop .quo x y) := by
  have sx : sig x ≠ 0 := by
    intro e
    have := val_pos hx0
    rw [val_sig, e] at this
    simp at this
  have sy : sig y ≠ 0 := by
    intro e
    have := val_pos hy0
    rw [val_sig, e] at this
    simp at this
  have hr : ∃ r, floatBits .quo .f64 x y = some r ∧ Rounds (val x * 2 ^ 1074) (val y) r := by
    show ∃ r, double.div x y = some r ∧ _
    unfold Format.div
    rw [read_rung hx, read_rung hy]
    simp only [Datum.quotient, if_neg sy, Option.map_some, Bool.xor_self]
    rw [write_num, Nat.shiftLeft_eq, show double.fractionBits = 52 from rfl]
    refine ⟨_, rfl, ?_⟩
    have hlx := log2_sig x
    generalize hmore : 52 + 2 + (sig y).log2 - (sig x).log2 = more
    have hm1 : 2 ^ (sig x).log2 ≤ sig x := Nat.log2_self_le sx
    have hm2 : sig y < 2 ^ ((sig y).log2 + 1) := Nat.lt_log2_self
    have hq : 2 ^ 53 ≤ sig x * 2 ^ more / sig y := by
      rw [Nat.le_div_iff_mul_le (by omega)]
      have h1 : 2 ^ (sig x).log2 * 2 ^ more ≤ sig x * 2 ^ more := Nat.mul_le_mul_right _ hm1
      have h2 : 2 ^ 53 * sig y ≤ 2 ^ 53 * 2 ^ ((sig y).log2 + 1) := Nat.mul_le_mul_left _ (Nat.le_of_lt hm2)
      refine Nat.le_trans h2 (Nat.le_trans ?_ h1)
      rw [← Nat.pow_add, ← Nat.pow_add]
      exact Nat.pow_le_pow_right (by omega) (by omega)
    have hn := nearest_rounds (2 * (sig x * 2 ^ more / sig y) + (sig x * 2 ^ more % sig y != 0).toNat) (((expo x : Int) - 1074) - ((expo y : Int) - 1074) - (more : Int) - 1) (a := expo x + 1074 + 1) (b := expo y + more + 2) (by omega)
    have hu := hn.unstick rfl (by omega) hq
    refine hu.congr (Nat.mul_pos (by omega) (Nat.two_pow_pos _)) (val_pos hy0) ?_
    rw [val_sig x, val_sig y]
    have e1 : 2 ^ (expo x + 1074 + 1 + 1) = 2 ^ expo x * 2 ^ 1074 * 2 ^ 2 := by rw [Nat.pow_add 2 (expo x + 1074) (1 + 1), Nat.pow_add 2 (expo x) 1074]
    have e2 : 2 ^ (expo y + more + 2) = 2 ^ expo y * 2 ^ more * 2 ^ 2 := by rw [← Nat.pow_add, ← Nat.pow_add]
    rw [e1, e2]
    generalize 2 ^ 1074 = U
    generalize 2 ^ more = V
    generalize 2 ^ expo x = X
    generalize 2 ^ expo y = Y
    generalize 2 ^ 2 = Z
    ac_rfl
  obtain ⟨r, h1, h2⟩ := hr
  obtain ⟨h3, h4⟩ := fok_of h1
  exact ⟨h3, h4 ▸ h2⟩
theorem fint {n : Int} (h : 0 ≤ n) : Rounds (n.toNat * 2 ^ 1074) 1 (floatOfInt .f64 n) := by
  have e : floatOfInt .f64 n = double.nearest false n.toNat 0 := by
    show double.write (.number (decide (n < 0)) n.natAbs 0) = _
    rw [decide_eq_false (by omega), write_num, show n.natAbs = n.toNat by omega]
  rw [e]
  have := nearest_rounds n.toNat 0 (a := 1074) (b := 0) (by omega)
  rw [Nat.pow_zero] at this
  exact this
end Go.Proofs.YtemlhkognjhgbaaF
