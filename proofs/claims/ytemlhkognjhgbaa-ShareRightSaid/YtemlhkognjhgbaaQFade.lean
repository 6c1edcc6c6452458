/- Fading: half by half, or at once by the exponent; both sides come to the same halvings. No program in sight. -/
import Derived.Test.YtemlhkognjhgbaaQClean
import Derived.Test.YtemlhkognjhgbaaPAllx13
import Derived.Test.YtemlhkognjhgbaaPAllx22
import Derived.Laws.BitsLemmas
namespace Go.Proofs.Ytemlhkognjhgbaa.PAll
open Go Go.RowKit Go.Proofs.YtemlhkognjhgbaaF Go.Proofs.YtemlhkognjhgbaaW.PrintWords Go.Proofs.YtemlhkognjhgbaaW.PrintLast Go.Proofs.YtemlhkognjhgbaaW.PrintMore
set_option linter.unusedVariables false
set_option linter.unusedSimpArgs false
theorem widF {x : Int} (h0 : -4611686018427387905 ≤ x) (h : x ≤ 4611686018427387905) : wrap64 x = x := by unfold wrap64; omega
theorem pow2F {a b c : Nat} (h : a + b = c) : 2 ^ a * 2 ^ b = 2 ^ c := by subst h; rw [Nat.pow_add]
/-! ### one halving -/
theorem half_is : (4602678819172646912 : Nat) = 1021 * 2 ^ 52 + 2 ^ 52 := by decide
theorem two_is : (4611686018427387904 : Nat) = 1023 * 2 ^ 52 + 2 ^ 52 := by decide
theorem one_is : (4607182418800017408 : Nat) = 1022 * 2 ^ 52 + 2 ^ 52 := by decide
theorem up_is : (4841369599423283200 : Nat) = 1074 * 2 ^ 52 + 2 ^ 52 := by decide
theorem val_half : val 4602678819172646912 = 2 ^ 1073 := by
  rw [half_is]
  exact (val_form (S := 1021) (k := 2 ^ 52) (by omega) (.inr (by omega))).trans (pow2F (a := 52) (b := 1021) (c := 1073) rfl)
theorem val_twoF : val 4611686018427387904 = 2 ^ 1075 := by
  rw [two_is]
  exact (val_form (S := 1023) (k := 2 ^ 52) (by omega) (.inr (by omega))).trans (pow2F (a := 52) (b := 1023) (c := 1075) rfl)
theorem val_oneF : val 4607182418800017408 = 2 ^ 1074 := by
  rw [one_is]
  exact (val_form (S := 1022) (k := 2 ^ 52) (by omega) (.inr (by omega))).trans (pow2F (a := 52) (b := 1022) (c := 1074) rfl)
theorem val_upF : val 4841369599423283200 = 2 ^ 52 * 2 ^ 1074 := by
  rw [up_is]
  have h := val_form (S := 1074) (k := 2 ^ 52) (by omega) (.inr (by omega))
  exact h
def hv (x : Nat) : Nat := fop .mul x 4602678819172646912
theorem half_alg (x U V : Nat) (h : V = 2 * U) : x * U * 2 = x * V := by rw [h, Nat.mul_assoc, Nat.mul_comm U 2]
theorem two_powF {a b : Nat} (h : a + 1 = b) : 2 ^ b = 2 * 2 ^ a := by subst h; rw [Nat.pow_succ, Nat.mul_comm]
theorem hv_r {x : Nat} (hx : x < inf) : fok .mul x 4602678819172646912 = true ∧ Rounds (val x) 2 (hv x) := by
  obtain ⟨h1, h2⟩ := fmul hx (y := 4602678819172646912) (by decide)
  rw [val_half] at h2
  exact ⟨h1, h2.congr (Nat.two_pow_pos 1074) (by decide) (half_alg _ _ _ (two_powF (a := 1073) (b := 1074) rfl))⟩
theorem quo_alg (x U V : Nat) (h : V = 2 * U) : x * U * 2 = x * V := by rw [h, Nat.mul_assoc, Nat.mul_comm U 2]
theorem quo2 {x : Nat} (hx : x < inf) (h0 : 0 < x) : fok .quo x 4611686018427387904 = true ∧ fop .quo x 4611686018427387904 = hv x := by
  obtain ⟨h1, h2⟩ := fdiv hx (y := 4611686018427387904) (by decide) h0 (by decide)
  rw [val_twoF] at h2
  exact ⟨h1, Rounds.unique (by decide) (h2.congr (Nat.two_pow_pos 1075) (by decide) (quo_alg _ _ _ (two_powF (a := 1074) (b := 1075) rfl))) (hv_r hx).2⟩
theorem hv_le {x : Nat} (hx : x < inf) : hv x ≤ x := by
  have e := (Rounds.exact (Nat.le_of_lt hx)).congr (P' := 2 * val x) (Q' := 2) (by decide) (by decide) (by rw [Nat.mul_one, Nat.mul_comm])
  exact (hv_r hx).2.le (by decide) (by omega) e
theorem hv_lt {x : Nat} (hx : x < inf) : hv x < inf := Nat.lt_of_le_of_lt (hv_le hx) hx
theorem hv_zero : hv 0 = 0 := Nat.le_zero.1 (hv_le inf_pos)
theorem val_dblF {x : Nat} (h : 2 ^ 52 ≤ x) : val (x + 2 ^ 52) = 2 * val x := by
  unfold val
  rw [if_neg (by omega), if_neg (by omega)]
  have e1 : (x + 2 ^ 52) % 2 ^ 52 = x % 2 ^ 52 := by omega
  have e2 : (x + 2 ^ 52) / 2 ^ 52 - 1 = (x / 2 ^ 52 - 1) + 1 := by omega
  rw [e1, e2, Nat.pow_add 2 (x / 2 ^ 52 - 1) 1, Nat.pow_one, Nat.mul_comm 2, Nat.mul_assoc]
theorem hv_norm {x : Nat} (hx : x < inf) (h : 2 * 2 ^ 52 ≤ x) : hv x = x - 2 ^ 52 := by
  have e := Rounds.exact (r := x - 2 ^ 52) (by omega)
  have d := val_dblF (x := x - 2 ^ 52) (by omega)
  rw [Nat.sub_add_cancel (by omega)] at d
  exact Rounds.unique (by decide) (hv_r hx).2 (e.congr (by decide) (by decide) (by rw [d, Nat.mul_one, Nat.mul_comm]))
/-! ### n halvings -/
def fadeN : Nat → Nat → Nat
  | 0, x => x
  | n + 1, x => fadeN n (hv x)
theorem fadeN_lt : ∀ (n : Nat) {x : Nat}, x < inf → fadeN n x < inf
  | 0, _, h => h
  | n + 1, _, h => fadeN_lt n (hv_lt h)
theorem fadeN_le : ∀ (n : Nat) {x : Nat}, x < inf → fadeN n x ≤ x
  | 0, _, _ => Nat.le_refl _
  | n + 1, _, h => Nat.le_trans (fadeN_le n (hv_lt h)) (hv_le h)
theorem fadeN_zero : ∀ n, fadeN n 0 = 0
  | 0 => rfl
  | n + 1 => by rw [fadeN, hv_zero]; exact fadeN_zero n
theorem fadeN_add : ∀ (a b x : Nat), fadeN b (fadeN a x) = fadeN (a + b) x
  | 0, b, x => by rw [Nat.zero_add]; rfl
  | a + 1, b, x => by rw [show a + 1 + b = (a + b) + 1 by omega, fadeN, fadeN]; exact fadeN_add a b _
theorem two_le (n B x : Nat) (h : (n + 1 + 1) * B ≤ x) : 2 * B ≤ x ∧ (n + 1) * B + B ≤ x := ⟨Nat.le_trans (Nat.mul_le_mul_right B (by omega)) h, by rw [← Nat.succ_mul]; exact h⟩
theorem fadeN_norm (n : Nat) : ∀ {x : Nat}, x < inf → (n + 1) * 2 ^ 52 ≤ x → fadeN n x = x - n * 2 ^ 52 := by
  induction n with
  | zero => intro x _ _; rw [Nat.zero_mul]; rfl
  | succ n ih =>
    intro x hx h
    obtain ⟨h2, h5⟩ := two_le n _ x h
    have h3 : x - 2 ^ 52 < inf := Nat.lt_of_le_of_lt (Nat.sub_le _ _) hx
    have h4 : (n + 1) * 2 ^ 52 ≤ x - 2 ^ 52 := Nat.le_sub_of_add_le h5
    have e : fadeN (n + 1) x = fadeN n (hv x) := rfl
    rw [e, hv_norm hx h2, ih h3 h4, Nat.sub_sub, Nat.succ_mul, Nat.add_comm (2 ^ 52)]
/-! ### the document's fading -/
theorem rFadeL : ∀ (d : Nat) (x : Nat) (a1 i : Int) (k : Nat), x < inf → 0 ≤ i → i ≤ 4096 → (d : Int) = max 0 (min a1 4096 - i) → d < k → bailiwickref15_Fade.l0 k x a1 i = some (fadeN d x) := by
  intro d
  induction d with
  | zero =>
    intro x a1 i k hx h0 h1 hd hk
    obtain ⟨k, rfl⟩ : ∃ m, k = m + 1 := ⟨k - 1, by omega⟩
    rw [bailiwickref15_Fade.l0]
    by_cases c : i < a1
    · rw [if_pos c, if_neg (by omega)]; rfl
    · rw [if_neg c]; rfl
  | succ d ih =>
    intro x a1 i k hx h0 h1 hd hk
    obtain ⟨k, rfl⟩ : ∃ m, k = m + 1 := ⟨k - 1, by omega⟩
    rw [bailiwickref15_Fade.l0, if_pos (by omega), if_pos (by omega), if_pos (hv_r hx).1, widF (by omega) (by omega)]
    exact ih (hv x) a1 (i + 1) k (hv_lt hx) (by omega) (by omega) (by omega) (by omega)
def halves (a1 : Int) : Nat := (max 0 (min a1 4096)).toNat
theorem rFade {x : Nat} (hx : x < 2 ^ 64) (a1 : Int) (k : Nat) (hk : 5000 ≤ k) : bailiwickref15_Fade.f k x a1 = some (fadeN (halves a1) (cl x)) := by
  unfold bailiwickref15_Fade.f halves
  rw [rClean hx]
  simp only [Option.bind_some]
  exact rFadeL _ _ a1 0 k (cl_lt x) (by omega) (by omega) (by omega) (by omega)
/-! ### the program's fading, half by half -/
theorem sFadeL : ∀ (d : Nat) (x : Nat) (k : Nat), x < inf → d ≤ 5000 → d < k → share_Fade.l0 k x (d : Int) = some (fadeN d x) := by
  intro d
  induction d with
  | zero =>
    intro x k hx hd hk
    obtain ⟨k, rfl⟩ : ∃ m, k = m + 1 := ⟨k - 1, by omega⟩
    rw [share_Fade.l0, if_neg (by omega)]; rfl
  | succ d ih =>
    intro x k hx hd hk
    obtain ⟨k, rfl⟩ : ∃ m, k = m + 1 := ⟨k - 1, by omega⟩
    rw [share_Fade.l0, if_pos (by omega), fgt_r (Nat.le_of_lt hx) (Nat.zero_le _)]
    by_cases c : 0 < x
    · rw [if_pos (by simpa using c), if_pos (quo2 hx c).1, (quo2 hx c).2, widF (by omega) (by omega), show ((d + 1 : Nat) : Int) - 1 = (d : Int) by omega]
      exact ih (hv x) k (hv_lt hx) (by omega) (by omega)
    · obtain rfl : x = 0 := by omega
      rw [if_neg (by simp), fadeN_zero]
/-! ### bits -/
theorem wraps_u64 (n : Int) (h0 : 0 ≤ n) (h1 : n < 2 ^ 64) : IntKind.u64.wrap n = n := by
  simp only [IntKind.wrap, IntKind.bits, IntKind.signed] <;> simp <;> omega
theorem wraps_i64 (n : Int) (h0 : 0 ≤ n) (h1 : n < 2 ^ 63) : IntKind.i64.wrap n = n := by rw [IntKind.wrap_i64]; omega
theorem andNot_nat {a M : Nat} (ha : a < 2 ^ 64) (hM : M < 2 ^ 64) : bits .andNot .u64 (a : Int) (M : Int) = ((a &&& (2 ^ 64 - 1 - M) : Nat) : Int) := by
  have hb : IntKind.u64.bits = 64 := rfl
  have h1 : a &&& (2 ^ 64 - 1 - M) < 2 ^ 64 := Nat.and_lt_two_pow _ (by omega)
  unfold bits
  simp only [hb, BitVec.ofInt_natCast, BitVec.toNat_and, BitVec.toNat_not, BitVec.toNat_ofNat]
  rw [Nat.mod_eq_of_lt ha, Nat.mod_eq_of_lt hM]
  exact wraps_u64 _ (Int.natCast_nonneg _) (by omega)
theorem absF {a : Nat} (ha : a < 2 ^ 63) : math_Abs.f a = some a := by
  unfold math_Abs.f
  have h := andNot_nat (a := a) (M := 9223372036854775808) (by omega) (by decide)
  have e : (2 ^ 64 - 1 - 9223372036854775808 : Nat) = 2 ^ 63 - 1 := by decide
  rw [e, Nat.and_two_pow_sub_one_eq_mod, Nat.mod_eq_of_lt ha] at h
  have h2 : bits .andNot .u64 (a : Int) 9223372036854775808 = (a : Int) := h
  rw [h2]
  simp
theorem and_top {a : Nat} (ha : a < 2 ^ 63) : a &&& 2 ^ 63 = 0 := by
  refine Nat.eq_of_testBit_eq fun i => ?_
  rw [Nat.testBit_and, Nat.testBit_two_pow, Nat.zero_testBit]
  by_cases h : 63 = i
  · subst h; rw [Nat.testBit_lt_two_pow ha]; rfl
  · simp [h]
theorem fracF {a : Nat} (ha : a < 2 ^ 63) : bits .andNot .u64 (a : Int) 9218868437227405312 = ((a % 2 ^ 52 : Nat) : Int) := by
  have h := andNot_nat (a := a) (M := 9218868437227405312) (by omega) (by decide)
  have e : (2 ^ 64 - 1 - 9218868437227405312 : Nat) = 2 ^ 63 ||| (2 ^ 52 - 1) := by decide
  rw [e, Nat.and_or_distrib_left, Nat.and_two_pow_sub_one_eq_mod, and_top ha, Nat.zero_or] at h
  exact h
theorem orF {f e : Nat} (hf : f < 2 ^ 52) (he : e < 2 ^ 11) : bits .or .u64 (f : Int) ((e * 2 ^ 52 : Nat) : Int) = ((e * 2 ^ 52 + f : Nat) : Int) := by
  have h := (bits_nat .u64 64 (by decide) wraps_u64 f (e * 2 ^ 52) (by omega) (by omega)).2
  rw [h, Nat.or_comm, Nat.mul_comm e, ← Nat.two_pow_add_eq_or_of_lt hf e]
theorem expU {a : Nat} (ha : a < 2 ^ 63) : bits .and .u64 ((a : Int) / 4503599627370496) 2047 = ((a / 2 ^ 52 : Nat) : Int) := by
  have h := bits_mask .u64 64 (by decide) wraps_u64 11 (by decide) ((a : Int) / 4503599627370496) (by omega) (by omega)
  have e : ((2 : Int) ^ 11 - 1) = 2047 := by decide
  rw [e] at h
  rw [h]
  omega
theorem expI {a : Nat} (ha : a < 2 ^ 63) : bits .and .i64 (wrap64 ((a : Int) / 4503599627370496)) 2047 = ((a / 2 ^ 52 : Nat) : Int) := by
  rw [widF (by omega) (by omega)]
  have h := bits_mask .i64 63 (by decide) wraps_i64 11 (by decide) ((a : Int) / 4503599627370496) (by omega) (by omega)
  have e : ((2 : Int) ^ 11 - 1) = 2047 := by decide
  rw [e] at h
  rw [h]
  omega
/-! ### the exponent -/
theorem inf63 : inf < 2 ^ 63 := by decide
theorem isInf0 {c : Nat} (hc : c < inf) : math_IsInf.f c 0 = some false := by
  have := inf63
  unfold math_IsInf.f
  rw [if_pos rfl, absF (by omega)]
  simp only [Option.bind_some]
  rw [fgt_r (Nat.le_of_lt hc) (by decide), decide_eq_false]
  have : (9218868437227405311 : Nat) = inf - 1 := by decide
  omega
theorem isNaN0 {c : Nat} (hc : c < inf) : math_IsNaN.f c = some false := by
  unfold math_IsNaN.f
  rw [fne_r (Nat.le_of_lt hc) (Nat.le_of_lt hc)]
  simp
theorem norm_big {c : Nat} (hc : c < inf) (h : 2 ^ 52 ≤ c) : math_normalize.f c = some (c, 0) := by
  have := inf63
  unfold math_normalize.f
  rw [absF (by omega)]
  simp only [Option.bind_some]
  rw [flt_r (Nat.le_of_lt hc) (by decide), if_neg (by simp; omega)]
theorem up_alg (x U : Nat) : x * (2 ^ 52 * U) * 1 = x * 2 ^ 52 * U := by rw [Nat.mul_one, Nat.mul_assoc]
theorem norm_small {c : Nat} (h : c < 2 ^ 52) : ∃ y, y ≤ 53 * 2 ^ 52 ∧ math_normalize.f c = some (y, -52) := by
  have h6 := inf63
  have hi : 2 ^ 53 < inf := by decide
  have hc : c < inf := by omega
  obtain ⟨h1, h2⟩ := fmul hc (y := 4841369599423283200) (by decide)
  rw [val_upF] at h2
  have h3 := h2.congr (P' := val c * 2 ^ 52) (Q' := 1) (Nat.two_pow_pos 1074) Nat.one_pos (up_alg _ _)
  refine ⟨fop .mul c 4841369599423283200, ?_, ?_⟩
  · have e := Rounds.exact (r := 52 * 2 ^ 52 + 2 ^ 52) (by decide)
    rw [val_form (S := 52) (k := 2 ^ 52) (by omega) (.inr (by omega))] at e
    have hv : val c = c := by unfold val; rw [if_pos h]
    refine h3.le Nat.one_pos ?_ e
    rw [hv]
    exact Nat.mul_le_mul_right _ (by omega)
  · unfold math_normalize.f
    rw [absF (by omega)]
    simp only [Option.bind_some]
    rw [flt_r (Nat.le_of_lt hc) (by decide), if_pos (by simpa using h), if_pos h1]
theorem frexpZ (k : Nat) : math_Frexp.f k 0 = some (0, 0) := by
  unfold math_Frexp.f math_frexp.f
  rw [feq_r (Nat.zero_le _) (Nat.zero_le _)]
  simp
theorem frexpL {c : Nat} (hc : c < inf) (h0 : 0 < c) (k : Nat) (hk : 0 < k) : ∃ z e, math_Frexp.f k c = some (z, e) ∧ ((2 ^ 52 ≤ c ∧ e = ((c / 2 ^ 52 : Nat) : Int) - 1022) ∨ (c < 2 ^ 52 ∧ e ≤ -1021 ∧ -2000 ≤ e)) := by
  obtain ⟨k, rfl⟩ : ∃ m, k = m + 1 := ⟨k - 1, by omega⟩
  have h6 := inf63
  have hd : math_Frexp.f (k + 1) c = (math_normalize.f c).bind fun b => some (Int.toNat (bits .or .u64 (bits .andNot .u64 (b.1 : Int) 9218868437227405312) 4602678819172646912), wrap64 (b.2 + (wrap64 ((wrap64 ((wrap64 (bits .and .u64 ((b.1 : Int) / 4503599627370496) 2047)) - 1023)) + 1)))) := by
    unfold math_Frexp.f math_frexp.f
    rw [feq_r (Nat.le_of_lt hc) (Nat.zero_le _), if_neg (by simp; omega), isInf0 hc]
    simp only [Option.bind_some]
    rw [if_neg (by simp), isNaN0 hc]
    simp only [Option.bind_some]
    rw [math_frexp.j0, if_neg (by simp)]
    cases math_normalize.f c <;> rfl
  rw [hd]
  by_cases c1 : 2 ^ 52 ≤ c
  · rw [norm_big hc c1]
    simp only [Option.bind_some]
    have hq : c / 2 ^ 52 ≤ 2047 := by unfold inf at hc; omega
    rw [expU (by omega), widF (x := ((c / 2 ^ 52 : Nat) : Int)) (by omega) (by omega), widF (x := ((c / 2 ^ 52 : Nat) : Int) - 1023) (by omega) (by omega), widF (x := ((c / 2 ^ 52 : Nat) : Int) - 1023 + 1) (by omega) (by omega), widF (by omega) (by omega)]
    exact ⟨_, _, rfl, .inl ⟨c1, by omega⟩⟩
  · obtain ⟨y, hy, e⟩ := norm_small (c := c) (by omega)
    rw [e]
    simp only [Option.bind_some]
    have hq : y / 2 ^ 52 ≤ 53 := by omega
    rw [expU (a := y) (by omega), widF (x := ((y / 2 ^ 52 : Nat) : Int)) (by omega) (by omega), widF (x := ((y / 2 ^ 52 : Nat) : Int) - 1023) (by omega) (by omega), widF (x := ((y / 2 ^ 52 : Nat) : Int) - 1023 + 1) (by omega) (by omega), widF (by omega) (by omega)]
    exact ⟨_, _, rfl, .inr ⟨by omega, by omega, by omega⟩⟩
theorem one_alg (x U : Nat) : U * x * 1 = x * U := by rw [Nat.mul_one, Nat.mul_comm]
theorem mul_one {y : Nat} (hy : y < inf) : fok .mul 4607182418800017408 y = true ∧ fop .mul 4607182418800017408 y = y := by
  obtain ⟨h1, h2⟩ := fmul (x := 4607182418800017408) (by decide) hy
  rw [val_oneF] at h2
  exact ⟨h1, Rounds.unique Nat.one_pos (h2.congr (P' := val y) (Q' := 1) (Nat.two_pow_pos 1074) Nat.one_pos (one_alg _ _)) (Rounds.exact (Nat.le_of_lt hy))⟩
theorem ldexpZ (n : Int) : math_Ldexp.f 0 n = some 0 := by
  unfold math_Ldexp.f math_ldexp.f
  rw [feq_r (Nat.zero_le _) (Nat.zero_le _)]
  simp
theorem ldexpN {c n : Nat} (hc : c < inf) (hn : n ≤ 4096) (h : n + 23 ≤ c / 2 ^ 52) : math_Ldexp.f c (-(n : Int)) = some (c - n * 2 ^ 52) := by
  have h6 := inf63
  have hq : c / 2 ^ 52 ≤ 2046 := by unfold inf at hc; omega
  have hb : 2 ^ 52 ≤ c := by omega
  unfold math_Ldexp.f math_ldexp.f
  rw [feq_r (Nat.le_of_lt hc) (Nat.zero_le _), if_neg (by simp; omega), isInf0 hc]
  simp only [Option.bind_some]
  rw [if_neg (by simp), isNaN0 hc]
  simp only [Option.bind_some]
  rw [if_neg (by simp), norm_big hc hb]
  simp only [Option.bind_some]
  obtain ⟨q, hqq⟩ : ∃ q, c / 2 ^ 52 = q := ⟨_, rfl⟩
  have hX : wrap64 (wrap64 (-(n : Int) + 0) + wrap64 (bits .and .i64 (wrap64 ((c : Int) / 4503599627370496)) 2047 - 1023)) = (q : Int) - 1023 - n := by
    rw [expI (by omega), hqq, widF (x := -(n : Int) + 0) (by omega) (by omega), widF (x := (q : Int) - 1023) (by omega) (by omega), widF (by omega) (by omega)]
    omega
  rw [hX, if_neg (by omega), if_neg (by omega), if_neg (by omega)]
  have hE : IntKind.u64.wrap (IntKind.u64.wrap (wrap64 ((q : Int) - 1023 - n + 1023)) * 4503599627370496) = (((q - n) * 2 ^ 52 : Nat) : Int) := by
    rw [widF (by omega) (by omega), wraps_u64 ((q : Int) - 1023 - n + 1023) (by omega) (by omega), wraps_u64 _ (by omega) (by omega)]
    omega
  rw [hE, fracF (by omega), orF (by omega) (by omega)]
  have hy : (((q - n) * 2 ^ 52 + c % 2 ^ 52 : Nat) : Int).toNat = c - n * 2 ^ 52 := by omega
  rw [hy, if_pos (mul_one (by omega)).1, (mul_one (by omega)).2]
  rfl
theorem sFade {x : Nat} (hx : x < 2 ^ 64) (a1 : Int) (k : Nat) (hk : 6000 ≤ k) : share_Fade.f k x a1 = some (fadeN (halves a1) (cl x)) := by
  obtain ⟨n, hn⟩ : ∃ n : Nat, mx 0 (mn a1 4096) = (n : Int) ∧ halves a1 = n ∧ n ≤ 4096 := by
    refine ⟨halves a1, ?_, rfl, ?_⟩
    · unfold halves mx mn
      split <;> split <;> omega
    · unfold halves; omega
  obtain ⟨hn, hh, hn2⟩ := hn
  have hc := cl_lt x
  unfold share_Fade.f
  rw [sClean hx k (by omega)]
  simp only [Option.bind_some]
  rw [hn, hh]
  generalize cl x = c at *
  by_cases c0 : c = 0
  · subst c0
    rw [frexpZ]
    simp only [Option.bind_some]
    rw [fadeN_zero]
    split
    · rw [ldexpZ]; rfl
    · rw [sFadeL n 0 k hc (by omega) (by omega), fadeN_zero]
  · obtain ⟨z, e, he, hcase⟩ := frexpL hc (by omega) k (by omega)
    rw [he]
    simp only [Option.bind_some]
    have hq : c / 2 ^ 52 ≤ 2047 := by unfold inf at hc; omega
    rcases hcase with ⟨h1, rfl⟩ | ⟨h1, h2, h3⟩
    · rw [widF (by omega) (by omega)]
      by_cases g : ((c / 2 ^ 52 : Nat) : Int) - 1022 - (n : Int) > -1000
      · rw [if_pos g, ldexpN hc hn2 (by omega), fadeN_norm n hc (by omega)]
        rfl
      · rw [if_neg g, sFadeL n c k hc (by omega) (by omega)]
    · rw [widF (by omega) (by omega), if_neg (by omega), sFadeL n c k hc (by omega) (by omega)]
end Go.Proofs.Ytemlhkognjhgbaa.PAll
