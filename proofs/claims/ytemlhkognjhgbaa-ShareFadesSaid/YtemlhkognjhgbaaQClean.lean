/- What cleaning, sharing, fading and adding come to, as plain functions on rungs. No program in sight. -/
import Derived.Test.YtemlhkognjhgbaaFArith
import Derived.Test.YtemlhkognjhgbaaPAllx2
import Derived.Test.YtemlhkognjhgbaaPAllx12
import Derived.Test.YtemlhkognjhgbaaPAllx14
namespace Go.Proofs.Ytemlhkognjhgbaa.PAll
open Go Go.RowKit Go.Proofs.YtemlhkognjhgbaaF Go.Proofs.YtemlhkognjhgbaaW.PrintWords Go.Proofs.YtemlhkognjhgbaaW.PrintLast Go.Proofs.YtemlhkognjhgbaaW.PrintMore
set_option linter.unusedVariables false
set_option linter.unusedSimpArgs false

/-- cleaned -/
def cl (x : Nat) : Nat := if x < inf then x else if x = inf then inf - 1 else 0
theorem inf_pos : 0 < inf := by decide
theorem cl_lt (x : Nat) : cl x < inf := by
  have := inf_pos
  unfold cl
  split
  · assumption
  · split <;> omega
theorem cl_of {x : Nat} (h : x < inf) : cl x = x := by unfold cl; rw [if_pos h]
theorem cl_inf : cl inf = inf - 1 := by unfold cl; rw [if_neg (Nat.lt_irrefl _), if_pos rfl]
theorem cl_out {x : Nat} (h : inf < x) : cl x = 0 := by unfold cl; rw [if_neg (show ¬ x < inf by omega), if_neg (show ¬ x = inf by omega)]
theorem cl_mono {x y : Nat} (hy : y ≤ inf) (h : x ≤ y) : cl x ≤ cl y := by
  have := inf_pos
  by_cases c : y < inf
  · rw [cl_of c, cl_of (by omega)]; exact h
  · obtain rfl : y = inf := by omega
    have := cl_lt x
    rw [cl_inf]
    omega

/-- what is no rung: not a number, or negative -/
theorem no_rung {x : Nat} (h : inf < x) (h64 : x < 2 ^ 64) : (Ieee.double.order x x = none ∧ ∀ y, y < inf → Ieee.double.order x y = none) ∨
    (Ieee.double.order x x = some .eq ∧ ∀ y, y < inf → ∃ o, Ieee.double.order x y = some o ∧ o ≠ .gt) := by
  have hs : Ieee.double.signWeight = 2 ^ 63 := by decide
  have hb : Ieee.double.binade = 2 ^ 52 := by decide
  have hi : Ieee.double.infRung = 2047 * 2 ^ 52 := by decide
  have hl : Ieee.double.leastPlace = -1074 := by decide
  have hr : (∃ s f, Ieee.double.read x = .nan s f) ∨ (∃ m e, Ieee.double.read x = .number true m e) ∨ Ieee.double.read x = .infinity true := by
    unfold Ieee.Format.read
    rw [hs, hb, hi, hl]
    by_cases c : x < 2 ^ 63
    · have e1 : x / 2 ^ 63 = 0 := Nat.div_eq_of_lt (by omega)
      have e2 : x % 2 ^ 63 = x := Nat.mod_eq_of_lt (by omega)
      simp only [e1, e2]
      unfold inf at h
      rw [if_neg (by omega), if_neg (by omega), if_neg (by omega)]
      exact .inl ⟨_, _, rfl⟩
    · have e1 : x / 2 ^ 63 = 1 := by omega
      simp only [e1]
      split
      · exact .inr (.inl ⟨_, _, rfl⟩)
      · split
        · exact .inr (.inl ⟨_, _, rfl⟩)
        · split
          · exact .inr (.inr rfl)
          · exact .inl ⟨_, _, rfl⟩
  rcases hr with ⟨s, f, hr⟩ | ⟨m, e, hr⟩ | hr
  · refine .inl ⟨?_, fun y hy => ?_⟩
    · unfold Ieee.Format.order; rw [hr]; rfl
    · unfold Ieee.Format.order; rw [hr, read_rung hy]; rfl
  · refine .inr ⟨?_, fun y hy => ?_⟩
    · unfold Ieee.Format.order; rw [hr]
      simp only [Ieee.Datum.order]
      rw [show ∀ z : Int, compare z z = .eq from fun z => by show compareOfLessAndEq z z = _; unfold compareOfLessAndEq; rw [if_neg (by omega), if_pos rfl]]
    · unfold Ieee.Format.order; rw [hr, read_rung hy]
      simp only [Ieee.Datum.order]
      refine ⟨_, rfl, fun hc => ?_⟩
      rw [sgn] at hc
      have hn : Ieee.signed true m (e - min e ((expo y : Int) - 1074)).toNat ≤ 0 := by
        unfold Ieee.signed; rw [if_pos rfl]; exact Int.neg_nonpos_of_nonneg (Int.natCast_nonneg _)
      have hc2 : ∀ a b : Int, compare a b = .gt → b < a := fun a b hh => by
        have hh : compareOfLessAndEq a b = .gt := hh
        unfold compareOfLessAndEq at hh
        split at hh
        · cases hh
        · split at hh
          · cases hh
          · omega
      have := hc2 _ _ hc
      omega
  · refine .inr ⟨?_, fun y hy => ?_⟩
    · unfold Ieee.Format.order; rw [hr]; rfl
    · unfold Ieee.Format.order; rw [hr, read_rung hy]
      exact ⟨.lt, rfl, by decide⟩

/-! ### comparisons of rungs -/
theorem ord {x y : Nat} (hx : x ≤ inf) (hy : y ≤ inf) : FloatKind.f64.format.order x y = some (if x < y then .lt else if x = y then .eq else .gt) := order_rung hx hy
theorem flt_r {x y : Nat} (hx : x ≤ inf) (hy : y ≤ inf) : flt x y = decide (x < y) := by
  unfold flt; rw [ord hx hy]
  by_cases c : x < y
  · rw [if_pos c, decide_eq_true c]; rfl
  · rw [if_neg c, decide_eq_false c]; split <;> rfl
theorem fgt_r {x y : Nat} (hx : x ≤ inf) (hy : y ≤ inf) : fgt x y = decide (y < x) := by
  unfold fgt; rw [ord hx hy]
  by_cases c : x < y
  · rw [if_pos c, decide_eq_false (by omega)]; rfl
  · rw [if_neg c]
    by_cases d : x = y
    · rw [if_pos d, decide_eq_false (by omega)]; rfl
    · rw [if_neg d, decide_eq_true (by omega)]; rfl
theorem feq_r {x y : Nat} (hx : x ≤ inf) (hy : y ≤ inf) : feq x y = decide (x = y) := by
  unfold feq; rw [ord hx hy]
  by_cases c : x < y
  · rw [if_pos c, decide_eq_false (by omega)]; rfl
  · rw [if_neg c]
    by_cases d : x = y
    · rw [if_pos d, decide_eq_true d]; rfl
    · rw [if_neg d, decide_eq_false d]; rfl
theorem fne_r {x y : Nat} (hx : x ≤ inf) (hy : y ≤ inf) : fne x y = decide (x ≠ y) := by
  have h := feq_r hx hy
  have e : fne x y = !feq x y := rfl
  rw [e, h]
  by_cases d : x = y <;> simp [d]
theorem fle_r {x y : Nat} (hx : x ≤ inf) (hy : y ≤ inf) : fle x y = decide (x ≤ y) := by
  have e : fle x y = (flt x y || feq x y) := rfl
  rw [e, flt_r hx hy, feq_r hx hy]
  by_cases c : x ≤ y
  · rw [decide_eq_true c]; simp; omega
  · rw [decide_eq_false c]; simp; omega
theorem fge_r {x y : Nat} (hx : x ≤ inf) (hy : y ≤ inf) : fge x y = decide (y ≤ x) := by
  have e : fge x y = (fgt x y || feq x y) := rfl
  rw [e, fgt_r hx hy, feq_r hx hy]
  by_cases c : y ≤ x
  · rw [decide_eq_true c]; simp; omega
  · rw [decide_eq_false c]; simp; omega

/-! ### cleaning -/
theorem isInf1 (x : Nat) : math_IsInf.f x 1 = some (fgt x 9218868437227405311) := by
  unfold math_IsInf.f
  rw [if_neg (by decide), if_neg (by decide)]
theorem sClean {x : Nat} (hx : x < 2 ^ 64) (k : Nat) (hk : 0 < k) : share_Clean.f k x = some (cl x) := by
  obtain ⟨k, rfl⟩ : ∃ m, k = m + 1 := ⟨k - 1, by omega⟩
  have hm : (9218868437227405311 : Nat) < inf := by decide
  have hm1 : (9218868437227405311 : Nat) = inf - 1 := by decide
  have h0 := inf_pos
  unfold share_Clean.f math_IsNaN.f
  simp only [Option.bind_some, share_Clean.j0, isInf1]
  by_cases c : x ≤ inf
  · rw [fne_r c c, fle_r c (by omega), fgt_r c (Nat.le_of_lt hm)]
    unfold cl
    by_cases c0 : x ≤ 0
    · have : x = 0 := by omega
      subst this
      simp [h0]
    · by_cases c1 : x < inf
      · rw [if_pos c1]
        simp [c0, show ¬ 9218868437227405311 < x by omega]
      · have : x = inf := by omega
        subst this
        rw [if_neg c1, if_pos rfl, decide_eq_false c0, hm1]
        simp [show inf - 1 < inf by omega]
  · rcases no_rung (by omega) hx with ⟨h1, h2⟩ | ⟨h1, h2⟩
    · have : fne x x = true := by show (Ieee.double.order x x != some .eq) = true; rw [h1]; rfl
      rw [this, cl_out (by omega)]
      simp
    · have : fne x x = false := by show (Ieee.double.order x x != some .eq) = false; rw [h1]; rfl
      rw [this]
      obtain ⟨o, ho, hg⟩ := h2 0 h0
      have : fle x 0 = true := by
        show (Ieee.double.order x 0 == some .lt || Ieee.double.order x 0 == some .eq) = true
        rw [ho]
        cases o <;> first | rfl | exact absurd rfl hg
      rw [this, cl_out (by omega)]
      simp
theorem rClean {x : Nat} (hx : x < 2 ^ 64) : bailiwickref15_Clean.f x = some (cl x) := by
  have hm : (9218868437227405311 : Nat) < inf := by decide
  have hm1 : (9218868437227405311 : Nat) = inf - 1 := by decide
  have h0 := inf_pos
  unfold bailiwickref15_Clean.f
  by_cases c : x ≤ inf
  · rw [fgt_r c (Nat.le_of_lt hm), fgt_r c (by omega)]
    unfold cl
    by_cases c1 : x < inf
    · rw [if_pos c1]
      by_cases c0 : 0 < x
      · simp [c0, show ¬ 9218868437227405311 < x by omega]
      · simp [show x = 0 by omega]
    · have : x = inf := by omega
      subst this
      rw [if_neg c1, if_pos rfl, hm1]
      simp [show inf - 1 < inf by omega]
  · have : fgt x 9218868437227405311 = false ∧ fgt x 0 = false := by
      rcases no_rung (by omega) hx with ⟨h1, h2⟩ | ⟨h1, h2⟩
      · refine ⟨?_, ?_⟩
        · show (Ieee.double.order x _ == some .gt) = false; rw [h2 _ hm]; rfl
        · show (Ieee.double.order x _ == some .gt) = false; rw [h2 _ h0]; rfl
      · refine ⟨?_, ?_⟩
        · show (Ieee.double.order x _ == some .gt) = false
          obtain ⟨o, ho, hg⟩ := h2 _ hm
          rw [ho]
          cases o <;> first | rfl | exact absurd rfl hg
        · show (Ieee.double.order x _ == some .gt) = false
          obtain ⟨o, ho, hg⟩ := h2 _ h0
          rw [ho]
          cases o <;> first | rfl | exact absurd rfl hg
    rw [this.1, this.2, cl_out (by omega)]
    simp
theorem cl64 (x : Nat) : cl x < 2 ^ 64 := Nat.lt_trans (cl_lt x) (by decide)

/-! ### the share -/
def sh (a b : Nat) : Nat := if cl a = 0 then 0 else fop .quo (cl a) (cl b)
theorem sh_facts (a b : Nat) (h : cl a ≠ 0) : fok .quo (cl a) (cl b) = true ∧ fop .quo (cl a) (cl b) ≤ inf := by
  by_cases c : cl b = 0
  · rw [c]
    obtain ⟨h1, h2⟩ := fdiv_zero (x := cl a) (by omega) (cl_lt a)
    exact ⟨h1, by rw [h2]; exact Nat.le_refl _⟩
  · obtain ⟨h1, h2⟩ := fdiv (cl_lt a) (cl_lt b) (by omega) (by omega)
    exact ⟨h1, h2.1⟩
theorem sh_le (a b : Nat) : sh a b ≤ inf := by
  unfold sh
  split
  · exact Nat.zero_le _
  · rename_i h; exact (sh_facts a b h).2
theorem sShare (w : Int) {a b : Nat} (ha : a < 2 ^ 64) (hb : b < 2 ^ 64) (k : Nat) (hk : 0 < k) : share_Share.f k w a b = some (sh a b) := by
  unfold share_Share.f sh
  rw [sClean ha k hk, sClean hb k hk]
  simp only [Option.bind_some]
  rw [feq_r (Nat.le_of_lt (cl_lt a)) (Nat.zero_le _)]
  by_cases c : cl a = 0
  · simp [c]
  · rw [if_neg (by simpa using c), if_neg c, if_pos (sh_facts a b c).1]
theorem rShare (w : Int) {a b : Nat} (ha : a < 2 ^ 64) (hb : b < 2 ^ 64) : bailiwickref15_Share.f w a b = some (sh a b) := by
  unfold bailiwickref15_Share.f sh
  rw [rClean ha, rClean hb]
  simp only [Option.bind_some]
  rw [feq_r (Nat.le_of_lt (cl_lt a)) (Nat.zero_le _)]
  by_cases c : cl a = 0
  · simp [c]
  · rw [if_neg (by simpa using c), if_neg c, if_pos (sh_facts a b c).1]
end Go.Proofs.Ytemlhkognjhgbaa.PAll
