/- ShareScales, the plain law: a share stays when both are doubled; more of as much has no smaller share; a bonus counts others alone. No program in sight. -/
import Derived.Test.YtemlhkognjhgbaaPureShareRanks
import Derived.Test.YtemlhkognjhgbaaPAllx21
namespace Go.Proofs.Ytemlhkognjhgbaa.Pure
open Go Go.RowKit Go.Proofs.YtemlhkognjhgbaaF Go.Proofs.Ytemlhkognjhgbaa.PAll Go.Proofs.YtemlhkognjhgbaaW.PrintWords Go.Proofs.YtemlhkognjhgbaaW.PrintLast Go.Proofs.YtemlhkognjhgbaaW.PrintMore
set_option linter.unusedVariables false
set_option linter.unusedSimpArgs false
/-! ### whole numbers as doubles -/
theorem pow2 {a b c : Nat} (h : a + b = c) : 2 ^ a * 2 ^ b = 2 ^ c := by subst h; rw [Nat.pow_add]
theorem zmul (U : Nat) : (0 : Int).toNat * U = 0 := by simp
theorem mul21 (U V x : Nat) (h : V = 2 * U) : V * x * 1 = 2 * x * U := by rw [h, Nat.mul_one, Nat.mul_right_comm]
theorem val_one : val (1022 * 2 ^ 52 + 2 ^ 52) = 2 ^ 1074 := (val_form (S := 1022) (k := 2 ^ 52) (by omega) (.inr (by omega))).trans (pow2 (a := 52) (b := 1022) (c := 1074) rfl)
theorem two_pow (a : Nat) : 2 ^ (a + 1) = 2 * 2 ^ a := by rw [Nat.pow_succ, Nat.mul_comm]
theorem val_two' : val (1023 * 2 ^ 52 + 2 ^ 52) = 2 * 2 ^ 1074 := ((val_form (S := 1023) (k := 2 ^ 52) (by omega) (.inr (by omega))).trans (pow2 (a := 52) (b := 1023) (c := 1074 + 1) rfl)).trans (two_pow 1074)
theorem val_two : val 4611686018427387904 = 2 * 2 ^ 1074 := by
  have e : (4611686018427387904 : Nat) = 1023 * 2 ^ 52 + 2 ^ 52 := by decide
  rw [e]
  exact val_two'
theorem val_big : val (1054 * 2 ^ 52 + 2 ^ 52) = 2 ^ 32 * 2 ^ 1074 := ((val_form (S := 1054) (k := 2 ^ 52) (by omega) (.inr (by omega))).trans (pow2 (a := 52) (b := 1054) (c := 1106) rfl)).trans (pow2 (a := 32) (b := 1074) (c := 1106) rfl).symm
def F (n : Int) : Nat := floatOfInt .f64 n
theorem F_zero : F 0 = 0 := by
  have h := fint (n := 0) (by omega)
  have e := Rounds.exact (r := 0) (Nat.zero_le _)
  rw [val_zero] at e
  rw [zmul] at h
  exact Rounds.unique Nat.one_pos h e
theorem F_low {n : Int} (h : 0 < n) : 2 ^ 52 ≤ F n := by
  have e := Rounds.exact (r := 1022 * 2 ^ 52 + 2 ^ 52) (by decide)
  rw [val_one] at e
  refine Nat.le_trans (by decide) (e.le Nat.one_pos ?_ (fint (n := n) (Int.le_of_lt h)))
  exact Nat.le_mul_of_pos_left _ (show 0 < n.toNat by omega)
theorem F_high {n : Int} (h0 : 0 ≤ n) (h : n < 2 ^ 32) : F n ≤ 1054 * 2 ^ 52 + 2 ^ 52 := by
  have hn : n.toNat ≤ 2 ^ 32 := by omega
  have e := Rounds.exact (r := 1054 * 2 ^ 52 + 2 ^ 52) (by decide)
  rw [val_big] at e
  exact (fint (n := n) h0).le Nat.one_pos (Nat.mul_le_mul_right _ hn) e
theorem F_fin {n : Int} (h0 : 0 ≤ n) (h : n < 2 ^ 32) : F n < inf := Nat.lt_of_le_of_lt (F_high h0 h) (by decide)
theorem val_dbl {x : Nat} (h : 2 ^ 52 ≤ x) : val (x + 2 ^ 52) = 2 * val x := by
  unfold val
  rw [if_neg (by omega), if_neg (by omega)]
  have e1 : (x + 2 ^ 52) % 2 ^ 52 = x % 2 ^ 52 := by omega
  have e2 : (x + 2 ^ 52) / 2 ^ 52 - 1 = (x / 2 ^ 52 - 1) + 1 := by omega
  rw [e1, e2, Nat.pow_add 2 (x / 2 ^ 52 - 1) 1, Nat.pow_one, Nat.mul_comm 2, Nat.mul_assoc]
theorem two_lt : (4611686018427387904 : Nat) < inf := by decide
theorem dbl_rounds {x : Nat} (hx : x < inf) : fok .mul 4611686018427387904 x = true ∧ Rounds (2 * val x) 1 (fop .mul 4611686018427387904 x) := by
  obtain ⟨h1, h2⟩ := fmul two_lt hx
  refine ⟨h1, h2.congr (Nat.two_pow_pos 1074) Nat.one_pos ?_⟩
  exact mul21 _ _ _ val_two
theorem dbl_zero : fop .mul 4611686018427387904 0 = 0 := by
  have h := (dbl_rounds (x := 0) (by decide)).2
  have e := Rounds.exact (r := 0) (Nat.zero_le _)
  rw [val_zero] at h e
  exact Rounds.unique (by omega) h e
theorem dbl_pos {x : Nat} (h : 2 ^ 52 ≤ x) (h2 : x + 2 ^ 52 < inf) : fop .mul 4611686018427387904 x = x + 2 ^ 52 := by
  have h1 := (dbl_rounds (x := x) (by omega)).2
  have e := Rounds.exact (r := x + 2 ^ 52) (by omega)
  rw [val_dbl h] at e
  exact Rounds.unique (by omega) h1 e
theorem dbl_F {n : Int} (h0 : 0 ≤ n) (h : n < 2 ^ 32) : (n = 0 ∧ F n = 0 ∧ fop .mul 4611686018427387904 (F n) = 0) ∨ (0 < n ∧ 2 ^ 52 ≤ F n ∧ F n < inf ∧ F n + 2 ^ 52 < inf ∧ fop .mul 4611686018427387904 (F n) = F n + 2 ^ 52) := by
  by_cases c : n = 0
  · subst c
    refine .inl ⟨rfl, F_zero, ?_⟩
    rw [F_zero]; exact dbl_zero
  · have hp : 0 < n := by omega
    have hh := F_high h0 h
    have hi : F n + 2 ^ 52 < inf := Nat.lt_of_le_of_lt (Nat.add_le_add_right hh _) (by decide)
    exact .inr ⟨hp, F_low hp, F_fin h0 h, hi, dbl_pos (F_low hp) hi⟩
theorem sh_fin {a b : Nat} (ha : a < inf) (hb : b < inf) : sh a b = if a = 0 then 0 else fop .quo a b := by
  unfold sh; rw [cl_of ha, cl_of hb]
theorem zero_fin : 0 < inf := inf_pos
/-- both doubled -/
theorem sh_dbl {n m : Int} (h0 : 0 ≤ n) (h : n < 2 ^ 32) (h0' : 0 ≤ m) (h' : m < 2 ^ 32) : sh (fop .mul 4611686018427387904 (F n)) (fop .mul 4611686018427387904 (F m)) = sh (F n) (F m) := by
  rcases dbl_F h0 h with ⟨_, e1, e2⟩ | ⟨_, l1, f1, g1, e1⟩
  · rw [e1] at e2 ⊢
    rw [e2]
    rcases dbl_F h0' h' with ⟨_, d1, d2⟩ | ⟨_, l2, f2, g2, d1⟩
    · rw [d1] at d2 ⊢
      rw [d2]
    · rw [d1, sh_fin zero_fin g2, sh_fin zero_fin f2, if_pos rfl, if_pos rfl]
  · rcases dbl_F h0' h' with ⟨_, d1, d2⟩ | ⟨_, l2, f2, g2, d1⟩
    · rw [d1] at d2 ⊢
      rw [d2, e1, sh_fin g1 zero_fin, sh_fin f1 zero_fin, if_neg (by omega), if_neg (by omega), (fdiv_zero (by omega) g1).2, (fdiv_zero (by omega) f1).2]
    · rw [e1, d1, sh_fin g1 g2, sh_fin f1 f2, if_neg (by omega), if_neg (by omega)]
      have q1 := (fdiv g1 g2 (by omega) (by omega)).2
      have q2 := (fdiv f1 f2 (by omega) (by omega)).2
      have p2 := val_pos (show 0 < F m by omega)
      rw [val_dbl l1, val_dbl l2] at q1
      refine Rounds.unique p2 (q1.congr (by omega) p2 ?_) q2
      generalize 2 ^ 1074 = U
      generalize val (F n) = X
      generalize val (F m) = Y
      ac_rfl
/-- more of as much -/
theorem sh_more {a s b : Nat} (ha : a < inf) (hb : b < inf) (hs : s ≤ inf) (h : a ≤ s) : sh a b ≤ sh s b := by
  by_cases c : a = 0
  · rw [sh_fin ha hb, if_pos c]; exact Nat.zero_le _
  · have hc : a ≤ cl s := by have := cl_mono hs h; rwa [cl_of ha] at this
    unfold sh
    rw [cl_of ha, cl_of hb, if_neg c, if_neg (show cl s ≠ 0 by omega)]
    by_cases hb0 : b = 0
    · subst hb0
      rw [(fdiv_zero (by omega) ha).2, (fdiv_zero (by omega) (cl_lt s)).2]
      exact Nat.le_refl _
    · have q1 := (fdiv ha hb (by omega) (by omega)).2
      have q2 := (fdiv (cl_lt s) hb (by omega) (by omega)).2
      exact q1.le (val_pos (by omega)) (Nat.mul_le_mul_right _ (val_le hc)) q2
theorem add_more {a m : Nat} (ha : a < inf) (hm : m < inf) : fok .add a m = true ∧ fop .add a m ≤ inf ∧ a ≤ fop .add a m := by
  obtain ⟨h1, h2⟩ := fadd ha hm
  exact ⟨h1, h2.1, (Rounds.exact (Nat.le_of_lt ha)).le (by omega) (by omega) h2⟩
/-! ### the bonus -/
def oth (L : List S33) (who : Int) : Nat := L.countP fun u => decide (u.f0 ≠ who)
theorem cnt_oth (L : List S33) (who : Int) (own : Nat) : cnt L who own ≤ oth L who := by
  unfold cnt oth
  refine List.countP_mono_left fun u _ h => ?_
  unfold bp at h
  exact (Bool.and_eq_true_iff.1 h).1
theorem bonusV_le (L : List S33) (who : Int) : 0 ≤ bonusV L who ∧ bonusV L who ≤ oth L who := by
  unfold bonusV
  cases L.find? (isW who) with
  | none => exact ⟨by simp, by simp⟩
  | some u => exact ⟨by simp, by simpa using cnt_oth L who (shU u)⟩
theorem bonusV_more (L : List S33) (who : Int) : bonusV L who ≤ bonusV (L ++ [⟨who, 0, 0⟩]) who := by
  have h0 := (bonusV_le (L ++ [⟨who, 0, 0⟩]) who).1
  unfold bonusV at h0 ⊢
  rw [List.find?_append] at h0 ⊢
  cases h : L.find? (isW who) with
  | none => rw [h] at h0; simpa using h0
  | some u =>
    simp only [Option.some_or]
    rw [cnt_step, if_pos rfl]
    omega
theorem scalesLoop {L : List S33} (hF : FL L) (hl : L.length ≤ 60) (who : Int) : ∀ (R P : List S33) (k : Nat) (o i : Int), L = P ++ R → i = (P.length : Int) → o = (oth P who : Int) → R.length + 5000 < k →
    bailiwicklaw15_ShareScales.l0 k L who o i = some true := by
  intro R
  induction R with
  | nil =>
    intro P k o i hx hi ho hk
    obtain ⟨k, rfl⟩ : ∃ j, k = j + 1 := ⟨k - 1, by omega⟩
    have hx' : L = P := by rw [hx]; simp
    have hb := bonusV_le L who
    have hm := bonusV_more L who
    have hF2 : FL (L ++ [⟨who, 0, 0⟩]) := fun u hu => by
      rcases List.mem_append.1 hu with h | h
      · exact hF u h
      · simp at h; subst h; exact ⟨Nat.two_pow_pos 64, Nat.two_pow_pos 64⟩
    rw [bailiwicklaw15_ShareScales.l0, if_neg (by rw [hx']; omega), sBonus hF (by omega) who k (by omega)]
    simp only [Option.bind_some, List.nil_append, List.length_nil]
    rw [if_pos hb.1, if_pos (by rw [ho, ← hx']; exact hb.2), if_pos (by omega), if_pos (by omega), sBonus hF2 (by simp; omega) who k (by omega)]
    simpa using hm
  | cons v R ih =>
    intro P k o i hx hi ho hk
    obtain ⟨k, rfl⟩ : ∃ j, k = j + 1 := ⟨k - 1, by omega⟩
    have hlen : P.length < L.length := by rw [hx]; simp
    have hol : oth P who ≤ P.length := List.countP_le_length
    have hstep : oth (P ++ [v]) who = oth P who + if v.f0 = who then 0 else 1 := by
      unfold oth
      rw [List.countP_append]
      congr 1
      by_cases h : v.f0 = who <;> simp [h]
    rw [bailiwicklaw15_ShareScales.l0, if_pos (by omega), if_pos (by omega), rdT_of hx hi, wid (x := i + 1) (by omega) (by omega)]
    simp only [List.length_cons] at hk
    by_cases c : v.f0 = who
    · rw [if_pos c]
      exact ih (P ++ [v]) k o (i + 1) (by rw [hx]; simp) (by simp; omega) (by rw [hstep, if_pos c]; omega) (by omega)
    · rw [if_neg c, wid (by omega) (by omega)]
      exact ih (P ++ [v]) k (o + 1) (i + 1) (by rw [hx]; simp) (by simp; omega) (by rw [hstep, if_neg c]; omega) (by omega)
theorem ShareScales (a0 a1 a2 : Int) (l3 : List S33) (a4 : Int) (h0 : 0 ≤ a0 ∧ a0 < 2 ^ 32) (h1 : 0 ≤ a1 ∧ a1 < 2 ^ 32) (h2 : 0 ≤ a2 ∧ a2 < 2 ^ 32) (hF : FL l3) : ∃ k, bailiwicklaw15_ShareScales.f k a0 a1 a2 l3 a4 = some true := by
  refine ⟨10000, ?_⟩
  have f0 := F_fin h0.1 h0.2
  have f1 := F_fin h1.1 h1.2
  have f2 := F_fin h2.1 h2.2
  have lt64 : ∀ x, x ≤ inf → x < 2 ^ 64 := fun x hx => Nat.lt_of_le_of_lt hx (by decide)
  have k0 := dbl_rounds f0
  have k1 := dbl_rounds f1
  have ka := add_more f0 f2
  obtain ⟨q1, q2, q3, q4⟩ := cut60 hF
  have hsm := sh_more f0 f1 ka.2.1 ka.2.2
  have hsd := sh_dbl h0.1 h0.2 h1.1 h1.2
  have e0 : floatOfInt .f64 a0 = F a0 := rfl
  have e1 : floatOfInt .f64 a1 = F a1 := rfl
  have e2 : floatOfInt .f64 a2 = F a2 := rfl
  unfold bailiwicklaw15_ShareScales.f
  rw [e0, e1, e2, awake15 10000 (by omega)]
  generalize F a0 = A at *
  generalize F a1 = B at *
  generalize F a2 = C at *
  simp only [Option.bind_some, if_true]
  rw [if_pos q1, if_pos q2, sShare 0 (lt64 A (Nat.le_of_lt f0)) (lt64 B (Nat.le_of_lt f1)) 10000 (by omega)]
  simp only [Option.bind_some]
  rw [if_pos k0.1, if_pos k1.1, sShare 0 (lt64 _ k0.2.1) (lt64 _ k1.2.1) 10000 (by omega)]
  simp only [Option.bind_some]
  unfold bailiwicklaw15_same.f
  rw [hsd]
  simp only [Option.bind_some]
  rw [if_pos (by simp), if_pos ka.1, sShare 0 (lt64 _ ka.2.1) (lt64 B (Nat.le_of_lt f1)) 10000 (by omega)]
  simp only [Option.bind_some]
  rw [flt_r (sh_le _ _) (sh_le _ _), decide_eq_false (by omega)]
  have hj : ∀ k, bailiwicklaw15_ShareScales.j0 (k + 1) (l3.take (mn (l3.length : Int) 60).toNat) a4 false = bailiwicklaw15_ShareScales.l0 k (l3.take (mn (l3.length : Int) 60).toNat) a4 0 0 := fun k => by
    rw [bailiwicklaw15_ShareScales.j0, if_neg (by simp)]
  rw [show 10000 = 9999 + 1 from rfl, hj]
  exact scalesLoop q3 q4 a4 _ [] 9999 0 0 rfl rfl rfl (by omega)
end Go.Proofs.Ytemlhkognjhgbaa.Pure
