/- StepRight, the plain law: for all profiles, times and amounts the law's plain form answers true. No program in sight. -/
import Derived.Test.YtpekjfmlpogfaaaQGive
import Derived.Test.YtpekjfmlpogfaaaPAllx23
namespace Go.Proofs.Ytpekjfmlpogfaaa.Pure
open Go.RowKit Go.Proofs.Ytpekjfmlpogfaaa.PAll Go.Proofs.YtpekjfmlpogfaaaW.PrintWords Go.Proofs.YtpekjfmlpogfaaaW.PrintLast Go.Proofs.YtpekjfmlpogfaaaW.PrintMore
set_option linter.unusedVariables false
set_option linter.unusedSimpArgs false

theorem awake03R (k : Nat) (hk : 60 ≤ k) : bailiwicklaw03_awake.f k = some true :=
  at_rounds (g := fun k => bailiwicklaw03_awake.f k) bailiwicklaw03_awake.mono hk (by decide +kernel)
theorem StepRight (l0 : List S38) (a1 a2 a3 : Int) : ∃ k, bailiwicklaw03_StepRight.f k l0 a1 a2 a3 = some true := by
  refine ⟨30003, ?_⟩
  unfold bailiwicklaw03_StepRight.f
  rw [awake03R 30003 (by omega)]
  simp only [Option.bind_some, if_true]
  by_cases c1 : (l0.length : Int) > 200
  · rw [if_pos c1]
  rw [if_neg c1, if_pos (by simp; omega)]
  have hl : l0.length ≤ 2000 := by omega
  simp only [List.nil_append]
  rw [sTake l0 _ _ _ hl _ (by omega)]
  simp only [Option.bind_some]
  rw [rTake l0 _ _ _ _ (by omega)]
  simp only [Option.bind_some]
  rw [sGive l0 _ _ _ hl _ (by omega)]
  simp only [Option.bind_some]
  rw [rGive l0 _ _ _ _ (by omega)]
  simp only [Option.bind_some]
  rw [sLeastF l0 _ _ _ (by omega)]
  simp only [Option.bind_some]
  rw [rMay l0 _ _ _ (by omega)]
  simp only [Option.bind_some]
  have hj1 : ∀ k, 30000 ≤ k → bailiwicklaw03_StepRight.j1 (k + 1) l0 a1 l0 (takeF l0 a1 a2 a3).1 (takeF l0 a1 a2 a3).2 (takeF l0 a1 a2 a3).1 (takeF l0 a1 a2 a3).2 (giveF l0 a1 a2 a3).1 (giveF l0 a1 a2 a3).2 (giveF l0 a1 a2 a3).1 (giveF l0 a1 a2 a3).2 false = some true := by
    intro k hk
    rw [bailiwicklaw03_StepRight.j1, if_neg (by simp), sRight l0 k (by omega), rRight l0 k (by omega)]
    simp only [Option.bind_some]
    have h1 := takeF_len l0 a1 a2 a3 hl
    have h2 := giveF_len l0 a1 a2 a3 hl
    rw [sAt l0 _ k (by omega), rAt l0 _ k (by omega), rSame _ _ k (by omega) (by omega), rSame _ _ k (by omega) (by omega), rSame _ _ k (by omega) (by omega)]
    simp only [Option.bind_some, decide_true, if_true]
    cases rightB l0 <;> simp
  have hj0 : ∀ k, 30000 ≤ k → bailiwicklaw03_StepRight.j0 (k + 1 + 1) l0 a1 a3 l0 (takeF l0 a1 a2 a3).1 (takeF l0 a1 a2 a3).2 (takeF l0 a1 a2 a3).1 (takeF l0 a1 a2 a3).2 (giveF l0 a1 a2 a3).1 (giveF l0 a1 a2 a3).2 (giveF l0 a1 a2 a3).1 (giveF l0 a1 a2 a3).2 false = some true := by
    intro k hk
    rw [bailiwicklaw03_StepRight.j0, if_neg (by simp)]
    unfold step_New.f
    rw [amountF]
    simp only [Option.bind_some]
    by_cases g1 : 0 ≤ a3
    · by_cases g2 : a3 ≤ 1048576
      · rw [if_pos (show (decide (0 ≤ a3) && decide (a3 ≤ 1048576)) = true by simp [g1, g2])]
        simp only [Option.bind_some]
        rw [if_pos (show a3 ≥ 0 from g1), if_pos trivial, if_pos g2, if_pos (by simp), if_pos (by simp), if_pos (by simp [rd_T38]), hj1 k hk]
      · rw [if_neg (show ¬ (decide (0 ≤ a3) && decide (a3 ≤ 1048576)) = true by simp [g2])]
        simp only [Option.bind_some]
        rw [if_pos (show a3 ≥ 0 from g1), if_neg (by simp), if_neg g2]
        exact hj1 k hk
    · rw [if_neg (show ¬ (decide (0 ≤ a3) && decide (a3 ≤ 1048576)) = true by simp [g1])]
      simp only [Option.bind_some]
      rw [if_neg (show ¬ a3 ≥ 0 from g1), if_neg (by simp)]
      exact hj1 k hk
  by_cases hm : mayB l0 a1 a2 = true
  · have e : leastR l0 a1 a2 = (leastF a1 a2 (vF 0 l0 a1) l0, 0) := by unfold leastR; rw [if_pos hm]
    rw [if_pos hm, e]
    simp only [if_true]
    rw [rLeast l0 _ _ _ hl (by omega)]
    simp only [Option.bind_some, if_true]
    exact hj0 30001 (by omega)
  · have e : leastR l0 a1 a2 = (0, 1) := by unfold leastR; rw [if_neg hm]
    rw [if_neg hm, e]
    simp only
    rw [if_neg (by omega), if_pos trivial]
    exact hj0 30001 (by omega)
end Go.Proofs.Ytpekjfmlpogfaaa.Pure
