/- PoolsOne, the plain law: pools of one kind are its profile. No program in sight. -/
import Derived.Test.YtpekjfmlpogfaaaQOne
import Derived.Test.YtpekjfmlpogfaaaPAllx33
namespace Go.Proofs.Ytpekjfmlpogfaaa.Pure
open Go.RowKit Go.Proofs.Ytpekjfmlpogfaaa.PAll Go.Proofs.YtpekjfmlpogfaaaW.PrintWords Go.Proofs.YtpekjfmlpogfaaaW.PrintLast Go.Proofs.YtpekjfmlpogfaaaW.PrintMore
set_option linter.unusedVariables false
set_option linter.unusedSimpArgs false

theorem awake04O (k : Nat) (hk : 60 ≤ k) : bailiwicklaw04_awake.f k = some true :=
  at_rounds (g := fun k => bailiwicklaw04_awake.f k) bailiwicklaw04_awake.mono hk (by decide +kernel)
theorem eachL_one (p : List S38) (a b n : Int) : eachL (fun p c => takeF p a b c) [p] [n] = if rightB p = true then (if (takeF p a b n).2 = 0 then ([(takeF p a b n).1], 0) else ([p], (takeF p a b n).2)) else ([p], 1) := by
  unfold eachL
  rw [rightL_one]
  by_cases h : rightB p = true
  · rw [if_pos ⟨h, rfl⟩, if_pos h]
    simp [eachR]
  · rw [if_neg (fun g => h g.1), if_neg h]
theorem PoolsOne (l0 : List S38) (a1 a2 a3 : Int) : ∃ k, bailiwicklaw04_PoolsOne.f k l0 a1 a2 a3 = some true := by
  refine ⟨60001, ?_⟩
  unfold bailiwicklaw04_PoolsOne.f
  rw [awake04O 60001 (by omega)]
  simp only [Option.bind_some, if_true]
  by_cases hl : (l0.length : Int) > 100
  · rw [if_pos hl]
  · rw [if_neg hl]
    obtain ⟨y, y1, y2⟩ := firstL_one l0 a1 a2 a3
    rw [sTakeL [l0] a1 a2 [a3] (by simp) (by simp; omega) 60001 (by omega), sTake l0 a1 a2 a3 (by omega) 60001 (by omega), y1 60001 (by omega), y2 60001 (by omega), sRightL [l0] 60001 (by omega), sRight l0 60001 (by omega), rightL_one, eachL_one]
    simp only [Option.bind_some]
    have key : bailiwicklaw04_PoolsOne.j0 60001 l0 a1 [l0] (if rightB l0 = true then (if (takeF l0 a1 a2 a3).2 = 0 then ([(takeF l0 a1 a2 a3).1], (0 : Int)) else ([l0], (takeF l0 a1 a2 a3).2)) else ([l0], 1)).1 (if rightB l0 = true then (if (takeF l0 a1 a2 a3).2 = 0 then ([(takeF l0 a1 a2 a3).1], (0 : Int)) else ([l0], (takeF l0 a1 a2 a3).2)) else ([l0], 1)).2 (takeF l0 a1 a2 a3).1 (takeF l0 a1 a2 a3).2 false = some true := by
      rw [bailiwicklaw04_PoolsOne.j0, if_neg (by simp), sRight l0 60000 (by omega), sAtL [l0] a1 (by simp) 60000 (by omega), rightL_one]
      simp only [Option.bind_some]
      by_cases hb : rightB l0 = true
      · rw [if_pos hb, if_pos hb, if_pos hb]
        by_cases h0 : (takeF l0 a1 a2 a3).2 = 0
        · rw [if_pos h0, h0]
          simp only [if_true]
          rw [if_pos (by simp), rdL_one, rSame _ _ 60000 (by have := takeF_len l0 a1 a2 a3 (by omega); omega) (by have := takeF_len l0 a1 a2 a3 (by omega); omega)]
          simp [sAt l0 a1 60000 (by omega), rd_one]
        · rw [if_neg h0]
          have e := (take_fail h0 (by omega)).1
          simp only [if_true]
          rw [if_pos (by simp), rdL_one, e, rSame _ _ 60000 (by omega) (by omega)]
          simp [sAt l0 a1 60000 (by omega), rd_one]
      · rw [if_neg hb, if_neg hb, if_neg hb]
        simp
    have hlen : ((if rightB l0 = true then (if (takeF l0 a1 a2 a3).2 = 0 then ([(takeF l0 a1 a2 a3).1], (0 : Int)) else ([l0], (takeF l0 a1 a2 a3).2)) else ([l0], 1)).1.length : Int) = 1 := by
      split
      · split <;> rfl
      · rfl
    rw [hlen, show ((1 : Int) != 1) = false from rfl, key]
    cases rightB l0 <;> cases hy : y.2 <;> simp
end Go.Proofs.Ytpekjfmlpogfaaa.Pure
