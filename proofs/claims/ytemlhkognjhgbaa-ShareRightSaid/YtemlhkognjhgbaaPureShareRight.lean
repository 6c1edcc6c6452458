/- ShareRight, the plain law: cleaned, faded, added, shared as the document says, bit by bit. No program in sight. -/
import Derived.Test.YtemlhkognjhgbaaQSum
import Derived.Test.YtemlhkognjhgbaaQAwake
import Derived.Test.YtemlhkognjhgbaaPAllx24
namespace Go.Proofs.Ytemlhkognjhgbaa.Pure
open Go Go.RowKit Go.Proofs.YtemlhkognjhgbaaF Go.Proofs.Ytemlhkognjhgbaa.PAll Go.Proofs.YtemlhkognjhgbaaW.PrintWords Go.Proofs.YtemlhkognjhgbaaW.PrintLast Go.Proofs.YtemlhkognjhgbaaW.PrintMore
set_option linter.unusedVariables false
set_option linter.unusedSimpArgs false
theorem sameF (x : Nat) : bailiwicklaw15_same.f x x = some true := by unfold bailiwicklaw15_same.f; simp
theorem ShareRight (a0 : Nat) (a1 : Int) (l2 : List Nat) (b0 : Int) (b1 b2 : Nat) (h0 : a0 < 2 ^ 64) (hF : L64 l2) (h1 : b1 < 2 ^ 64) (h2 : b2 < 2 ^ 64) : ∃ k, bailiwicklaw15_ShareRight.f k a0 a1 l2 b0 b1 b2 = some true := by
  refine ⟨10000, ?_⟩
  unfold bailiwicklaw15_ShareRight.f
  obtain ⟨q1, q2, q3, q4⟩ := cut200 hF
  rw [awake15 10000 (by omega)]
  simp only [Option.bind_some, if_true]
  rw [if_pos q1, if_pos q2, sClean h0 10000 (by omega), rClean h0]
  simp only [Option.bind_some, sameF, if_true]
  rw [sFade h0 a1 10000 (by omega)]
  simp only [Option.bind_some]
  rw [rFade h0 a1 10000 (by omega)]
  simp only [Option.bind_some, sameF, if_true]
  rw [sSum q3 (by omega) 10000 (by omega)]
  simp only [Option.bind_some]
  rw [rSum q3 (by omega) 10000 (by omega)]
  simp only [Option.bind_some, sameF, if_true]
  rw [sShare b0 h1 h2 10000 (by omega)]
  simp only [Option.bind_some]
  rw [rShare b0 h1 h2]
  simp only [Option.bind_some, sameF]
end Go.Proofs.Ytemlhkognjhgbaa.Pure
