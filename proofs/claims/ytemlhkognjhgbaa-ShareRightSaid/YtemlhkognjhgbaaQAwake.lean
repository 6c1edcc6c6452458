/- The law's fixed answer. No program in sight. -/
import Derived.Test.YtemlhkognjhgbaaPAllx13
namespace Go.Proofs.Ytemlhkognjhgbaa.Pure
open Go.RowKit Go.Proofs.Ytemlhkognjhgbaa.PAll Go.Proofs.YtemlhkognjhgbaaW.PrintWords Go.Proofs.YtemlhkognjhgbaaW.PrintLast Go.Proofs.YtemlhkognjhgbaaW.PrintMore
theorem awake15 (k : Nat) (hk : 100 ≤ k) : bailiwicklaw15_awake.f k = some true :=
  at_rounds (g := fun k => bailiwicklaw15_awake.f k) bailiwicklaw15_awake.mono hk (by decide +kernel)
end Go.Proofs.Ytemlhkognjhgbaa.Pure
