/-
  No cell of these rows narrows 'for every input' (looked for: loops, veiled, ifaces, maps, wideKeys, modest, calm, conditions, laid).
  DERIVED. THE GIVEN ROWS OF THIS SEAT. 4 by the template 'for every input the law returns true; each argument reads behind the call as it read before'; 0 by the template 'total and deterministic' (their statements: YtpekjfmlpogfaaaTotals.lean).
  GIVEN WITH THE SEED: the statements are not yours to turn. If you find one false, say at which input.
  Laid BY PROGRAM, IN A SANDBOX (cutbox-rows.mjs): the forced cells as the released guide's own fill.sh prints them over the translation b2f1c43f1619bd24… (all of the seat's roots in one cut). By AI agents, Wed Nov 11 2026. No macro, syntax, notation, axiom, sorry.
-/
import Derived.Test.YtpekjfmlpogfaaaChecked
import GoSem.Claim
import GoSem.ClaimJoined
import GoSem.ClaimMapViews
import Derived.JoinedTies
import Derived.KernelRfl
namespace Go.Proofs.Ytpekjfmlpogfaaa
/- THE CELL 'sum', in the pinned program and in every row, IS THE sha256 OF THE DUMP (.gsa) THAT YtpekjfmlpogfaaaProg.lean LOADS. Nothing in Lean hashes anything: it is a label: what it is worth is what the hold of that sum in a sandbox is worth. -/
noncomputable def Try.pinned : Pinned := { name := "ytpekjfmlpogfaaa", sum := "b2f1c43f1619bd24e4387fdcd16d81d16656131df1881c4e3b49d52c848e20d5", checked := Try.checked }
namespace Rows
def none {H : Type} : Left H := { results := [], args := [] }

/-- 'bailiwicklaw03.StepTwice': WHATEVER THE INPUT: true; the input reads as it did. -/
def stepTwiceSpec : ChangeSpec := { name := "stepTwice", fn := fun _ => fun
  | [d1, d2, d3, d4, d5, d6] => { results := [.lit (.bool true)], args := [d1, d2, d3, d4, d5, d6] }
  | _ => none }
def stepTwiceRow : OpenClaim := { program := "ytpekjfmlpogfaaa", sum := "b2f1c43f1619bd24e4387fdcd16d81d16656131df1881c4e3b49d52c848e20d5", func := "bailiwick/bailiwicklaw03.StepTwice", spec := "stepTwice", unfollowed := true, recurses := true, apart := false }
def StepTwiceSaid : Prop := stepTwiceRow.holds Try.pinned (OpenSpec.ofChange stepTwiceSpec)

/-- ITS FALSE NEIGHBOUR: 'it returns false'. Refute it at one input. -/
def stepTwiceWrong : ChangeSpec := { name := "stepTwice", fn := fun _ => fun
  | [d1, d2, d3, d4, d5, d6] => { results := [.lit (.bool false)], args := [d1, d2, d3, d4, d5, d6] }
  | _ => none }
def StepTwiceWrongFalsely : Prop := stepTwiceRow.holds Try.pinned (OpenSpec.ofChange stepTwiceWrong)

/-- 'bailiwicklaw03.StepRight': WHATEVER THE INPUT: true; the input reads as it did. -/
def stepRightSpec : ChangeSpec := { name := "stepRight", fn := fun _ => fun
  | [d1, d2, d3, d4] => { results := [.lit (.bool true)], args := [d1, d2, d3, d4] }
  | _ => none }
def stepRightRow : OpenClaim := { program := "ytpekjfmlpogfaaa", sum := "b2f1c43f1619bd24e4387fdcd16d81d16656131df1881c4e3b49d52c848e20d5", func := "bailiwick/bailiwicklaw03.StepRight", spec := "stepRight", unfollowed := true, recurses := true, apart := false }
def StepRightSaid : Prop := stepRightRow.holds Try.pinned (OpenSpec.ofChange stepRightSpec)

/-- ITS FALSE NEIGHBOUR: 'it returns false'. Refute it at one input. -/
def stepRightWrong : ChangeSpec := { name := "stepRight", fn := fun _ => fun
  | [d1, d2, d3, d4] => { results := [.lit (.bool false)], args := [d1, d2, d3, d4] }
  | _ => none }
def StepRightWrongFalsely : Prop := stepRightRow.holds Try.pinned (OpenSpec.ofChange stepRightWrong)

/-- 'bailiwicklaw04.PoolsOne': WHATEVER THE INPUT: true; the input reads as it did. -/
def poolsOneSpec : ChangeSpec := { name := "poolsOne", fn := fun _ => fun
  | [d1, d2, d3, d4] => { results := [.lit (.bool true)], args := [d1, d2, d3, d4] }
  | _ => none }
def poolsOneRow : OpenClaim := { program := "ytpekjfmlpogfaaa", sum := "b2f1c43f1619bd24e4387fdcd16d81d16656131df1881c4e3b49d52c848e20d5", func := "bailiwick/bailiwicklaw04.PoolsOne", spec := "poolsOne", unfollowed := true, recurses := true, apart := false }
def PoolsOneSaid : Prop := poolsOneRow.holds Try.pinned (OpenSpec.ofChange poolsOneSpec)

/-- ITS FALSE NEIGHBOUR: 'it returns false'. Refute it at one input. -/
def poolsOneWrong : ChangeSpec := { name := "poolsOne", fn := fun _ => fun
  | [d1, d2, d3, d4] => { results := [.lit (.bool false)], args := [d1, d2, d3, d4] }
  | _ => none }
def PoolsOneWrongFalsely : Prop := poolsOneRow.holds Try.pinned (OpenSpec.ofChange poolsOneWrong)

/-- 'bailiwicklaw04.PoolsRight': WHATEVER THE INPUT: true; the input reads as it did. -/
def poolsRightSpec : ChangeSpec := { name := "poolsRight", fn := fun _ => fun
  | [d1, d2, d3, d4] => { results := [.lit (.bool true)], args := [d1, d2, d3, d4] }
  | _ => none }
def poolsRightRow : OpenClaim := { program := "ytpekjfmlpogfaaa", sum := "b2f1c43f1619bd24e4387fdcd16d81d16656131df1881c4e3b49d52c848e20d5", func := "bailiwick/bailiwicklaw04.PoolsRight", spec := "poolsRight", unfollowed := true, recurses := true, apart := false }
def PoolsRightSaid : Prop := poolsRightRow.holds Try.pinned (OpenSpec.ofChange poolsRightSpec)

/-- ITS FALSE NEIGHBOUR: 'it returns false'. Refute it at one input. -/
def poolsRightWrong : ChangeSpec := { name := "poolsRight", fn := fun _ => fun
  | [d1, d2, d3, d4] => { results := [.lit (.bool false)], args := [d1, d2, d3, d4] }
  | _ => none }
def PoolsRightWrongFalsely : Prop := poolsRightRow.holds Try.pinned (OpenSpec.ofChange poolsRightWrong)

/- THE SECOND FORM. 'bulk': how many values and letters a reading holds, each counted each time it is reached (what is shared counts as often as it is met; a slice's spare places count too). A statement '..UptoSaid' is the law's where the arguments, and the package variables that the reading takes, are together of bulk at most 1048576: NARROWER than '..Said'. Prove '..Said' where nothing that the law and all that it calls make is longer than what came in: it says more and counts as full. Else prove '..UptoSaid'. A law counts once. -/
mutual
def uptoBulk {H : Type} : DataW H → Nat
  | .lit (.string bytes) => bytes.length + 1
  | .lit _ => 1
  | .nil => 1
  | .ptr d => uptoBulk d + 1
  | .slice elems spare => uptoBulkAll elems + uptoBulkAll spare + 1
  | .agg parts => uptoBulkAll parts + 1
  | .iface _ d => uptoBulk d + 1
  | .map entries => uptoBulkEntries entries + 1
  | .held _ => 1
def uptoBulkAll {H : Type} : List (DataW H) → Nat
  | [] => 0
  | d :: r => uptoBulk d + uptoBulkAll r
def uptoBulkEntries {H : Type} : List (Lit × DataW H) → Nat
  | [] => 0
  | x :: r => uptoBulkEntry x + uptoBulkEntries r
def uptoBulkEntry {H : Type} : Lit × DataW H → Nat
  | (.string bytes, d) => bytes.length + uptoBulk d + 1
  | (_, d) => uptoBulk d + 1
 end
def uptoSmall : (H : Type) → List (DataW H) → Bool := fun _ ds => decide (uptoBulkAll ds ≤ 1048576)
def OpenSpec.upto (s : _root_.Go.ChangeSpec) : _root_.Go.OpenSpec := { _root_.Go.OpenSpec.ofChange s with cond := some uptoSmall }

/-- 'bailiwicklaw03.StepTwice', WHERE WHAT IT READS IS OF BULK AT MOST 1048576: true; the input reads as it did. -/
def stepTwiceUptoRow : OpenClaim := { program := "ytpekjfmlpogfaaa", sum := "b2f1c43f1619bd24e4387fdcd16d81d16656131df1881c4e3b49d52c848e20d5", func := "bailiwick/bailiwicklaw03.StepTwice", spec := "stepTwice", unfollowed := true, recurses := true, apart := false, narrowed := true }
def StepTwiceUptoSaid : Prop := stepTwiceUptoRow.holds Try.pinned (OpenSpec.upto stepTwiceSpec)

/-- 'bailiwicklaw03.StepRight', WHERE WHAT IT READS IS OF BULK AT MOST 1048576: true; the input reads as it did. -/
def stepRightUptoRow : OpenClaim := { program := "ytpekjfmlpogfaaa", sum := "b2f1c43f1619bd24e4387fdcd16d81d16656131df1881c4e3b49d52c848e20d5", func := "bailiwick/bailiwicklaw03.StepRight", spec := "stepRight", unfollowed := true, recurses := true, apart := false, narrowed := true }
def StepRightUptoSaid : Prop := stepRightUptoRow.holds Try.pinned (OpenSpec.upto stepRightSpec)

/-- 'bailiwicklaw04.PoolsOne', WHERE WHAT IT READS IS OF BULK AT MOST 1048576: true; the input reads as it did. -/
def poolsOneUptoRow : OpenClaim := { program := "ytpekjfmlpogfaaa", sum := "b2f1c43f1619bd24e4387fdcd16d81d16656131df1881c4e3b49d52c848e20d5", func := "bailiwick/bailiwicklaw04.PoolsOne", spec := "poolsOne", unfollowed := true, recurses := true, apart := false, narrowed := true }
def PoolsOneUptoSaid : Prop := poolsOneUptoRow.holds Try.pinned (OpenSpec.upto poolsOneSpec)

/-- 'bailiwicklaw04.PoolsRight', WHERE WHAT IT READS IS OF BULK AT MOST 1048576: true; the input reads as it did. -/
def poolsRightUptoRow : OpenClaim := { program := "ytpekjfmlpogfaaa", sum := "b2f1c43f1619bd24e4387fdcd16d81d16656131df1881c4e3b49d52c848e20d5", func := "bailiwick/bailiwicklaw04.PoolsRight", spec := "poolsRight", unfollowed := true, recurses := true, apart := false, narrowed := true }
def PoolsRightUptoSaid : Prop := poolsRightUptoRow.holds Try.pinned (OpenSpec.upto poolsRightSpec)

end Rows
end Go.Proofs.Ytpekjfmlpogfaaa
