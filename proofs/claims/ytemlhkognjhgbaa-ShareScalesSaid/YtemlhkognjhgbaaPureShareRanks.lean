/- ShareRanks, the plain law: the order of any list, and anybody's bonus, is the document's. No program in sight. -/
import Derived.Test.YtemlhkognjhgbaaQBonusR
import Derived.Test.YtemlhkognjhgbaaQAwake
import Derived.Test.YtemlhkognjhgbaaPAllx18
namespace Go.Proofs.Ytemlhkognjhgbaa.Pure
open Go Go.RowKit Go.Proofs.Ytemlhkognjhgbaa.PAll Go.Proofs.YtemlhkognjhgbaaW.PrintWords Go.Proofs.YtemlhkognjhgbaaW.PrintLast Go.Proofs.YtemlhkognjhgbaaW.PrintMore
set_option linter.unusedVariables false
set_option linter.unusedSimpArgs false
theorem sameRefl (M : List Int) (hM : M.length ≤ 1000) : ∀ (d i k : Nat), i + d = M.length → d < k → bailiwickref01_Same.l0 k M M (i : Int) = some true := by
  intro d
  induction d with
  | zero =>
    intro i k hi hk
    obtain ⟨k, rfl⟩ : ∃ j, k = j + 1 := ⟨k - 1, by omega⟩
    rw [bailiwickref01_Same.l0, if_neg (by omega)]
  | succ d ih =>
    intro i k hi hk
    obtain ⟨k, rfl⟩ : ∃ j, k = j + 1 := ⟨k - 1, by omega⟩
    have hw : wrap64 ((i : Int) + 1) = ((i + 1 : Nat) : Int) := by rw [wid (by omega) (by omega)]; omega
    rw [bailiwickref01_Same.l0, if_pos (by omega), if_pos (by omega), if_pos (by omega), if_pos rfl, hw]
    exact ih (i + 1) k (by omega) (by omega)
theorem same_self (M : List Int) (hM : M.length ≤ 1000) (k : Nat) (hk : 1000 < k) : bailiwickref01_Same.f k M M = some true := by
  unfold bailiwickref01_Same.f
  rw [if_pos rfl]
  exact sameRefl M hM M.length 0 k (by omega) (by omega)
theorem cut60 {l : List S33} (hF : FL l) : 0 ≤ mn (l.length : Int) 60 ∧ mn (l.length : Int) 60 ≤ (l.length : Int) ∧ FL (l.take (mn (l.length : Int) 60).toNat) ∧ (l.take (mn (l.length : Int) 60).toNat).length ≤ 60 := by
  have h : mn (l.length : Int) 60 ≤ 60 ∧ mn (l.length : Int) 60 ≤ (l.length : Int) ∧ 0 ≤ mn (l.length : Int) 60 := by
    unfold mn
    split <;> omega
  refine ⟨h.2.2, h.2.1, fun u hu => hF u (List.mem_of_mem_take hu), ?_⟩
  rw [List.length_take]
  omega
theorem ShareRanks (l0 : List S33) (a1 : Int) (hF : FL l0) : ∃ k, bailiwicklaw15_ShareRanks.f k l0 a1 = some true := by
  refine ⟨100000, ?_⟩
  unfold bailiwicklaw15_ShareRanks.f
  obtain ⟨h1, h2, h3, h4⟩ := cut60 hF
  rw [awake15 100000 (by omega)]
  simp only [Option.bind_some, if_true]
  rw [if_pos h1, if_pos h2]
  generalize l0.take (mn (l0.length : Int) 60).toNat = y at *
  obtain ⟨M, m1, m2, m3⟩ := order60 h3 h4
  have hM : M.length ≤ 60 := by rw [m2.length_eq, upto_len]; exact h4
  rw [m3 100000 (by omega)]
  simp only [Option.bind_some]
  rw [rOrder60 h3 h4 m1 m2 100000 (by omega)]
  simp only [Option.bind_some]
  rw [same_self M (by omega) 100000 (by omega)]
  simp only [Option.bind_some, if_true]
  rw [sBonus h3 (by omega) a1 100000 (by omega)]
  simp only [Option.bind_some]
  rw [rBonus h3 (by omega) a1 100000 (by omega)]
  simp
end Go.Proofs.Ytemlhkognjhgbaa.Pure
