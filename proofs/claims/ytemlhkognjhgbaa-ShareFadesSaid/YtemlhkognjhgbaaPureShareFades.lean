/- ShareFades, the plain law: what is cleaned is clean; fading never makes more; a sum is no less than its parts. No program in sight. -/
import Derived.Test.YtemlhkognjhgbaaPureShareRight
import Derived.Test.YtemlhkognjhgbaaPAllx26
namespace Go.Proofs.Ytemlhkognjhgbaa.Pure
open Go Go.RowKit Go.Proofs.YtemlhkognjhgbaaF Go.Proofs.Ytemlhkognjhgbaa.PAll Go.Proofs.YtemlhkognjhgbaaW.PrintWords Go.Proofs.YtemlhkognjhgbaaW.PrintLast Go.Proofs.YtemlhkognjhgbaaW.PrintMore
set_option linter.unusedVariables false
set_option linter.unusedSimpArgs false
theorem fadesLoop {L : List Nat} (hF : L64 L) (hl : L.length ≤ 200) {s : Nat} (hs : s < inf) (hge : ∀ x ∈ L, cl x ≤ s) : ∀ (R P : List Nat) (i : Int) (k : Nat), L = P ++ R → i = (P.length : Int) → R.length + 1 < k → bailiwicklaw15_ShareFades.l0 k L s i = some true := by
  intro R
  induction R with
  | nil =>
    intro P i k hx hi hk
    obtain ⟨k, rfl⟩ : ∃ m, k = m + 1 := ⟨k - 1, by omega⟩
    have hx' : L = P := by rw [hx]; simp
    have hm : (9218868437227405311 : Nat) = inf - 1 := by decide
    rw [bailiwicklaw15_ShareFades.l0, if_neg (by rw [hx']; omega), fle_r (Nat.le_of_lt hs) (by decide), decide_eq_true (by omega)]
  | cons v R ih =>
    intro P i k hx hi hk
    obtain ⟨k, rfl⟩ : ∃ m, k = m + 1 := ⟨k - 1, by omega⟩
    have hlen : P.length < L.length := by rw [hx]; simp
    have hm : v ∈ L := by rw [hx]; simp
    simp only [List.length_cons] at hk
    rw [bailiwicklaw15_ShareFades.l0, if_pos (by omega), if_pos (by omega), rdO_of hx hi, sClean (hF v hm) k (by omega)]
    simp only [Option.bind_some]
    have hle := hge v hm
    rw [fgt_r (Nat.le_of_lt (cl_lt v)) (Nat.le_of_lt hs), if_neg (by simpa using hle), widF (by omega) (by omega)]
    exact ih (P ++ [v]) (i + 1) k (by rw [hx]; simp) (by simp; omega) (by omega)
theorem ShareFades (a0 : Nat) (a1 a2 : Int) (l3 : List Nat) (h0 : a0 < 2 ^ 64) (h1 : 0 ≤ a1 ∧ a1 < 256) (h2 : 0 ≤ a2 ∧ a2 < 256) (hF : L64 l3) : ∃ k, bailiwicklaw15_ShareFades.f k a0 a1 a2 l3 = some true := by
  refine ⟨10002, ?_⟩
  obtain ⟨q1, q2, q3, q4⟩ := cut200 hF
  have hc := cl_lt a0
  have hm : (9218868437227405311 : Nat) = inf - 1 := by decide
  have h63 : inf < 2 ^ 63 := by decide
  -- the last part
  have e1 : bailiwicklaw15_ShareFades.j1 10000 (l3.take (mn (l3.length : Int) 200).toNat) false = some true := by
    rw [show 10000 = 9999 + 1 from rfl, bailiwicklaw15_ShareFades.j1, if_neg (by simp), sSum q3 (by omega) 9999 (by omega)]
    simp only [Option.bind_some]
    obtain ⟨_, g2, g3⟩ := sumF_ge (l3.take (mn (l3.length : Int) 200).toNat) 0 inf_pos
    exact fadesLoop q3 q4 g2 g3 _ [] 0 9999 rfl rfl (by omega)
  -- the fadings
  have e0 : bailiwicklaw15_ShareFades.j0 10001 a0 a1 a2 (l3.take (mn (l3.length : Int) 200).toNat) (cl a0) false = some true := by
    have hfl := fadeN_lt (halves a1) hc
    have hfle := fadeN_le (halves a1) hc
    have h64 : fadeN (halves a1) (cl a0) < 2 ^ 64 := by omega
    rw [show 10001 = 10000 + 1 from rfl, bailiwicklaw15_ShareFades.j0, if_neg (by simp), widF (x := a1) (by omega) (by omega), widF (x := a2) (by omega) (by omega), widF (x := a1 + a2) (by omega) (by omega), sFade h0 a1 10000 (by omega)]
    simp only [Option.bind_some]
    rw [fgt_r (Nat.le_of_lt hfl) (Nat.le_of_lt hc), if_neg (by simpa using hfle), sFade h64 a2 10000 (by omega)]
    simp only [Option.bind_some]
    rw [sFade h0 (a1 + a2) 10000 (by omega), cl_of hfl, fadeN_add]
    have hh : halves a1 + halves a2 = halves (a1 + a2) := by unfold halves; omega
    rw [hh]
    simp only [Option.bind_some, sameF]
    exact e1
  have hn0 : fadeN (halves 0) (cl a0) = cl a0 := by
    have : halves 0 = 0 := by decide
    rw [this]; rfl
  have hn5 : fadeN (halves (-5)) (cl a0) = cl a0 := by
    have : halves (-5) = 0 := by decide
    rw [this]; rfl
  unfold bailiwicklaw15_ShareFades.f
  rw [awake15 10002 (by omega)]
  simp only [Option.bind_some, if_true]
  rw [if_pos q1, if_pos q2, sClean h0 10002 (by omega)]
  simp only [Option.bind_some]
  have hsb : math_Signbit.f (cl a0) = some false := by
    unfold math_Signbit.f
    rw [show wrap64 ((cl a0 : Nat) : Int) = ((cl a0 : Nat) : Int) by unfold wrap64; omega]
    simp
  rw [fge_r (Nat.le_of_lt hc) (Nat.zero_le _), if_pos (by simp), fle_r (Nat.le_of_lt hc) (by decide), if_pos (by simp; omega), hsb]
  simp only [Option.bind_some]
  rw [if_neg (by simp), sClean (cl64 a0) 10002 (by omega), cl_of hc]
  simp only [Option.bind_some, sameF, if_true]
  rw [sFade h0 0 10002 (by omega), hn0]
  simp only [Option.bind_some, sameF, if_true]
  rw [sFade h0 (-5) 10002 (by omega), hn5]
  simp only [Option.bind_some, sameF]
  exact at_rounds (g := fun k => bailiwicklaw15_ShareFades.j0 k a0 a1 a2 (l3.take (mn (l3.length : Int) 200).toNat) (cl a0) false) (fun k => (bailiwicklaw15_ShareFades.mono_l k).1 _ _ _ _ _ _) (by omega) e0
end Go.Proofs.Ytemlhkognjhgbaa.Pure
