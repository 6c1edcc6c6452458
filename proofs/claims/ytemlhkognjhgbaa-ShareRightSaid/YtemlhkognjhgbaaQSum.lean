/- Amounts added one behind the other. No program in sight. -/
import Derived.Test.YtemlhkognjhgbaaQFade
import Derived.Test.YtemlhkognjhgbaaPAllx23
namespace Go.Proofs.Ytemlhkognjhgbaa.PAll
open Go Go.RowKit Go.Proofs.YtemlhkognjhgbaaF Go.Proofs.YtemlhkognjhgbaaW.PrintWords Go.Proofs.YtemlhkognjhgbaaW.PrintLast Go.Proofs.YtemlhkognjhgbaaW.PrintMore
set_option linter.unusedVariables false
set_option linter.unusedSimpArgs false
theorem rdO_app {P R : List Nat} {v : Nat} {i : Int} (h : i = (P.length : Int)) : rdOf 0 (P ++ v :: R) i = v := by subst h; simp [rdOf]
theorem rdO_of {x P R : List Nat} {v : Nat} {i : Int} (hx : x = P ++ v :: R) (h : i = (P.length : Int)) : rdOf 0 x i = v := by rw [hx]; exact rdO_app h
/-- one amount more -/
def plus (s x : Nat) : Nat := cl (fop .add s (cl x))
def sumF : List Nat → Nat → Nat
  | [], s => s
  | x :: r, s => sumF r (plus s x)
theorem add_f {s x : Nat} (hs : s < inf) : fok .add s (cl x) = true ∧ fop .add s (cl x) < 2 ^ 64 ∧ s ≤ plus s x ∧ cl x ≤ plus s x ∧ plus s x < inf := by
  obtain ⟨h1, h2⟩ := fadd hs (cl_lt x)
  have a1 := (Rounds.exact (Nat.le_of_lt hs)).le Nat.one_pos (Nat.le_add_right _ _) h2
  have a2 := (Rounds.exact (Nat.le_of_lt (cl_lt x))).le Nat.one_pos (Nat.le_add_left _ _) h2
  have b1 := cl_mono h2.1 a1
  have b2 := cl_mono h2.1 a2
  rw [cl_of hs] at b1
  rw [cl_of (cl_lt x)] at b2
  exact ⟨h1, Nat.lt_of_le_of_lt h2.1 (by decide), b1, b2, cl_lt _⟩
def L64 (l : List Nat) : Prop := ∀ x ∈ l, x < 2 ^ 64
theorem sSumL {L : List Nat} (hF : L64 L) (hl : L.length ≤ 1000) : ∀ (R P : List Nat) (s : Nat) (i : Int) (k : Nat), L = P ++ R → i = (P.length : Int) → s < inf → R.length + 1 < k → share_Sum.l0 k s L (L.length : Int) i = some (sumF R s) := by
  intro R
  induction R with
  | nil =>
    intro P s i k hx hi hs hk
    obtain ⟨k, rfl⟩ : ∃ m, k = m + 1 := ⟨k - 1, by omega⟩
    have hx' : L = P := by rw [hx]; simp
    rw [share_Sum.l0, if_neg (by rw [hx']; omega)]; rfl
  | cons v R ih =>
    intro P s i k hx hi hs hk
    obtain ⟨k, rfl⟩ : ∃ m, k = m + 1 := ⟨k - 1, by omega⟩
    have hlen : P.length < L.length := by rw [hx]; simp
    have hv : v < 2 ^ 64 := hF v (by rw [hx]; simp)
    have a := add_f (x := v) hs
    simp only [List.length_cons] at hk
    rw [share_Sum.l0, if_pos (by omega), if_pos (by omega), if_pos (by omega), rdO_of hx hi, sClean hv k (by omega)]
    simp only [Option.bind_some]
    rw [if_pos a.1, sClean a.2.1 k (by omega), widF (by omega) (by omega)]
    exact ih (P ++ [v]) (plus s v) (i + 1) k (by rw [hx]; simp) (by simp; omega) a.2.2.2.2 (by omega)
theorem sSum {L : List Nat} (hF : L64 L) (hl : L.length ≤ 1000) (k : Nat) (hk : 2000 ≤ k) : share_Sum.f k L = some (sumF L 0) := by
  unfold share_Sum.f
  exact sSumL hF hl L [] 0 0 k rfl rfl inf_pos (by omega)
theorem rSumL {L : List Nat} (hF : L64 L) (hl : L.length ≤ 1000) : ∀ (R P : List Nat) (s : Nat) (i : Int) (k : Nat), L = P ++ R → i = (P.length : Int) → s < inf → R.length + 1 < k → bailiwickref15_Sum.l0 k L s i = some (sumF R s) := by
  intro R
  induction R with
  | nil =>
    intro P s i k hx hi hs hk
    obtain ⟨k, rfl⟩ : ∃ m, k = m + 1 := ⟨k - 1, by omega⟩
    have hx' : L = P := by rw [hx]; simp
    rw [bailiwickref15_Sum.l0, if_neg (by rw [hx']; omega)]; rfl
  | cons v R ih =>
    intro P s i k hx hi hs hk
    obtain ⟨k, rfl⟩ : ∃ m, k = m + 1 := ⟨k - 1, by omega⟩
    have hlen : P.length < L.length := by rw [hx]; simp
    have hv : v < 2 ^ 64 := hF v (by rw [hx]; simp)
    have a := add_f (x := v) hs
    simp only [List.length_cons] at hk
    rw [bailiwickref15_Sum.l0, if_pos (by omega), if_pos (by omega), rdO_of hx hi, rClean hv]
    simp only [Option.bind_some]
    rw [if_pos a.1, rClean a.2.1, widF (by omega) (by omega)]
    exact ih (P ++ [v]) (plus s v) (i + 1) k (by rw [hx]; simp) (by simp; omega) a.2.2.2.2 (by omega)
theorem rSum {L : List Nat} (hF : L64 L) (hl : L.length ≤ 1000) (k : Nat) (hk : 2000 ≤ k) : bailiwickref15_Sum.f k L = some (sumF L 0) := by
  unfold bailiwickref15_Sum.f
  exact rSumL hF hl L [] 0 0 k rfl rfl inf_pos (by omega)
/-- a sum is no less than any part -/
theorem sumF_ge : ∀ (L : List Nat) (s : Nat), s < inf → s ≤ sumF L s ∧ sumF L s < inf ∧ ∀ x ∈ L, cl x ≤ sumF L s
  | [], s, hs => ⟨Nat.le_refl _, hs, fun x hx => by simp at hx⟩
  | y :: r, s, hs => by
    have a := add_f (x := y) hs
    obtain ⟨h1, h2, h3⟩ := sumF_ge r (plus s y) a.2.2.2.2
    refine ⟨Nat.le_trans a.2.2.1 h1, h2, fun x hx => ?_⟩
    rcases List.mem_cons.1 hx with e | hx
    · subst e; exact Nat.le_trans a.2.2.2.1 h1
    · exact h3 x hx
theorem cut200 {l : List Nat} (hF : L64 l) : 0 ≤ mn (l.length : Int) 200 ∧ mn (l.length : Int) 200 ≤ (l.length : Int) ∧ L64 (l.take (mn (l.length : Int) 200).toNat) ∧ (l.take (mn (l.length : Int) 200).toNat).length ≤ 200 := by
  have h : mn (l.length : Int) 200 ≤ 200 ∧ mn (l.length : Int) 200 ≤ (l.length : Int) ∧ 0 ≤ mn (l.length : Int) 200 := by
    unfold mn
    split <;> omega
  refine ⟨h.2.2, h.2.1, fun u hu => hF u (List.mem_of_mem_take hu), ?_⟩
  rw [List.length_take]
  omega
end Go.Proofs.Ytemlhkognjhgbaa.PAll
