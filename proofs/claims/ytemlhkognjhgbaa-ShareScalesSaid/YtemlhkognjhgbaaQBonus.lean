/- What both bonuses come to. No program in sight. -/
import Derived.Test.YtemlhkognjhgbaaQSortD
import Derived.Test.YtemlhkognjhgbaaPAllx13
namespace Go.Proofs.Ytemlhkognjhgbaa.PAll
open Go Go.RowKit Go.Proofs.YtemlhkognjhgbaaF Go.Proofs.YtemlhkognjhgbaaW.PrintWords Go.Proofs.YtemlhkognjhgbaaW.PrintLast Go.Proofs.YtemlhkognjhgbaaW.PrintMore
set_option linter.unusedVariables false
set_option linter.unusedSimpArgs false

def shU (u : S33) : Nat := sh u.f1 u.f2
def bp (who : Int) (own : Nat) (u : S33) : Bool := decide (u.f0 ≠ who) && decide (own < shU u)
def cnt (L : List S33) (who : Int) (own : Nat) : Nat := L.countP (bp who own)
def isW (who : Int) (u : S33) : Bool := decide (u.f0 = who)
def bonusV (L : List S33) (who : Int) : Int := match L.find? (isW who) with | none => 0 | some u => (cnt L who (shU u) : Int)
theorem rdT_app {P R : List S33} {v : S33} {i : Int} (h : i = (P.length : Int)) : rd_T33 (P ++ v :: R) i = v := by subst h; simp [rd_T33]
theorem rdT_of {x P R : List S33} {v : S33} {i : Int} (hx : x = P ++ v :: R) (h : i = (P.length : Int)) : rd_T33 x i = v := by rw [hx]; exact rdT_app h
theorem FL_at {L P R : List S33} {v : S33} (h : FL L) (hx : L = P ++ v :: R) : v.f1 < 2 ^ 64 ∧ v.f2 < 2 ^ 64 := h v (by rw [hx]; simp)
theorem cnt_step (P : List S33) (v : S33) (who : Int) (own : Nat) : cnt (P ++ [v]) who own = cnt P who own + if v.f0 = who then 0 else if own < shU v then 1 else 0 := by
  unfold cnt
  rw [List.countP_append]
  congr 1
  by_cases h : v.f0 = who
  · simp [bp, h]
  · by_cases h2 : own < shU v <;> simp [bp, h, h2]
theorem cnt_le (P : List S33) (who : Int) (own : Nat) : cnt P who own ≤ P.length := List.countP_le_length
/-! ### share.Bonus -/
theorem bonusTo_is {L : List S33} (h : FL L) (hl : L.length ≤ 1000) (who : Int) (own : Nat) (ho : own ≤ inf) (k : Nat) (hk : 0 < k) : ∀ i, i ≤ L.length → bonusTo k L who own i = some (cnt (L.take i) who own : Int) := by
  intro i
  induction i with
  | zero => intro _; rfl
  | succ i ih =>
    intro hi
    have hx' : L = L.take i ++ L[i] :: L.drop (i + 1) := by simp
    have hv := FL_at h hx'
    have ht : L.take (i + 1) = L.take i ++ [L[i]] := by rw [List.take_succ_eq_append_getElem (by omega)]
    have hc := cnt_le (L.take i) who own
    have hlt : (L.take i).length = i := by rw [List.length_take]; omega
    have hrd : rd_T33 L (i : Int) = L[i] := rdT_of hx' (by omega)
    rw [bonusTo, ih (by omega), hrd, ht, cnt_step]
    generalize L[i] = v at *
    simp only [Option.bind_some]
    by_cases c : v.f0 = who
    · rw [if_pos c, if_pos c]; rfl
    · rw [if_neg c, if_neg c, sShare _ hv.1 hv.2 k hk]
      simp only [Option.bind_some]
      rw [fgt_r (sh_le _ _) ho]
      by_cases c2 : own < shU v
      · rw [if_pos c2, if_pos (by simpa [shU] using c2), wid (by omega) (by omega)]; rfl
      · rw [if_neg c2, if_neg (by simpa [shU] using c2)]; rfl
theorem useL {L : List S33} (who : Int) (hl : L.length ≤ 1000) : ∀ (R P : List S33) (k : Nat) (i : Int), L = P ++ R → i = (P.length : Int) → R.length < k →
    @api_Use.l0 ⟨who⟩ k L (L.length : Int) i = some (match R.findIdx? (isW who) with | none => -1 | some j => i + j) := by
  intro R
  induction R with
  | nil =>
    intro P k i hx hi hk
    obtain ⟨k, rfl⟩ : ∃ m, k = m + 1 := ⟨k - 1, by omega⟩
    simp only [api_Use.l0]
    rw [if_neg (by rw [hx]; simp; omega)]
    rfl
  | cons v R ih =>
    intro P k i hx hi hk
    obtain ⟨k, rfl⟩ : ∃ m, k = m + 1 := ⟨k - 1, by omega⟩
    have hlen : P.length < L.length := by rw [hx]; simp
    have hb : @share_Bonus_1.f ⟨who⟩ v.f0 v.f1 v.f2 = some (v.f0 == who) := rfl
    simp only [api_Use.l0]
    rw [if_pos (by omega), if_pos (by omega), if_pos (by omega), rdT_of hx hi, hb]
    simp only [Option.bind_some]
    by_cases c : v.f0 = who
    · rw [if_pos (by simp [c])]
      simp [List.findIdx?_cons, isW, c]
    · rw [if_neg (by simp [c]), wid (by omega) (by omega), ih (P ++ [v]) k (i + 1) (by rw [hx]; simp) (by simp; omega) (by simpa using hk)]
      simp only [List.findIdx?_cons, isW, c, decide_false]
      cases R.findIdx? (isW who) with
      | none => rfl
      | some j =>
        show some (i + 1 + (j : Int)) = some (i + ((j + 1 : Nat) : Int))
        congr 1
        omega
theorem find_split (L : List S33) (who : Int) : (L.findIdx? (isW who) = none ∧ L.find? (isW who) = none) ∨ ∃ P u R, L = P ++ u :: R ∧ L.findIdx? (isW who) = some P.length ∧ L.find? (isW who) = some u ∧ ∀ v ∈ P, v.f0 ≠ who := by
  induction L with
  | nil => exact .inl ⟨rfl, rfl⟩
  | cons v L ih =>
    by_cases c : v.f0 = who
    · exact .inr ⟨[], v, L, rfl, by simp [List.findIdx?_cons, isW, c], by simp [isW, c], by simp⟩
    · rcases ih with ⟨h1, h2⟩ | ⟨P, u, R, h1, h2, h3, h4⟩
      · refine .inl ⟨?_, ?_⟩
        · simp only [List.findIdx?_cons, isW, c, decide_false]; show Option.map _ (List.findIdx? (isW who) L) = _; rw [h1]; rfl
        · simp only [List.find?_cons, isW, c, decide_false]; exact h2
      · refine .inr ⟨v :: P, u, R, by rw [h1]; rfl, ?_, ?_, ?_⟩
        · simp only [List.findIdx?_cons, isW, c, decide_false]; show Option.map _ (List.findIdx? (isW who) L) = _; rw [h2]; simp
        · simp only [List.find?_cons, isW, c, decide_false]; exact h3
        · intro w hw
          rcases List.mem_cons.1 hw with e | hw
          · subst e; exact c
          · exact h4 w hw
theorem sBonus {L : List S33} (h : FL L) (hl : L.length ≤ 1000) (who : Int) (k : Nat) (hk : 2000 ≤ k) : share_Bonus.f k L who = some (bonusV L who) := by
  unfold share_Bonus.f api_Use.f bonusV
  rw [useL who hl L [] k 0 rfl rfl (by omega)]
  simp only [Option.bind_some]
  rcases find_split L who with ⟨h1, h2⟩ | ⟨P, u, R, h1, h2, h3, h4⟩
  · rw [h1, h2]; simp
  · rw [h2, h3]
    have hu := FL_at h h1
    have hlen : P.length < L.length := by rw [h1]; simp
    simp only
    rw [if_neg (by omega), if_pos (by omega), rdT_of h1 (by omega), sShare _ hu.1 hu.2 k (by omega)]
    simp only [Option.bind_some]
    rw [if_pos (by omega)]
    have := bonusTo_is h hl who (sh u.f1 u.f2) (sh_le _ _) k (by omega) L.length (Nat.le_refl _)
    rw [List.take_length] at this
    exact this
end Go.Proofs.Ytemlhkognjhgbaa.PAll
