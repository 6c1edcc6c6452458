/- What the loops of layer 3 (the program's and the document's) come to, as plain functions on lists. No program in sight. -/
import Derived.Test.YtpekjfmlpogfaaaPAllx11
import Derived.Test.YtpekjfmlpogfaaaPAllx19
import Derived.Test.YtpekjfmlpogfaaaPAllx21
namespace Go.Proofs.Ytpekjfmlpogfaaa.PAll
open Go.RowKit Go.Proofs.YtpekjfmlpogfaaaW.PrintWords Go.Proofs.YtpekjfmlpogfaaaW.PrintLast Go.Proofs.YtpekjfmlpogfaaaW.PrintMore
set_option linter.unusedVariables false
set_option linter.unusedSimpArgs false

instance decS38 : DecidableEq S38 := fun a b => decidable_of_iff (a.f0 = b.f0 ∧ a.f1 = b.f1) (by cases a; cases b; simp)
theorem wn {i : Nat} (h : i < 4611686018427387904) : wrap64 ((i : Int) + 1) = ((i + 1 : Nat) : Int) := by unfold wrap64; omega
theorem wp {i : Nat} (h0 : 0 < i) (h : i < 4611686018427387904) : wrap64 ((i : Int) - 1) = ((i - 1 : Nat) : Int) := by unfold wrap64; omega
theorem wid {x : Int} (h0 : -4611686018427387905 ≤ x) (h : x ≤ 4611686018427387905) : wrap64 x = x := by unfold wrap64; omega
theorem rd_at (p : List S38) (s : S38) (r : List S38) : rd_T38 (p ++ s :: r) (p.length : Int) = s := by simp [rd_T38]
theorem rd_nat (p : List S38) (i : Nat) (h : i < p.length) : rd_T38 p (i : Int) = p[i] := by simp [rd_T38, h]
theorem rd_last (p : List S38) (z : S38) (r : List S38) : rd_T38 ((p ++ [z]) ++ r) ((p.length : Nat) : Int) = z := by simp [rd_T38]
theorem rdn_at (p : List Int) (s : Int) (r : List Int) : rd (p ++ s :: r) (p.length : Int) = s := by simp [rd]

/-! ### right -/
def goodB (s : S38) : Bool := decide (0 ≤ s.f1) && decide (s.f1 ≤ 1048576) && decide (0 ≤ s.f0) && decide (s.f0 ≤ 4611686018427387904)
def linkB (q s : S38) : Bool := decide (q.f0 < s.f0) && decide (s.f1 ≠ q.f1)
def chB : Option S38 → List S38 → Bool
  | _, [] => true
  | none, s :: r => goodB s && chB (some s) r
  | some q, s :: r => goodB s && linkB q s && chB (some s) r
def rightB (p : List S38) : Bool := decide (1 ≤ p.length) && decide (p.length ≤ 1024) && ((rd_T38 p 0).f0 == 0) && chB none p

theorem last_cases (p : List S38) : p = [] ∨ ∃ q z, p = q ++ [z] := by
  rcases List.eq_nil_or_concat p with h | ⟨q, z, h⟩
  · exact .inl h
  · exact .inr ⟨q, z, by simpa using h⟩

theorem amountF (x : Int) : step_amount.f x = some (decide (0 ≤ x) && decide (x ≤ 1048576)) := by
  unfold step_amount.f
  by_cases h : 0 ≤ x <;> simp [h]
theorem wRightF (x : Int) : when_Right.f x = some (decide (0 ≤ x) && decide (x ≤ 4611686018427387904)) := by
  unfold when_Right.f
  by_cases h : 0 ≤ x <;> simp [h]
theorem sRight_loop (x : List S38) (hx : x.length ≤ 2000) : ∀ (r p0 : List S38) (k : Nat), x = p0 ++ r → r.length < k →
    step_Right.l0 k x x (x.length : Int) (p0.length : Int) = some (chB p0.getLast? r) := by
  intro r
  induction r with
  | nil =>
    intro p0 k hp hk
    obtain ⟨k, rfl⟩ : ∃ m, k = m + 1 := ⟨k - 1, by simp at hk; omega⟩
    simp only [step_Right.l0]
    rw [if_neg (by rw [hp]; simp)]
    simp [chB]
  | cons s r ih =>
    intro p0 k hp hk
    obtain ⟨k, rfl⟩ : ∃ m, k = m + 1 := ⟨k - 1, by simp at hk; omega⟩
    have hl : p0.length < x.length := by rw [hp]; simp
    have e : rd_T38 x (p0.length : Int) = s := by rw [hp]; exact rd_at _ _ _
    have hn := ih (p0 ++ [s]) k (by simp [hp]) (by simpa using hk)
    rw [List.getLast?_concat] at hn
    have hw : wrap64 ((p0.length : Int) + 1) = ((p0 ++ [s]).length : Int) := by rw [wn (by omega)]; simp
    simp only [step_Right.l0]
    rw [if_pos (by omega), if_pos (by omega), if_pos (by omega), e, hw, hn]
    simp only [amountF, wRightF, Option.bind_some]
    rcases last_cases p0 with rfl | ⟨q, z, rfl⟩
    · simp only [List.getLast?_nil, chB, goodB]
      by_cases h1 : 0 ≤ s.f1 <;> by_cases h2 : s.f1 ≤ 1048576 <;> by_cases h3 : 0 ≤ s.f0 <;> by_cases h4 : s.f0 ≤ 4611686018427387904 <;> simp [h1, h2, h3, h4]
    · have e2 : wrap64 (((q ++ [z]).length : Int) - 1) = ((q.length : Nat) : Int) := by rw [wp (by simp) (by omega)]; simp
      have hz : rd_T38 x ((q.length : Nat) : Int) = z := by rw [hp]; exact rd_last _ _ _
      have c1 : ((q ++ [z]).length : Int) > 0 := by simp
      have c2 : (0 : Int) ≤ (q.length : Int) := by omega
      have c3 : (q.length : Int) < (x.length : Int) := by simp at hl; omega
      rw [e2, hz]
      simp only [if_pos c1, if_pos c2, if_pos c3]
      simp only [List.getLast?_concat, chB, goodB, linkB]
      by_cases h1 : 0 ≤ s.f1 <;> by_cases h2 : s.f1 ≤ 1048576 <;> by_cases h3 : 0 ≤ s.f0 <;> by_cases h4 : s.f0 ≤ 4611686018427387904 <;> by_cases h5 : s.f0 ≤ z.f0 <;> by_cases h6 : s.f1 = z.f1 <;> simp [h1, h2, h3, h4, h5, h6, Int.not_lt.2, Int.lt_of_not_ge]
theorem sRight (p : List S38) (k : Nat) (hk : 2010 < k) : step_Right.f k p = some (rightB p) := by
  unfold step_Right.f rightB
  obtain ⟨k, rfl⟩ : ∃ m, k = m + 1 := ⟨k - 1, by omega⟩
  by_cases h1 : (p.length : Int) < 1
  · rw [if_pos h1]; simp only [step_Right.j0]; simp; omega
  · rw [if_neg h1]
    by_cases h2 : (p.length : Int) > 1024
    · rw [if_pos h2]; simp only [step_Right.j0]; simp; omega
    · rw [if_neg h2, if_pos (by omega)]
      simp only [step_Right.j0]
      by_cases h3 : (rd_T38 p 0).f0 = 0
      · rw [if_neg (by simp [h3])]
        have := sRight_loop p (by omega) p [] k rfl (by omega)
        rw [show ((([] : List S38).length : Nat) : Int) = 0 from rfl] at this
        rw [this]
        simp [h3]; omega
      · rw [if_pos (by simp [h3])]; simp [h3]
theorem rRight_loop (x : List S38) (hx : x.length ≤ 2000) : ∀ (r p0 : List S38) (k : Nat), x = p0 ++ r → 2 * r.length < k →
    bailiwickref03_Right.l0 k x (p0.length : Int) = some (chB p0.getLast? r) := by
  intro r
  induction r with
  | nil =>
    intro p0 k hp hk
    obtain ⟨k, rfl⟩ : ∃ m, k = m + 1 := ⟨k - 1, by simp at hk; omega⟩
    simp only [bailiwickref03_Right.l0]
    rw [if_neg (by rw [hp]; simp)]
    simp [chB]
  | cons s r ih =>
    intro p0 k hp hk
    simp only [List.length_cons] at hk
    obtain ⟨k, rfl⟩ : ∃ m, k = m + 1 + 1 := ⟨k - 2, by omega⟩
    have hl : p0.length < x.length := by rw [hp]; simp
    have e : rd_T38 x (p0.length : Int) = s := by rw [hp]; exact rd_at _ _ _
    have hn := ih (p0 ++ [s]) k (by simp [hp]) (by omega)
    rw [List.getLast?_concat] at hn
    have hw : wrap64 ((p0.length : Int) + 1) = ((p0 ++ [s]).length : Int) := by rw [wn (by omega)]; simp
    have d1 : (p0.length : Int) < (x.length : Int) := by omega
    have d2 : (0 : Int) ≤ (p0.length : Int) := by omega
    simp only [bailiwickref03_Right.l0, bailiwickref03_Right.j2, if_pos d1, if_pos d2, e, hw, hn]
    rcases last_cases p0 with rfl | ⟨q, z, rfl⟩
    · simp only [List.getLast?_nil, chB, goodB]
      by_cases h1 : 0 ≤ s.f1 <;> by_cases h2 : s.f1 ≤ 1048576 <;> by_cases h3 : 0 ≤ s.f0 <;> by_cases h4 : s.f0 ≤ 4611686018427387904 <;> simp [h1, h2, h3, h4, Int.not_lt.2, Int.lt_of_not_ge]
    · have e2 : wrap64 (((q ++ [z]).length : Int) - 1) = ((q.length : Nat) : Int) := by rw [wp (by simp) (by omega)]; simp
      have hz : rd_T38 x ((q.length : Nat) : Int) = z := by rw [hp]; exact rd_last _ _ _
      have c1 : ((q ++ [z]).length : Int) > 0 := by simp
      have c2 : (0 : Int) ≤ (q.length : Int) := by omega
      have c3 : (q.length : Int) < (x.length : Int) := by simp at hl; omega
      simp only [e2, hz, if_pos c1, if_pos c2, if_pos c3]
      simp only [List.getLast?_concat, chB, goodB, linkB]
      by_cases h1 : 0 ≤ s.f1 <;> by_cases h2 : s.f1 ≤ 1048576 <;> by_cases h3 : 0 ≤ s.f0 <;> by_cases h4 : s.f0 ≤ 4611686018427387904 <;> by_cases h5 : s.f0 ≤ z.f0 <;> by_cases h6 : s.f1 = z.f1 <;> simp [h1, h2, h3, h4, h5, h6, Int.not_lt.2, Int.lt_of_not_ge]
theorem rRight (p : List S38) (k : Nat) (hk : 4010 < k) : bailiwickref03_Right.f k p = some (rightB p) := by
  unfold bailiwickref03_Right.f rightB
  obtain ⟨k, rfl⟩ : ∃ m, k = m + 1 := ⟨k - 1, by omega⟩
  by_cases h1 : (p.length : Int) = 0
  · rw [if_pos h1]; simp only [bailiwickref03_Right.j0]; simp; omega
  · rw [if_neg h1]
    by_cases h2 : (p.length : Int) > 1024
    · rw [if_pos h2]; simp only [bailiwickref03_Right.j0]; simp; omega
    · rw [if_neg h2, if_pos (by omega)]
      simp only [bailiwickref03_Right.j0]
      by_cases h3 : (rd_T38 p 0).f0 = 0
      · rw [if_neg (by simp [h3])]
        have := rRight_loop p (by omega) p [] k rfl (by omega)
        rw [show ((([] : List S38).length : Nat) : Int) = 0 from rfl] at this
        rw [this]
        simp [h3]; omega
      · rw [if_pos (by simp [h3])]; simp [h3]

/-! ### may -/
def mayB (p : List S38) (a b : Int) : Bool := rightB p && decide (0 ≤ a) && decide (b ≤ 4611686018427387904) && decide (a < b)
theorem sMay (p : List S38) (a b : Int) (k : Nat) (hk : 4010 < k) : step_may.f k p a b = some (mayB p a b) := by
  unfold step_may.f mayB
  rw [sRight p k (by omega)]
  simp only [Option.bind_some, wRightF]
  cases rightB p <;> by_cases h1 : 0 ≤ a <;> by_cases h2 : b ≤ 4611686018427387904 <;> by_cases h3 : a < b <;> by_cases h4 : a ≤ 4611686018427387904 <;> by_cases h5 : 0 ≤ b <;> simp [h1, h2, h3, h4, h5] <;> omega
theorem rMay (p : List S38) (a b : Int) (k : Nat) (hk : 4010 < k) : bailiwickref03_May.f k p a b = some (mayB p a b) := by
  unfold bailiwickref03_May.f mayB
  rw [rRight p k (by omega)]
  simp only [Option.bind_some]
  cases rightB p <;> by_cases h1 : 0 ≤ a <;> by_cases h2 : b ≤ 4611686018427387904 <;> by_cases h3 : a < b <;> simp [h1, h2, h3]

/-! ### at a time -/
def vF (d : Int) (p : List S38) (t : Int) : Int := p.foldl (fun n s => if s.f0 ≤ t then s.f1 else n) d
theorem rat_loop (x : List S38) (hx : x.length ≤ 2000) (t : Int) : ∀ (r p0 : List S38) (k : Nat) (n : Int), x = p0 ++ r → r.length < k →
    bailiwickref03_at.l0 k x t n (p0.length : Int) = some (vF n r t) := by
  intro r
  induction r with
  | nil =>
    intro p0 k n hp hk
    obtain ⟨k, rfl⟩ : ∃ m, k = m + 1 := ⟨k - 1, by simp at hk; omega⟩
    simp only [bailiwickref03_at.l0]
    rw [if_neg (by rw [hp]; simp)]
    simp [vF]
  | cons s r ih =>
    intro p0 k n hp hk
    simp only [List.length_cons] at hk
    obtain ⟨k, rfl⟩ : ∃ m, k = m + 1 := ⟨k - 1, by omega⟩
    have hl : p0.length < x.length := by rw [hp]; simp
    have e : rd_T38 x (p0.length : Int) = s := by rw [hp]; exact rd_at _ _ _
    have hw : wrap64 ((p0.length : Int) + 1) = ((p0 ++ [s]).length : Int) := by rw [wn (by omega)]; simp
    have d1 : (p0.length : Int) < (x.length : Int) := by omega
    have d2 : (0 : Int) ≤ (p0.length : Int) := by omega
    have hn := fun n => ih (p0 ++ [s]) k n (by simp [hp]) (by omega)
    simp only [bailiwickref03_at.l0, if_pos d1, if_pos d2, e, hw, hn]
    simp only [vF, List.foldl_cons]
    by_cases h : s.f0 ≤ t <;> simp [h]
theorem rat (p : List S38) (t : Int) (k : Nat) (hp : p.length ≤ 2000) (hk : 2010 < k) : bailiwickref03_at.f k p t = some (vF 0 p t) := by
  unfold bailiwickref03_at.f
  exact rat_loop p hp t p [] k 0 rfl (by omega)

/-! ### least and most -/
def leastF (a b n : Int) (p : List S38) : Int := p.foldl (fun n s => if a < s.f0 ∧ s.f0 < b ∧ s.f1 < n then s.f1 else n) n
def mostF (a b n : Int) (p : List S38) : Int := p.foldl (fun n s => if a < s.f0 ∧ s.f0 < b ∧ n < s.f1 then s.f1 else n) n
theorem rLeast_loop (x : List S38) (hx : x.length ≤ 2000) (a b : Int) : ∀ (r p0 : List S38) (k : Nat) (n : Int), x = p0 ++ r → r.length < k →
    bailiwickref03_Least.l0 k x a b n (p0.length : Int) = some (leastF a b n r) := by
  intro r
  induction r with
  | nil =>
    intro p0 k n hp hk
    obtain ⟨k, rfl⟩ : ∃ m, k = m + 1 := ⟨k - 1, by simp at hk; omega⟩
    simp only [bailiwickref03_Least.l0]
    rw [if_neg (by rw [hp]; simp)]
    simp [leastF]
  | cons s r ih =>
    intro p0 k n hp hk
    simp only [List.length_cons] at hk
    obtain ⟨k, rfl⟩ : ∃ m, k = m + 1 := ⟨k - 1, by omega⟩
    have hl : p0.length < x.length := by rw [hp]; simp
    have e : rd_T38 x (p0.length : Int) = s := by rw [hp]; exact rd_at _ _ _
    have hw : wrap64 ((p0.length : Int) + 1) = ((p0 ++ [s]).length : Int) := by rw [wn (by omega)]; simp
    have d1 : (p0.length : Int) < (x.length : Int) := by omega
    have d2 : (0 : Int) ≤ (p0.length : Int) := by omega
    have hn := fun n => ih (p0 ++ [s]) k n (by simp [hp]) (by omega)
    simp only [bailiwickref03_Least.l0, if_pos d1, if_pos d2, e, hw, hn]
    simp only [leastF, List.foldl_cons]
    by_cases h : a < s.f0 <;> by_cases h2 : s.f0 < b <;> by_cases h3 : s.f1 < n <;> simp [h, h2, h3]
theorem rLeast (p : List S38) (a b : Int) (k : Nat) (hp : p.length ≤ 2000) (hk : 2010 < k) : bailiwickref03_Least.f k p a b = some (leastF a b (vF 0 p a) p) := by
  unfold bailiwickref03_Least.f
  rw [rat p a k hp hk]
  exact rLeast_loop p hp a b p [] k _ rfl (by omega)
theorem rMost_loop (x : List S38) (hx : x.length ≤ 2000) (a b : Int) : ∀ (r p0 : List S38) (k : Nat) (n : Int), x = p0 ++ r → r.length < k →
    bailiwickref03_Most.l0 k x a b n (p0.length : Int) = some (mostF a b n r) := by
  intro r
  induction r with
  | nil =>
    intro p0 k n hp hk
    obtain ⟨k, rfl⟩ : ∃ m, k = m + 1 := ⟨k - 1, by simp at hk; omega⟩
    simp only [bailiwickref03_Most.l0]
    rw [if_neg (by rw [hp]; simp)]
    simp [mostF]
  | cons s r ih =>
    intro p0 k n hp hk
    simp only [List.length_cons] at hk
    obtain ⟨k, rfl⟩ : ∃ m, k = m + 1 := ⟨k - 1, by omega⟩
    have hl : p0.length < x.length := by rw [hp]; simp
    have e : rd_T38 x (p0.length : Int) = s := by rw [hp]; exact rd_at _ _ _
    have hw : wrap64 ((p0.length : Int) + 1) = ((p0 ++ [s]).length : Int) := by rw [wn (by omega)]; simp
    have d1 : (p0.length : Int) < (x.length : Int) := by omega
    have d2 : (0 : Int) ≤ (p0.length : Int) := by omega
    have hn := fun n => ih (p0 ++ [s]) k n (by simp [hp]) (by omega)
    simp only [bailiwickref03_Most.l0, if_pos d1, if_pos d2, e, hw, hn]
    simp only [mostF, List.foldl_cons]
    by_cases h : a < s.f0 <;> by_cases h2 : s.f0 < b <;> by_cases h3 : n < s.f1 <;> simp [h, h2, h3]
theorem rMost (p : List S38) (a b : Int) (k : Nat) (hp : p.length ≤ 2000) (hk : 2010 < k) : bailiwickref03_Most.f k p a b = some (mostF a b (vF 0 p a) p) := by
  unfold bailiwickref03_Most.f
  rw [rat p a k hp hk]
  exact rMost_loop p hp a b p [] k _ rfl (by omega)

/-! ### same -/
theorem rSame_loop (x y : List S38) (hl : x.length = y.length) (hx : x.length ≤ 4611686018427387000) : ∀ (r q x0 y0 : List S38) (k : Nat), x = x0 ++ r → y = y0 ++ q → x0.length = y0.length → r.length < k →
    bailiwickref03_Same.l0 k x y (x0.length : Int) = some (decide (r = q)) := by
  intro r
  induction r with
  | nil =>
    intro q x0 y0 k hp hq he hk
    obtain ⟨k, rfl⟩ : ∃ m, k = m + 1 := ⟨k - 1, by simp at hk; omega⟩
    simp only [bailiwickref03_Same.l0]
    rw [if_neg (by rw [hp]; simp)]
    have : q = [] := by
      have h1 : x.length = x0.length := by rw [hp]; simp
      have h2 : y.length = y0.length + q.length := by rw [hq]; simp
      exact List.eq_nil_of_length_eq_zero (by omega)
    simp [this]
  | cons s r ih =>
    intro q x0 y0 k hp hq he hk
    simp only [List.length_cons] at hk
    obtain ⟨k, rfl⟩ : ∃ m, k = m + 1 := ⟨k - 1, by omega⟩
    have h1 : x.length = x0.length + (r.length + 1) := by rw [hp]; simp
    have h2 : y.length = y0.length + q.length := by rw [hq]; simp
    obtain ⟨u, q, rfl⟩ : ∃ u q', q = u :: q' := by
      cases q with
      | nil => simp at h2; omega
      | cons u q => exact ⟨u, q, rfl⟩
    have e : rd_T38 x (x0.length : Int) = s := by rw [hp]; exact rd_at _ _ _
    have e2 : rd_T38 y (x0.length : Int) = u := by rw [hq, he]; exact rd_at _ _ _
    have hw : wrap64 ((x0.length : Int) + 1) = ((x0 ++ [s]).length : Int) := by rw [wn (by omega)]; simp
    have d1 : (x0.length : Int) < (x.length : Int) := by omega
    have d2 : (0 : Int) ≤ (x0.length : Int) := by omega
    have d3 : (x0.length : Int) < (y.length : Int) := by omega
    have hn := ih q (x0 ++ [s]) (y0 ++ [u]) k (by simp [hp]) (by simp [hq]) (by simp [he]) (by omega)
    simp only [bailiwickref03_Same.l0, if_pos d1, if_pos d2, if_pos d3, e, e2, hw, hn]
    have hs : s = u ↔ s.f0 = u.f0 ∧ s.f1 = u.f1 := by cases s; cases u; simp
    by_cases g0 : s.f0 = u.f0 <;> by_cases g1 : s.f1 = u.f1 <;> simp [g0, g1, hs]
theorem rSame (x y : List S38) (k : Nat) (hx : x.length ≤ 4611686018427387000) (hk : x.length < k) : bailiwickref03_Same.f k x y = some (decide (x = y)) := by
  unfold bailiwickref03_Same.f
  by_cases h : x.length = y.length
  · rw [if_pos (by omega)]
    exact rSame_loop x y h hx x y [] [] k rfl rfl rfl hk
  · rw [if_neg (by omega)]
    have : x ≠ y := fun e => h (by rw [e])
    simp [this]
end Go.Proofs.Ytpekjfmlpogfaaa.PAll
