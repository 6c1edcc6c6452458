/- Pools: what Give and the references compute, in plain form. -/
import Derived.Test.YtpekjfmlpogfaaaQPoolsA
import Derived.Test.YtpekjfmlpogfaaaPAllx27
import Derived.Test.YtpekjfmlpogfaaaPAllx34
import Derived.Test.YtpekjfmlpogfaaaPAllx35
import Derived.Test.YtpekjfmlpogfaaaPAllx36
namespace Go.Proofs.Ytpekjfmlpogfaaa.PAll
open Go.RowKit Go.Proofs.YtpekjfmlpogfaaaW.PrintWords Go.Proofs.YtpekjfmlpogfaaaW.PrintLast Go.Proofs.YtpekjfmlpogfaaaW.PrintMore
set_option linter.unusedVariables false
set_option linter.unusedSimpArgs false

theorem rRightL_loop (x : List (List S38)) : ∀ (r p0 : List (List S38)) (k : Nat), x = p0 ++ r → p0.length ≤ 4 → r.length + 4020 < k →
    bailiwickref04_Right.l0 k x (p0.length : Int) = some (decide (1 ≤ x.length) && decide (x.length ≤ 4) && r.all rightB) := by
  intro r
  induction r with
  | nil =>
    intro p0 k hp h4 hk
    obtain ⟨k, rfl⟩ : ∃ m, k = m + 1 := ⟨k - 1, by simp at hk; omega⟩
    have hl : x.length = p0.length := by rw [hp]; simp
    rw [bailiwickref04_Right.l0, if_neg (by omega)]
    have h4' : x.length ≤ 4 := by omega
    by_cases h1 : 1 ≤ x.length
    · have : (x.length : Int) > 0 := by omega
      simp [h1, h4', this]; omega
    · have : ¬ (x.length : Int) > 0 := by omega
      simp [h1, this]; exact List.eq_nil_of_length_eq_zero (by omega)
  | cons s r ih =>
    intro p0 k hp h4 hk
    simp only [List.length_cons] at hk
    obtain ⟨k, rfl⟩ : ∃ m, k = m + 1 := ⟨k - 1, by omega⟩
    have hl : x.length = p0.length + (r.length + 1) := by rw [hp]; simp
    have e : rd_L2 x (p0.length : Int) = s := by rw [hp]; exact rdL_at _ _ _
    rw [bailiwickref04_Right.l0, if_pos (by omega)]
    by_cases h3 : (p0.length : Int) > 3
    · rw [if_pos h3]; simp; omega
    · rw [if_neg h3, if_pos (by omega), e, rRight s k (by omega)]
      simp only [Option.bind_some]
      cases hs : rightB s with
      | true =>
        rw [if_pos rfl, wn (by omega)]
        have := ih (p0 ++ [s]) k (by simp [hp]) (by simp; omega) (by omega)
        rw [show ((p0.length + 1 : Nat) : Int) = ((p0 ++ [s]).length : Int) from by simp, this, List.all_cons, hs]
        simp
      | false => rw [if_neg (by simp), List.all_cons, hs]; simp
theorem rRightL (l : List (List S38)) (k : Nat) (hk : 5000 < k) (hl : l.length ≤ 900) : bailiwickref04_Right.f k l = some (rightL l) := by
  unfold bailiwickref04_Right.f
  exact rRightL_loop l l [] k rfl (by simp) (by omega)

/-! ### clone -/
theorem eachG_loop (x : List (List S38)) (a b : Int) (n : List Int) (hn : n.length = x.length) (hx : x.length ≤ 900) (hs : ∀ p ∈ x, p.length ≤ 2000) : ∀ (r p0 acc : List (List S38)) (m m0 : List Int) (k : Nat), x = p0 ++ r → n = m0 ++ m → m0.length = p0.length → acc.length ≤ p0.length → r.length + 30000 < k →
    pools_each_v12.l0 k x a b n acc x (x.length : Int) (p0.length : Int) = some (eachR (fun p c => giveF p a b c) x r m acc) := by
  intro r
  induction r with
  | nil =>
    intro p0 acc m m0 k hp hm hml ha hk
    obtain ⟨k, rfl⟩ : ∃ j, k = j + 1 := ⟨k - 1, by simp at hk; omega⟩
    rw [pools_each_v12.l0, if_neg (by rw [hp]; simp)]
    rfl
  | cons s r ih =>
    intro p0 acc m m0 k hp hm hml ha hk
    simp only [List.length_cons] at hk
    obtain ⟨k, rfl⟩ : ∃ j, k = j + 1 := ⟨k - 1, by omega⟩
    have hl : x.length = p0.length + (r.length + 1) := by rw [hp]; simp
    have hml2 : n.length = m0.length + m.length := by rw [hm]; simp
    obtain ⟨c, m, rfl⟩ : ∃ c m', m = c :: m' := by
      cases m with
      | nil => simp at hml2; omega
      | cons c m => exact ⟨c, m, rfl⟩
    have e : rd_L2 x (p0.length : Int) = s := by rw [hp]; exact rdL_at _ _ _
    have e2 : rd n (p0.length : Int) = c := by rw [hm, ← hml]; exact rdn_at _ _ _
    rw [pools_each_v12.l0, if_pos (by omega), if_pos (by omega), if_pos (by omega), if_pos (by omega), e, e2, sGive s a b c (hs s (by rw [hp]; simp)) k (by omega)]
    simp only [Option.bind_some, eachR]
    by_cases h0 : (giveF s a b c).2 = 0
    · rw [if_pos h0, if_pos h0, if_pos (by omega), wn (by omega)]
      have := ih (p0 ++ [s]) (acc ++ [(giveF s a b c).1]) m (m0 ++ [c]) k (by simp [hp]) (by simp [hm]) (by simp [hml]) (by simp; omega) (by omega)
      rw [show ((p0.length + 1 : Nat) : Int) = ((p0 ++ [s]).length : Int) from by simp, this]
    · rw [if_neg h0, if_neg h0, cloneL x hx hs k (by omega)]
      rfl
theorem sGiveL (l : List (List S38)) (a b : Int) (n : List Int) (hl : l.length ≤ 900) (hs : ∀ p ∈ l, p.length ≤ 2000) (k : Nat) (hk : 40000 < k) : pools_Give.f k l a b n = some (eachL (fun p c => giveF p a b c) l n) := by
  unfold pools_Give.f pools_each_v12.f eachL
  rw [sRightL l k (by omega)]
  simp only [Option.bind_some]
  obtain ⟨k, rfl⟩ : ∃ j, k = j + 1 := ⟨k - 1, by omega⟩
  by_cases h1 : rightL l = true
  · rw [if_pos h1, pools_each_v12.j0]
    by_cases h2 : n.length = l.length
    · rw [if_neg (by simp [h2]), if_pos ⟨h1, h2⟩]
      have := eachG_loop l a b n h2 hl hs l [] [] n [] k rfl rfl rfl (by simp) (by omega)
      rw [show ((([] : List (List S38)).length : Nat) : Int) = 0 from rfl] at this
      rw [this]
      rfl
    · rw [if_pos (by simp; omega), if_neg (fun h => h2 h.2), cloneL l hl hs k (by omega)]
      rfl
  · rw [if_neg h1, pools_each_v12.j0, if_pos rfl, if_neg (fun h => h1 h.1), cloneL l hl hs k (by omega)]
    rfl
def pickF (g : Bool) (a b : Int) : List S38 → Int → List S38 × Int := fun p c => if g = true then giveF p a b c else takeF p a b c
theorem chgL_loop (x : List (List S38)) (a b : Int) (n : List Int) (g : Bool) (hn : n.length = x.length) (hx : x.length ≤ 900) : ∀ (r p0 acc : List (List S38)) (m m0 : List Int) (k : Nat), x = p0 ++ r → n = m0 ++ m → m0.length = p0.length → acc.length ≤ p0.length → r.length + 30000 < k →
    bailiwickref04_Change.l0 k x a b n g acc (p0.length : Int) = some (eachR (pickF g a b) x r m acc) := by
  intro r
  induction r with
  | nil =>
    intro p0 acc m m0 k hp hm hml ha hk
    obtain ⟨k, rfl⟩ : ∃ j, k = j + 1 := ⟨k - 1, by simp at hk; omega⟩
    rw [bailiwickref04_Change.l0, if_neg (by rw [hp]; simp)]
    rfl
  | cons s r ih =>
    intro p0 acc m m0 k hp hm hml ha hk
    simp only [List.length_cons] at hk
    obtain ⟨k, rfl⟩ : ∃ j, k = j + 1 := ⟨k - 1, by omega⟩
    have hl : x.length = p0.length + (r.length + 1) := by rw [hp]; simp
    have hml2 : n.length = m0.length + m.length := by rw [hm]; simp
    obtain ⟨c, m, rfl⟩ : ∃ c m', m = c :: m' := by
      cases m with
      | nil => simp at hml2; omega
      | cons c m => exact ⟨c, m, rfl⟩
    have e : rd_L2 x (p0.length : Int) = s := by rw [hp]; exact rdL_at _ _ _
    have e2 : rd n (p0.length : Int) = c := by rw [hm, ← hml]; exact rdn_at _ _ _
    have hi := fun (v : List S38) => ih (p0 ++ [s]) (acc ++ [v]) m (m0 ++ [c]) k (by simp [hp]) (by simp [hm]) (by simp [hml]) (by simp; omega) (by omega)
    rw [bailiwickref04_Change.l0, if_pos (by omega), if_pos (by omega), if_pos (by omega), e, e2, rTake s a b c k (by omega)]
    simp only [Option.bind_some]
    rw [rGive s a b c k (by omega)]
    simp only [Option.bind_some]
    rw [if_pos (show acc.length < 5864062014805 by omega), if_pos (show acc.length < 5864062014805 by omega), wn (by omega), show ((p0.length + 1 : Nat) : Int) = ((p0 ++ [s]).length : Int) from by simp, hi, hi]
    simp only [eachR, pickF]
    cases g with
    | true =>
      simp only [if_true]
      by_cases h0 : (giveF s a b c).2 = 0
      · rw [if_pos h0, if_pos h0]
      · rw [if_neg h0, if_neg h0]
    | false =>
      simp only [Bool.false_eq_true, if_false]
      by_cases h0 : (takeF s a b c).2 = 0
      · rw [if_pos h0, if_pos h0]
      · rw [if_neg h0, if_neg h0]
theorem rChangeL (l : List (List S38)) (a b : Int) (n : List Int) (g : Bool) (hl : l.length ≤ 900) (k : Nat) (hk : 40000 < k) : bailiwickref04_Change.f k l a b n g = some (eachL (pickF g a b) l n) := by
  unfold bailiwickref04_Change.f eachL
  rw [rRightL l k (by omega) hl]
  simp only [Option.bind_some]
  obtain ⟨k, rfl⟩ : ∃ j, k = j + 1 := ⟨k - 1, by omega⟩
  by_cases h1 : rightL l = true
  · rw [if_pos h1, bailiwickref04_Change.j0]
    by_cases h2 : n.length = l.length
    · rw [if_neg (by simp [h2]), if_pos ⟨h1, h2⟩]
      have := chgL_loop l a b n g h2 hl l [] [] n [] k rfl rfl rfl (by simp) (by omega)
      rw [show ((([] : List (List S38)).length : Nat) : Int) = 0 from rfl] at this
      rw [this]
    · rw [if_pos (by simp; omega), if_neg (fun h => h2 h.2)]
  · rw [if_neg h1, bailiwickref04_Change.j0, if_pos rfl, if_neg (fun h => h1 h.1)]

/-! ### same, at, short -/
theorem rSameL_loop (x y : List (List S38)) (hl : x.length = y.length) (hx : x.length ≤ 2000) (hs : ∀ p ∈ x, p.length ≤ 2000) : ∀ (r q x0 y0 : List (List S38)) (k : Nat), x = x0 ++ r → y = y0 ++ q → x0.length = y0.length → r.length + 2010 < k →
    bailiwickref04_Same.l0 k x y (x0.length : Int) = some (decide (r = q)) := by
  intro r
  induction r with
  | nil =>
    intro q x0 y0 k hp hq he hk
    obtain ⟨k, rfl⟩ : ∃ m, k = m + 1 := ⟨k - 1, by simp at hk; omega⟩
    rw [bailiwickref04_Same.l0, if_neg (by rw [hp]; simp)]
    have : q = [] := by
      have h1 : x.length = x0.length := by rw [hp]; simp
      have h2 : y.length = y0.length + q.length := by rw [hq]; simp
      exact List.eq_nil_of_length_eq_zero (by omega)
    simp [this]
  | cons s r ih =>
    intro q x0 y0 k hp hq he hk
    simp only [List.length_cons] at hk
    obtain ⟨k, rfl⟩ : ∃ m, k = m + 1 := ⟨k - 1, by omega⟩
    have h1 : x.length = x0.length + (r.length + 1) := by rw [hp]; simp
    have h2 : y.length = y0.length + q.length := by rw [hq]; simp
    obtain ⟨u, q, rfl⟩ : ∃ u q', q = u :: q' := by
      cases q with
      | nil => simp at h2; omega
      | cons u q => exact ⟨u, q, rfl⟩
    have e : rd_L2 x (x0.length : Int) = s := by rw [hp]; exact rdL_at _ _ _
    have e2 : rd_L2 y (x0.length : Int) = u := by rw [hq, he]; exact rdL_at _ _ _
    have hn := ih q (x0 ++ [s]) (y0 ++ [u]) k (by simp [hp]) (by simp [hq]) (by simp [he]) (by omega)
    have hsl := hs s (by rw [hp]; simp)
    rw [bailiwickref04_Same.l0, if_pos (by omega), if_pos (by omega), if_pos (by omega), e, e2, rSame s u k (by omega) (by omega)]
    simp only [Option.bind_some]
    rw [wn (by omega), show ((x0.length + 1 : Nat) : Int) = ((x0 ++ [s]).length : Int) from by simp, hn]
    by_cases g0 : s = u
    · simp [g0]
    · simp [g0]
theorem rSameL (x y : List (List S38)) (k : Nat) (hx : x.length ≤ 900) (hs : ∀ p ∈ x, p.length ≤ 2000) (hk : 4000 < k) : bailiwickref04_Same.f k x y = some (decide (x = y)) := by
  unfold bailiwickref04_Same.f
  by_cases h : x.length = y.length
  · rw [if_pos (by omega)]
    exact rSameL_loop x y h (by omega) hs x y [] [] k rfl rfl rfl (by omega)
  · rw [if_neg (by omega)]
    have : x ≠ y := fun e => h (by rw [e])
    simp [this]
theorem rSameI_loop (x y : List Int) (hl : x.length = y.length) (hx : x.length ≤ 2000) : ∀ (r q x0 y0 : List Int) (k : Nat), x = x0 ++ r → y = y0 ++ q → x0.length = y0.length → r.length < k →
    bailiwickref01_Same.l0 k x y (x0.length : Int) = some (decide (r = q)) := by
  intro r
  induction r with
  | nil =>
    intro q x0 y0 k hp hq he hk
    obtain ⟨k, rfl⟩ : ∃ m, k = m + 1 := ⟨k - 1, by simp at hk; omega⟩
    rw [bailiwickref01_Same.l0, if_neg (by rw [hp]; simp)]
    have : q = [] := by
      have h1 : x.length = x0.length := by rw [hp]; simp
      have h2 : y.length = y0.length + q.length := by rw [hq]; simp
      exact List.eq_nil_of_length_eq_zero (by omega)
    simp [this]
  | cons s r ih =>
    intro q x0 y0 k hp hq he hk
    simp only [List.length_cons] at hk
    obtain ⟨k, rfl⟩ : ∃ m, k = m + 1 := ⟨k - 1, by omega⟩
    have h1 : x.length = x0.length + (r.length + 1) := by rw [hp]; simp
    have h2 : y.length = y0.length + q.length := by rw [hq]; simp
    obtain ⟨u, q, rfl⟩ : ∃ u q', q = u :: q' := by
      cases q with
      | nil => simp at h2; omega
      | cons u q => exact ⟨u, q, rfl⟩
    have e : rd x (x0.length : Int) = s := by rw [hp]; exact rdn_at _ _ _
    have e2 : rd y (x0.length : Int) = u := by rw [hq, he]; exact rdn_at _ _ _
    have hn := ih q (x0 ++ [s]) (y0 ++ [u]) k (by simp [hp]) (by simp [hq]) (by simp [he]) (by omega)
    rw [bailiwickref01_Same.l0, if_pos (by omega), if_pos (by omega), if_pos (by omega), e, e2, wn (by omega), show ((x0.length + 1 : Nat) : Int) = ((x0 ++ [s]).length : Int) from by simp, hn]
    by_cases g0 : s = u
    · simp [g0]
    · simp [g0]
theorem rSameI (x y : List Int) (k : Nat) (hx : x.length ≤ 900) (hk : 4000 < k) : bailiwickref01_Same.f k x y = some (decide (x = y)) := by
  unfold bailiwickref01_Same.f
  by_cases h : x.length = y.length
  · rw [if_pos (by omega)]
    exact rSameI_loop x y h (by omega) x y [] [] k rfl rfl rfl (by omega)
  · rw [if_neg (by omega)]
    have : x ≠ y := fun e => h (by rw [e])
    simp [this]
theorem short_loop (x : List (List S38)) (hx : x.length ≤ 2000) : ∀ (r p0 : List (List S38)) (k : Nat), x = p0 ++ r → r.length < k →
    bailiwicklaw04_short.l0 k x (p0.length : Int) = some (r.all fun p => decide (p.length ≤ 100)) := by
  intro r
  induction r with
  | nil =>
    intro p0 k hp hk
    obtain ⟨k, rfl⟩ : ∃ m, k = m + 1 := ⟨k - 1, by simp at hk; omega⟩
    rw [bailiwicklaw04_short.l0, if_neg (by rw [hp]; simp)]
    simp
  | cons s r ih =>
    intro p0 k hp hk
    simp only [List.length_cons] at hk
    obtain ⟨k, rfl⟩ : ∃ m, k = m + 1 := ⟨k - 1, by omega⟩
    have hl : p0.length < x.length := by rw [hp]; simp
    have e : rd_L2 x (p0.length : Int) = s := by rw [hp]; exact rdL_at _ _ _
    rw [bailiwicklaw04_short.l0, if_pos (by omega), if_pos (by omega), e]
    by_cases h : s.length ≤ 100
    · rw [if_neg (by omega), wn (by omega)]
      have := ih (p0 ++ [s]) k (by simp [hp]) (by omega)
      rw [show ((p0.length + 1 : Nat) : Int) = ((p0 ++ [s]).length : Int) from by simp, this]
      simp [h]
    · rw [if_pos (by omega)]
      simp [h]
theorem shortL (l : List (List S38)) (k : Nat) (hk : 100 < k) : bailiwicklaw04_short.f k l = some (decide (l.length ≤ 6) && l.all fun p => decide (p.length ≤ 100)) := by
  unfold bailiwicklaw04_short.f
  by_cases h : l.length ≤ 6
  · rw [if_neg (by omega)]
    have := short_loop l (by omega) l [] k rfl (by omega)
    rw [show ((([] : List (List S38)).length : Nat) : Int) = 0 from rfl] at this
    rw [this]
    simp [h]
  · rw [if_pos (by omega)]
    simp [h]
theorem eachR_len (F : List S38 → Int → List S38 × Int) (hF : ∀ p c, p.length ≤ 2000 → (F p c).1.length ≤ 2000) (l0 : List (List S38)) (h0 : l0.length ≤ 900) (hs : ∀ p ∈ l0, p.length ≤ 2000) : ∀ (r : List (List S38)) (m : List Int) (acc : List (List S38)), (∀ p ∈ r, p.length ≤ 2000) → (∀ p ∈ acc, p.length ≤ 2000) → acc.length + r.length ≤ 900 →
    (eachR F l0 r m acc).1.length ≤ 900 ∧ ∀ p ∈ (eachR F l0 r m acc).1, p.length ≤ 2000 := by
  intro r
  induction r with
  | nil => intro m acc _ h2 h3; exact ⟨by simpa [eachR] using h3, by simpa [eachR] using h2⟩
  | cons s r ih =>
    intro m acc h1 h2 h3
    simp only [List.length_cons] at h3
    cases m with
    | nil => exact ⟨by show acc.length ≤ 900; omega, h2⟩
    | cons c m =>
      simp only [eachR]
      split
      · refine ih m _ (fun p hp => h1 p (by simp [hp])) (fun p hp => ?_) (by simp; omega)
        rcases List.mem_append.1 hp with hp | hp
        · exact h2 p hp
        · rw [List.mem_singleton.1 hp]; exact hF s c (h1 s (by simp))
      · exact ⟨h0, hs⟩
theorem eachL_len (F : List S38 → Int → List S38 × Int) (hF : ∀ p c, p.length ≤ 2000 → (F p c).1.length ≤ 2000) (l : List (List S38)) (n : List Int) (h0 : l.length ≤ 900) (hs : ∀ p ∈ l, p.length ≤ 2000) :
    (eachL F l n).1.length ≤ 900 ∧ ∀ p ∈ (eachL F l n).1, p.length ≤ 2000 := by
  unfold eachL
  split
  · exact eachR_len F hF l h0 hs l n [] hs (by simp) (by simpa using h0)
  · exact ⟨h0, hs⟩
end Go.Proofs.Ytpekjfmlpogfaaa.PAll
