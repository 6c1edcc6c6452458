/- Pools: what Right, clone, Take and At compute, in plain form. -/
import Derived.Test.YtpekjfmlpogfaaaQGive
import Derived.Test.YtpekjfmlpogfaaaPAllx24
import Derived.Test.YtpekjfmlpogfaaaPAllx25
import Derived.Test.YtpekjfmlpogfaaaPAllx26
import Derived.Test.YtpekjfmlpogfaaaPAllx28
import Derived.Test.YtpekjfmlpogfaaaPAllx30
namespace Go.Proofs.Ytpekjfmlpogfaaa.PAll
open Go.RowKit Go.Proofs.YtpekjfmlpogfaaaW.PrintWords Go.Proofs.YtpekjfmlpogfaaaW.PrintLast Go.Proofs.YtpekjfmlpogfaaaW.PrintMore
set_option linter.unusedVariables false
set_option linter.unusedSimpArgs false

theorem rdL_at (p : List (List S38)) (s : List S38) (r : List (List S38)) : rd_L2 (p ++ s :: r) (p.length : Int) = s := by simp [rd_L2]
def rightL (l : List (List S38)) : Bool := decide (1 ≤ l.length) && decide (l.length ≤ 4) && l.all rightB
theorem idx_loop (x : List (List S38)) (hx : x.length ≤ 2000) : ∀ (r p0 : List (List S38)) (k : Nat), x = p0 ++ r → r.length + 4020 < k →
    ∃ i, api_Step_55.l0 k x (x.length : Int) (p0.length : Int) = some i ∧ decide (i ≥ 0) = !(r.all rightB) := by
  intro r
  induction r with
  | nil =>
    intro p0 k hp hk
    obtain ⟨k, rfl⟩ : ∃ m, k = m + 1 := ⟨k - 1, by simp at hk; omega⟩
    refine ⟨-1, ?_, by simp⟩
    rw [api_Step_55.l0, if_neg (by rw [hp]; simp)]
  | cons s r ih =>
    intro p0 k hp hk
    simp only [List.length_cons] at hk
    obtain ⟨k, rfl⟩ : ∃ m, k = m + 1 := ⟨k - 1, by omega⟩
    have hl : p0.length < x.length := by rw [hp]; simp
    have e : rd_L2 x (p0.length : Int) = s := by rw [hp]; exact rdL_at _ _ _
    rw [api_Step_55.l0, if_pos (by omega), if_pos (by omega), if_pos (by omega), e]
    unfold pools_Right_1.f
    rw [sRight s k (by omega)]
    simp only [Option.bind_some]
    cases hs : rightB s with
    | true =>
      rw [if_neg (by simp), wn (by omega)]
      obtain ⟨i, h1, h2⟩ := ih (p0 ++ [s]) k (by simp [hp]) (by omega)
      refine ⟨i, by rw [← h1]; simp, ?_⟩
      rw [h2, List.all_cons, hs]; simp
    | false => exact ⟨p0.length, by rw [if_pos (by simp)], by simp [hs]⟩
theorem sRightL (l : List (List S38)) (k : Nat) (hk : 5000 < k) : pools_Right.f k l = some (rightL l) := by
  unfold pools_Right.f rightL
  by_cases h1 : (l.length : Int) ≥ 1
  · rw [if_pos h1]
    by_cases h2 : (l.length : Int) ≤ 4
    · rw [if_pos h2]
      unfold api_Step_47.f api_Step_55.f
      obtain ⟨i, e1, e2⟩ := idx_loop l (by omega) l [] k rfl (by omega)
      rw [show ((([] : List (List S38)).length : Nat) : Int) = 0 from rfl] at e1
      rw [e1]
      simp only [Option.bind_some, e2, Bool.not_not]
      simp
      intro _
      omega
    · rw [if_neg h2]; simp; omega
  · rw [if_neg h1]; simp; omega
theorem clone_loop (x : List (List S38)) (hx : x.length ≤ 2000) (hs : ∀ p ∈ x, p.length ≤ 2000) : ∀ (r p0 acc : List (List S38)) (k : Nat), x = p0 ++ r → acc.length ≤ p0.length → r.length < k →
    pools_clone.l0 k acc x (x.length : Int) (p0.length : Int) = some (acc ++ r) := by
  intro r
  induction r with
  | nil =>
    intro p0 acc k hp ha hk
    obtain ⟨k, rfl⟩ : ∃ m, k = m + 1 := ⟨k - 1, by simp at hk; omega⟩
    rw [pools_clone.l0, if_neg (by rw [hp]; simp)]
    simp
  | cons s r ih =>
    intro p0 acc k hp ha hk
    simp only [List.length_cons] at hk
    obtain ⟨k, rfl⟩ : ∃ m, k = m + 1 := ⟨k - 1, by omega⟩
    have hl : p0.length < x.length := by rw [hp]; simp
    have e : rd_L2 x (p0.length : Int) = s := by rw [hp]; exact rdL_at _ _ _
    rw [pools_clone.l0, if_pos (by omega), if_pos (by omega), if_pos (by omega), e, cloneF s (hs s (by rw [hp]; simp))]
    simp only [Option.bind_some]
    rw [if_pos (by omega), wn (by omega)]
    have := ih (p0 ++ [s]) (acc ++ [s]) k (by simp [hp]) (by simp; omega) (by omega)
    rw [show ((p0.length + 1 : Nat) : Int) = ((p0 ++ [s]).length : Int) from by simp, this]
    simp
theorem cloneL (l : List (List S38)) (hl : l.length ≤ 900) (hs : ∀ p ∈ l, p.length ≤ 2000) (k : Nat) (hk : 1000 < k) : pools_clone.f k l = some l := by
  unfold pools_clone.f
  have := clone_loop l (by omega) hs l [] [] k rfl (by simp) (by omega)
  simpa using this

/-! ### each -/
def eachR (F : List S38 → Int → List S38 × Int) (l0 : List (List S38)) : List (List S38) → List Int → List (List S38) → List (List S38) × Int
  | [], _, acc => (acc, 0)
  | _ :: _, [], acc => (acc, 0)
  | p :: r, m :: ns, acc => if (F p m).2 = 0 then eachR F l0 r ns (acc ++ [(F p m).1]) else (l0, (F p m).2)
def eachL (F : List S38 → Int → List S38 × Int) (l : List (List S38)) (n : List Int) : List (List S38) × Int :=
  if rightL l = true ∧ n.length = l.length then eachR F l l n [] else (l, 1)
theorem eachT_loop (x : List (List S38)) (a b : Int) (n : List Int) (hn : n.length = x.length) (hx : x.length ≤ 900) (hs : ∀ p ∈ x, p.length ≤ 2000) : ∀ (r p0 acc : List (List S38)) (m m0 : List Int) (k : Nat), x = p0 ++ r → n = m0 ++ m → m0.length = p0.length → acc.length ≤ p0.length → r.length + 30000 < k →
    pools_each.l0 k x a b n acc x (x.length : Int) (p0.length : Int) = some (eachR (fun p c => takeF p a b c) x r m acc) := by
  intro r
  induction r with
  | nil =>
    intro p0 acc m m0 k hp hm hml ha hk
    obtain ⟨k, rfl⟩ : ∃ j, k = j + 1 := ⟨k - 1, by simp at hk; omega⟩
    rw [pools_each.l0, if_neg (by rw [hp]; simp)]
    rfl
  | cons s r ih =>
    intro p0 acc m m0 k hp hm hml ha hk
    simp only [List.length_cons] at hk
    obtain ⟨k, rfl⟩ : ∃ j, k = j + 1 := ⟨k - 1, by omega⟩
    have hl : x.length = p0.length + (r.length + 1) := by rw [hp]; simp
    have hml2 : n.length = m0.length + m.length := by rw [hm]; simp
    obtain ⟨c, m, rfl⟩ : ∃ c m', m = c :: m' := by
      cases m with
      | nil => simp at hml2; omega
      | cons c m => exact ⟨c, m, rfl⟩
    have e : rd_L2 x (p0.length : Int) = s := by rw [hp]; exact rdL_at _ _ _
    have e2 : rd n (p0.length : Int) = c := by rw [hm, ← hml]; exact rdn_at _ _ _
    rw [pools_each.l0, if_pos (by omega), if_pos (by omega), if_pos (by omega), if_pos (by omega), e, e2, sTake s a b c (hs s (by rw [hp]; simp)) k (by omega)]
    simp only [Option.bind_some, eachR]
    by_cases h0 : (takeF s a b c).2 = 0
    · rw [if_pos h0, if_pos h0, if_pos (by omega), wn (by omega)]
      have := ih (p0 ++ [s]) (acc ++ [(takeF s a b c).1]) m (m0 ++ [c]) k (by simp [hp]) (by simp [hm]) (by simp [hml]) (by simp; omega) (by omega)
      rw [show ((p0.length + 1 : Nat) : Int) = ((p0 ++ [s]).length : Int) from by simp, this]
    · rw [if_neg h0, if_neg h0, cloneL x hx hs k (by omega)]
      rfl
theorem sTakeL (l : List (List S38)) (a b : Int) (n : List Int) (hl : l.length ≤ 900) (hs : ∀ p ∈ l, p.length ≤ 2000) (k : Nat) (hk : 40000 < k) : pools_Take.f k l a b n = some (eachL (fun p c => takeF p a b c) l n) := by
  unfold pools_Take.f pools_each.f eachL
  rw [sRightL l k (by omega)]
  simp only [Option.bind_some]
  obtain ⟨k, rfl⟩ : ∃ j, k = j + 1 := ⟨k - 1, by omega⟩
  by_cases h1 : rightL l = true
  · rw [if_pos h1, pools_each.j0]
    by_cases h2 : n.length = l.length
    · rw [if_neg (by simp [h2]), if_pos ⟨h1, h2⟩]
      have := eachT_loop l a b n h2 hl hs l [] [] n [] k rfl rfl rfl (by simp) (by omega)
      rw [show ((([] : List (List S38)).length : Nat) : Int) = 0 from rfl] at this
      rw [this]
      rfl
    · rw [if_pos (by simp; omega), if_neg (fun h => h2 h.2), cloneL l hl hs k (by omega)]
      rfl
  · rw [if_neg h1, pools_each.j0, if_pos rfl, if_neg (fun h => h1 h.1), cloneL l hl hs k (by omega)]
    rfl
theorem atL_loop (x : List (List S38)) (hx : x.length ≤ 2000) (t : Int) : ∀ (r p0 : List (List S38)) (acc : List Int) (k : Nat), x = p0 ++ r → acc.length ≤ p0.length → r.length + 5000 < k →
    pools_At.l0 k t acc x (x.length : Int) (p0.length : Int) = some (acc ++ r.map (atR · t)) := by
  intro r
  induction r with
  | nil =>
    intro p0 acc k hp ha hk
    obtain ⟨k, rfl⟩ : ∃ m, k = m + 1 := ⟨k - 1, by simp at hk; omega⟩
    rw [pools_At.l0, if_neg (by rw [hp]; simp)]
    simp
  | cons s r ih =>
    intro p0 acc k hp ha hk
    simp only [List.length_cons] at hk
    obtain ⟨k, rfl⟩ : ∃ m, k = m + 1 := ⟨k - 1, by omega⟩
    have hl : p0.length < x.length := by rw [hp]; simp
    have e : rd_L2 x (p0.length : Int) = s := by rw [hp]; exact rdL_at _ _ _
    rw [pools_At.l0, if_pos (by omega), if_pos (by omega), if_pos (by omega), e, sAt s t k (by omega)]
    simp only [Option.bind_some]
    rw [if_pos (by omega), wn (by omega)]
    have := ih (p0 ++ [s]) (acc ++ [atR s t]) k (by simp [hp]) (by simp; omega) (by omega)
    rw [show ((p0.length + 1 : Nat) : Int) = ((p0 ++ [s]).length : Int) from by simp, this]
    simp
theorem sAtL (l : List (List S38)) (t : Int) (hl : l.length ≤ 900) (k : Nat) (hk : 9000 < k) : pools_At.f k l t = some (if rightL l = true then l.map (atR · t) else []) := by
  unfold pools_At.f
  rw [sRightL l k (by omega)]
  simp only [Option.bind_some]
  by_cases h : rightL l = true
  · rw [if_pos h, if_pos h]
    have := atL_loop l (by omega) t l [] [] k rfl (by simp) (by omega)
    simpa using this
  · rw [if_neg h, if_neg h]
end Go.Proofs.Ytpekjfmlpogfaaa.PAll
