/- PoolsRight, the plain law: for all pools, times and amounts the law's plain form answers true. No program in sight. -/
import Derived.Test.YtpekjfmlpogfaaaQPools
import Derived.Test.YtpekjfmlpogfaaaPAllx37
namespace Go.Proofs.Ytpekjfmlpogfaaa.Pure
open Go.RowKit Go.Proofs.Ytpekjfmlpogfaaa.PAll Go.Proofs.YtpekjfmlpogfaaaW.PrintWords Go.Proofs.YtpekjfmlpogfaaaW.PrintLast Go.Proofs.YtpekjfmlpogfaaaW.PrintMore
set_option linter.unusedVariables false
set_option linter.unusedSimpArgs false

theorem awake04 (k : Nat) (hk : 60 ≤ k) : bailiwicklaw04_awake.f k = some true :=
  at_rounds (g := fun k => bailiwicklaw04_awake.f k) bailiwicklaw04_awake.mono hk (by decide +kernel)
/-- The last loop: what each profile says at the time. -/
theorem last_loop (x : List (List S38)) (hx : x.length ≤ 900) (t : Int) : ∀ (r p0 : List (List S38)) (acc : List Int) (k : Nat), x = p0 ++ r → acc.length ≤ p0.length → r.length + 10000 < k → (rightL x = true → acc = p0.map (atR · t)) → (rightL x = false → acc = [] ∧ p0 = []) →
    bailiwicklaw04_PoolsRight.l1 k x t x acc (p0.length : Int) = some true := by
  intro r
  induction r with
  | nil =>
    intro p0 acc k hp ha hk h1 h2
    obtain ⟨k, rfl⟩ : ∃ m, k = m + 1 := ⟨k - 1, by simp at hk; omega⟩
    simp only [List.append_nil] at hp
    rw [bailiwicklaw04_PoolsRight.l1, if_neg (by rw [hp]; omega), sAtL x t hx k (by omega)]
    simp only [Option.bind_some]
    cases hr : rightL x with
    | true =>
      rw [if_pos rfl, rSameI _ _ k (by simpa using hx) (by omega), h1 hr, hp]
      simp
    | false =>
      rw [if_neg (by simp), rSameI _ _ k (by simp) (by omega), (h2 hr).1]
      simp
  | cons s r ih =>
    intro p0 acc k hp ha hk h1 h2
    simp only [List.length_cons] at hk
    obtain ⟨k, rfl⟩ : ∃ m, k = m + 1 := ⟨k - 1, by omega⟩
    have hl : p0.length < x.length := by rw [hp]; simp
    have e : rd_L2 x (p0.length : Int) = s := by rw [hp]; exact rdL_at _ _ _
    rw [bailiwicklaw04_PoolsRight.l1, if_pos (by omega), rRightL x k (by omega) hx]
    simp only [Option.bind_some]
    cases hr : rightL x with
    | true =>
      rw [if_pos rfl, if_pos (by omega), e, rAt s t k (by omega)]
      simp only [Option.bind_some]
      rw [if_pos (by omega), wn (by omega)]
      have := ih (p0 ++ [s]) (acc ++ [atR s t]) k (by simp [hp]) (by simp; omega) (by omega) (fun _ => by rw [h1 hr]; simp) (fun h => by rw [hr] at h; cases h)
      rw [show ((p0.length + 1 : Nat) : Int) = ((p0 ++ [s]).length : Int) from by simp, this]
    | false =>
      rw [if_neg (by simp), sAtL x t hx k (by omega)]
      simp only [Option.bind_some]
      rw [hr, if_neg (by simp), rSameI _ _ k (by simp) (by omega), (h2 hr).1]
      simp
theorem j2_true (x : List (List S38)) (hx : x.length ≤ 900) (t : Int) (k : Nat) (hk : 20000 < k) : bailiwicklaw04_PoolsRight.j2 k x t x false = some true := by
  obtain ⟨k, rfl⟩ : ∃ m, k = m + 1 := ⟨k - 1, by omega⟩
  rw [bailiwicklaw04_PoolsRight.j2, if_neg (by simp)]
  exact last_loop x hx t x [] [] k rfl (by simp) (by omega) (fun _ => rfl) (fun _ => ⟨rfl, rfl⟩)
/-- The first loop copies. -/
theorem copy_loop (x : List (List S38)) (a b : Int) (n : List Int) (hx : x.length ≤ 900) (hs : ∀ p ∈ x, p.length ≤ 2000) : ∀ (r p0 : List (List S38)) (k : Nat), x = p0 ++ r → r.length + 50000 < k →
    bailiwicklaw04_PoolsRight.l0 k x a b n p0 (p0.length : Int) = some true := by
  intro r
  induction r with
  | nil =>
    intro p0 k hp hk
    obtain ⟨k, rfl⟩ : ∃ m, k = m + 1 := ⟨k - 1, by simp at hk; omega⟩
    simp only [List.append_nil] at hp
    subst hp
    obtain ⟨t1, t2⟩ := eachL_len (fun p c => takeF p a b c) (fun p c h => takeF_len p a b c h) x n hx hs
    obtain ⟨g1, g2⟩ := eachL_len (fun p c => giveF p a b c) (fun p c h => giveF_len p a b c h) x n hx hs
    rw [bailiwicklaw04_PoolsRight.l0, if_neg (by omega), sTakeL x a b n hx hs k (by omega)]
    simp only [Option.bind_some]
    rw [rChangeL x a b n false hx k (by omega)]
    simp only [Option.bind_some]
    rw [sGiveL x a b n hx hs k (by omega)]
    simp only [Option.bind_some]
    rw [rChangeL x a b n true hx k (by omega)]
    simp only [Option.bind_some]
    rw [sRightL x k (by omega), rRightL x k (by omega) hx]
    simp only [Option.bind_some]
    have e1 : pickF false a b = fun p c => takeF p a b c := by funext p c; simp [pickF]
    have e2 : pickF true a b = fun p c => giveF p a b c := by funext p c; simp [pickF]
    rw [e1, e2, rSameL _ _ k t1 t2 (by omega), rSameL _ _ k g1 g2 (by omega), rSameL x x k hx hs (by omega)]
    simp only [Option.bind_some, decide_true, if_true, Bool.not_true, j2_true x hx a k (by omega)]
    cases rightL x <;> simp
  | cons s r ih =>
    intro p0 k hp hk
    simp only [List.length_cons] at hk
    obtain ⟨k, rfl⟩ : ∃ m, k = m + 1 := ⟨k - 1, by omega⟩
    have hl : p0.length < x.length := by rw [hp]; simp
    have e : rd_L2 x (p0.length : Int) = s := by rw [hp]; exact rdL_at _ _ _
    have hsl := hs s (by rw [hp]; simp)
    rw [bailiwicklaw04_PoolsRight.l0, if_pos (by omega)]
    simp only [Option.bind_some, List.nil_append, List.length_nil, Nat.zero_add, e]
    rw [if_pos (by omega), if_pos (by omega), if_pos (by omega), wn (by omega)]
    have := ih (p0 ++ [s]) k (by simp [hp]) (by omega)
    rw [show ((p0.length + 1 : Nat) : Int) = ((p0 ++ [s]).length : Int) from by simp, this]
theorem PoolsRight (l0 : List (List S38)) (a1 a2 : Int) (l3 : List Int) : ∃ k, bailiwicklaw04_PoolsRight.f k l0 a1 a2 l3 = some true := by
  refine ⟨60001, ?_⟩
  unfold bailiwicklaw04_PoolsRight.f
  rw [awake04 60001 (by omega)]
  simp only [Option.bind_some, if_true]
  rw [shortL l0 60001 (by omega)]
  simp only [Option.bind_some]
  by_cases h : l0.length ≤ 6 ∧ ∀ p ∈ l0, p.length ≤ 100
  · rw [if_pos (by simpa using h)]
    by_cases c : (l3.length : Int) > 10
    · rw [show decide ((l3.length : Int) > 10) = true from by simpa using c]; rfl
    · rw [show decide ((l3.length : Int) > 10) = false from by simpa using c]
      rw [bailiwicklaw04_PoolsRight.j0, if_neg (by simp)]
      exact copy_loop l0 a1 a2 l3 (by omega) (fun p hp => by have := h.2 p hp; omega) l0 [] 60000 rfl (by omega)
  · rw [if_neg (by simpa using h)]; rfl
end Go.Proofs.Ytpekjfmlpogfaaa.Pure
