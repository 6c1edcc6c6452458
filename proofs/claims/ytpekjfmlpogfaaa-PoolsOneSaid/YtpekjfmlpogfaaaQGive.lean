/- Layer 3's Give, Least, At and New, the program's and the document's. No program in sight. -/
import Derived.Test.YtpekjfmlpogfaaaQOk
import Derived.Test.YtpekjfmlpogfaaaPAllx22
import Derived.Test.YtpekjfmlpogfaaaPAllx20
import Derived.Test.YtpekjfmlpogfaaaPAllx9
namespace Go.Proofs.Ytpekjfmlpogfaaa.PAll
open Go.RowKit Go.Proofs.YtpekjfmlpogfaaaW.PrintWords Go.Proofs.YtpekjfmlpogfaaaW.PrintLast Go.Proofs.YtpekjfmlpogfaaaW.PrintMore
set_option linter.unusedVariables false
set_option linter.unusedSimpArgs false

theorem mostF_le {a b n m : Int} {p : List S38} : mostF a b n p ≤ m ↔ n ≤ m ∧ ∀ u ∈ p, a < u.f0 → u.f0 < b → u.f1 ≤ m := by
  induction p generalizing n with
  | nil => simp [mostF]
  | cons s r ih =>
    show mostF a b (if a < s.f0 ∧ s.f0 < b ∧ n < s.f1 then s.f1 else n) r ≤ m ↔ _
    rw [ih]
    constructor
    · rintro ⟨h1, h2⟩
      refine ⟨by split at h1 <;> omega, fun u hu => ?_⟩
      rcases List.mem_cons.1 hu with rfl | hu
      · intro g1 g2; split at h1 <;> omega
      · exact h2 u hu
    · rintro ⟨h1, h2⟩
      refine ⟨?_, fun u hu => h2 u (by simp [hu])⟩
      split
      · rename_i c; exact h2 s (by simp) c.1 c.2.1
      · exact h1
theorem mostF_range {a b n : Int} {p : List S38} (hg : ∀ s ∈ p, Good s) (hn : 0 ≤ n ∧ n ≤ 1048576) : 0 ≤ mostF a b n p ∧ mostF a b n p ≤ 1048576 := by
  induction p generalizing n with
  | nil => exact hn
  | cons s r ih =>
    refine ih (fun u hu => hg u (by simp [hu])) ?_
    have := hg s (by simp)
    dsimp only
    split
    · exact ⟨this.1, this.2.1⟩
    · exact hn
def gW (b n : Int) : List S38 → Bool
  | [] => false
  | u :: r => if u.f0 < b then (if u.f1 + n > 1048576 then true else gW b n r) else false
theorem gW_iff {b n : Int} {r : List S38} (hc : Ch r) : gW b n r = false ↔ ∀ u ∈ r, u.f0 < b → u.f1 + n ≤ 1048576 := by
  induction r with
  | nil => simp [gW]
  | cons s r ih =>
    simp only [gW]
    by_cases h : s.f0 < b
    · rw [if_pos h]
      by_cases h2 : s.f1 + n > 1048576
      · rw [if_pos h2]
        constructor
        · intro e; cases e
        · intro e; have := e s (by simp) h; omega
      · rw [if_neg h2, ih hc.tail]
        constructor
        · intro e u hu
          rcases List.mem_cons.1 hu with rfl | hu
          · intro _; omega
          · exact e u hu
        · intro e u hu; exact e u (by simp [hu])
    · rw [if_neg h]
      constructor
      · intro _ u hu
        rcases List.mem_cons.1 hu with rfl | hu
        · intro g; omega
        · intro g; have := hc.lt u hu; omega
      · intro _; rfl
theorem sGive_loop (x : List S38) (hx : x.length ≤ 2000) (hg : ∀ s ∈ x, Good s) (a b n : Int) (hn : 0 ≤ n) (hn2 : n ≤ 1048576) : ∀ (r p0 : List S38) (k : Nat), x = p0 ++ r → 2 * r.length + 1 < k →
    step_Give.l0 k x a b n (p0.length : Int) = some (if gW b n r = true then (x, 9) else chg x a b n) := by
  intro r
  induction r with
  | nil =>
    intro p0 k hp hk
    obtain ⟨k, rfl⟩ : ∃ m, k = m + 1 + 1 := ⟨k - 2, by simp at hk; omega⟩
    rw [step_Give.l0, if_neg (by rw [hp]; simp), step_Give.j2, if_neg (by simp), sChange x _ _ _ hx]
    simp [gW]
  | cons s r ih =>
    intro p0 k hp hk
    simp only [List.length_cons] at hk
    obtain ⟨k, rfl⟩ : ∃ m, k = m + 1 + 1 := ⟨k - 2, by omega⟩
    have hl : p0.length < x.length := by rw [hp]; simp
    have e : rd_T38 x (p0.length : Int) = s := by rw [hp]; exact rd_at _ _ _
    have hw : wrap64 ((p0.length : Int) + 1) = ((p0 ++ [s]).length : Int) := by rw [wn (by omega)]; simp
    obtain ⟨g1, g2, _, _⟩ := hg s (by rw [hp]; simp)
    rw [step_Give.l0, if_pos (by omega), if_pos (by omega), e, step_Give.j2]
    by_cases h : s.f0 < b
    · rw [if_pos (by simpa using h), if_pos (by omega), if_pos (by omega), e, wid (by omega) (by omega)]
      simp only [gW, if_pos h]
      by_cases h2 : s.f1 + n > 1048576
      · rw [if_pos h2, if_pos h2, cloneF x hx]
        simp
      · rw [if_neg h2, if_neg h2, hw, ih (p0 ++ [s]) k (by simp [hp]) (by omega)]
    · rw [if_neg (by simpa using h), sChange x _ _ _ hx]
      simp [gW, h]
def overB (p : List S38) (a b n : Int) : Bool := decide (1048576 < mostF a b (vF 0 p a) p + n)
def giveF (p : List S38) (a b n : Int) : List S38 × Int :=
  if mayB p a b = true ∧ 0 ≤ n ∧ n ≤ 1048576 then (if overB p a b n = true then (p, 9) else chg p a b n) else (p, 1)
theorem over_eq {p0 r : List S38} {s : S38} (h : RightP (p0 ++ s :: r)) {a b n : Int} (hab : a < b) (h1 : s.f0 ≤ a) (h2 : ∀ u ∈ r, a < u.f0) (h3 : ∀ u ∈ p0, u.f0 < s.f0) (h4 : Ch (s :: r)) : gW b n (s :: r) = overB (p0 ++ s :: r) a b n := by
  have e : gW b n (s :: r) = false ↔ overB (p0 ++ s :: r) a b n = false := by
    rw [gW_iff h4]
    unfold overB
    rw [decide_eq_false_iff_not, Int.not_lt, vF_at h1 h2]
    have : mostF a b s.f1 (p0 ++ s :: r) + n ≤ 1048576 ↔ mostF a b s.f1 (p0 ++ s :: r) ≤ 1048576 - n := by omega
    rw [this, mostF_le]
    constructor
    · intro g
      refine ⟨by have := g s (by simp) (by omega); omega, fun u hu u1 u2 => ?_⟩
      rcases List.mem_append.1 hu with hu | hu
      · have := h3 u hu; omega
      · have := g u hu u2; omega
    · rintro ⟨g1, g2⟩ u hu u1
      rcases List.mem_cons.1 hu with rfl | hu
      · omega
      · have := g2 u (by simp [hu]) (h2 u hu) u1; omega
  cases e1 : gW b n (s :: r) <;> cases e2 : overB (p0 ++ s :: r) a b n <;> simp_all
theorem sGive (p : List S38) (a b n : Int) (hl : p.length ≤ 2000) (k : Nat) (hk : 5020 < k) : step_Give.f k p a b n = some (giveF p a b n) := by
  unfold step_Give.f giveF
  rw [sMay p a b k (by omega)]
  simp only [Option.bind_some, amountF]
  obtain ⟨k, rfl⟩ : ∃ m, k = m + 1 := ⟨k - 1, by omega⟩
  simp only [step_Give.j0, cloneF p hl, Option.bind_some]
  by_cases hm : mayB p a b = true
  · obtain ⟨h1, h2, h3, h4⟩ := may_iff.1 hm
    rw [if_pos hm]
    by_cases hn : 0 ≤ n ∧ n ≤ 1048576
    · rw [if_neg (by simp [hn]), if_pos ⟨hm, hn⟩]
      obtain ⟨p0, s, r, rfl, g1, g2, g3, g4⟩ := h1.split h2
      rw [sPlace p0 s r a hl g1 g2 g3 k (by omega)]
      simp only [Option.bind_some]
      rw [sGive_loop _ hl h1.good a b n hn.1 hn.2 (s :: r) p0 k rfl (by simp at hl ⊢; omega), over_eq h1 h4 g1 g2 g3 g4]
    · rw [if_pos (by simp; omega), if_neg (fun h => hn h.2)]
  · rw [if_neg hm, if_pos trivial, if_neg (fun h => hm h.1)]
theorem rGive (p : List S38) (a b n : Int) (k : Nat) (hk : 20020 < k) : bailiwickref03_Give.f k p a b n = some (giveF p a b n) := by
  unfold bailiwickref03_Give.f giveF
  rw [rMay p a b k (by omega)]
  simp only [Option.bind_some]
  obtain ⟨k, rfl⟩ : ∃ m, k = m + 1 := ⟨k - 1, by omega⟩
  simp only [bailiwickref03_Give.j0]
  by_cases hm : mayB p a b = true
  · obtain ⟨h1, h2, h3, h4⟩ := may_iff.1 hm
    have hl : p.length ≤ 2000 := Nat.le_trans h1.len (by omega)
    have hr := mostF_range (a := a) (b := b) (n := vF 0 p a) h1.good (gC_good h1 a)
    rw [if_pos hm]
    by_cases hn : 0 ≤ n ∧ n ≤ 1048576
    · rw [if_neg (by omega), if_neg (by simp; omega), if_pos ⟨hm, hn⟩, rMost p a b k hl (by omega)]
      simp only [Option.bind_some]
      rw [wid (by omega) (by omega), rChange h1 h2 h4 h3 (by omega) (by omega) k (by omega)]
      simp only [Option.bind_some]
      unfold overB
      by_cases c : mostF a b (vF 0 p a) p + n > 1048576
      · rw [if_pos c, if_pos (by simpa using c)]
      · rw [if_neg c, if_neg (by simpa using c)]
    · have e : ¬ (mayB p a b = true ∧ 0 ≤ n ∧ n ≤ 1048576) := fun h => hn h.2
      rw [if_neg e]
      by_cases c : n < 0
      · rw [if_pos c, if_pos trivial]
      · rw [if_neg c, if_pos (by simp; omega)]
  · rw [if_neg hm, if_pos trivial, if_neg (fun h => hm h.1)]

def leastR (p : List S38) (a b : Int) : Int × Int := if mayB p a b = true then (leastF a b (vF 0 p a) p, 0) else (0, 1)
theorem sLeastF (p : List S38) (a b : Int) (k : Nat) (hk : 4020 < k) : step_Least.f k p a b = some (leastR p a b) := by
  unfold step_Least.f leastR
  rw [sMay p a b k (by omega)]
  simp only [Option.bind_some]
  by_cases hm : mayB p a b = true
  · obtain ⟨h1, h2, h3, h4⟩ := may_iff.1 hm
    rw [if_pos hm, if_pos hm, sLeast h1 h2 h4 k (by omega)]
    rfl
  · rw [if_neg hm, if_neg hm]
def atR (p : List S38) (t : Int) : Int := if rightB p = true ∧ 0 ≤ t ∧ t ≤ 4611686018427387904 then vF 0 p t else 0
theorem sAt (p : List S38) (t : Int) (k : Nat) (hk : 4020 < k) : step_At.f k p t = some (atR p t) := by
  unfold step_At.f atR
  rw [sRight p k (by omega)]
  simp only [Option.bind_some, wRightF]
  by_cases hm : rightB p = true
  · rw [if_pos hm]
    by_cases ht : 0 ≤ t ∧ t ≤ 4611686018427387904
    · rw [if_pos (by simp [ht]), if_pos ⟨hm, ht⟩]
      have h := (right_iff p).1 hm
      obtain ⟨p0, s, r, rfl, g1, g2, g3, g4⟩ := h.split ht.1
      rw [sPlace p0 s r t (Nat.le_trans h.len (by omega)) g1 g2 g3 k (by omega)]
      simp only [Option.bind_some]
      rw [if_pos (by omega), if_pos (by simp; omega), rd_at, vF_at g1 g2]
    · rw [if_neg (by simp; omega), if_neg (fun h => ht h.2)]
  · rw [if_neg hm, if_neg (fun h => hm h.1)]
theorem rAt (p : List S38) (t : Int) (k : Nat) (hk : 4020 < k) : bailiwickref03_At.f k p t = some (atR p t) := by
  unfold bailiwickref03_At.f atR
  rw [rRight p k (by omega)]
  simp only [Option.bind_some]
  by_cases hm : rightB p = true
  · rw [if_pos hm]
    have h := (right_iff p).1 hm
    rw [rat p t k (Nat.le_trans h.len (by omega)) (by omega)]
    by_cases h1 : t < 0
    · rw [if_pos h1, if_neg (fun h => by omega)]
    · by_cases h2 : t > 4611686018427387904
      · rw [if_neg h1, if_pos h2, if_neg (fun h => by omega)]
      · rw [if_neg h1, if_neg h2, if_pos ⟨hm, by omega, by omega⟩]
        rfl
  · rw [if_neg hm, if_neg (fun h => hm h.1)]
theorem chg_len (p : List S38) (a b n : Int) (hl : p.length ≤ 2000) : (chg p a b n).1.length ≤ 2000 := by
  unfold chg
  split
  · exact hl
  · show (plusTo p a b n p.length).length ≤ 2000
    omega
theorem takeF_len (p : List S38) (a b n : Int) (hl : p.length ≤ 2000) : (takeF p a b n).1.length ≤ 2000 := by
  unfold takeF
  split
  · split
    · exact hl
    · exact chg_len _ _ _ _ hl
  · exact hl
theorem giveF_len (p : List S38) (a b n : Int) (hl : p.length ≤ 2000) : (giveF p a b n).1.length ≤ 2000 := by
  unfold giveF
  split
  · split
    · exact hl
    · exact chg_len _ _ _ _ hl
  · exact hl
end Go.Proofs.Ytpekjfmlpogfaaa.PAll
