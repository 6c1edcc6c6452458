/- One kind: what step.First answers stays at its own time; pools.First of one kind is step.First. -/
import Derived.Test.YtpekjfmlpogfaaaQPoolsA
import Derived.Test.YtpekjfmlpogfaaaPAllx10
import Derived.Test.YtpekjfmlpogfaaaPAllx29
namespace Go.Proofs.Ytpekjfmlpogfaaa.PAll
open Go.RowKit Go.Proofs.YtpekjfmlpogfaaaW.PrintWords Go.Proofs.YtpekjfmlpogfaaaW.PrintLast Go.Proofs.YtpekjfmlpogfaaaW.PrintMore
set_option linter.unusedVariables false
set_option linter.unusedSimpArgs false

def plusW (t long : Int) : Int := ((when_Plus.f t long).getD 0)
theorem plusW_eq (t long : Int) : when_Plus.f t long = some (plusW t long) := by
  unfold plusW when_Plus.f when_near.f
  rfl
def firstW (long n : Int) : Int → List S38 → Option Int
  | t, [] => some t
  | t, u :: r => if u.f0 < plusW t long then (if u.f1 < n then (match r with | [] => none | v :: _ => firstW long n v.f0 r) else firstW long n t r) else some t
def pairF : Option Int → Int × Bool
  | none => (0, false)
  | some t => if t = 4611686018427387904 then (0, false) else (t, true)
theorem sFirst_loop (x : List S38) (hx : x.length ≤ 2000) (long n : Int) : ∀ (r p0 : List S38) (k : Nat) (t : Int), x = p0 ++ r → 2 * r.length + 1 < k →
    step_First.l0 k x long n t (p0.length : Int) = some (pairF (firstW long n t r)) := by
  intro r
  induction r with
  | nil =>
    intro p0 k t hp hk
    obtain ⟨k, rfl⟩ : ∃ m, k = m + 1 + 1 := ⟨k - 2, by simp at hk; omega⟩
    rw [step_First.l0, if_neg (by rw [hp]; simp), step_First.j2, if_neg (by simp)]
    simp only [firstW, pairF]
    split <;> rfl
  | cons s r ih =>
    intro p0 k t hp hk
    simp only [List.length_cons] at hk
    obtain ⟨k, rfl⟩ : ∃ m, k = m + 1 + 1 := ⟨k - 2, by omega⟩
    have hl : p0.length < x.length := by rw [hp]; simp
    have e : rd_T38 x (p0.length : Int) = s := by rw [hp]; exact rd_at _ _ _
    have hw : wrap64 ((p0.length : Int) + 1) = ((p0 ++ [s]).length : Int) := by rw [wn (by omega)]; simp
    rw [step_First.l0, if_pos (by omega), if_pos (by omega), plusW_eq]
    simp only [Option.bind_some]
    rw [e, step_First.j2]
    by_cases h : s.f0 < plusW t long
    · rw [if_pos (by simpa using h), if_pos (by omega), if_pos (by omega), e]
      by_cases h2 : s.f1 < n
      · rw [if_pos h2, hw]
        cases r with
        | nil =>
          rw [if_pos (by rw [hp])]
          simp [firstW, h, h2, pairF]
        | cons v r =>
          have e2 : rd_T38 x ((p0 ++ [s]).length : Int) = v := by rw [hp, show p0 ++ s :: v :: r = (p0 ++ [s]) ++ v :: r from by simp]; exact rd_at _ _ _
          rw [if_neg (by rw [hp]; simp; omega), if_pos (by omega), if_pos (by rw [hp]; simp; omega), e2, ih (p0 ++ [s]) k v.f0 (by simp [hp]) (by omega)]
          simp only [firstW, if_pos h, if_pos h2]
      · rw [if_neg h2, hw, ih (p0 ++ [s]) k t (by simp [hp]) (by omega)]
        simp only [firstW, if_pos h, if_neg h2]
    · rw [if_neg (by simpa using h)]
      simp only [firstW, if_neg h, pairF]
      split <;> rfl
theorem firstW_stay (long n : Int) : ∀ (r : List S38) (t u : Int), firstW long n t r = some u → u = t ∨ ∃ r0 v r1, r = r0 ++ v :: r1 ∧ r0 ≠ [] ∧ v.f0 = u ∧ firstW long n u (v :: r1) = some u := by
  intro r
  induction r with
  | nil => intro t u h; left; simpa [firstW, eq_comm] using h
  | cons s r ih =>
    intro t u h
    have hs : firstW long n t (s :: r) = some u := h
    simp only [firstW] at h
    by_cases h1 : s.f0 < plusW t long
    · rw [if_pos h1] at h
      by_cases h2 : s.f1 < n
      · rw [if_pos h2] at h
        cases r with
        | nil => simp at h
        | cons v r =>
          simp only at h
          rcases ih v.f0 u h with e | ⟨r0, w, r1, e, e0, e1, e2⟩
          · right
            refine ⟨[s], v, r, rfl, by simp, e.symm, ?_⟩
            rw [← e] at h
            exact h
          · right
            exact ⟨s :: r0, w, r1, by rw [e]; rfl, by simp, e1, e2⟩
      · rw [if_neg h2] at h
        rcases ih t u h with e | ⟨r0, w, r1, e, e0, e1, e2⟩
        · exact .inl e
        · right
          exact ⟨s :: r0, w, r1, by rw [e]; rfl, by simp, e1, e2⟩
    · rw [if_neg h1] at h
      left
      simpa [eq_comm] using h
theorem Ch_before : ∀ (l : List S38) {v : S38} {r : List S38}, Ch (l ++ v :: r) → ∀ w ∈ l, w.f0 < v.f0
  | [], _, _, _ => by simp
  | a :: l, v, r, h => by
    intro w hw
    rcases List.mem_cons.1 hw with rfl | hw
    · exact Ch.lt h v (by simp)
    · exact Ch_before l (Ch.tail h) w hw
def askB (p : List S38) (a long n : Int) : Bool := rightB p && decide (0 ≤ a) && decide (a < 4611686018427387904) && decide (1 ≤ long) && decide (0 ≤ n) && decide (n ≤ 1048576)
theorem sFirst_ask (p : List S38) (a long n : Int) (k : Nat) (hk : 5000 < k) :
    step_First.f k p a long n = if askB p a long n = true then (step_place.f (k - 1) p a).bind fun i => step_First.l0 (k - 1) p long n a i else some (0, false) := by
  obtain ⟨k, rfl⟩ : ∃ m, k = m + 1 := ⟨k - 1, by omega⟩
  unfold step_First.f askB
  rw [sRight p _ (by omega)]
  simp only [Option.bind_some, wRightF, amountF, step_First.j0, Nat.add_sub_cancel]
  by_cases h1 : rightB p = true
  · rw [if_pos h1]
    by_cases h2 : 0 ≤ a ∧ a ≤ 4611686018427387904
    · rw [if_pos (by simpa using h2)]
      by_cases h3 : a = 4611686018427387904
      · rw [if_pos h3, if_pos trivial, if_neg (by simp; omega)]
      · rw [if_neg h3]
        by_cases h4 : long < 1
        · rw [if_pos h4, if_pos trivial, if_neg (by simp; omega)]
        · rw [if_neg h4]
          by_cases h5 : 0 ≤ n ∧ n ≤ 1048576
          · rw [if_neg (by simp; omega), if_pos (by simp [h1]; omega)]
          · rw [if_pos (by simp; omega), if_neg (by simp; omega)]
    · rw [if_neg (by simp; omega), if_pos trivial, if_neg (by simp; omega)]
  · rw [if_neg h1, if_pos trivial, if_neg (by simp [h1])]
theorem sFirst_at {p0 r : List S38} {s : S38} (h : RightP (p0 ++ s :: r)) {a long n : Int} (hs : s.f0 ≤ a) (hr : ∀ u ∈ r, a < u.f0) (hask : askB (p0 ++ s :: r) a long n = true) (k : Nat) (hk : 5020 < k) :
    step_First.f k (p0 ++ s :: r) a long n = some (pairF (firstW long n a (s :: r))) := by
  have hl : (p0 ++ s :: r).length ≤ 2000 := Nat.le_trans h.len (by omega)
  rw [sFirst_ask _ a long n k (by omega), if_pos hask, sPlace p0 s r a hl hs hr (Ch_before p0 h.chain) (k - 1) (by omega)]
  simp only [Option.bind_some]
  exact sFirst_loop _ hl long n (s :: r) p0 (k - 1) a rfl (by simp at hl ⊢; omega)
/-- What First answers: nothing and 0, or a time at which it answers itself. -/
theorem sFirst_spec (p : List S38) (a long n : Int) : ∃ y : Int × Bool, (∀ k, 5020 < k → step_First.f k p a long n = some y) ∧ (y.2 = false → y.1 = 0) ∧
    (y.2 = true → rightB p = true ∧ a ≤ y.1 ∧ ∀ k, 5020 < k → step_First.f k p y.1 long n = some (y.1, true)) := by
  by_cases hask : askB p a long n = true
  · have ha : rightB p = true ∧ 0 ≤ a ∧ a < 4611686018427387904 ∧ 1 ≤ long ∧ 0 ≤ n ∧ n ≤ 1048576 := by
      unfold askB at hask; simpa [and_assoc] using hask
    obtain ⟨hb, a0, a1, a2, a3, a4⟩ := ha
    have hR := (right_iff p).1 hb
    obtain ⟨p0, s, r, rfl, g1, g2, g3, g4⟩ := hR.split a0
    refine ⟨pairF (firstW long n a (s :: r)), fun k hk => sFirst_at hR g1 g2 hask k hk, ?_, ?_⟩
    · cases hf : firstW long n a (s :: r) with
      | none => intro _; rfl
      | some t => simp only [pairF]; split <;> simp
    · cases hf : firstW long n a (s :: r) with
      | none => intro e; cases e
      | some t =>
        simp only [pairF]
        by_cases ht : t = 4611686018427387904
        · rw [if_pos ht]; intro e; cases e
        · rw [if_neg ht]
          intro _
          rcases firstW_stay long n (s :: r) a t hf with rfl | ⟨r0, v, r1, e, e0, e1, e2⟩
          · refine ⟨hb, Int.le_refl _, fun k hk => ?_⟩
            rw [sFirst_at hR g1 g2 hask k hk, hf]
            simp only [pairF, if_neg ht]
          · subst e1
            have ep : p0 ++ s :: r = (p0 ++ r0) ++ v :: r1 := by rw [e]; simp
            have hgood := hR.good v (by rw [ep]; simp)
            have hav : a < v.f0 := by
              cases r0 with
              | nil => exact absurd rfl e0
              | cons z r0 =>
                simp only [List.cons_append, List.cons.injEq] at e
                exact g2 v (by rw [e.2]; simp)
            refine ⟨hb, by simp only; omega, fun k hk => ?_⟩
            obtain ⟨_, _, b1, b2⟩ := hgood
            rw [ep] at hR hb ⊢
            have hc : Ch (v :: r1) := Ch_mid hR.chain
            have hask2 : askB ((p0 ++ r0) ++ v :: r1) v.f0 long n = true := by
              unfold askB; rw [hb]; simp; omega
            simp only
            rw [sFirst_at hR (Int.le_refl _) (fun u hu => hc.lt u hu) hask2 k hk, e2]
            simp only [pairF, if_neg ht]
  · refine ⟨(0, false), fun k hk => ?_, fun _ => rfl, fun e => by cases e⟩
    rw [sFirst_ask _ a long n k (by omega), if_neg hask]
theorem rdL_one (p : List S38) : rd_L2 [p] 0 = p := rdL_at [] p []
theorem rd_one (n : Int) : rd [n] 0 = n := rdn_at [] n []
theorem mx_le {a b : Int} (h : a ≤ b) : mx a b = b := by unfold mx; split <;> omega
theorem rightL_one (p : List S38) : rightL [p] = rightB p := by simp [rightL]
theorem firstL_one (p : List S38) (a long n : Int) : ∃ y : Int × Bool, (∀ k, 5020 < k → step_First.f k p a long n = some y) ∧ ∀ k, 10000 < k → pools_First.f k [p] a long [n] = some y := by
  obtain ⟨y, h1, h2, h3⟩ := sFirst_spec p a long n
  refine ⟨y, h1, fun k hk => ?_⟩
  obtain ⟨k, rfl⟩ : ∃ m, k = m + 1 + 1 + 1 + 1 + 1 + 1 + 1 := ⟨k - 7, by omega⟩
  unfold pools_First.f
  rw [sRightL [p] _ (by omega), rightL_one]
  simp only [Option.bind_some]
  by_cases hb : rightB p = true
  · rw [if_pos hb, pools_First.j0, if_neg (by simp), pools_First.l0, pools_First.l1, if_pos (by simp), if_pos (by omega), if_pos (by simp), if_pos (by simp), rdL_one, rd_one, h1 _ (by omega)]
    simp only [Option.bind_some]
    by_cases hy : y.2 = true
    · obtain ⟨_, g2, g3⟩ := h3 hy
      have hyy : (y.1, true) = y := by rw [← hy]
      rw [if_pos hy, mx_le g2, pools_First.l1, if_neg (by simp [wrap64])]
      by_cases e : y.1 = a
      · rw [if_pos e, ← e, hyy]
      · rw [if_neg e, pools_First.l0, pools_First.l1, if_pos (by simp), if_pos (by omega), if_pos (by simp), if_pos (by simp), rdL_one, rd_one, g3 _ (by omega)]
        simp only [Option.bind_some]
        rw [if_pos trivial, mx_le (Int.le_refl _), pools_First.l1, if_neg (by simp [wrap64]), if_pos rfl, hyy]
    · rw [if_neg hy]
      have hy' : y.2 = false := by simpa using hy
      rw [← h2 hy', ← hy']
  · rw [if_neg hb, pools_First.j0, if_pos rfl]
    have hy : y.2 = false := by
      cases hc : y.2 with
      | false => rfl
      | true => exact absurd (h3 hc).1 hb
    rw [← h2 hy, ← hy]
end Go.Proofs.Ytpekjfmlpogfaaa.PAll
