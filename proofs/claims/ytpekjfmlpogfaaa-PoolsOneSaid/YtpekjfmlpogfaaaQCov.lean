/- What a change of a profile comes to: built piece by piece, by the program and by the document, it is one and the same list. No program in sight. -/
import Derived.Test.YtpekjfmlpogfaaaQMath
namespace Go.Proofs.Ytpekjfmlpogfaaa.PAll
open Go.RowKit Go.Proofs.YtpekjfmlpogfaaaW.PrintWords Go.Proofs.YtpekjfmlpogfaaaW.PrintLast Go.Proofs.YtpekjfmlpogfaaaW.PrintMore
set_option linter.unusedVariables false
set_option linter.unusedSimpArgs false

/-- A list that tells g up to T. -/
structure Cov (g : Int → Int) (xs : List S38) (T : Int) : Prop where
  ch : Ch xs
  lt : ∀ u ∈ xs, 0 ≤ u.f0 ∧ u.f0 < T
  hd : 0 < T → ∃ s r, xs = s :: r ∧ s.f0 = 0
  val : ∀ t, 0 ≤ t → t < T → vF 0 xs t = g t
theorem Cov.nil (g : Int → Int) : Cov g [] 0 := ⟨trivial, by simp, fun h => by omega, fun t h0 h1 => by omega⟩
theorem Ch_snoc {q : List S38} {z y : S38} (h : Ch (q ++ [z])) (h1 : z.f0 < y.f0) (h2 : z.f1 ≠ y.f1) : Ch (q ++ [z] ++ [y]) := by
  induction q with
  | nil => exact ⟨h1, h2, trivial⟩
  | cons a q ih =>
    cases q with
    | nil => exact ⟨h.1, h.2.1, h1, h2, trivial⟩
    | cons b q => exact ⟨h.1, h.2.1, ih h.2.2⟩
theorem addF_nil (a f : Int) : addF [] a f = [⟨a, f⟩] := by simp [addF]
theorem addF_snoc (q : List S38) (z : S38) (a f : Int) : addF (q ++ [z]) a f = if z.f1 = f then q ++ [z] else q ++ [z] ++ [⟨a, f⟩] := by
  unfold addF
  rw [if_neg (by simp)]
  have : rd_T38 (q ++ [z]) (((q ++ [z]).length : Int) - 1) = z := by
    rw [show ((q ++ [z]).length : Int) - 1 = ((q.length : Nat) : Int) from by simp]
    have := rd_last q z []
    simpa using this
  rw [this]
theorem Cov.add {g : Int → Int} {xs : List S38} {A B f : Int} (h : Cov g xs A) (h0 : 0 ≤ A) (h1 : A < B) (hg : ∀ t, A ≤ t → t < B → g t = f) : Cov g (addF xs A f) B := by
  rcases last_cases xs with rfl | ⟨q, z, rfl⟩
  · rw [addF_nil]
    have hA : A = 0 := by
      rcases Int.lt_or_eq_of_le h0 with hlt | heq
      · obtain ⟨s, r, e, _⟩ := h.hd hlt
        cases e
      · exact heq.symm
    subst hA
    refine ⟨trivial, by simp; omega, fun _ => ⟨_, _, rfl, rfl⟩, fun t t0 t1 => ?_⟩
    rw [hg t t0 t1]
    exact vF_at (p0 := []) (r := []) t0 (by simp)
  · have hz := h.lt z (by simp)
    have hA : 0 < A := by omega
    rw [addF_snoc]
    by_cases hf : z.f1 = f
    · rw [if_pos hf]
      refine ⟨h.ch, fun u hu => by have := h.lt u hu; omega, fun _ => h.hd hA, fun t t0 t1 => ?_⟩
      by_cases ht : t < A
      · exact h.val t t0 ht
      · rw [hg t (by omega) t1, vF_snoc, if_pos (by omega), hf]
    · rw [if_neg hf]
      refine ⟨Ch_snoc h.ch hz.2 hf, ?_, ?_, fun t t0 t1 => ?_⟩
      · intro u hu
        rcases List.mem_append.1 hu with hu | hu
        · have := h.lt u hu; omega
        · rw [List.mem_singleton.1 hu]; exact ⟨h0, h1⟩
      · intro _
        obtain ⟨s, r, e, es⟩ := h.hd hA
        exact ⟨s, r ++ [⟨A, f⟩], by rw [e]; rfl, es⟩
      · rw [vF_snoc]
        by_cases ht : t < A
        · rw [if_neg (by show ¬ A ≤ t; omega)]
          exact h.val t t0 ht
        · rw [if_pos (by show A ≤ t; omega), hg t (by omega) t1]
theorem Cov.addIf {g : Int → Int} {xs : List S38} {A S B f : Int} {c : Bool} (h : Cov g xs A) (h0 : 0 ≤ A) (hy : c = true → S = A ∧ A < B ∧ ∀ t, A ≤ t → t < B → g t = f) (hn : c = false → B = A) : Cov g (addIf c xs S f) B := by
  unfold PAll.addIf
  cases c with
  | true =>
    obtain ⟨rfl, h1, h2⟩ := hy rfl
    rw [if_pos rfl]
    exact h.add h0 h1 h2
  | false =>
    rw [if_neg (by simp), hn rfl]
    exact h
def gC (p : List S38) (a b n t : Int) : Int := vF 0 p t + if a ≤ t ∧ t < b then n else 0
/-- Where the rest of a profile begins. -/
def TT (r : List S38) : Int := match r with | [] => 4611686018427387905 | u :: _ => u.f0
theorem TT_gt {s : S38} {r : List S38} (hc : Ch (s :: r)) (hg : s.f0 ≤ 4611686018427387904) : s.f0 < TT r := by
  cases r with
  | nil => simp [TT]; omega
  | cons u r => exact hc.1
theorem TT_le {s : S38} {r : List S38} (hc : Ch (s :: r)) {t : Int} (ht : t < TT r) : ∀ u ∈ r, t < u.f0 := by
  cases r with
  | nil => simp
  | cons w r =>
    intro u hu
    have h1 : t < w.f0 := ht
    rcases List.mem_cons.1 hu with rfl | hu
    · exact h1
    · have := Ch.lt hc.2.2 u hu; omega
theorem plusTo_cov {p : List S38} {a b n : Int} (ha : 0 ≤ a) (hab : a < b) (hb : b ≤ 4611686018427387904) (hg : ∀ s ∈ p, Good s) (hn : -1048576 ≤ n) (hn2 : n ≤ 1048576) : ∀ (r p0 : List S38), p = p0 ++ r → Ch r →
    Cov (gC p a b n) (plusTo p a b n p0.length) (TT r) → Cov (gC p a b n) (plusTo p a b n p.length) 4611686018427387905 := by
  intro r
  induction r with
  | nil => intro p0 hp _ h; rw [hp]; rw [hp] at h; simpa [TT] using h
  | cons s r ih =>
    intro p0 hp hc h
    have hs := hg s (by rw [hp]; simp)
    obtain ⟨g1, g2, g3, g4⟩ := hs
    refine ih (p0 ++ [s]) (by simp [hp]) hc.tail ?_
    rw [show (p0 ++ [s]).length = p0.length + 1 from by simp]
    show Cov _ (plusR p a b n p0.length (plusTo p a b n p0.length)) _
    unfold plusR
    have e : rd_T38 p (p0.length : Int) = s := by rw [hp]; exact rd_at _ _ _
    have ef : finOf p p0.length = TT r := by
      unfold finOf
      cases r with
      | nil => rw [if_neg (by rw [hp]; simp)]; rfl
      | cons u r =>
        rw [if_pos (by rw [hp]; simp; omega)]
        have := rd_at (p0 ++ [s]) u r
        simp only [List.append_assoc, List.singleton_append, List.length_append, List.length_singleton] at this
        rw [hp]
        show (rd_T38 _ ((p0.length : Int) + 1)).f0 = u.f0
        rw [show ((p0.length : Int) + 1) = ((p0.length + 1 : Nat) : Int) from by omega, this]
    have hlt := TT_gt hc g4
    have hv : ∀ t, s.f0 ≤ t → t < TT r → vF 0 p t = s.f1 := fun t t0 t1 => by rw [hp]; exact vF_at t0 (TT_le hc t1)
    rw [e, ef]
    have h' : Cov (gC p a b n) (plusTo p a b n p0.length) s.f0 := h
    clear h e ef
    have hw : wrap64 (s.f1 + n) = s.f1 + n := wid (by omega) (by omega)
    rw [hw]
    generalize hA : s.f0 = A at *
    generalize hE : TT r = E at *
    refine Cov.addIf (A := if mx A a < mn E b then mn E b else mx A (mn E a)) (Cov.addIf (A := mx A (mn E a)) (Cov.addIf (A := A) h' g3 ?_ ?_) ?_ ?_ ?_) ?_ ?_ ?_
    · intro c
      simp only [decide_eq_true_eq] at c
      refine ⟨rfl, by unfold mx mn; (repeat' split) <;> omega, fun t t0 t1 => ?_⟩
      have ht : t < E ∧ t < a := by unfold mx mn at t1; (repeat' split at t1) <;> omega
      unfold gC
      rw [hv t t0 ht.1, if_neg (by omega), Int.add_zero]
    · intro c
      simp only [decide_eq_false_iff_not] at c
      unfold mx mn; (repeat' split) <;> omega
    · unfold mx mn; (repeat' split) <;> omega
    · intro c
      simp only [decide_eq_true_eq] at c
      rw [if_pos c]
      have k1 : mx A a = mx A (mn E a) := by unfold mx mn at *; (repeat' split at c) <;> (repeat' split) <;> omega
      refine ⟨k1, by rw [← k1]; exact c, fun t t0 t1 => ?_⟩
      rw [← k1] at t0
      have ht : A ≤ t ∧ a ≤ t ∧ t < E ∧ t < b := by unfold mx at t0; unfold mn at t1; (repeat' split at t0) <;> (repeat' split at t1) <;> omega
      unfold gC
      rw [hv t ht.1 ht.2.2.1, if_pos (by omega)]
    · intro c
      simp only [decide_eq_false_iff_not] at c
      rw [if_neg c]
    · unfold mx mn; (repeat' split) <;> omega
    · intro c
      simp only [decide_eq_true_eq] at c
      have k1 : mx A b = if mx A a < mn E b then mn E b else mx A (mn E a) := by unfold mx mn; (repeat' split) <;> omega
      refine ⟨k1, by rw [← k1]; unfold mx; split <;> omega, fun t t0 t1 => ?_⟩
      rw [← k1] at t0
      have ht : A ≤ t ∧ b ≤ t := by unfold mx at t0; split at t0 <;> omega
      unfold gC
      rw [hv t ht.1 t1, if_neg (by omega), Int.add_zero]
    · intro c
      simp only [decide_eq_false_iff_not] at c
      unfold mx mn; (repeat' split) <;> omega
end Go.Proofs.Ytpekjfmlpogfaaa.PAll
