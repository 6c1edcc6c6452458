/- Profiles as functions of time: right profiles, places, values; two right profiles that say the same are one. No program in sight. -/
import Derived.Test.YtpekjfmlpogfaaaQLoops
namespace Go.Proofs.Ytpekjfmlpogfaaa.PAll
open Go.RowKit Go.Proofs.YtpekjfmlpogfaaaW.PrintWords Go.Proofs.YtpekjfmlpogfaaaW.PrintLast Go.Proofs.YtpekjfmlpogfaaaW.PrintMore
set_option linter.unusedVariables false
set_option linter.unusedSimpArgs false

/-- Rising, and no step says what the one ahead says. -/
def Ch : List S38 → Prop
  | [] => True
  | [_] => True
  | a :: b :: r => a.f0 < b.f0 ∧ a.f1 ≠ b.f1 ∧ Ch (b :: r)
def Good (s : S38) : Prop := 0 ≤ s.f1 ∧ s.f1 ≤ 1048576 ∧ 0 ≤ s.f0 ∧ s.f0 ≤ 4611686018427387904
structure RightP (p : List S38) : Prop where
  ne : p ≠ []
  len : p.length ≤ 1024
  head : (rd_T38 p 0).f0 = 0
  good : ∀ s ∈ p, Good s
  chain : Ch p
theorem goodB_iff (s : S38) : goodB s = true ↔ Good s := by unfold goodB Good; simp [and_assoc]
theorem chB_some (q : S38) (p : List S38) : chB (some q) p = true ↔ (∀ s ∈ p, Good s) ∧ Ch (q :: p) := by
  induction p generalizing q with
  | nil => simp [chB, Ch]
  | cons s r ih =>
    simp only [chB, Bool.and_eq_true, ih, goodB_iff, linkB, Ch, List.mem_cons, decide_eq_true_eq, forall_eq_or_imp]
    constructor
    · rintro ⟨⟨h1, h2, h3⟩, h4, h5⟩
      exact ⟨⟨h1, h4⟩, h2, fun e => h3 e.symm, h5⟩
    · rintro ⟨⟨h1, h2⟩, h3, h4, h5⟩
      exact ⟨⟨h1, h3, fun e => h4 e.symm⟩, h2, h5⟩
theorem chB_none (p : List S38) : chB none p = true ↔ (∀ s ∈ p, Good s) ∧ Ch p := by
  cases p with
  | nil => simp [chB, Ch]
  | cons s r =>
    simp only [chB, Bool.and_eq_true, chB_some, goodB_iff, List.mem_cons, forall_eq_or_imp, and_assoc]
theorem right_iff (p : List S38) : rightB p = true ↔ RightP p := by
  unfold rightB
  simp only [Bool.and_eq_true, decide_eq_true_eq, chB_none, beq_iff_eq]
  constructor
  · rintro ⟨⟨⟨h1, h2⟩, h3⟩, h4, h5⟩
    exact ⟨fun e => by rw [e] at h1; simp at h1, h2, h3, h4, h5⟩
  · rintro ⟨h1, h2, h3, h4, h5⟩
    exact ⟨⟨⟨by cases p; simp at h1; simp, h2⟩, h3⟩, h4, h5⟩
theorem Ch.tail {a : S38} {r : List S38} (h : Ch (a :: r)) : Ch r := by
  cases r with
  | nil => trivial
  | cons b r => exact h.2.2
theorem Ch.lt {a : S38} {r : List S38} (h : Ch (a :: r)) : ∀ u ∈ r, a.f0 < u.f0 := by
  induction r generalizing a with
  | nil => simp
  | cons b r ih =>
    intro u hu
    rcases List.mem_cons.1 hu with rfl | hu
    · exact h.1
    · have := ih h.2.2 u hu
      have := h.1
      omega
/-- The place at a time. -/
theorem split_at {p : List S38} (hc : Ch p) (t : Int) (a : S38) (r0 : List S38) (hp : p = a :: r0) (h0 : a.f0 ≤ t) :
    ∃ p0 s r, p = p0 ++ s :: r ∧ s.f0 ≤ t ∧ (∀ u ∈ r, t < u.f0) ∧ (∀ u ∈ p0, u.f0 < s.f0) ∧ Ch (s :: r) := by
  induction r0 generalizing p a with
  | nil => exact ⟨[], a, [], by simpa using hp, h0, by simp, by simp, trivial⟩
  | cons b r ih =>
    subst hp
    by_cases hb : b.f0 ≤ t
    · obtain ⟨p0, s, r', e, h1, h2, h3, h4⟩ := ih hc.2.2 b rfl hb
      refine ⟨a :: p0, s, r', by rw [e]; rfl, h1, h2, ?_, h4⟩
      intro u hu
      rcases List.mem_cons.1 hu with rfl | hu
      · exact hc.lt s (by rw [e]; simp)
      · exact h3 u hu
    · refine ⟨[], a, b :: r, rfl, h0, ?_, by simp, hc⟩
      intro u hu
      rcases List.mem_cons.1 hu with rfl | hu
      · omega
      · have := Ch.lt hc.2.2 u hu
        omega
theorem RightP.split {p : List S38} (h : RightP p) {t : Int} (h0 : 0 ≤ t) :
    ∃ p0 s r, p = p0 ++ s :: r ∧ s.f0 ≤ t ∧ (∀ u ∈ r, t < u.f0) ∧ (∀ u ∈ p0, u.f0 < s.f0) ∧ Ch (s :: r) := by
  obtain ⟨h1, _, h3, _, h5⟩ := h
  cases p with
  | nil => exact absurd rfl h1
  | cons a r => exact split_at h5 t a r rfl (by simp [rd_T38] at h3; omega)

/-! ### values -/
theorem vF_skip {d t : Int} {r : List S38} (h : ∀ u ∈ r, t < u.f0) : vF d r t = d := by
  induction r generalizing d with
  | nil => rfl
  | cons u r ih =>
    simp only [vF, List.foldl_cons]
    rw [if_neg (by have := h u (by simp); omega)]
    exact ih (fun v hv => h v (by simp [hv]))
theorem vF_app (d t : Int) (p q : List S38) : vF d (p ++ q) t = vF (vF d p t) q t := by simp [vF, List.foldl_append]
theorem vF_at {d t : Int} {p0 r : List S38} {s : S38} (h : s.f0 ≤ t) (hr : ∀ u ∈ r, t < u.f0) : vF d (p0 ++ s :: r) t = s.f1 := by
  rw [vF_app]
  show vF (if s.f0 ≤ t then s.f1 else _) r t = _
  rw [if_pos h, vF_skip hr]
theorem vF_snoc (d t : Int) (p : List S38) (s : S38) : vF d (p ++ [s]) t = if s.f0 ≤ t then s.f1 else vF d p t := by rw [vF_app]; rfl
theorem vF_head {d e t : Int} {s : S38} {r : List S38} (h : s.f0 ≤ t) : vF d (s :: r) t = vF e (s :: r) t := by
  show vF (if s.f0 ≤ t then s.f1 else _) r t = vF (if s.f0 ≤ t then s.f1 else _) r t
  rw [if_pos h, if_pos h]
/-- What says the same is the same. -/
theorem uniq (N : Int) : ∀ (p q : List S38) (s u : S38) (d e : Int), Ch (s :: p) → Ch (u :: q) → s.f0 = u.f0 → s.f0 ≤ N → (∀ v ∈ p, v.f0 ≤ N) → (∀ v ∈ q, v.f0 ≤ N) →
    (∀ t, s.f0 ≤ t → t ≤ N → vF d (s :: p) t = vF e (u :: q) t) → s :: p = u :: q := by
  intro p
  induction p with
  | nil =>
    intro q s u d e hp hq h0 hN hpN hqN hv
    have e1 : s.f1 = u.f1 := by
      have := hv s.f0 (Int.le_refl _) hN
      rw [show vF d [s] s.f0 = s.f1 from vF_at (p0 := []) (r := []) (Int.le_refl _) (by simp)] at this
      rw [this]
      exact vF_at (p0 := []) (by omega) (fun v hv => by have := hq.lt v hv; omega)
    cases q with
    | nil => cases s; cases u; simp_all
    | cons w q =>
      exfalso
      have h2 := hv w.f0 (by have := hq.1; omega) (hqN w (by simp))
      rw [show vF d [s] w.f0 = s.f1 from vF_at (p0 := []) (r := []) (by have := hq.1; omega) (by simp)] at h2
      rw [show vF e (u :: w :: q) w.f0 = w.f1 from vF_at (p0 := [u]) (Int.le_refl _) (fun v hv => Ch.lt hq.2.2 v hv)] at h2
      exact hq.2.1 (by omega)
  | cons z p ih =>
    intro q s u d e hp hq h0 hN hpN hqN hv
    have e1 : s.f1 = u.f1 := by
      have := hv s.f0 (Int.le_refl _) hN
      rw [show vF d (s :: z :: p) s.f0 = s.f1 from vF_at (p0 := []) (Int.le_refl _) (fun v hv => hp.lt v hv)] at this
      rw [this]
      exact vF_at (p0 := []) (by omega) (fun v hv => by have := hq.lt v hv; omega)
    have hz : vF d (s :: z :: p) z.f0 = z.f1 := vF_at (p0 := [s]) (Int.le_refl _) (fun v hv => Ch.lt hp.2.2 v hv)
    have es : s = u := by cases s; cases u; simp_all
    cases q with
    | nil =>
      exfalso
      have h2 := hv z.f0 (by have := hp.1; omega) (hpN z (by simp))
      rw [hz, show vF e [u] z.f0 = u.f1 from vF_at (p0 := []) (r := []) (by have := hp.1; omega) (by simp)] at h2
      exact hp.2.1 (by omega)
    | cons w q =>
      have hw : vF e (u :: w :: q) w.f0 = w.f1 := vF_at (p0 := [u]) (Int.le_refl _) (fun v hv => Ch.lt hq.2.2 v hv)
      have hzw : z.f0 = w.f0 := by
        rcases Int.lt_trichotomy z.f0 w.f0 with hlt | heq | hgt
        · exfalso
          have h2 := hv z.f0 (by have := hp.1; omega) (hpN z (by simp))
          rw [hz, show vF e (u :: w :: q) z.f0 = u.f1 from vF_at (p0 := []) (by have := hp.1; omega) (fun v hv => by
            rcases List.mem_cons.1 hv with rfl | hv
            · exact hlt
            · have := Ch.lt hq.2.2 v hv; omega)] at h2
          exact hp.2.1 (by omega)
        · exact heq
        · exfalso
          have h2 := hv w.f0 (by have := hq.1; omega) (hqN w (by simp))
          rw [hw, show vF d (s :: z :: p) w.f0 = s.f1 from vF_at (p0 := []) (by have := hq.1; omega) (fun v hv => by
            rcases List.mem_cons.1 hv with rfl | hv
            · exact hgt
            · have := Ch.lt hp.2.2 v hv; omega)] at h2
          exact hq.2.1 (by omega)
      rw [es, ih q z w s.f1 u.f1 hp.2.2 hq.2.2 hzw (hpN z (by simp)) (fun v hv => hpN v (by simp [hv])) (fun v hv => hqN v (by simp [hv])) (fun t ht hN2 => by
        have h2 := hv t (by have := hp.1; omega) hN2
        rw [show vF d (s :: z :: p) t = vF s.f1 (z :: p) t from by show vF (if s.f0 ≤ t then s.f1 else _) _ t = _; rw [if_pos (by have := hp.1; omega)],
          show vF e (u :: w :: q) t = vF u.f1 (w :: q) t from by show vF (if u.f0 ≤ t then u.f1 else _) _ t = _; rw [if_pos (by have := hq.1; omega)]] at h2
        exact h2)]
end Go.Proofs.Ytpekjfmlpogfaaa.PAll
