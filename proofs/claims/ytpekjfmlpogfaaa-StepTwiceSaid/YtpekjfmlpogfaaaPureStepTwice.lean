/- StepTwice, the plain law: for all profiles and amounts the law's plain form answers true. No program in sight. -/
import Derived.Test.YtpekjfmlpogfaaaQOk
import Derived.Test.YtpekjfmlpogfaaaPAllx13
namespace Go.Proofs.Ytpekjfmlpogfaaa.Pure
open Go.RowKit Go.Proofs.Ytpekjfmlpogfaaa.PAll Go.Proofs.YtpekjfmlpogfaaaW.PrintWords Go.Proofs.YtpekjfmlpogfaaaW.PrintLast Go.Proofs.YtpekjfmlpogfaaaW.PrintMore
set_option linter.unusedVariables false
set_option linter.unusedSimpArgs false

theorem awake03 (k : Nat) (hk : 60 ≤ k) : bailiwicklaw03_awake.f k = some true :=
  at_rounds (g := fun k => bailiwicklaw03_awake.f k) bailiwicklaw03_awake.mono hk (by decide +kernel)

/-- Taken in two parts is taken at once. -/
theorem twice_amounts (p : List S38) (hl : p.length ≤ 200) (a b n m : Int) (hn : 0 ≤ n) (hm : 0 ≤ m) (hnm : n + m ≤ 1048576) :
    ((takeF p a b n).2 = 0 ∧ (takeF (takeF p a b n).1 a b m).2 = 0 ↔ (takeF p a b (n + m)).2 = 0) ∧ ((takeF p a b (n + m)).2 = 0 → (takeF (takeF p a b n).1 a b m).1 = (takeF p a b (n + m)).1) ∧ (takeF p a b n).1.length ≤ 202 ∧ (takeF (takeF p a b n).1 a b m).1.length ≤ 204 ∧ (takeF p a b (n + m)).1.length ≤ 202 := by
  have len : ∀ (q : List S38) (x y : Int) (k : Int), q.length ≤ 1000 → (takeF q x y k).1.length ≤ q.length + 2 := by
    intro q x y k hq
    by_cases e : (takeF q x y k).2 = 0
    · obtain ⟨h1, h2, h3, h4, h5, h6, h7⟩ := take_zero e
      obtain ⟨r, er, _, hr, _⟩ := take_ok h1 hq h2 h3 h4 h5 h6 h7
      rw [er]; exact hr
    · rw [(take_fail e hq).1]; omega
  have l1 := len p a b n (by omega)
  have l2 := len (takeF p a b n).1 a b m (by omega)
  have l3 := len p a b (n + m) (by omega)
  refine ⟨⟨?_, ?_⟩, ?_, by omega, by omega, by omega⟩
  · rintro ⟨e, f⟩
    obtain ⟨h1, h2, h3, h4, h5, h6, h7⟩ := take_zero e
    obtain ⟨q, eq, hq, _, hv⟩ := take_ok h1 (by omega) h2 h3 h4 h5 h6 h7
    rw [eq] at f
    obtain ⟨g1, _, _, _, _, _, g7⟩ := take_zero f
    obtain ⟨r, er, _⟩ := take_ok h1 (by omega) h2 h3 h4 (n := n + m) (by omega) hnm (fun t t0 t1 => by
      have := g7 t t0 t1
      rw [hv t (by omega) (by omega), if_pos ⟨t0, t1⟩] at this
      omega)
    rw [er]
  · intro g
    obtain ⟨h1, h2, h3, h4, h5, h6, h7⟩ := take_zero g
    obtain ⟨q, eq, hq, ql, hv⟩ := take_ok h1 (by omega) h2 h3 h4 hn (by omega) (fun t t0 t1 => by have := h7 t t0 t1; omega)
    rw [eq]
    obtain ⟨r, er, _⟩ := take_ok hq (by omega) h2 h3 h4 hm (by omega) (fun t t0 t1 => by
      have := h7 t t0 t1
      rw [hv t (by omega) (by omega), if_pos ⟨t0, t1⟩]
      omega)
    exact ⟨rfl, by rw [er]⟩
  · intro g
    obtain ⟨h1, h2, h3, h4, h5, h6, h7⟩ := take_zero g
    obtain ⟨q, eq, hq, ql, hv⟩ := take_ok h1 (by omega) h2 h3 h4 hn (by omega) (fun t t0 t1 => by have := h7 t t0 t1; omega)
    obtain ⟨r, er, hr, _, hv2⟩ := take_ok hq (by omega) h2 h3 h4 hm (by omega) (fun t t0 t1 => by
      have := h7 t t0 t1
      rw [hv t (by omega) (by omega), if_pos ⟨t0, t1⟩]
      omega)
    obtain ⟨s, es, hs, _, hv3⟩ := take_ok h1 (by omega) h2 h3 h4 h5 h6 h7
    rw [eq, er, es]
    refine right_uniq hr hs (fun t t0 t1 => ?_)
    rw [hv2 t t0 t1, hv t t0 t1, hv3 t t0 t1]
    split <;> omega
/-- Two spans side by side are one. -/
theorem twice_spans (p : List S38) (hl : p.length ≤ 200) (a c b n : Int) (hac : a < c) (hcb : c < b) :
    ((takeF p a c n).2 = 0 ∧ (takeF (takeF p a c n).1 c b n).2 = 0 ↔ (takeF p a b n).2 = 0) ∧ ((takeF p a b n).2 = 0 → (takeF (takeF p a c n).1 c b n).1 = (takeF p a b n).1) ∧ (takeF p a c n).1.length ≤ 202 ∧ (takeF (takeF p a c n).1 c b n).1.length ≤ 204 ∧ (takeF p a b n).1.length ≤ 202 := by
  have len : ∀ (q : List S38) (x y : Int) (k : Int), q.length ≤ 1000 → (takeF q x y k).1.length ≤ q.length + 2 := by
    intro q x y k hq
    by_cases e : (takeF q x y k).2 = 0
    · obtain ⟨h1, h2, h3, h4, h5, h6, h7⟩ := take_zero e
      obtain ⟨r, er, _, hr, _⟩ := take_ok h1 hq h2 h3 h4 h5 h6 h7
      rw [er]; exact hr
    · rw [(take_fail e hq).1]; omega
  have l1 := len p a c n (by omega)
  have l2 := len (takeF p a c n).1 c b n (by omega)
  have l3 := len p a b n (by omega)
  refine ⟨⟨?_, ?_⟩, ?_, by omega, by omega, by omega⟩
  · rintro ⟨e, f⟩
    obtain ⟨h1, h2, h3, h4, h5, h6, h7⟩ := take_zero e
    obtain ⟨q, eq, hq, _, hv⟩ := take_ok h1 (by omega) h2 h3 h4 h5 h6 h7
    rw [eq] at f
    obtain ⟨g1, g2, g3, g4, _, _, g7⟩ := take_zero f
    obtain ⟨r, er, _⟩ := take_ok h1 (by omega) h2 (show a < b by omega) g4 h5 h6 (fun t t0 t1 => by
      by_cases ht : t < c
      · exact h7 t t0 ht
      · have := g7 t (by omega) t1
        rw [hv t (by omega) (by omega), if_neg (by omega)] at this
        omega)
    rw [er]
  · intro g
    obtain ⟨h1, h2, h3, h4, h5, h6, h7⟩ := take_zero g
    obtain ⟨q, eq, hq, ql, hv⟩ := take_ok h1 (by omega) h2 hac (by omega) h5 h6 (fun t t0 t1 => h7 t t0 (by omega))
    rw [eq]
    obtain ⟨r, er, _⟩ := take_ok hq (by omega) (by omega) hcb h4 h5 h6 (fun t t0 t1 => by
      have := h7 t (by omega) t1
      rw [hv t (by omega) (by omega), if_neg (by omega)]
      omega)
    exact ⟨rfl, by rw [er]⟩
  · intro g
    obtain ⟨h1, h2, h3, h4, h5, h6, h7⟩ := take_zero g
    obtain ⟨q, eq, hq, ql, hv⟩ := take_ok h1 (by omega) h2 hac (by omega) h5 h6 (fun t t0 t1 => h7 t t0 (by omega))
    obtain ⟨r, er, hr, _, hv2⟩ := take_ok hq (by omega) (by omega) hcb h4 h5 h6 (fun t t0 t1 => by
      have := h7 t (by omega) t1
      rw [hv t (by omega) (by omega), if_neg (by omega)]
      omega)
    obtain ⟨s, es, hs, _, hv3⟩ := take_ok h1 (by omega) h2 h3 h4 h5 h6 h7
    rw [eq, er, es]
    refine right_uniq hr hs (fun t t0 t1 => ?_)
    rw [hv2 t t0 t1, hv t t0 t1, hv3 t t0 t1]
    by_cases c1 : a ≤ t ∧ t < c
    · rw [if_pos c1, if_neg (by omega), if_pos (by omega)]; omega
    · by_cases c2 : c ≤ t ∧ t < b
      · rw [if_neg c1, if_pos c2, if_pos (by omega)]; omega
      · rw [if_neg c1, if_neg c2, if_neg (by omega)]; omega

theorem StepTwice (l0 : List S38) (a1 a2 a3 a4 a5 : Int) (hp : l0.length ≤ maxLen ∧ ∀ x ∈ l0, (Lit.int .i64 x.f0).wf = true ∧ (Lit.int .i64 x.f1).wf = true) (w1 : (Lit.int .i64 a1).wf = true) (w2 : (Lit.int .i64 a2).wf = true) (w3 : (Lit.int .i64 a3).wf = true) (w4 : (Lit.int .i64 a4).wf = true) (w5 : (Lit.int .i64 a5).wf = true) :
    ∃ k, bailiwicklaw03_StepTwice.f k l0 a1 a2 a3 a4 a5 = some true := by
  refine ⟨30003, ?_⟩
  unfold bailiwicklaw03_StepTwice.f
  rw [awake03 30003 (by omega)]
  simp only [Option.bind_some, if_true]
  by_cases c1 : (l0.length : Int) > 200
  · rw [if_pos c1]; rfl
  rw [if_neg c1]
  by_cases c2 : a4 < 0
  · rw [if_pos c2]; rfl
  rw [if_neg c2]
  by_cases c3 : a5 < 0
  · rw [if_pos c3]; rfl
  rw [if_neg c3]
  by_cases c4 : a4 > 1048576
  · rw [if_pos c4]; rfl
  rw [if_neg c4, wid (by omega) (by omega)]
  by_cases c5 : a5 > 1048576 - a4
  · rw [show decide (a5 > 1048576 - a4) = true from by simpa using c5]; rfl
  rw [show decide (a5 > 1048576 - a4) = false from by simpa using c5]
  obtain ⟨t1, t2, t3, t4, t5⟩ := twice_amounts l0 (by omega) a1 a3 a4 a5 (by omega) (by omega) (by omega)
  have hj0 : ∀ (k : Nat), 30000 ≤ k → (∀ e : Int, e = (takeF l0 a1 a3 a4).2 → bailiwicklaw03_StepTwice.j1 k l0 a1 a2 a3 a4 e false = some true) → bailiwicklaw03_StepTwice.j0 (k + 1) l0 a1 a2 a3 a4 a5 false = some true := by
    intro k hk hj
    rw [bailiwicklaw03_StepTwice.j0, if_neg (by simp), sTake l0 _ _ _ (by omega) k (by omega)]
    simp only [Option.bind_some]
    rw [sTake _ _ _ _ (by omega) k (by omega)]
    simp only [Option.bind_some]
    rw [wid (by omega) (by omega), sTake l0 _ _ _ (by omega) k (by omega)]
    simp only [Option.bind_some]
    by_cases g : (takeF l0 a1 a3 (a4 + a5)).2 = 0
    · obtain ⟨e, f⟩ := t1.2 g
      rw [if_pos e, if_pos f, if_pos g, t2 g, rSame _ _ k (by omega) (by omega)]
      simp only [Option.bind_some, decide_true, Bool.not_true]
      exact hj _ rfl
    · rw [if_neg g, if_neg g]
      have ef : ¬ ((takeF l0 a1 a3 a4).2 = 0 ∧ (takeF (takeF l0 a1 a3 a4).1 a1 a3 a5).2 = 0) := fun h => g (t1.1 h)
      by_cases e : (takeF l0 a1 a3 a4).2 = 0
      · rw [if_pos e, if_neg (fun f => ef ⟨e, f⟩)]
        exact hj _ rfl
      · rw [if_neg e]
        exact hj _ rfl
  refine hj0 30002 (by omega) (fun e he => ?_)
  rw [bailiwicklaw03_StepTwice.j1, if_neg (by simp)]
  by_cases d1 : a1 ≥ a2
  · rw [if_pos d1]; rfl
  rw [if_neg d1]
  by_cases d2 : a2 ≥ a3
  · rw [show decide (a2 ≥ a3) = true from by simpa using d2]; rfl
  rw [show decide (a2 ≥ a3) = false from by simpa using d2]
  obtain ⟨s1, s2, s3, s4, s5⟩ := twice_spans l0 (by omega) a1 a2 a3 a4 (by omega) (by omega)
  rw [bailiwicklaw03_StepTwice.j2, if_neg (by simp), sTake l0 _ _ _ (by omega) _ (by omega)]
  simp only [Option.bind_some]
  rw [sTake _ _ _ _ (by omega) _ (by omega)]
  simp only [Option.bind_some]
  subst he
  by_cases g : (takeF l0 a1 a3 a4).2 = 0
  · obtain ⟨h, i⟩ := s1.2 g
    rw [if_pos h, if_pos i, if_pos g]
    unfold bailiwicklaw03_take.f
    rw [sTake l0 _ _ _ (by omega) _ (by omega)]
    simp only [Option.bind_some]
    rw [s2 g, rSame _ _ _ (by omega) (by omega)]
    simp
  · by_cases h : (takeF l0 a1 a2 a4).2 = 0
    · rw [if_pos h, if_neg (fun i => g (s1.1 ⟨h, i⟩)), if_neg g]
    · rw [if_neg h, if_neg g]
end Go.Proofs.Ytpekjfmlpogfaaa.Pure
