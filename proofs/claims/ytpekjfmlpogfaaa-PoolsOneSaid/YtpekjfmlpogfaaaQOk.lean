/- When Take succeeds, and what it then comes to, told by times. No program in sight. -/
import Derived.Test.YtpekjfmlpogfaaaQTake
namespace Go.Proofs.Ytpekjfmlpogfaaa.PAll
open Go.RowKit Go.Proofs.YtpekjfmlpogfaaaW.PrintWords Go.Proofs.YtpekjfmlpogfaaaW.PrintLast Go.Proofs.YtpekjfmlpogfaaaW.PrintMore
set_option linter.unusedVariables false
set_option linter.unusedSimpArgs false

theorem nodup_len {l M : List Int} (h : l.Pairwise (· < ·)) (hs : ∀ x ∈ l, x ∈ M) : l.length ≤ M.length := by
  induction l generalizing M with
  | nil => simp
  | cons a l ih =>
    rw [List.pairwise_cons] at h
    have hm := hs a (by simp)
    have := ih (M := M.erase a) h.2 (fun x hx => by
      have hne : x ≠ a := fun e => by have := h.1 x hx; omega
      exact (List.mem_erase_of_ne hne).2 (hs x (by simp [hx])))
    rw [List.length_erase_of_mem hm] at this
    have : 0 < M.length := List.length_pos_of_mem hm
    simp; omega
theorem chgF_len (p : List S38) (a b n : Int) (l : List Int) (o : List S38) : (chgF p a b n l o).length ≤ o.length + l.length := by
  induction l generalizing o with
  | nil => simp [chgF]
  | cons x l ih =>
    refine Nat.le_trans (ih _) ?_
    have := addF_len o x (vF 0 p x + if a ≤ x ∧ x < b then n else 0)
    simp; omega
theorem addT_mem {P : Int → Prop} {o : List Int} {x : Int} (h1 : ∀ u ∈ o, P u) (h2 : P x) : ∀ u ∈ addT o x, P u := by
  intro u hu
  unfold addT at hu
  have : ∀ u ∈ o ++ [x], P u := fun u hu => by
    rcases List.mem_append.1 hu with hu | hu
    · exact h1 u hu
    · rw [List.mem_singleton.1 hu]; exact h2
  split at hu
  · exact this u hu
  · split at hu
    · exact this u hu
    · exact h1 u hu
theorem timesF_sub (p : List S38) (a b : Int) : ∀ x ∈ timesF p a b, x ∈ p.map (·.f0) ++ [a, b] := by
  have hst : ∀ (s : Int) (o : List Int) (P : Int → Prop), (∀ x ∈ o, P x) → P a → P b → P s → ∀ x ∈ stT a b s o, P x := by
    intro s o P ho pa pb ps
    unfold stT
    refine addT_mem ?_ ps
    have h1 : ∀ u ∈ (if a < s then addT o a else o), P u := by
      split
      · exact addT_mem ho pa
      · exact ho
    split
    · exact addT_mem h1 pb
    · exact h1
  have hf : ∀ (r : List S38) (o : List Int) (P : Int → Prop), P a → P b → (∀ s ∈ r, P s.f0) → (∀ x ∈ o, P x) → ∀ x ∈ r.foldl (fun o s => stT a b s.f0 o) o, P x := by
    intro r
    induction r with
    | nil => intro o P _ _ _ ho; exact ho
    | cons s r ih => intro o P pa pb hr ho; exact ih _ P pa pb (fun u hu => hr u (by simp [hu])) (hst s.f0 o P ho pa pb (hr s (by simp)))
  unfold timesF
  refine addT_mem (addT_mem (hf p [] (fun x => x ∈ p.map (·.f0) ++ [a, b]) (by simp) (by simp) (fun s hs => ?_) (by simp)) (by simp)) (by simp)
  rw [List.mem_append]
  exact .inl (List.mem_map_of_mem hs)
theorem plus_len {p : List S38} (h : RightP p) {a b n : Int} (ha : 0 ≤ a) (hab : a < b) (hb : b ≤ 4611686018427387904) (hn : -1048576 ≤ n) (hn2 : n ≤ 1048576) : (plusTo p a b n p.length).length ≤ p.length + 2 := by
  obtain ⟨t1, _⟩ := times_range h ha hab hb
  obtain ⟨q1, ⟨tr, q2⟩, q3, q4, q5⟩ := timesF_props h ha hab
  have e : chgF p a b n (timesF p a b) [] = plusTo p a b n p.length := by
    refine Cov.uniq (chgF_cov (timesF p a b) q1 t1 q3 q4 q5 (timesF p a b) [] [] rfl ?_) (plus_cov h ha hab hb hn hn2)
    rw [q2]
    exact Cov.nil _
  rw [← e]
  refine Nat.le_trans (chgF_len _ _ _ _ _ _) ?_
  have := nodup_len q1 (timesF_sub p a b)
  simp at this
  simp; omega
/-- The value at a time stands in a step. -/
theorem vF_step {p : List S38} (h : RightP p) {t : Int} (h0 : 0 ≤ t) : ∃ s ∈ p, s.f0 ≤ t ∧ vF 0 p t = s.f1 ∧ ∀ x, s.f0 ≤ x → x ≤ t → vF 0 p x = s.f1 := by
  obtain ⟨p0, s, r, rfl, h1, h2, h3, h4⟩ := h.split h0
  exact ⟨s, by simp, h1, vF_at h1 h2, fun x x0 x1 => vF_at x0 (fun u hu => by have := h2 u hu; omega)⟩
theorem leastF_ge {a b n m : Int} {p : List S38} : m ≤ leastF a b n p ↔ m ≤ n ∧ ∀ u ∈ p, a < u.f0 → u.f0 < b → m ≤ u.f1 := by
  induction p generalizing n with
  | nil => simp [leastF]
  | cons s r ih =>
    show m ≤ leastF a b (if a < s.f0 ∧ s.f0 < b ∧ s.f1 < n then s.f1 else n) r ↔ _
    rw [ih]
    constructor
    · rintro ⟨h1, h2⟩
      refine ⟨by split at h1 <;> omega, fun u hu => ?_⟩
      rcases List.mem_cons.1 hu with rfl | hu
      · intro g1 g2; split at h1 <;> omega
      · exact h2 u hu
    · rintro ⟨h1, h2⟩
      refine ⟨?_, fun u hu => h2 u (by simp [hu])⟩
      split
      · rename_i c; exact h2 s (by simp) c.1 c.2.1
      · exact h1
theorem Ch_mid {l r : List S38} (h : Ch (l ++ r)) : Ch r := by
  induction l with
  | nil => exact h
  | cons x l ih => exact ih h.tail
theorem vF_mem {p : List S38} (h : RightP p) {u : S38} (hu : u ∈ p) : vF 0 p u.f0 = u.f1 := by
  obtain ⟨l1, l2, rfl⟩ := List.append_of_mem hu
  have hc : Ch (u :: l2) := Ch_mid h.chain
  exact vF_at (Int.le_refl _) (fun v hv => hc.lt v hv)
theorem least_iff {p : List S38} (h : RightP p) {a b m : Int} (ha : 0 ≤ a) (hab : a < b) : m ≤ leastF a b (vF 0 p a) p ↔ ∀ t, a ≤ t → t < b → m ≤ vF 0 p t := by
  rw [leastF_ge]
  constructor
  · rintro ⟨h1, h2⟩ t t0 t1
    obtain ⟨s, hs, g1, g2, g3⟩ := vF_step h (show 0 ≤ t by omega)
    by_cases c : s.f0 ≤ a
    · rw [g2, ← g3 a c t0]; exact h1
    · rw [g2]; exact h2 s hs (by omega) (by omega)
  · intro h1
    refine ⟨h1 a (Int.le_refl _) hab, fun u hu g1 g2 => ?_⟩
    have := h1 u.f0 (by omega) g2
    rwa [vF_mem h hu] at this
theorem Cov.right {g : Int → Int} {xs : List S38} (h : Cov g xs 4611686018427387905) (hl : xs.length ≤ 1024) (hg : ∀ t, 0 ≤ t → t ≤ 4611686018427387904 → 0 ≤ g t ∧ g t ≤ 1048576) : RightP xs := by
  obtain ⟨s, r, e, hs⟩ := h.hd (by omega)
  refine ⟨by rw [e]; simp, hl, by rw [e]; simp [rd_T38, hs], fun u hu => ?_, h.ch⟩
  have hb := h.lt u hu
  have hv : vF 0 xs u.f0 = u.f1 := by
    obtain ⟨l1, l2, rfl⟩ := List.append_of_mem hu
    have hc : Ch (u :: l2) := Ch_mid h.ch
    exact vF_at (Int.le_refl _) (fun v hv => hc.lt v hv)
  have := hg u.f0 (by omega) (by omega)
  rw [← h.val u.f0 (by omega) (by omega), hv] at this
  exact ⟨this.1, this.2, by omega, by omega⟩
theorem gC_good {p : List S38} (h : RightP p) (t : Int) : 0 ≤ vF 0 p t ∧ vF 0 p t ≤ 1048576 := vF_good h.good 0 t (by omega)
/-- What may be asked is enough: Take comes to the one profile that says so much less in the span. -/
theorem take_ok {p : List S38} (h : RightP p) (hl : p.length ≤ 1000) {a b n : Int} (ha : 0 ≤ a) (hab : a < b) (hb : b ≤ 4611686018427387904) (hn : 0 ≤ n) (hn2 : n ≤ 1048576) (hv : ∀ t, a ≤ t → t < b → n ≤ vF 0 p t) :
    ∃ q, takeF p a b n = (q, 0) ∧ RightP q ∧ q.length ≤ p.length + 2 ∧ ∀ t, 0 ≤ t → t ≤ 4611686018427387904 → vF 0 q t = vF 0 p t - if a ≤ t ∧ t < b then n else 0 := by
  have hlen := plus_len h ha hab hb (show -1048576 ≤ -n by omega) (show -n ≤ 1048576 by omega)
  have hcov := plus_cov h ha hab hb (show -1048576 ≤ -n by omega) (show -n ≤ 1048576 by omega)
  refine ⟨plusTo p a b (-n) p.length, ?_, hcov.right (by omega) (fun t t0 t1 => ?_), hlen, fun t t0 t1 => ?_⟩
  · unfold takeF
    rw [if_pos ⟨may_iff.2 ⟨h, ha, hb, hab⟩, hn, hn2⟩, if_neg (by have := (least_iff h ha hab (m := n)).2 hv; omega)]
    unfold chg
    rw [if_neg (by omega)]
  · unfold gC
    have := gC_good h t
    by_cases c : a ≤ t ∧ t < b
    · have := hv t c.1 c.2; rw [if_pos c]; omega
    · rw [if_neg c]; omega
  · rw [hcov.val t t0 (by omega)]
    unfold gC
    split <;> omega
theorem take_fail {p : List S38} {a b n : Int} (h : (takeF p a b n).2 ≠ 0) (hl : p.length ≤ 1000) : (takeF p a b n).1 = p ∧ ¬ (RightP p ∧ 0 ≤ a ∧ a < b ∧ b ≤ 4611686018427387904 ∧ 0 ≤ n ∧ n ≤ 1048576 ∧ ∀ t, a ≤ t → t < b → n ≤ vF 0 p t) := by
  refine ⟨?_, ?_⟩
  · unfold takeF at h ⊢
    split
    · rename_i c
      rw [if_pos c] at h
      split
      · rfl
      · rename_i c2
        rw [if_neg c2] at h
        unfold chg at h ⊢
        split
        · rfl
        · rename_i c3
          rw [if_neg c3] at h
          exact absurd rfl h
    · rfl
  · rintro ⟨h1, h2, h3, h4, h5, h6, h7⟩
    obtain ⟨q, e, _⟩ := take_ok h1 hl h2 h3 h4 h5 h6 h7
    rw [e] at h
    exact h rfl
theorem take_zero {p : List S38} {a b n : Int} (h : (takeF p a b n).2 = 0) : RightP p ∧ 0 ≤ a ∧ a < b ∧ b ≤ 4611686018427387904 ∧ 0 ≤ n ∧ n ≤ 1048576 ∧ ∀ t, a ≤ t → t < b → n ≤ vF 0 p t := by
  unfold takeF at h
  split at h
  · rename_i c
    obtain ⟨c1, c2, c3⟩ := c
    obtain ⟨h1, h2, h3, h4⟩ := may_iff.1 c1
    split at h
    · simp at h
    · rename_i c4
      exact ⟨h1, h2, h4, h3, c2, c3, (least_iff h1 h2 h4).1 (by omega)⟩
  · simp at h
/-- Two right profiles that say the same at each time are one. -/
theorem right_uniq {p q : List S38} (hp : RightP p) (hq : RightP q) (h : ∀ t, 0 ≤ t → t ≤ 4611686018427387904 → vF 0 p t = vF 0 q t) : p = q := by
  obtain ⟨h1, h2, h3, h4, h5⟩ := hp
  obtain ⟨g1, g2, g3, g4, g5⟩ := hq
  cases p with
  | nil => exact absurd rfl h1
  | cons s p =>
    cases q with
    | nil => exact absurd rfl g1
    | cons u q =>
      have hs : s.f0 = 0 := by simpa [rd_T38] using h3
      have hu : u.f0 = 0 := by simpa [rd_T38] using g3
      exact uniq 4611686018427387904 p q s u 0 0 h5 g5 (by omega) (by omega) (fun v hv => (h4 v (by simp [hv])).2.2.2) (fun v hv => (g4 v (by simp [hv])).2.2.2) (fun t t0 t1 => h t (by omega) t1)
end Go.Proofs.Ytpekjfmlpogfaaa.PAll
