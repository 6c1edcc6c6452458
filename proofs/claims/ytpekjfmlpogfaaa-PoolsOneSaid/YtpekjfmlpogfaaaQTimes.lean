/- The document's way to change a profile: at the times at which something may change. No program in sight. -/
import Derived.Test.YtpekjfmlpogfaaaQCov
namespace Go.Proofs.Ytpekjfmlpogfaaa.PAll
open Go.RowKit Go.Proofs.YtpekjfmlpogfaaaW.PrintWords Go.Proofs.YtpekjfmlpogfaaaW.PrintLast Go.Proofs.YtpekjfmlpogfaaaW.PrintMore
set_option linter.unusedVariables false
set_option linter.unusedSimpArgs false

def addT (o : List Int) (x : Int) : List Int := if o.length = 0 then o ++ [x] else if rd o (o.length - 1) < x then o ++ [x] else o
theorem addT_len (o : List Int) (x : Int) : (addT o x).length ≤ o.length + 1 := by unfold addT; (repeat' split) <;> simp
theorem addT_nil (x : Int) : addT [] x = [x] := by simp [addT]
theorem addT_snoc (q : List Int) (z x : Int) : addT (q ++ [z]) x = if z < x then q ++ [z] ++ [x] else q ++ [z] := by
  unfold addT
  rw [if_neg (by simp)]
  have : rd (q ++ [z]) (((q ++ [z]).length : Int) - 1) = z := by
    rw [show ((q ++ [z]).length : Int) - 1 = ((q.length : Nat) : Int) from by simp]
    simp [rd]
  rw [this]
def stT (a b s : Int) (o : List Int) : List Int :=
  addT (if b < s then addT (if a < s then addT o a else o) b else (if a < s then addT o a else o)) s
theorem stT_len (a b s : Int) (o : List Int) : (stT a b s o).length ≤ o.length + 3 := by
  unfold stT
  refine Nat.le_trans (addT_len _ _) (Nat.succ_le_succ ?_)
  have h1 : (if a < s then addT o a else o).length ≤ o.length + 1 := by
    split
    · exact addT_len _ _
    · omega
  by_cases hb : b < s
  · rw [if_pos hb]; exact Nat.le_trans (addT_len _ _) (by omega)
  · rw [if_neg hb]; omega
def timesF (p : List S38) (a b : Int) : List Int := addT (addT (p.foldl (fun o s => stT a b s.f0 o) []) a) b

theorem wl {n : Nat} (h0 : n ≠ 0) (h : n < 4611686018427387904) : wrap64 ((n : Int) - 1) = (n : Int) - 1 := by unfold wrap64; omega
theorem times_j3 (x : List S38) (a b : Int) (o : List Int) (i k : Nat) (c : Bool) (hi : i < x.length) (ho : o.length < 17592186044410) :
    bailiwickref03_times.j3 (k + 1) x a b o (i : Int) c = bailiwickref03_times.l0 k x a b (addT (if c = true then o ++ [b] else o) (rd_T38 x (i : Int)).f0) (wrap64 ((i : Int) + 1)) := by
  have d1 : (i : Int) < (x.length : Int) := by omega
  have d2 : (0 : Int) ≤ (i : Int) := by omega
  have d3 : o.length < 17592186044416 := by omega
  simp only [bailiwickref03_times.j3, if_pos d1, if_pos d2, if_pos d3, Option.bind_some]
  cases c with
  | true =>
    rw [if_pos rfl, if_pos rfl]
    have e1 : ¬ (((o ++ [b]).length : Int) = 0) := by simp; omega
    have e2 : wrap64 (((o ++ [b]).length : Int) - 1) = ((o ++ [b]).length : Int) - 1 := wl (by simp) (by simp; omega)
    have e3 : (0 : Int) ≤ ((o ++ [b]).length : Int) - 1 := by simp
    have e4 : ((o ++ [b]).length : Int) - 1 < ((o ++ [b]).length : Int) := by omega
    have e5 : (o ++ [b]).length < 17592186044416 := by simp; omega
    rw [if_neg e1, e2, if_pos e3, if_pos e4, if_pos e5]
    unfold addT
    rw [if_neg (show ¬ (o ++ [b]).length = 0 by simp)]
    by_cases h : rd (o ++ [b]) (((o ++ [b]).length : Int) - 1) < (rd_T38 x (i : Int)).f0
    · rw [if_pos h, if_pos h]
    · rw [if_neg h, if_neg h]
  | false =>
    simp only [Bool.false_eq_true, if_false]
    unfold addT
    by_cases h0 : o.length = 0
    · rw [if_pos (by omega), if_pos h0]
    · rw [if_neg (by omega), if_neg h0, wl h0 (by omega), if_pos (by omega), if_pos (by omega)]
      split <;> rfl
theorem times_j2 (x : List S38) (a b : Int) (o : List Int) (i k : Nat) (hi : i < x.length) (ho : o.length < 17592186044410) :
    bailiwickref03_times.j2 (k + 1 + 1) x a b o (i : Int) = bailiwickref03_times.l0 k x a b (addT (if b < (rd_T38 x (i : Int)).f0 then addT o b else o) (rd_T38 x (i : Int)).f0) (wrap64 ((i : Int) + 1)) := by
  have d1 : (i : Int) < (x.length : Int) := by omega
  have d2 : (0 : Int) ≤ (i : Int) := by omega
  rw [show bailiwickref03_times.j2 (k + 1 + 1) x a b o (i : Int) = bailiwickref03_times.j3 (k + 1) x a b o (i : Int) (decide (b < (rd_T38 x (i : Int)).f0) && (decide (o.length = 0) || decide (rd o (o.length - 1) < b))) from ?_]
  · rw [times_j3 x a b o i k _ hi ho]
    unfold addT
    by_cases h1 : b < (rd_T38 x (i : Int)).f0 <;> by_cases h0 : o.length = 0 <;> by_cases h2 : rd o (o.length - 1) < b <;> simp [h1, h0, h2]
  · rw [bailiwickref03_times.j2]
    simp only [if_pos d1, if_pos d2]
    by_cases h1 : b < (rd_T38 x (i : Int)).f0
    · rw [if_pos h1]
      by_cases h0 : o.length = 0
      · rw [if_pos (by omega)]; simp [h1, h0]
      · rw [if_neg (by omega), wl h0 (by omega), if_pos (by omega), if_pos (by omega)]
        simp [h1, h0]
    · rw [if_neg h1]; simp [h1]
theorem times_step (x : List S38) (a b : Int) (o : List Int) (i k : Nat) (hi : i < x.length) (ho : o.length < 17592186044400) :
    bailiwickref03_times.l0 (k + 1 + 1 + 1 + 1) x a b o (i : Int) = bailiwickref03_times.l0 k x a b (stT a b (rd_T38 x (i : Int)).f0 o) (wrap64 ((i : Int) + 1)) := by
  have d1 : (i : Int) < (x.length : Int) := by omega
  have d2 : (0 : Int) ≤ (i : Int) := by omega
  rw [show bailiwickref03_times.l0 (k + 1 + 1 + 1 + 1) x a b o (i : Int) = bailiwickref03_times.j2 (k + 1 + 1) x a b (if a < (rd_T38 x (i : Int)).f0 then addT o a else o) (i : Int) from ?_]
  · rw [times_j2 x a b _ i k hi (by have := addT_len o a; split <;> omega)]
    rfl
  · rw [bailiwickref03_times.l0]
    simp only [if_pos d1, if_pos d2]
    unfold addT
    by_cases h1 : a < (rd_T38 x (i : Int)).f0
    · rw [if_pos h1, if_pos h1]
      by_cases h0 : o.length = 0
      · rw [if_pos (by omega), if_pos h0, bailiwickref03_times.j1, if_pos rfl, if_pos (by omega)]
      · rw [if_neg (by omega), if_neg h0, wl h0 (by omega), if_pos (by omega), if_pos (by omega), bailiwickref03_times.j1]
        by_cases h2 : rd o (o.length - 1) < a
        · rw [if_pos (by simp [h2]), if_pos (by omega), if_pos h2]
        · rw [if_neg (by simp [h2]), if_neg h2]
    · rw [if_neg h1, if_neg h1, bailiwickref03_times.j1, if_neg (by simp)]
theorem times_loop (x : List S38) (hx : x.length ≤ 2000) (a b : Int) : ∀ (r p0 : List S38) (k : Nat) (o : List Int), x = p0 ++ r → x ≠ [] → (p0 ≠ [] → o ≠ []) → 4 * r.length < k → o.length ≤ 3 * p0.length →
    bailiwickref03_times.l0 k x a b o (p0.length : Int) = some (addT (addT (r.foldl (fun o s => stT a b s.f0 o) o) a) b) := by
  intro r
  induction r with
  | nil =>
    intro p0 k o hp hne hon hk ho
    obtain ⟨k, rfl⟩ : ∃ m, k = m + 1 := ⟨k - 1, by simp at hk; omega⟩
    simp only [List.append_nil] at hp
    have h0 : o.length ≠ 0 := fun e => hon (by rw [← hp]; exact hne) (List.eq_nil_of_length_eq_zero e)
    have hl : x.length = p0.length := by rw [hp]
    rw [bailiwickref03_times.l0, if_neg (by omega)]
    simp only [List.foldl_nil]
    rw [wl h0 (by omega), if_pos (by omega), if_pos (by omega)]
    have ea : addT o a = if rd o (o.length - 1) < a then o ++ [a] else o := by unfold addT; rw [if_neg h0]
    rw [ea]
    by_cases h1 : rd o (o.length - 1) < a
    · rw [if_pos h1, if_pos h1, if_pos (by omega)]
      simp only [Option.bind_some]
      rw [wl (by simp) (by simp; omega), if_pos (by simp), if_pos (by omega)]
      unfold addT
      rw [if_neg (show ¬ (o ++ [a]).length = 0 by simp)]
      by_cases h2 : rd (o ++ [a]) (((o ++ [a]).length : Int) - 1) < b
      · rw [if_pos h2, if_pos h2, if_pos (by simp; omega)]
      · rw [if_neg h2, if_neg h2]
    · rw [if_neg h1, if_neg h1]
      unfold addT
      rw [if_neg h0]
      by_cases h2 : rd o (o.length - 1) < b
      · rw [if_pos h2, if_pos h2, if_pos (by omega)]
      · rw [if_neg h2, if_neg h2]
  | cons s r ih =>
    intro p0 k o hp hne hon hk ho
    simp only [List.length_cons] at hk
    obtain ⟨k, rfl⟩ : ∃ m, k = m + 1 + 1 + 1 + 1 := ⟨k - 4, by omega⟩
    have hl : p0.length < x.length := by rw [hp]; simp
    have e : rd_T38 x (p0.length : Int) = s := by rw [hp]; exact rd_at _ _ _
    have hw : wrap64 ((p0.length : Int) + 1) = ((p0 ++ [s]).length : Int) := by rw [wn (by omega)]; simp
    rw [times_step x a b o p0.length k hl (by omega), hw, e]
    rw [ih (p0 ++ [s]) k _ (by simp [hp]) hne (fun _ e => by
      have : (stT a b s.f0 o).length = 0 := by rw [e]; rfl
      revert this
      unfold stT
      generalize (if b < s.f0 then addT (if a < s.f0 then addT o a else o) b else if a < s.f0 then addT o a else o) = u
      unfold addT
      intro h
      by_cases hu : u.length = 0
      · rw [if_pos hu] at h; simp at h
      · rw [if_neg hu] at h
        split at h
        · simp at h
        · omega) (by omega) (by have := stT_len a b s.f0 o; simp; omega)]
    rfl
theorem rTimes (p : List S38) (a b : Int) (k : Nat) (hp : p.length ≤ 2000) (hne : p ≠ []) (hk : 8010 < k) : bailiwickref03_times.f k p a b = some (timesF p a b) := by
  unfold bailiwickref03_times.f
  exact times_loop p hp a b p [] k [] rfl hne (by simp) (by omega) (by simp)

/-! ### what the times are -/
structure TmInv (p0 : List S38) (a b : Int) (o : List Int) (z : Int) : Prop where
  sorted : o.Pairwise (· < ·)
  last : ∃ q, o = q ++ [z]
  all : ∀ u ∈ p0, u.f0 ∈ o
  ina : a ≤ z → a ∈ o
  inb : b ≤ z → b ∈ o
  hd : ∃ r, o = 0 :: r
theorem sorted_snoc {q : List Int} {z x : Int} (h : (q ++ [z]).Pairwise (· < ·)) (hx : z < x) : (q ++ [z] ++ [x]).Pairwise (· < ·) := by
  rw [List.pairwise_append]
  refine ⟨h, by simp, fun u hu v hv => ?_⟩
  rw [List.mem_singleton.1 hv]
  rcases List.mem_append.1 hu with hu | hu
  · rw [List.pairwise_append] at h
    have := h.2.2 u hu z (by simp)
    omega
  · rw [List.mem_singleton.1 hu]; exact hx
/-- An x behind the last one is added; one that is not, is not. -/
theorem addT_props {o : List Int} {z x : Int} (hs : o.Pairwise (· < ·)) (hl : ∃ q, o = q ++ [z]) (hh : ∃ r, o = 0 :: r) :
    (addT o x).Pairwise (· < ·) ∧ (∃ q, addT o x = q ++ [if z < x then x else z]) ∧ (∀ u ∈ o, u ∈ addT o x) ∧ (z < x → x ∈ addT o x) ∧ (∃ r, addT o x = 0 :: r) := by
  obtain ⟨q, rfl⟩ := hl
  obtain ⟨r, hr⟩ := hh
  rw [addT_snoc]
  by_cases h : z < x
  · rw [if_pos h, if_pos h]
    exact ⟨sorted_snoc hs h, ⟨_, rfl⟩, fun u hu => List.mem_append_left _ hu, fun _ => by simp, ⟨r ++ [x], by rw [hr]; rfl⟩⟩
  · rw [if_neg h, if_neg h]
    exact ⟨hs, ⟨_, rfl⟩, fun u hu => hu, fun h' => absurd h' h, ⟨r, hr⟩⟩
theorem stT_inv {p0 : List S38} {a b : Int} {o : List Int} {z : Int} {s : S38} (hab : a < b) (h : TmInv p0 a b o z) (hz : z < s.f0) : TmInv (p0 ++ [s]) a b (stT a b s.f0 o) s.f0 := by
  obtain ⟨h1, h2, h3, h4, h5, h6⟩ := h
  unfold stT
  have A : ∃ z1, z1 < s.f0 ∧ (let o1 := if a < s.f0 then addT o a else o
      o1.Pairwise (· < ·) ∧ (∃ q, o1 = q ++ [z1]) ∧ (∀ u ∈ o, u ∈ o1) ∧ (a < s.f0 → a ∈ o1) ∧ (∃ r, o1 = 0 :: r) ∧ (b ≤ z1 → b ∈ o1)) := by
    by_cases c : a < s.f0
    · obtain ⟨g1, g2, g3, g4, g5⟩ := addT_props (x := a) h1 h2 h6
      refine ⟨if z < a then a else z, by split <;> omega, ?_⟩
      simp only [if_pos c]
      refine ⟨g1, g2, g3, fun _ => ?_, g5, fun hb => ?_⟩
      · by_cases hz2 : z < a
        · exact g4 hz2
        · exact g3 a (h4 (by omega))
      · split at hb
        · omega
        · exact g3 b (h5 hb)
    · refine ⟨z, hz, ?_⟩
      simp only [if_neg c]
      exact ⟨h1, h2, fun u hu => hu, fun h => absurd h c, h6, h5⟩
  obtain ⟨z1, hz1, A⟩ := A
  simp only at A
  generalize (if a < s.f0 then addT o a else o) = o1 at A ⊢
  obtain ⟨a1, a2, a3, a4, a5, a6⟩ := A
  have B : ∃ z2, z2 < s.f0 ∧ (let o2 := if b < s.f0 then addT o1 b else o1
      o2.Pairwise (· < ·) ∧ (∃ q, o2 = q ++ [z2]) ∧ (∀ u ∈ o1, u ∈ o2) ∧ (b < s.f0 → b ∈ o2) ∧ (∃ r, o2 = 0 :: r)) := by
    by_cases c : b < s.f0
    · obtain ⟨g1, g2, g3, g4, g5⟩ := addT_props (x := b) a1 a2 a5
      refine ⟨if z1 < b then b else z1, by split <;> omega, ?_⟩
      simp only [if_pos c]
      refine ⟨g1, g2, g3, fun _ => ?_, g5⟩
      by_cases hz2 : z1 < b
      · exact g4 hz2
      · exact g3 b (a6 (by omega))
    · refine ⟨z1, hz1, ?_⟩
      simp only [if_neg c]
      exact ⟨a1, a2, fun u hu => hu, fun h => absurd h c, a5⟩
  obtain ⟨z2, hz2, B⟩ := B
  simp only at B
  generalize (if b < s.f0 then addT o1 b else o1) = o2 at B ⊢
  obtain ⟨b1, b2, b3, b4, b5⟩ := B
  obtain ⟨c1, c2, c3, c4, c5⟩ := addT_props (x := s.f0) b1 b2 b5
  refine ⟨c1, by rw [if_pos hz2] at c2; exact c2, fun u hu => ?_, fun h => ?_, fun h => ?_, c5⟩
  · rcases List.mem_append.1 hu with hu | hu
    · exact c3 _ (b3 _ (a3 _ (h3 u hu)))
    · rw [List.mem_singleton.1 hu]; exact c4 hz2
  · by_cases e : a = s.f0
    · rw [e]; exact c4 hz2
    · exact c3 _ (b3 _ (a4 (by omega)))
  · by_cases e : b = s.f0
    · rw [e]; exact c4 hz2
    · exact c3 _ (b4 (by omega))
theorem fold_inv {a b : Int} (hab : a < b) : ∀ (r p0 : List S38) (o : List Int) (y : S38), Ch (y :: r) → TmInv p0 a b o y.f0 → ∃ z, TmInv (p0 ++ r) a b (r.foldl (fun o s => stT a b s.f0 o) o) z := by
  intro r
  induction r with
  | nil => intro p0 o y _ h; exact ⟨_, by simpa using h⟩
  | cons s r ih =>
    intro p0 o y hc h
    have := ih (p0 ++ [s]) (stT a b s.f0 o) s hc.2.2 (stT_inv hab h hc.1)
    simpa using this
/-- The times rise, begin at 0, and hold all steps' times and the span's ends. -/
theorem timesF_props {p : List S38} {a b : Int} (h : RightP p) (ha : 0 ≤ a) (hab : a < b) :
    (timesF p a b).Pairwise (· < ·) ∧ (∃ r, timesF p a b = 0 :: r) ∧ (∀ u ∈ p, u.f0 ∈ timesF p a b) ∧ a ∈ timesF p a b ∧ b ∈ timesF p a b := by
  obtain ⟨hne, _, hh, hg, hc⟩ := h
  cases p with
  | nil => exact absurd rfl hne
  | cons s r =>
    have hs : s.f0 = 0 := by simpa [rd_T38] using hh
    unfold timesF
    have e0 : stT a b s.f0 [] = [0] := by
      unfold stT
      rw [hs, if_neg (by omega), if_neg (by omega), addT_nil]
    have base : TmInv [s] a b [0] s.f0 := by
      refine ⟨by simp, ⟨[], by simp [hs]⟩, by simp [hs], fun h => ?_, fun h => by omega, ⟨[], rfl⟩⟩
      have : a = 0 := by omega
      simp [this]
    obtain ⟨z, h1, h2, h3, h4, h5, h6⟩ := fold_inv hab r [s] [0] s hc base
    rw [List.foldl_cons, e0]
    generalize r.foldl (fun o s => stT a b s.f0 o) [0] = o at *
    obtain ⟨a1, a2, a3, a4, a5⟩ := addT_props (x := a) h1 h2 h6
    obtain ⟨b1, b2, b3, b4, b5⟩ := addT_props (x := b) a1 a2 a5
    refine ⟨b1, b5, fun u hu => b3 _ (a3 _ (h3 u hu)), b3 _ ?_, ?_⟩
    · by_cases hz : z < a
      · exact a4 hz
      · exact a3 _ (h4 (by omega))
    · by_cases hz : (if z < a then a else z) < b
      · exact b4 hz
      · split at hz
        · omega
        · exact b3 _ (a3 _ (h5 (by omega)))

/-! ### the change -/
def chgF (p : List S38) (a b n : Int) (l : List Int) (o : List S38) : List S38 := l.foldl (fun o x => addF o x (vF 0 p x + if a ≤ x ∧ x < b then n else 0)) o
theorem addF_ne (o : List S38) (x f : Int) : addF o x f ≠ [] := by
  unfold addF
  by_cases h : o.length = 0
  · rw [if_pos h]; simp
  · rw [if_neg h]
    split
    · intro e; rw [e] at h; simp at h
    · simp
theorem change_step (p : List S38) (a b n : Int) (l : List Int) (o : List S38) (i k : Nat) (hp : p.length ≤ 2000) (hi : i < l.length) (ho : o.length < 8796093022200) (hk : 2020 < k) (f : Int)
    (hf : f = vF 0 p (rd l (i : Int)) + if a ≤ rd l (i : Int) ∧ rd l (i : Int) < b then n else 0) (hw : wrap64 (vF 0 p (rd l (i : Int)) + n) = vF 0 p (rd l (i : Int)) + n) :
    bailiwickref03_change.l0 (k + 1 + 1) p a b n l o (i : Int) = bailiwickref03_change.l0 k p a b n l (addF o (rd l (i : Int)) f) (wrap64 ((i : Int) + 1)) := by
  have d1 : (i : Int) < (l.length : Int) := by omega
  have d2 : (0 : Int) ≤ (i : Int) := by omega
  have d3 : o.length < 8796093022208 := by omega
  rw [bailiwickref03_change.l0]
  simp only [if_pos d1, if_pos d2, rat p _ (k + 1) hp (by omega), Option.bind_some]
  have key : ∀ (c : Bool), c = decide (a ≤ rd l (i : Int) ∧ rd l (i : Int) < b) → bailiwickref03_change.j1 (k + 1) p a b n l o (i : Int) (vF 0 p (rd l (i : Int))) c = bailiwickref03_change.l0 k p a b n l (addF o (rd l (i : Int)) f) (wrap64 ((i : Int) + 1)) := by
    intro c hc
    rw [bailiwickref03_change.j1]
    simp only [if_pos d1, if_pos d2, if_pos d3, hw]
    have hfc : f = if c = true then vF 0 p (rd l (i : Int)) + n else vF 0 p (rd l (i : Int)) := by
      rw [hf, hc]
      by_cases h : a ≤ rd l (i : Int) ∧ rd l (i : Int) < b
      · simp [h]
      · simp [h]
    unfold addF
    by_cases h0 : o.length = 0
    · rw [if_pos h0]
      cases c <;> simp_all
    · have e1 : ¬ ((o.length : Int) = 0) := by omega
      have e3 : (0 : Int) ≤ (o.length : Int) - 1 := by omega
      have e4 : (o.length : Int) - 1 < (o.length : Int) := by omega
      rw [if_neg h0]
      simp only [if_neg e1, wl h0 (show o.length < 4611686018427387904 by omega), if_pos e3, if_pos e4]
      cases c with
      | true =>
        rw [if_pos rfl] at hfc ⊢
        rw [hfc]
        split <;> rfl
      | false =>
        rw [if_neg (by simp)] at hfc ⊢
        rw [hfc]
        split <;> rfl
  by_cases h1 : rd l (i : Int) ≥ a
  · rw [if_pos h1]
    exact key _ (by simp; omega)
  · rw [if_neg h1]
    exact key _ (by simp; omega)
theorem change_loop (p : List S38) (a b n : Int) (l : List Int) (hp : p.length ≤ 2000) (hl : l.length ≤ 8000) (hw : ∀ x ∈ l, wrap64 (vF 0 p x + n) = vF 0 p x + n) : ∀ (r l0 : List Int) (k : Nat) (o : List S38), l = l0 ++ r → 2 * r.length + 2030 < k → o.length ≤ l0.length →
    bailiwickref03_change.l0 k p a b n l o (l0.length : Int) = some (if (chgF p a b n r o).length > 1024 then (p, 4) else (chgF p a b n r o, 0)) := by
  intro r
  induction r with
  | nil =>
    intro l0 k o hp2 hk ho
    obtain ⟨k, rfl⟩ : ∃ m, k = m + 1 := ⟨k - 1, by simp at hk; omega⟩
    rw [bailiwickref03_change.l0, if_neg (by rw [hp2]; simp)]
    show _ = some (if o.length > 1024 then (p, 4) else (o, 0))
    by_cases h : o.length > 1024
    · rw [if_pos (by omega), if_pos h]
    · rw [if_neg (by omega), if_neg h]
  | cons x r ih =>
    intro l0 k o hp2 hk ho
    simp only [List.length_cons] at hk
    obtain ⟨k, rfl⟩ : ∃ m, k = m + 1 + 1 := ⟨k - 2, by omega⟩
    have hi : l0.length < l.length := by rw [hp2]; simp
    have e : rd l (l0.length : Int) = x := by rw [hp2]; exact rdn_at _ _ _
    rw [change_step p a b n l o l0.length k hp hi (by omega) (by omega) _ rfl (by rw [e]; exact hw x (by rw [hp2]; simp)), e]
    rw [show wrap64 ((l0.length : Int) + 1) = ((l0 ++ [x]).length : Int) from by rw [wn (by omega)]; simp]
    rw [ih (l0 ++ [x]) k _ (by simp [hp2]) (by omega) (by have := addF_len o x (vF 0 p x + if a ≤ x ∧ x < b then n else 0); simp; omega)]
    rfl
theorem vF_const {p : List S38} {d x t : Int} (h : ∀ u ∈ p, ¬ (x < u.f0 ∧ u.f0 ≤ t)) (hx : x ≤ t) : vF d p t = vF d p x := by
  induction p generalizing d with
  | nil => rfl
  | cons s r ih =>
    show vF (if s.f0 ≤ t then s.f1 else d) r t = vF (if s.f0 ≤ x then s.f1 else d) r x
    have hs := h s (by simp)
    by_cases h1 : s.f0 ≤ t
    · rw [if_pos h1, if_pos (by omega)]; exact ih (fun u hu => h u (by simp [hu]))
    · rw [if_neg h1, if_neg (by omega)]; exact ih (fun u hu => h u (by simp [hu]))
def TI (l : List Int) : Int := match l with | [] => 4611686018427387905 | u :: _ => u
theorem chgF_cov {p : List S38} {a b n : Int} (L : List Int) (hL : L.Pairwise (· < ·)) (h0 : ∀ x ∈ L, 0 ≤ x ∧ x ≤ 4611686018427387904) (hp : ∀ u ∈ p, u.f0 ∈ L) (ha : a ∈ L) (hb : b ∈ L) : ∀ (r l0 : List Int) (o : List S38), L = l0 ++ r →
    Cov (gC p a b n) o (TI r) → Cov (gC p a b n) (chgF p a b n r o) 4611686018427387905 := by
  intro r
  induction r with
  | nil => intro l0 o _ h; exact h
  | cons x r ih =>
    intro l0 o hL2 h
    refine ih (l0 ++ [x]) _ (by simp [hL2]) ?_
    have hx := h0 x (by rw [hL2]; simp)
    have hs : ∀ u ∈ L, u ≤ x ∨ TI r ≤ u := by
      intro u hu
      rw [hL2] at hu hL
      rw [List.pairwise_append] at hL
      rcases List.mem_append.1 hu with hu | hu
      · have := hL.2.2 u hu x (by simp); omega
      · rcases List.mem_cons.1 hu with rfl | hu
        · omega
        · right
          cases r with
          | nil => cases hu
          | cons v r =>
            have := hL.2.1
            rw [List.pairwise_cons, List.pairwise_cons] at this
            rcases List.mem_cons.1 hu with rfl | hu
            · exact Int.le_refl _
            · have := this.2.1 u hu; show v ≤ u; omega
    have hlt : x < TI r := by
      cases r with
      | nil => simp [TI]; omega
      | cons v r =>
        rw [hL2, List.pairwise_append] at hL
        have := hL.2.1
        rw [List.pairwise_cons] at this
        exact this.1 v (by simp)
    refine Cov.add h hx.1 hlt (fun t t0 t1 => ?_)
    unfold gC
    rw [vF_const (x := x) (fun u hu => by have := hs _ (hp u hu); omega) t0]
    have h1 := hs a ha
    have h2 := hs b hb
    by_cases c : a ≤ x ∧ x < b
    · rw [if_pos c, if_pos (by omega)]
    · rw [if_neg c, if_neg (by omega)]
/-- Two that tell the same up to the end of time are one. -/
theorem Cov.uniq {g : Int → Int} {xs ys : List S38} (h : Cov g xs 4611686018427387905) (k : Cov g ys 4611686018427387905) : xs = ys := by
  obtain ⟨s, p, rfl, hs⟩ := h.hd (by omega)
  obtain ⟨u, q, rfl, hu⟩ := k.hd (by omega)
  refine PAll.uniq 4611686018427387904 p q s u 0 0 h.ch k.ch (by omega) (by omega) (fun v hv => by have := h.lt v (by simp [hv]); omega) (fun v hv => by have := k.lt v (by simp [hv]); omega) (fun t t0 t1 => ?_)
  rw [h.val t (by omega) (by omega), k.val t (by omega) (by omega)]
end Go.Proofs.Ytpekjfmlpogfaaa.PAll
