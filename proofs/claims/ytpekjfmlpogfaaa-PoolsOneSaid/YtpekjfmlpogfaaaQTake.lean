/- Layer 3's Take and Give, the program's and the document's, and what both come to. No program in sight. -/
import Derived.Test.YtpekjfmlpogfaaaQTimes
namespace Go.Proofs.Ytpekjfmlpogfaaa.PAll
open Go.RowKit Go.Proofs.YtpekjfmlpogfaaaW.PrintWords Go.Proofs.YtpekjfmlpogfaaaW.PrintLast Go.Proofs.YtpekjfmlpogfaaaW.PrintMore
set_option linter.unusedVariables false
set_option linter.unusedSimpArgs false

/-! ### the place of a time -/
theorem placeCmp (f0 f1 t : Int) : step_place_1.f f0 f1 t = some (if f0 < t then -1 else if t < f0 then 1 else 0) := by
  unfold step_place_1.f
  by_cases h1 : f0 < t
  · simp [h1]
  · by_cases h2 : f0 > t <;> simp [h1, h2] <;> omega
theorem mid {lo hi n : Nat} (h : lo < hi) (hh : hi ≤ n) (hn : n ≤ 2000) : wrap64 ((IntKind.u64.wrap (wrap64 ((lo : Int) + (hi : Int)))) / 2) = (((lo + hi) / 2 : Nat) : Int) := by
  have e1 : wrap64 ((lo : Int) + (hi : Int)) = (lo : Int) + (hi : Int) := wid (by omega) (by omega)
  rw [e1]
  have e2 : IntKind.u64.wrap ((lo : Int) + (hi : Int)) = (lo : Int) + (hi : Int) := by
    simp only [IntKind.wrap, IntKind.bits, IntKind.signed]
    simp
    omega
  rw [e2, wid (by omega) (by omega)]
  omega
theorem bs_loop (x : List S38) (hx : x.length ≤ 2000) (t : Int) (m : Nat) (hm : m ≤ x.length) (hlo : ∀ i, i < m → (rd_T38 x (i : Int)).f0 < t) (hhi : ∀ i, m ≤ i → i < x.length → t ≤ (rd_T38 x (i : Int)).f0) : ∀ (d lo hi k : Nat), hi - lo = d → lo ≤ m → m ≤ hi → hi ≤ x.length → d < k →
    api_Step_int64.l0 k x t (x.length : Int) (lo : Int) (hi : Int) = some ((m : Int), decide (m < x.length) && decide ((rd_T38 x (m : Int)).f0 = t)) := by
  intro d
  induction d using Nat.strongRecOn with
  | _ d ih =>
    intro lo hi k hd h1 h2 h3 hk
    obtain ⟨k, rfl⟩ : ∃ j, k = j + 1 := ⟨k - 1, by omega⟩
    rw [api_Step_int64.l0]
    by_cases hlt : lo < hi
    · have hmid := mid hlt h3 hx
      have g1 : lo ≤ (lo + hi) / 2 := by omega
      have g2 : (lo + hi) / 2 < hi := by omega
      rw [if_pos (by omega), hmid, if_pos (by omega), if_pos (by omega), placeCmp]
      simp only [Option.bind_some]
      by_cases c : (rd_T38 x (((lo + hi) / 2 : Nat) : Int)).f0 < t
      · rw [if_pos c, if_pos (by omega), wn (by omega)]
        have : (lo + hi) / 2 < m := by
          rcases Nat.lt_or_ge ((lo + hi) / 2) m with h | h
          · exact h
          · have := hhi _ h (by omega); omega
        exact ih (hi - ((lo + hi) / 2 + 1)) (by omega) _ _ k rfl (by omega) h2 h3 (by omega)
      · rw [if_neg c, if_neg (by split <;> omega)]
        have : m ≤ (lo + hi) / 2 := by
          rcases Nat.lt_or_ge ((lo + hi) / 2) m with h | h
          · exact absurd (hlo _ h) c
          · exact h
        exact ih ((lo + hi) / 2 - lo) (by omega) _ _ k rfl h1 this (by omega) (by omega)
    · obtain rfl : lo = m := by omega
      rw [if_neg (by omega)]
      by_cases hml : lo < x.length
      · rw [if_pos (by omega), if_pos (by omega), if_pos (by omega), placeCmp]
        simp only [Option.bind_some]
        have := hhi lo (Nat.le_refl _) hml
        by_cases c : (rd_T38 x (lo : Int)).f0 = t
        · rw [c]; simp [hml]
        · have c2 : ¬ (rd_T38 x (lo : Int)).f0 < t := by omega
          have c3 : t < (rd_T38 x (lo : Int)).f0 := by omega
          simp [hml, c, c2, c3]
      · rw [if_neg (by omega)]
        simp [hml]
theorem sPlace (p0 : List S38) (s : S38) (r : List S38) (t : Int) (hx : (p0 ++ s :: r).length ≤ 2000) (h0 : s.f0 ≤ t) (hr : ∀ u ∈ r, t < u.f0) (hp : ∀ u ∈ p0, u.f0 < s.f0) (k : Nat) (hk : 2010 < k) :
    step_place.f k (p0 ++ s :: r) t = some (p0.length : Int) := by
  have hel : ∀ (i : Nat) (h : i < (p0 ++ s :: r).length), rd_T38 (p0 ++ s :: r) (i : Int) = (p0 ++ s :: r)[i] := fun i h => rd_nat _ i h
  have hlow : ∀ i, i < p0.length → (rd_T38 (p0 ++ s :: r) (i : Int)).f0 < s.f0 := by
    intro i hi
    rw [hel i (by simp; omega), List.getElem_append_left hi]
    exact hp _ (List.getElem_mem _)
  have hat : rd_T38 (p0 ++ s :: r) (p0.length : Int) = s := rd_at _ _ _
  have hhigh : ∀ i, p0.length < i → i < (p0 ++ s :: r).length → t < (rd_T38 (p0 ++ s :: r) (i : Int)).f0 := by
    intro i hi hl
    rw [hel i hl, List.getElem_append_right (by omega)]
    have hm : (s :: r)[i - p0.length]'(by simp at hl ⊢; omega) ∈ r := by
      obtain ⟨j, hj⟩ : ∃ j, i - p0.length = j + 1 := ⟨i - p0.length - 1, by omega⟩
      simp only [hj, List.getElem_cons_succ]
      exact List.getElem_mem _
    exact hr _ hm
  unfold step_place.f api_Step_int64.f
  generalize hx2 : p0 ++ s :: r = x at *
  have hlen : p0.length < x.length := by rw [← hx2]; simp
  by_cases c : s.f0 = t
  · rw [show (0 : Int) = ((0 : Nat) : Int) from rfl, bs_loop x hx t p0.length (by omega) (fun i hi => by have := hlow i hi; omega) (fun i hi hl => by
      rcases Nat.lt_or_ge p0.length i with h | h
      · have := hhigh i h hl; omega
      · obtain rfl : i = p0.length := by omega
        rw [hat]; omega) x.length 0 x.length k (by omega) (by omega) (by omega) (Nat.le_refl _) (by omega)]
    simp [hat, c, hlen]
  · rw [show (0 : Int) = ((0 : Nat) : Int) from rfl, bs_loop x hx t (p0.length + 1) (by omega) (fun i hi => by
      rcases Nat.lt_or_ge i p0.length with h | h
      · have := hlow i h; omega
      · obtain rfl : i = p0.length := by omega
        rw [hat]; omega) (fun i hi hl => by have := hhigh i (by omega) hl; omega) x.length 0 x.length k (by omega) (by omega) (by omega) (Nat.le_refl _) (by omega)]
    simp only [Option.bind_some]
    rw [if_neg]
    · rw [wp (by omega) (by omega)]; simp
    · simp only [Bool.and_eq_true, decide_eq_true_eq]
      rintro ⟨h1, h2⟩
      have := hhigh (p0.length + 1) (by omega) h1
      omega

/-! ### least -/
theorem mn_eq (a b : Int) : mn a b = if b < a then b else a := rfl
def lW (b n : Int) : List S38 → Int
  | [] => n
  | u :: r => if u.f0 < b then lW b (mn n u.f1) r else n
theorem sLeast_loop (x : List S38) (hx : x.length ≤ 2000) (b : Int) : ∀ (r p0 : List S38) (k : Nat) (n : Int), x = p0 ++ r → r.length < k →
    step_least.l0 k x b n (p0.length : Int) = some (lW b n r) := by
  intro r
  induction r with
  | nil =>
    intro p0 k n hp hk
    obtain ⟨k, rfl⟩ : ∃ m, k = m + 1 := ⟨k - 1, by simp at hk; omega⟩
    rw [step_least.l0, if_neg (by rw [hp]; simp)]
    rfl
  | cons s r ih =>
    intro p0 k n hp hk
    simp only [List.length_cons] at hk
    obtain ⟨k, rfl⟩ : ∃ m, k = m + 1 := ⟨k - 1, by omega⟩
    have hl : p0.length < x.length := by rw [hp]; simp
    have e : rd_T38 x (p0.length : Int) = s := by rw [hp]; exact rd_at _ _ _
    have hw : wrap64 ((p0.length : Int) + 1) = ((p0 ++ [s]).length : Int) := by rw [wn (by omega)]; simp
    rw [step_least.l0, if_pos (by omega), if_pos (by omega), e, hw, ih (p0 ++ [s]) k _ (by simp [hp]) (by omega)]
    simp only [lW]
    split <;> rfl
theorem leastF_skip {a b n : Int} {p : List S38} (h : ∀ u ∈ p, u.f0 ≤ a ∨ b ≤ u.f0) : leastF a b n p = n := by
  induction p generalizing n with
  | nil => rfl
  | cons s r ih =>
    show leastF a b (if _ then _ else n) r = n
    rw [if_neg (by have := h s (by simp); omega)]
    exact ih (fun u hu => h u (by simp [hu]))
theorem leastF_app (a b n : Int) (p q : List S38) : leastF a b n (p ++ q) = leastF a b (leastF a b n p) q := by simp [leastF, List.foldl_append]
theorem lW_eq {a b : Int} {r : List S38} (s : S38) (hc : Ch (s :: r)) (ha : ∀ u ∈ r, a < u.f0) (n : Int) : lW b n r = leastF a b n r := by
  induction r generalizing s n with
  | nil => rfl
  | cons u r ih =>
    simp only [lW]
    by_cases h : u.f0 < b
    · rw [if_pos h, ih u hc.2.2 (fun v hv => ha v (by simp [hv]))]
      show _ = leastF a b (if a < u.f0 ∧ u.f0 < b ∧ u.f1 < n then u.f1 else n) r
      have := ha u (by simp)
      rw [mn_eq]
      by_cases h2 : u.f1 < n
      · rw [if_pos h2, if_pos ⟨this, h, h2⟩]
      · rw [if_neg h2, if_neg (fun e => h2 e.2.2)]
    · rw [if_neg h, leastF_skip]
      intro v hv
      rcases List.mem_cons.1 hv with rfl | hv
      · right; omega
      · right; have := Ch.lt hc.2.2 v hv; omega
theorem sLeast {p : List S38} (h : RightP p) {a b : Int} (h0 : 0 ≤ a) (hab : a < b) (k : Nat) (hk : 2020 < k) : step_least.f k p a b = some (leastF a b (vF 0 p a) p) := by
  obtain ⟨p0, s, r, rfl, h1, h2, h3, h4⟩ := h.split h0
  have hl : (p0 ++ s :: r).length ≤ 2000 := Nat.le_trans h.len (by omega)
  unfold step_least.f
  rw [sPlace p0 s r a hl h1 h2 h3 k (by omega)]
  simp only [Option.bind_some]
  rw [sLeast_loop _ hl b (s :: r) p0 k _ rfl (by simp at hl ⊢; omega)]
  rw [vF_at h1 h2, leastF_app, leastF_skip (p := p0) (fun u hu => .inl (by have := h3 u hu; omega))]
  have hg := h.good s (by simp)
  simp only [lW]
  rw [if_pos (by omega)]
  rw [show mn 1048576 s.f1 = s.f1 from by rw [mn_eq]; have := hg.2.1; split <;> omega]
  rw [lW_eq s h4 h2]
  show _ = some (leastF a b (if _ then _ else s.f1) r)
  rw [if_neg (by omega)]

/-! ### the change -/
def chg (p : List S38) (a b n : Int) : List S38 × Int := if (plusTo p a b n p.length).length > 1024 then (p, 4) else (plusTo p a b n p.length, 0)
theorem cloneF (p : List S38) (h : p.length ≤ 2000) : api_Step_36.f p = some p := by unfold api_Step_36.f; rw [if_pos (by omega)]
theorem sChange (p : List S38) (a b n : Int) (h : p.length ≤ 2000) : step_change.f p a b n = some (chg p a b n) := by
  unfold step_change.f step_plus.f chg
  rw [if_pos (by omega)]
  simp only [Option.bind_some, cloneF p h]
  by_cases c : (plusTo p a b n p.length).length > 1024
  · rw [if_pos (by omega), if_pos c]
  · rw [if_neg (by omega), if_neg c]
theorem plus_cov {p : List S38} (h : RightP p) {a b n : Int} (ha : 0 ≤ a) (hab : a < b) (hb : b ≤ 4611686018427387904) (hn : -1048576 ≤ n) (hn2 : n ≤ 1048576) : Cov (gC p a b n) (plusTo p a b n p.length) 4611686018427387905 := by
  refine plusTo_cov ha hab hb h.good hn hn2 p [] rfl h.chain ?_
  have : TT p = 0 := by
    have := h.head
    cases p with
    | nil => exact absurd rfl h.ne
    | cons s r => simpa [rd_T38, TT] using this
  rw [this]
  exact Cov.nil _
theorem times_range {p : List S38} {a b : Int} (h : RightP p) (ha : 0 ≤ a) (hab : a < b) (hb : b ≤ 4611686018427387904) : (∀ x ∈ timesF p a b, 0 ≤ x ∧ x ≤ 4611686018427387904) ∧ (timesF p a b).length ≤ 8000 := by
  have hst : ∀ (s : Int) (o : List Int) (P : Int → Prop), (∀ x ∈ o, P x) → P a → P b → P s → ∀ x ∈ stT a b s o, P x := by
    intro s o P ho pa pb ps
    have hadd : ∀ (o : List Int) (x : Int), (∀ u ∈ o, P u) → P x → ∀ u ∈ addT o x, P u := by
      intro o x h1 h2 u hu
      unfold addT at hu
      have : ∀ u ∈ o ++ [x], P u := fun u hu => by
        rcases List.mem_append.1 hu with hu | hu
        · exact h1 u hu
        · rw [List.mem_singleton.1 hu]; exact h2
      split at hu
      · exact this u hu
      · split at hu
        · exact this u hu
        · exact h1 u hu
    unfold stT
    refine hadd _ _ ?_ ps
    have h1 : ∀ u ∈ (if a < s then addT o a else o), P u := by
      split
      · exact hadd _ _ ho pa
      · exact ho
    split
    · exact hadd _ _ h1 pb
    · exact h1
  have hadd : ∀ (P : Int → Prop) (o : List Int) (x : Int), (∀ u ∈ o, P u) → P x → ∀ u ∈ addT o x, P u := by
    intro P o x h1 h2 u hu
    unfold addT at hu
    have : ∀ u ∈ o ++ [x], P u := fun u hu => by
      rcases List.mem_append.1 hu with hu | hu
      · exact h1 u hu
      · rw [List.mem_singleton.1 hu]; exact h2
    split at hu
    · exact this u hu
    · split at hu
      · exact this u hu
      · exact h1 u hu
  have hf : ∀ (r : List S38) (o : List Int), (∀ s ∈ r, 0 ≤ s.f0 ∧ s.f0 ≤ 4611686018427387904) → (∀ x ∈ o, 0 ≤ x ∧ x ≤ 4611686018427387904) → (∀ x ∈ r.foldl (fun o s => stT a b s.f0 o) o, 0 ≤ x ∧ x ≤ 4611686018427387904) ∧ (r.foldl (fun o s => stT a b s.f0 o) o).length ≤ o.length + 3 * r.length := by
    intro r
    induction r with
    | nil => intro o _ ho; exact ⟨ho, by simp⟩
    | cons s r ih =>
      intro o hr ho
      have := ih (stT a b s.f0 o) (fun u hu => hr u (by simp [hu])) (hst s.f0 o _ ho ⟨by omega, by omega⟩ ⟨by omega, by omega⟩ (hr s (by simp)))
      refine ⟨this.1, Nat.le_trans this.2 ?_⟩
      have := stT_len a b s.f0 o
      simp; omega
  obtain ⟨f1, f2⟩ := hf p [] (fun s hs => ⟨(h.good s hs).2.2.1, (h.good s hs).2.2.2⟩) (by simp)
  unfold timesF
  refine ⟨hadd (fun x => 0 ≤ x ∧ x ≤ 4611686018427387904) _ _ (hadd (fun x => 0 ≤ x ∧ x ≤ 4611686018427387904) _ _ f1 ⟨ha, by omega⟩) ⟨by omega, hb⟩, ?_⟩
  have h1 := addT_len (addT (p.foldl (fun o s => stT a b s.f0 o) []) a) b
  have h2 := addT_len (p.foldl (fun o s => stT a b s.f0 o) []) a
  have := h.len
  simp at f2
  omega
theorem vF_good {p : List S38} (hg : ∀ s ∈ p, Good s) (d t : Int) (hd : 0 ≤ d ∧ d ≤ 1048576) : 0 ≤ vF d p t ∧ vF d p t ≤ 1048576 := by
  induction p generalizing d with
  | nil => exact hd
  | cons s r ih =>
    refine ih (fun u hu => hg u (by simp [hu])) _ ?_
    have := hg s (by simp)
    dsimp only
    split
    · exact ⟨this.1, this.2.1⟩
    · exact hd
theorem rChange {p : List S38} (h : RightP p) {a b n : Int} (ha : 0 ≤ a) (hab : a < b) (hb : b ≤ 4611686018427387904) (hn : -1048576 ≤ n) (hn2 : n ≤ 1048576) (k : Nat) (hk : 20000 < k) : bailiwickref03_change.f k p a b n = some (chg p a b n) := by
  have hl : p.length ≤ 2000 := Nat.le_trans h.len (by omega)
  unfold bailiwickref03_change.f
  rw [rTimes p a b k hl h.ne (by omega)]
  simp only [Option.bind_some]
  obtain ⟨t1, t2⟩ := times_range h ha hab hb
  obtain ⟨q1, ⟨tr, q2⟩, q3, q4, q5⟩ := timesF_props h ha hab
  have := change_loop p a b n (timesF p a b) hl t2 (fun x _ => by have := vF_good h.good 0 x (by omega); exact wid (by omega) (by omega)) (timesF p a b) [] k [] rfl (by omega) (by simp)
  rw [show ((([] : List Int).length : Nat) : Int) = 0 from rfl] at this
  rw [this]
  have e : chgF p a b n (timesF p a b) [] = plusTo p a b n p.length := by
    refine Cov.uniq (chgF_cov (timesF p a b) q1 t1 q3 q4 q5 (timesF p a b) [] [] rfl ?_) (plus_cov h ha hab hb hn hn2)
    rw [q2]
    exact Cov.nil _
  rw [e]
  unfold chg
  rfl

/-! ### Take and Give -/
def takeF (p : List S38) (a b n : Int) : List S38 × Int :=
  if mayB p a b = true ∧ 0 ≤ n ∧ n ≤ 1048576 then (if leastF a b (vF 0 p a) p < n then (p, 5) else chg p a b (-n)) else (p, 1)
theorem may_iff {p : List S38} {a b : Int} : mayB p a b = true ↔ RightP p ∧ 0 ≤ a ∧ b ≤ 4611686018427387904 ∧ a < b := by unfold mayB; simp [right_iff, and_assoc]
theorem sTake (p : List S38) (a b n : Int) (hl : p.length ≤ 2000) (k : Nat) (hk : 4020 < k) : step_Take.f k p a b n = some (takeF p a b n) := by
  unfold step_Take.f takeF
  rw [sMay p a b k (by omega)]
  simp only [Option.bind_some, amountF]
  obtain ⟨k, rfl⟩ : ∃ m, k = m + 1 := ⟨k - 1, by omega⟩
  simp only [step_Take.j0, cloneF p hl, Option.bind_some]
  by_cases hm : mayB p a b = true
  · obtain ⟨h1, h2, h3, h4⟩ := may_iff.1 hm
    rw [if_pos hm]
    by_cases hn : 0 ≤ n ∧ n ≤ 1048576
    · rw [if_neg (by simp [hn]), if_pos ⟨hm, hn⟩, sLeast h1 h2 h4 k (by omega)]
      simp only [Option.bind_some, sChange p _ _ _ hl]
      rw [wid (by omega) (by omega)]
      split <;> rfl
    · rw [if_pos (by simp; omega), if_neg (fun h => hn h.2)]
  · rw [if_neg hm, if_pos trivial, if_neg (fun h => hm h.1)]
theorem rTake (p : List S38) (a b n : Int) (k : Nat) (hk : 20020 < k) : bailiwickref03_Take.f k p a b n = some (takeF p a b n) := by
  unfold bailiwickref03_Take.f takeF
  rw [rMay p a b k (by omega)]
  simp only [Option.bind_some]
  obtain ⟨k, rfl⟩ : ∃ m, k = m + 1 := ⟨k - 1, by omega⟩
  simp only [bailiwickref03_Take.j0]
  by_cases hm : mayB p a b = true
  · obtain ⟨h1, h2, h3, h4⟩ := may_iff.1 hm
    have hl : p.length ≤ 2000 := Nat.le_trans h1.len (by omega)
    rw [if_pos hm]
    by_cases hn : 0 ≤ n ∧ n ≤ 1048576
    · rw [if_neg (by omega), if_neg (by simp; omega), if_pos ⟨hm, hn⟩, rLeast p a b k hl (by omega)]
      simp only [Option.bind_some]
      rw [wid (by omega) (by omega), rChange h1 h2 h4 h3 (by omega) (by omega) k (by omega)]
      simp only [Option.bind_some]
      split <;> rfl
    · have e : ¬ (mayB p a b = true ∧ 0 ≤ n ∧ n ≤ 1048576) := fun h => hn h.2
      rw [if_neg e]
      by_cases c : n < 0
      · rw [if_pos c, if_pos trivial]
      · rw [if_neg c, if_pos (by simp; omega)]
  · rw [if_neg hm, if_pos trivial, if_neg (fun h => hm h.1)]
end Go.Proofs.Ytpekjfmlpogfaaa.PAll
