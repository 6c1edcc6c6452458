/- What the document's bonus and its order come to. No program in sight. -/
import Derived.Test.YtemlhkognjhgbaaQBonus
import Derived.Test.YtemlhkognjhgbaaPAllx16
import Derived.Test.YtemlhkognjhgbaaPAllx17
namespace Go.Proofs.Ytemlhkognjhgbaa.PAll
open Go Go.RowKit Go.Proofs.YtemlhkognjhgbaaF Go.Proofs.YtemlhkognjhgbaaW.PrintWords Go.Proofs.YtemlhkognjhgbaaW.PrintLast Go.Proofs.YtemlhkognjhgbaaW.PrintMore
set_option linter.unusedVariables false
set_option linter.unusedSimpArgs false
theorem rBonusL1 {L P0 R0 : List S33} {u : S33} (h : FL L) (hl : L.length ≤ 1000) (who : Int) {x5 : Int} (h0 : L = P0 ++ u :: R0) (hx5 : x5 = (P0.length : Int)) : ∀ (R P : List S33) (k : Nat) (n i : Int), L = P ++ R → i = (P.length : Int) → n = (cnt P who (shU u) : Int) → R.length < k →
    bailiwickref15_Bonus.l1 k L who x5 n i = some (cnt L who (shU u) : Int) := by
  have hu := FL_at h h0
  have hlen0 : P0.length < L.length := by rw [h0]; simp
  intro R
  induction R with
  | nil =>
    intro P k n i hx hi hn hk
    obtain ⟨k, rfl⟩ : ∃ m, k = m + 1 := ⟨k - 1, by omega⟩
    have hx' : L = P := by rw [hx]; simp
    rw [bailiwickref15_Bonus.l1, if_neg (by rw [hx']; omega), hn, hx']
  | cons v R ih =>
    intro P k n i hx hi hn hk
    obtain ⟨k, rfl⟩ : ∃ m, k = m + 1 := ⟨k - 1, by omega⟩
    have hlen : P.length < L.length := by rw [hx]; simp
    have hc := cnt_le P who (shU u)
    have hv := FL_at h hx
    have hnext : ∀ n', n' = ((cnt (P ++ [v]) who (shU u) : Nat) : Int) → bailiwickref15_Bonus.l1 k L who x5 n' (wrap64 (i + 1)) = some (cnt L who (shU u) : Int) := fun n' e => by
      rw [wid (by omega) (by omega)]
      exact ih (P ++ [v]) k n' (i + 1) (by rw [hx]; simp) (by simp; omega) e (by simpa using hk)
    rw [cnt_step] at hnext
    rw [bailiwickref15_Bonus.l1, if_pos (by omega), if_pos (by omega), rdT_of hx hi]
    by_cases c : v.f0 = who
    · rw [if_pos c]
      exact hnext n (by rw [if_pos c]; omega)
    · rw [if_neg c, rShare _ hv.1 hv.2]
      simp only [Option.bind_some]
      rw [if_pos (by omega), if_pos (by omega), rdT_of h0 hx5, rShare _ hu.1 hu.2]
      simp only [Option.bind_some]
      rw [fgt_r (sh_le _ _) (sh_le _ _)]
      by_cases c2 : shU u < shU v
      · rw [if_pos (by simpa [shU] using c2), wid (x := n + 1) (by omega) (by omega)]
        exact hnext _ (by rw [if_neg c, if_pos c2]; omega)
      · rw [if_neg (by simpa [shU] using c2)]
        exact hnext _ (by rw [if_neg c, if_neg c2]; omega)
theorem rBonus {L : List S33} (h : FL L) (hl : L.length ≤ 1000) (who : Int) (k : Nat) (hk : 3000 ≤ k) : bailiwickref15_Bonus.f k L who = some (bonusV L who) := by
  unfold bailiwickref15_Bonus.f
  have main : ∀ (R P : List S33) (k : Nat) (i : Int), L = P ++ R → i = (P.length : Int) → (∀ v ∈ P, v.f0 ≠ who) → R.length + 1100 < k → bailiwickref15_Bonus.l0 k L who i = some (bonusV L who) := by
    intro R
    induction R with
    | nil =>
      intro P k i hx hi hP hk
      obtain ⟨k, rfl⟩ : ∃ m, k = m + 1 := ⟨k - 1, by omega⟩
      have hx' : L = P := by rw [hx]; simp
      have hb : bonusV L who = 0 := by
        unfold bonusV
        have : L.find? (isW who) = none := by
          rw [List.find?_eq_none]
          intro v hv
          simp [isW, hP v (hx' ▸ hv)]
        rw [this]
      rw [bailiwickref15_Bonus.l0, if_neg (by rw [hx']; omega), hb]
    | cons v R ih =>
      intro P k i hx hi hP hk
      obtain ⟨k, rfl⟩ : ∃ m, k = m + 1 := ⟨k - 1, by omega⟩
      have hlen : P.length < L.length := by rw [hx]; simp
      rw [bailiwickref15_Bonus.l0, if_pos (by omega), if_pos (by omega), rdT_of hx hi]
      by_cases c : v.f0 = who
      · have hb : bonusV L who = (cnt L who (shU v) : Int) := by
          unfold bonusV
          have : L.find? (isW who) = some v := by
            rw [hx, List.find?_append]
            have : P.find? (isW who) = none := by
              rw [List.find?_eq_none]
              intro w hw
              simp [isW, hP w hw]
            rw [this]
            simp [isW, c]
          rw [this]
        rw [if_pos c, hb]
        exact rBonusL1 h hl who hx hi L [] k 0 0 rfl rfl rfl (by omega)
      · rw [if_neg c, wid (by omega) (by omega)]
        exact ih (P ++ [v]) k (i + 1) (by rw [hx]; simp) (by simp; omega) (fun w hw => by
          rcases List.mem_append.1 hw with h1 | h1
          · exact hP w h1
          · simp at h1; subst h1; exact c) (by simp at hk; omega)
  exact main L [] k 0 rfl rfl (by simp) (by omega)

/-! ### the document's order -/
theorem rAhead {L : List S33} (h : FL L) {a b : Int} (ha : 0 ≤ a) (ha2 : a < (L.length : Int)) (hb : 0 ≤ b) (hb2 : b < (L.length : Int)) : bailiwickref15_ahead.f L a b = some (decide (Tl L a b)) := by
  have fa := FL_rd h a
  have fb := FL_rd h b
  unfold bailiwickref15_ahead.f
  rw [if_pos ha, if_pos ha2, rShare _ fa.1 fa.2]
  simp only [Option.bind_some]
  rw [if_pos hb, if_pos hb2, rShare _ fb.1 fb.2]
  simp only [Option.bind_some]
  rw [fne_r (sh_le _ _) (sh_le _ _), flt_r (sh_le _ _) (sh_le _ _)]
  by_cases c1 : sv L a = sv L b
  · have c1' : sh (rd_T33 L a).f1 (rd_T33 L a).f2 = sh (rd_T33 L b).f1 (rd_T33 L b).f2 := c1
    rw [if_neg (by simp [c1'])]
    by_cases c2 : (rd_T33 L a).f0 = (rd_T33 L b).f0
    · rw [if_pos c2]
      congr 1
      simp [Tl, c1, wv, c2]
    · rw [if_neg c2]
      congr 1
      simp [Tl, c1, c2, wv]
  · have c1' : sh (rd_T33 L a).f1 (rd_T33 L a).f2 ≠ sh (rd_T33 L b).f1 (rd_T33 L b).f2 := c1
    rw [if_pos (by simp [c1'])]
    congr 1
    unfold Tl
    refine decide_eq_decide.2 ⟨fun h => .inl h, fun h => h.resolve_right fun h2 => c1 h2.1⟩
/-- how many of the first m stand ahead of i -/
def ahd (L : List S33) (i : Int) (m : Nat) : Nat := (upto m).countP fun j => decide (Tl L j i)
theorem ahd_succ (L : List S33) (i : Int) (m : Nat) : ahd L i (m + 1) = ahd L i m + if Tl L (m : Int) i then 1 else 0 := by
  unfold ahd
  rw [upto_succ, List.countP_append]
  congr 1
  by_cases h : Tl L (m : Int) i <;> simp [h]
theorem ahd_le (L : List S33) (i : Int) (m : Nat) : ahd L i m ≤ m := by
  unfold ahd
  refine Nat.le_trans List.countP_le_length ?_
  rw [upto_len]
  exact Nat.le_refl _
theorem rOrderL1 {L : List S33} (h : FL L) (hl : L.length ≤ 1000) {x3 : List Int} (hx3 : x3.length = L.length) {i : Int} (hi : 0 ≤ i) (hi2 : i < (L.length : Int)) (hc : ahd L i L.length < L.length) : ∀ (d m k : Nat), m + d = L.length → d < k →
    ∃ k', k ≤ k' + d + 1 ∧ bailiwickref15_Order.l1 k L x3 i (ahd L i m : Int) (m : Int) = bailiwickref15_Order.l0 k' L (x3.set (ahd L i L.length) i) (i + 1) := by
  intro d
  induction d with
  | zero =>
    intro m k hm hk
    obtain ⟨k, rfl⟩ : ∃ j, k = j + 1 := ⟨k - 1, by omega⟩
    obtain rfl : m = L.length := by omega
    refine ⟨k, by omega, ?_⟩
    rw [bailiwickref15_Order.l1, if_neg (by omega), if_pos (by omega), if_pos (by omega), wid (by omega) (by omega), Int.toNat_natCast]
  | succ d ih =>
    intro m k hm hk
    obtain ⟨k, rfl⟩ : ∃ j, k = j + 1 := ⟨k - 1, by omega⟩
    obtain ⟨k', hk', he⟩ := ih (m + 1) k (by omega) (by omega)
    refine ⟨k', by omega, ?_⟩
    have hle := ahd_le L i m
    rw [ahd_succ] at he
    have hw : wrap64 ((m : Int) + 1) = ((m + 1 : Nat) : Int) := by rw [wid (by omega) (by omega)]; omega
    rw [bailiwickref15_Order.l1, if_pos (by omega), hw]
    by_cases c : (m : Int) = i
    · rw [if_pos c, ← he, if_neg (by rw [c]; exact Tl_irrefl L i)]; rfl
    · rw [if_neg c, rAhead h (by omega) (by omega) hi hi2]
      simp only [Option.bind_some]
      by_cases c2 : Tl L (m : Int) i
      · rw [if_pos (by simp [c2]), ← he, if_pos c2, wid (by omega) (by omega)]; rfl
      · rw [if_neg (by simp [c2]), ← he, if_neg c2]; rfl
/-- the place of each in the sorted row is how many stand ahead of it -/
theorem rank_of {L : List S33} {n : Nat} {M P R : List Int} {v : Int} (hs : M.Pairwise (Tl L)) (hp : M.Perm (upto n)) (hx : M = P ++ v :: R) : ahd L v n = P.length := by
  unfold ahd
  rw [← hp.countP_eq, hx, List.countP_append]
  rw [hx] at hs
  have h := List.pairwise_append.1 hs
  have h2 := List.pairwise_cons.1 h.2.1
  have e1 : P.countP (fun j => decide (Tl L j v)) = P.length := by
    rw [List.countP_eq_length]
    intro a ha
    simpa using h.2.2 a ha v (by simp)
  have e2 : (v :: R).countP (fun j => decide (Tl L j v)) = 0 := by
    rw [List.countP_eq_zero]
    intro a ha
    rcases List.mem_cons.1 ha with e | ha
    · subst e; simpa using Tl_irrefl L a
    · have := h2.1 a ha
      simpa using fun h3 => Tl_irrefl L a (Tl_trans L a v a h3 this)
  rw [e1, e2]
  rfl
theorem rOrderL0 {L : List S33} (h : FL L) (hl : L.length ≤ 1000) {M : List Int} (hs : M.Pairwise (Tl L)) (hp : M.Perm (upto L.length)) : ∀ (d i k : Nat) (x : List Int), i + d = L.length → x.length = L.length → (∀ v, 0 ≤ v → v < (i : Int) → x[ahd L v L.length]? = some v) → (d + 1) * (L.length + 3) ≤ k →
    bailiwickref15_Order.l0 k L x (i : Int) = some M := by
  have hlen : M.length = L.length := by rw [hp.length_eq, upto_len]
  intro d
  induction d with
  | zero =>
    intro i k x hi hx hv hk
    obtain ⟨k, rfl⟩ : ∃ j, k = j + 1 := ⟨k - 1, by omega⟩
    obtain rfl : i = L.length := by omega
    rw [bailiwickref15_Order.l0, if_neg (by omega)]
    congr 1
    refine List.ext_getElem? fun j => ?_
    by_cases hj : j < M.length
    · have hsp : M = M.take j ++ M[j] :: M.drop (j + 1) := by simp
      have hr := rank_of hs hp hsp
      rw [List.length_take, Nat.min_eq_left (by omega)] at hr
      have hm := (upto_mem _ _).1 (hp.mem_iff.1 (List.getElem_mem hj))
      have := hv _ hm.1 hm.2
      rw [hr] at this
      rw [this, List.getElem?_eq_getElem hj]
    · rw [List.getElem?_eq_none (by omega), List.getElem?_eq_none (by omega)]
  | succ d ih =>
    intro i k x hi hx hv hk
    have hk2 : (d + 1) * (L.length + 3) + (L.length + 3) ≤ k := by rw [← Nat.succ_mul]; exact hk
    obtain ⟨k, rfl⟩ : ∃ j, k = j + 1 := ⟨k - 1, by omega⟩
    have hmem : (i : Int) ∈ M := hp.mem_iff.2 ((upto_mem _ _).2 ⟨by omega, by omega⟩)
    obtain ⟨P, R, hsp⟩ := List.append_of_mem hmem
    have hr := rank_of hs hp hsp
    have hPl : P.length < L.length := by rw [← hlen, hsp]; simp
    obtain ⟨k', hk', he⟩ := rOrderL1 h hl hx (i := (i : Int)) (by omega) (by omega) (by omega) L.length 0 k (by omega) (by omega)
    rw [bailiwickref15_Order.l0, if_pos (by omega)]
    have he' : bailiwickref15_Order.l1 k L x (i : Int) 0 0 = bailiwickref15_Order.l0 k' L (x.set (ahd L i L.length) i) ((i : Int) + 1) := he
    rw [he']
    refine ih (i + 1) k' _ (by omega) (by simp [hx]) (fun v h0 h1 => ?_) (by omega)
    by_cases c : v = (i : Int)
    · subst c
      rw [List.getElem?_set_self (by omega)]
    · have hne : ahd L i L.length ≠ ahd L v L.length := by
        intro e
        have hmv : v ∈ M := hp.mem_iff.2 ((upto_mem _ _).2 ⟨by omega, by omega⟩)
        obtain ⟨P2, R2, hsp2⟩ := List.append_of_mem hmv
        have hr2 := rank_of hs hp hsp2
        have e1 : M[P.length]? = some (i : Int) := by rw [hsp]; simp
        have e2 : M[P2.length]? = some v := by rw [hsp2]; simp
        rw [show P.length = P2.length by omega, e2] at e1
        exact c (Option.some.inj e1)
      rw [List.getElem?_set_ne hne]
      exact hv v h0 (by omega)
theorem rOrder60 {L : List S33} (h : FL L) (hl : L.length ≤ 60) {M : List Int} (hs : M.Pairwise (Tl L)) (hp : M.Perm (upto L.length)) (k : Nat) (hk : 10000 ≤ k) : bailiwickref15_Order.f k L = some M := by
  unfold bailiwickref15_Order.f
  rw [if_pos (by omega), if_pos (by omega)]
  refine rOrderL0 h (by omega) hs hp L.length 0 k _ (by omega) (by simp) (fun v h0 h1 => by omega) ?_
  have : (L.length + 1) * (L.length + 3) ≤ 61 * 63 := Nat.mul_le_mul (by omega) (by omega)
  omega
end Go.Proofs.Ytemlhkognjhgbaa.PAll
