/- ShareOrder, the plain law: the order tells each place once; no share is less than one ahead. No program in sight. -/
import Derived.Test.YtemlhkognjhgbaaPureShareRanks
import Derived.Test.YtemlhkognjhgbaaPAllx19
namespace Go.Proofs.Ytemlhkognjhgbaa.Pure
open Go Go.RowKit Go.Proofs.YtemlhkognjhgbaaF Go.Proofs.Ytemlhkognjhgbaa.PAll Go.Proofs.YtemlhkognjhgbaaW.PrintWords Go.Proofs.YtemlhkognjhgbaaW.PrintLast Go.Proofs.YtemlhkognjhgbaaW.PrintMore
set_option linter.unusedVariables false
set_option linter.unusedSimpArgs false
/-- which places have been seen, behind i of them -/
def Seen (M : List Int) (i n : Nat) (x : List Bool) : Prop := x.length = n ∧ ∀ j : Nat, j < n → x[j]? = some (decide ((j : Int) ∈ M.take i))
theorem orderLoop {L : List S33} (hF : FL L) (hl : L.length ≤ 60) {M : List Int} (hs : M.Pairwise (Tl L)) (hp : M.Perm (upto L.length)) : ∀ (d i k : Nat) (x : List Bool), i + d = L.length → Seen M i L.length x → 2 * d + 1 < k →
    bailiwicklaw15_ShareOrder.l0 k L M x (i : Int) = some true := by
  have hlen : M.length = L.length := by rw [hp.length_eq, upto_len]
  intro d
  induction d with
  | zero =>
    intro i k x hi hx hk
    obtain ⟨k, rfl⟩ : ∃ j, k = j + 1 := ⟨k - 1, by omega⟩
    rw [bailiwicklaw15_ShareOrder.l0, if_neg (by omega)]
  | succ d ih =>
    intro i k x hi hx hk
    obtain ⟨k, rfl⟩ : ∃ j, k = j + 1 + 1 := ⟨k - 2, by omega⟩
    have hiM : i < M.length := by omega
    have hw : wrap64 ((i : Int) + 1) = ((i + 1 : Nat) : Int) := by rw [wid (by omega) (by omega)]; omega
    have hd1 : i + 1 + d = L.length := by omega
    have hd2 : 2 * d + 1 < k := by omega
    have hk0 : 0 < k := by omega
    have hw1 : wrap64 ((i : Int) - 1) = (i : Int) - 1 := wid (by omega) (by omega)
    have hc1 : (i : Int) > 0 → 0 < i := by omega
    have hc2 : (i : Int) > 0 → 0 ≤ (i : Int) - 1 := by omega
    have hc3 : (i : Int) - 1 < (M.length : Int) := by omega
    have hsp : M = M.take i ++ M[i] :: M.drop (i + 1) := by simp
    have hrd : rd M (i : Int) = M[i] := rd_of hsp (by rw [List.length_take]; omega)
    have hm := (upto_mem _ _).1 (hp.mem_iff.1 (List.getElem_mem hiM))
    have hs' := hs
    rw [hsp] at hs'
    have hs2 := List.pairwise_append.1 hs'
    have ht : M.take (i + 1) = M.take i ++ [M[i]] := by rw [List.take_succ_eq_append_getElem hiM]
    obtain ⟨v, hv⟩ : ∃ v, M[i] = v := ⟨_, rfl⟩
    have hlt : (M.take i).length = i := by rw [List.length_take]; omega
    have hprev : 0 < i → ∃ w, rd M ((i : Int) - 1) = w ∧ w ∈ M.take i ∧ 0 ≤ w ∧ w < (L.length : Int) := fun h0 => by
      have hsp2 : M = M.take (i - 1) ++ M[i - 1] :: M.drop (i - 1 + 1) := by simp
      have hm2 := (upto_mem _ _).1 (hp.mem_iff.1 (List.getElem_mem (show i - 1 < M.length by omega)))
      refine ⟨M[i - 1], rd_of hsp2 (by rw [List.length_take]; omega), ?_, hm2⟩
      rw [List.mem_take_iff_getElem]
      exact ⟨i - 1, by omega, rfl⟩
    rw [hv] at hrd hm hs2 ht hsp
    have hnot : v ∉ M.take i := fun hin => Tl_irrefl L v (hs2.2.2 v hin v (by simp))
    have hseen : rdOf false x v = false := by
      unfold rdOf
      rw [List.getD_eq_getElem?_getD, hx.2 v.toNat (by omega), show ((v.toNat : Nat) : Int) = v by omega]
      simp [hnot]
    have fv := FL_rd hF v
    have hxl := hx.1
    have e1 : (i : Int) < (M.length : Int) := by omega
    have e2 : (0 : Int) ≤ (i : Int) := by omega
    have e3 : ¬ v < 0 := by omega
    have e4 : ¬ v ≥ (L.length : Int) := by omega
    have e5 : v < (x.length : Int) := by omega
    have e6 : ¬ (false = true) := by simp
    have hj : bailiwicklaw15_ShareOrder.l0 (k + 1 + 1) L M x (i : Int) = bailiwicklaw15_ShareOrder.j1 (k + 1) L M x (i : Int) false := by
      rw [bailiwicklaw15_ShareOrder.l0, if_pos e1, if_pos e2, hrd, if_neg e3, if_neg e4, if_pos hm.1, if_pos e5, hseen]
    rw [hj, bailiwicklaw15_ShareOrder.j1, if_neg e6, if_pos e2, if_pos e1, hrd, if_pos hm.1, if_pos e5]
    simp only [Option.bind_some]
    rw [if_pos hm.2, sShare _ fv.1 fv.2 k hk0]
    simp only [Option.bind_some]
    rw [fge_r (sh_le _ _) (Nat.zero_le _), if_pos (by simp)]
    have hS : Seen M (i + 1) L.length (x.set v.toNat true) := by
      refine ⟨by rw [List.length_set]; exact hxl, fun j hjl => ?_⟩
      by_cases c : v.toNat = j
      · subst c
        rw [List.getElem?_set_self (by omega), ht, show ((v.toNat : Nat) : Int) = v by omega]
        simp
      · rw [List.getElem?_set_ne c, hx.2 j hjl, ht]
        congr 1
        have hne : (j : Int) ≠ v := by omega
        simp [hne]
    have hnext : bailiwicklaw15_ShareOrder.l0 k L M (x.set v.toNat true) (wrap64 ((i : Int) + 1)) = some true := by
      rw [hw]
      exact ih (i + 1) k (x.set v.toNat true) hd1 hS hd2
    by_cases c0 : (i : Int) > 0
    · obtain ⟨w, w1, w2, w3, w4⟩ := hprev (hc1 c0)
      have fw := FL_rd hF w
      have hT := hs2.2.2 w w2 v (by simp)
      have hle : sv L w ≤ sv L v := by
        rcases hT with h | h
        · exact Nat.le_of_lt h
        · exact Nat.le_of_eq h.1
      rw [if_pos c0, hw1, if_pos (hc2 c0), if_pos hc3, w1, if_pos w3, if_pos w4, sShare _ fw.1 fw.2 k hk0]
      simp only [Option.bind_some]
      rw [flt_r (sh_le _ _) (sh_le _ _), if_neg (by simpa [sv] using hle)]
      exact hnext
    · rw [if_neg c0]
      exact hnext
theorem ShareOrder (l0 : List S33) (hF : FL l0) : ∃ k, bailiwicklaw15_ShareOrder.f k l0 = some true := by
  refine ⟨100000, ?_⟩
  unfold bailiwicklaw15_ShareOrder.f
  obtain ⟨h1, h2, h3, h4⟩ := cut60 hF
  rw [awake15 100000 (by omega)]
  simp only [Option.bind_some, if_true]
  rw [if_pos h1, if_pos h2]
  generalize l0.take (mn (l0.length : Int) 60).toNat = y at *
  obtain ⟨M, m1, m2, m3⟩ := order60 h3 h4
  have hM : M.length = y.length := by rw [m2.length_eq, upto_len]
  rw [m3 100000 (by omega)]
  simp only [Option.bind_some]
  rw [if_pos (by omega), if_pos (by omega), if_pos (by omega)]
  refine orderLoop h3 h4 m1 m2 y.length 0 100000 _ (by omega) ⟨by simp, fun j hj => ?_⟩ (by omega)
  simp [hj]
end Go.Proofs.Ytemlhkognjhgbaa.Pure
