/- The stable sort of at most 60 places: the sorted row of them. No program in sight. -/
import Derived.Test.YtemlhkognjhgbaaQSortC
import Derived.Test.YtemlhkognjhgbaaQClean
namespace Go.Proofs.Ytemlhkognjhgbaa.PAll
open Go Go.RowKit Go.Proofs.YtemlhkognjhgbaaF Go.Proofs.YtemlhkognjhgbaaW.PrintWords Go.Proofs.YtemlhkognjhgbaaW.PrintLast Go.Proofs.YtemlhkognjhgbaaW.PrintMore
set_option linter.unusedVariables false
set_option linter.unusedSimpArgs false
set_option linter.unusedSectionVars false
section
variable [CapU] {Dm : Int → Prop} {T : Int → Int → Prop}
theorem blockFull (H : Cmp Dm T) {P X S : List Int} {n a b : Int} (k : Nat) (ha : a = (P.length : Int)) (hb : b = a + 20) (hX : X.length = 20) (hn : a + 20 ≤ n) (hn2 : n ≤ 1000) (hS : P.length + S.length ≤ 1000) (hD : ∀ x ∈ X, Dm x) (hp : X.Pairwise (· < ·)) (hk : 2000 ≤ k) :
    ∃ N, Srt T N ∧ N.Perm X ∧ slices_stableCmpFunc_int.l0 (k + 1) (P ++ (X ++ S)) n 20 a b = slices_stableCmpFunc_int.l0 k (P ++ (N ++ S)) n 20 b (b + 20) := by
  obtain ⟨N, h1, h2, h3⟩ := insF H (P := P) (M := X) (S := S) (a := a) (b := b) k ha (by omega) (by omega) hD hp (by rw [hX]; omega)
  refine ⟨N, h1, h2, ?_⟩
  rw [slices_stableCmpFunc_int.l0, if_pos (by omega), h3, wid (by omega) (by omega)]
  rfl
theorem blockLast (H : Cmp Dm T) {P X : List Int} {n a b : Int} (k : Nat) (ha : a = (P.length : Int)) (hb : b = a + 20) (hX : X.length < 20) (hn : n = a + X.length) (hn2 : n ≤ 1000) (hD : ∀ x ∈ X, Dm x) (hp : X.Pairwise (· < ·)) (hk : 2000 ≤ k) :
    ∃ N, Srt T N ∧ N.Perm X ∧ slices_stableCmpFunc_int.l0 (k + 1) (P ++ X) n 20 a b = slices_stableCmpFunc_int.l1 k (P ++ N) n 20 := by
  obtain ⟨N, h1, h2, h3⟩ := insF H (P := P) (M := X) (S := []) (a := a) (b := n) k ha (by omega) (by simp; omega) hD hp (by
    have : (X.length + 1) * (X.length + 30) ≤ 20 * 50 := Nat.mul_le_mul (by omega) (by omega)
    omega)
  refine ⟨N, h1, h2, ?_⟩
  simp only [List.append_nil] at h3
  rw [slices_stableCmpFunc_int.l0, if_neg (by omega), h3]
  rfl
theorem mem_of_perm {N X : List Int} (h : N.Perm X) {p : Int → Prop} (hp : ∀ x ∈ X, p x) : ∀ x ∈ N, p x := fun x hx => hp x (h.mem_iff.1 hx)
theorem lt_of_perm {N X M Y : List Int} (h : N.Perm X) (h2 : M.Perm Y) (hp : ∀ x ∈ X, ∀ y ∈ Y, x < y) : ∀ x ∈ N, ∀ y ∈ M, x < y := fun x hx y hy => hp x (h.mem_iff.1 hx) y (h2.mem_iff.1 hy)
/-- the last merge: all that is left are two neighbours -/
theorem mergeEnd (H : Cmp Dm T) {A B : List Int} {n bs : Int} (k : Nat) (hA : bs = (A.length : Int)) (hn : n = bs + B.length) (hA0 : 0 < A.length) (hB2 : (B.length : Int) < bs ∨ (B.length : Int) = bs) (hn2 : n ≤ 100) (hn3 : n < 2 * bs ∨ B.length = 0) (sA : Srt T A) (sB : Srt T B) (dA : ∀ x ∈ A, Dm x) (dB : ∀ x ∈ B, Dm x) (hlt : ∀ x ∈ A, ∀ y ∈ B, x < y) (hk : 50000 ≤ k) :
    ∃ M, Srt T M ∧ M.Perm (A ++ B) ∧ slices_stableCmpFunc_int.l1 k (A ++ B) n bs = some M := by
  obtain ⟨k, rfl⟩ : ∃ m, k = m + 1 + 1 + 1 := ⟨k - 3, by omega⟩
  rw [slices_stableCmpFunc_int.l1]
  by_cases c : bs < n
  · rw [if_pos c, slices_stableCmpFunc_int.l2, wid (by omega) (by omega), if_neg (by omega), Int.zero_add, wid (by omega) (by omega), if_pos c]
    obtain ⟨M, h1, h2, h3⟩ := symF H (A.length + B.length) [] A B [] (k + 1) 0 bs n rfl hA0 (by omega) rfl (by omega) (by omega) (by simp; omega) (by omega) sA sB dA dB hlt (by omega)
    simp only [List.append_nil, List.nil_append] at h3
    refine ⟨M, h1, h2, ?_⟩
    rw [h3]
    simp only [Option.bind_some]
    rw [slices_stableCmpFunc_int.l1, wid (by omega) (by omega), if_neg (by omega)]
  · rw [if_neg c]
    obtain rfl : B = [] := List.eq_nil_of_length_eq_zero (by omega)
    exact ⟨A, sA, by simp, by simp⟩
theorem stable60 (H : Cmp Dm T) {x : List Int} {n : Int} (k : Nat) (hn : n = (x.length : Int)) (hl : x.length ≤ 60) (hD : ∀ y ∈ x, Dm y) (hp : x.Pairwise (· < ·)) (hk : 100000 ≤ k) :
    ∃ M, Srt T M ∧ M.Perm x ∧ slices_stableCmpFunc_int.f k x n = some M := by
  obtain ⟨k, rfl⟩ : ∃ m, k = m + 1 + 1 + 1 + 1 + 1 + 1 := ⟨k - 6, by omega⟩
  unfold slices_stableCmpFunc_int.f
  by_cases c1 : x.length < 20
  · obtain ⟨N, s1, p1, e1⟩ := blockLast H (P := []) (X := x) (n := n) (a := 0) (b := 20) (k + 1 + 1 + 1 + 1 + 1) rfl rfl c1 (by omega) (by omega) hD hp (by omega)
    refine ⟨N, s1, p1, ?_⟩
    simp only [List.nil_append] at e1
    rw [e1, slices_stableCmpFunc_int.l1, if_neg (by omega)]
  · -- the first block
    have hx : x = x.take 20 ++ x.drop 20 := (List.take_append_drop _ _).symm
    have l1 : (x.take 20).length = 20 := by simp; omega
    have l2 : (x.drop 20).length = x.length - 20 := by simp
    generalize x.take 20 = X1 at *
    generalize x.drop 20 = Y at *
    rw [hx] at hD hp
    have hp' := List.pairwise_append.1 hp
    have d1 : ∀ y ∈ X1, Dm y := fun y hy => hD y (by simp [hy])
    have dY : ∀ y ∈ Y, Dm y := fun y hy => hD y (by simp [hy])
    obtain ⟨N1, s1, p1, e1⟩ := blockFull H (P := []) (X := X1) (S := Y) (n := n) (a := 0) (b := 20) (k + 1 + 1 + 1 + 1 + 1) rfl rfl l1 (by omega) (by omega) (by simp; omega) d1 hp'.1 (by omega)
    simp only [List.nil_append] at e1
    have n1 : N1.length = 20 := by rw [p1.length_eq, l1]
    rw [hx, e1]
    by_cases c2 : x.length < 40
    · obtain ⟨N2, s2, p2, e2⟩ := blockLast H (P := N1) (X := Y) (n := n) (a := 20) (b := 20 + 20) (k + 1 + 1 + 1 + 1) (by omega) rfl (by omega) (by omega) (by omega) dY hp'.2.1 (by omega)
      have n2 : N2.length = Y.length := p2.length_eq
      rw [e2]
      obtain ⟨M, m1, m2, m3⟩ := mergeEnd H (A := N1) (B := N2) (n := n) (bs := 20) (k + 1 + 1 + 1 + 1) (by omega) (by omega) (by omega) (by omega) (by omega) (by omega) s1 s2 (mem_of_perm p1 d1) (mem_of_perm p2 dY) (lt_of_perm p1 p2 hp'.2.2) (by omega)
      exact ⟨M, m1, m2.trans (p1.append p2), m3⟩
    · -- the second block
      have hY : Y = Y.take 20 ++ Y.drop 20 := (List.take_append_drop _ _).symm
      have l3 : (Y.take 20).length = 20 := by simp; omega
      have l4 : (Y.drop 20).length = Y.length - 20 := by simp
      generalize Y.take 20 = X2 at *
      generalize Y.drop 20 = Z at *
      rw [hY] at dY hp'
      have hq := List.pairwise_append.1 hp'.2.1
      have d2 : ∀ y ∈ X2, Dm y := fun y hy => dY y (by simp [hy])
      have dZ : ∀ y ∈ Z, Dm y := fun y hy => dY y (by simp [hy])
      have h12 : ∀ u ∈ X1, ∀ v ∈ X2, u < v := fun u hu v hv => hp'.2.2 u hu v (by simp [hv])
      have h1Z : ∀ u ∈ X1, ∀ v ∈ Z, u < v := fun u hu v hv => hp'.2.2 u hu v (by simp [hv])
      obtain ⟨N2, s2, p2, e2⟩ := blockFull H (P := N1) (X := X2) (S := Z) (n := n) (a := 20) (b := 20 + 20) (k + 1 + 1 + 1 + 1) (by omega) rfl l3 (by omega) (by omega) (by omega) d2 hq.1 (by omega)
      have n2 : N2.length = 20 := by rw [p2.length_eq, l3]
      rw [hY, e2]
      -- the first two merged, then the rest
      have rest : ∀ (N3 : List Int) (k2 : Nat), 60000 ≤ k2 → Srt T N3 → N3.Perm Z → ∃ M, Srt T M ∧ M.Perm (X1 ++ (X2 ++ Z)) ∧ slices_stableCmpFunc_int.l1 k2 (N1 ++ (N2 ++ N3)) n 20 = some M := by
        intro N3 k2 hk2 s3 p3
        have n3 : N3.length = Z.length := p3.length_eq
        obtain ⟨k2, rfl⟩ : ∃ m, k2 = m + 1 + 1 + 1 := ⟨k2 - 3, by omega⟩
        rw [slices_stableCmpFunc_int.l1, if_pos (by omega), slices_stableCmpFunc_int.l2, wid (x := 2 * 20) (by omega) (by omega), if_pos (by omega), wid (x := 0 + 20) (by omega) (by omega)]
        obtain ⟨M1, a1, a2, a3⟩ := symF H (N1.length + N2.length) [] N1 N2 N3 (k2 + 1) 0 (0 + 20) (2 * 20) rfl (by omega) (by omega) rfl (by omega) (by omega) (by simp; omega) (by omega) s1 s2 (mem_of_perm p1 d1) (mem_of_perm p2 d2) (lt_of_perm p1 p2 h12) (by omega)
        simp only [List.nil_append] at a3
        rw [a3]
        simp only [Option.bind_some]
        have m1 : M1.length = 40 := by rw [a2.length_eq]; simp; omega
        rw [slices_stableCmpFunc_int.l2, wid (x := 2 * 20 + 2 * 20) (by omega) (by omega), if_neg (by omega), wid (x := 2 * 20 + 20) (by omega) (by omega), if_neg (by omega), wid (x := 20 * 2) (by omega) (by omega)]
        have pm : M1.Perm (X1 ++ X2) := a2.trans (p1.append p2)
        obtain ⟨M, b1, b2, b3⟩ := mergeEnd H (A := M1) (B := N3) (n := n) (bs := 20 * 2) k2 (by omega) (by omega) (by omega) (by omega) (by omega) (by omega) a1 s3 (mem_of_perm pm (fun y hy => by
            rcases List.mem_append.1 hy with h | h
            · exact d1 y h
            · exact d2 y h)) (mem_of_perm p3 dZ) (lt_of_perm pm p3 (fun u hu v hv => by
            rcases List.mem_append.1 hu with h | h
            · exact h1Z u h v hv
            · exact hq.2.2 u h v hv)) (by omega)
        refine ⟨M, b1, b2.trans ?_, b3⟩
        rw [← List.append_assoc]
        exact pm.append p3
      by_cases c3 : x.length < 60
      · obtain ⟨N3, s3, p3, e3⟩ := blockLast H (P := N1 ++ N2) (X := Z) (n := n) (a := 20 + 20) (b := 20 + 20 + 20) (k + 1 + 1 + 1) (by simp; omega) rfl (by omega) (by omega) (by omega) dZ hq.2.1 (by omega)
        rw [show N1 ++ (N2 ++ Z) = N1 ++ N2 ++ Z by simp, e3, List.append_assoc]
        exact rest N3 _ (by omega) s3 p3
      · obtain ⟨N3, s3, p3, e3⟩ := blockFull H (P := N1 ++ N2) (X := Z) (S := []) (n := n) (a := 20 + 20) (b := 20 + 20 + 20) (k + 1 + 1 + 1) (by simp; omega) rfl (by omega) (by omega) (by omega) (by simp; omega) dZ hq.2.1 (by omega)
        have n3 : N3.length = 20 := by rw [p3.length_eq]; omega
        simp only [List.append_nil] at e3
        rw [show N1 ++ (N2 ++ Z) = N1 ++ N2 ++ Z by simp, e3]
        obtain ⟨N4, s4, p4, e4⟩ := blockLast H (P := N1 ++ N2 ++ N3) (X := []) (n := n) (a := 20 + 20 + 20) (b := 20 + 20 + 20 + 20) (k + 1 + 1) (by simp; omega) rfl (by simp) (by simp; omega) (by omega) (by simp) (by simp) (by omega)
        obtain rfl : N4 = [] := List.eq_nil_of_length_eq_zero (by rw [p4.length_eq]; rfl)
        simp only [List.append_nil] at e4
        rw [e4, List.append_assoc]
        exact rest N3 _ (by omega) s3 p3
end

/-! ### the order of shares -/
def sv (L : List S33) (a : Int) : Nat := sh (rd_T33 L a).f1 (rd_T33 L a).f2
def wv (L : List S33) (a : Int) : Int := (rd_T33 L a).f0
/-- a stands ahead of b -/
def Tl (L : List S33) (a b : Int) : Prop := sv L a < sv L b ∨ (sv L a = sv L b ∧ (wv L a < wv L b ∨ (wv L a = wv L b ∧ a < b)))
instance decTl (L : List S33) (a b : Int) : Decidable (Tl L a b) := by unfold Tl; infer_instance
def FL (L : List S33) : Prop := ∀ u ∈ L, u.f1 < 2 ^ 64 ∧ u.f2 < 2 ^ 64
theorem FL_rd {L : List S33} (h : FL L) (a : Int) : (rd_T33 L a).f1 < 2 ^ 64 ∧ (rd_T33 L a).f2 < 2 ^ 64 := by
  unfold rd_T33
  rw [List.getD_eq_getElem?_getD]
  cases e : L[a.toNat]? with
  | none => exact ⟨by decide, by decide⟩
  | some u => exact h u (List.mem_of_getElem? e)
theorem Tl_trans (L : List S33) (a b c : Int) (h1 : Tl L a b) (h2 : Tl L b c) : Tl L a c := by unfold Tl at *; omega
theorem Tl_irrefl (L : List S33) (a : Int) : ¬ Tl L a a := by unfold Tl; omega
theorem Tl_total (L : List S33) (a b : Int) (h : a ≠ b) : Tl L a b ∨ Tl L b a := by unfold Tl; omega
theorem cmpF {x y : Nat} (hx : x ≤ inf) (hy : y ≤ inf) : cmp_Compare_float64.f x y = some (if x < y then -1 else if y < x then 1 else 0) := by
  unfold cmp_Compare_float64.f cmp_isNaN_float64.f
  rw [fne_r hx hx, fne_r hy hy, flt_r hx hy, fgt_r hx hy]
  simp
  by_cases h : x < y
  · simp [h]
  · by_cases h2 : y < x <;> simp [h, h2]
theorem cmpI (x y : Int) : cmp_Compare_int.f x y = some (if x < y then -1 else if y < x then 1 else 0) := by
  unfold cmp_Compare_int.f cmp_isNaN_int.f
  simp
  by_cases h : x < y
  · simp [h]
  · by_cases h2 : y < x <;> simp [h, h2]
theorem orTwo (a b : Int) (k : Nat) (hk : 3 ≤ k) : cmp_Or_int.f k [a, b] = some (if a = 0 then b else a) := by
  obtain ⟨k, rfl⟩ : ∃ m, k = m + 1 + 1 + 1 := ⟨k - 3, by omega⟩
  unfold cmp_Or_int.f
  have w0 : wrap64 (0 + 1) = 1 := by unfold wrap64; omega
  have w1 : wrap64 (1 + 1) = 2 := by unfold wrap64; omega
  have r0 : rd [a, b] 0 = a := rfl
  have r1 : rd [a, b] 1 = b := rfl
  rw [cmp_Or_int.l0, w0, r0]
  by_cases h : a = 0
  · rw [cmp_Or_int.l0, w1, r1, cmp_Or_int.l0]
    by_cases h2 : b = 0 <;> simp [h, h2]
  · simp [h]
theorem cmpOrder {L : List S33} (h : FL L) : @Cmp ⟨L⟩ (fun a => 0 ≤ a ∧ a < (L.length : Int)) (Tl L) := by
  letI : CapU := ⟨L⟩
  refine ⟨?_, fun a b c _ _ _ => Tl_trans L a b c, Tl_irrefl L, fun a b _ _ => Tl_total L a b⟩
  intro k a b hk ha hb hlt
  have fa := FL_rd h a
  have fb := FL_rd h b
  refine ⟨if (if sv L a < sv L b then (-1 : Int) else if sv L b < sv L a then 1 else 0) = 0 then (if wv L a < wv L b then -1 else if wv L b < wv L a then 1 else 0) else (if sv L a < sv L b then -1 else if sv L b < sv L a then 1 else 0), ?_, ?_⟩
  · show share_Order_1.fl k a b L = _
    unfold share_Order_1.fl
    rw [if_pos ha.1, if_pos ha.2, sShare _ fa.1 fa.2 k (by omega)]
    simp only [Option.bind_some]
    rw [if_pos hb.1, if_pos hb.2, sShare _ fb.1 fb.2 k (by omega)]
    simp only [Option.bind_some]
    rw [cmpF (sh_le _ _) (sh_le _ _), cmpI]
    simp only [Option.bind_some]
    rw [orTwo _ _ k (by omega)]
    rfl
  · unfold Tl
    by_cases c1 : sv L a < sv L b
    · simp [c1]
    · by_cases c2 : sv L b < sv L a
      · simp [c1, c2]; omega
      · have c3 : sv L a = sv L b := by omega
        by_cases c4 : wv L a < wv L b
        · simp [c3, c4]
        · by_cases c5 : wv L b < wv L a
          · simp [c3, c4, c5]; omega
          · simp [c3, c4, c5]; omega
theorem upto_lt (n : Nat) : (upto n).Pairwise (· < ·) := by
  unfold upto
  rw [List.pairwise_map]
  exact List.pairwise_lt_range.imp (fun h => by omega)
theorem upto_mem (n : Nat) (x : Int) : x ∈ upto n ↔ 0 ≤ x ∧ x < (n : Int) := by
  unfold upto
  rw [List.mem_map]
  constructor
  · rintro ⟨i, hi, rfl⟩
    have := List.mem_range.1 hi
    omega
  · rintro ⟨h1, h2⟩
    exact ⟨x.toNat, List.mem_range.2 (by omega), by omega⟩
/-- What share.Order answers: the row of all places, sorted. -/
theorem order60 {L : List S33} (h : FL L) (hl : L.length ≤ 60) : ∃ M : List Int, M.Pairwise (Tl L) ∧ M.Perm (upto L.length) ∧ ∀ k, 100000 ≤ k → share_Order.f k L = some M := by
  have key : ∀ k, 100000 ≤ k → ∃ M : List Int, M.Pairwise (Tl L) ∧ M.Perm (upto L.length) ∧ share_Order.f k L = some M := by
    intro k hk
    obtain ⟨M, h1, h2, h3⟩ := @stable60 ⟨L⟩ _ _ (cmpOrder h) (upto L.length) (L.length : Int) k (by rw [upto_len]) (by rw [upto_len]; exact hl) (fun y hy => (upto_mem _ _).1 hy) (upto_lt _) hk
    refine ⟨M, h1, h2, ?_⟩
    unfold share_Order.f
    rw [if_pos (by omega)]
    unfold slices_SortStableFunc_int_int.f
    rw [upto_len, h3]
    rfl
  obtain ⟨M, h1, h2, h3⟩ := key 100000 (Nat.le_refl _)
  exact ⟨M, h1, h2, fun k hk => at_rounds (g := fun k => share_Order.f k L) (fun k => share_Order.mono L k) hk h3⟩
end Go.Proofs.Ytemlhkognjhgbaa.PAll
