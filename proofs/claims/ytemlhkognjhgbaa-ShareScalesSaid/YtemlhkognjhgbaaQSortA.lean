/- The stable sort of places, first part: rows cut into pieces, ranges swapped, rotated; one block sorted by insertion. No program in sight. -/
import Derived.Test.YtemlhkognjhgbaaPAllx5
import Derived.Test.YtemlhkognjhgbaaPAllx8
namespace Go.Proofs.Ytemlhkognjhgbaa.PAll
open Go Go.RowKit Go.Proofs.YtemlhkognjhgbaaW.PrintWords Go.Proofs.YtemlhkognjhgbaaW.PrintLast Go.Proofs.YtemlhkognjhgbaaW.PrintMore
set_option linter.unusedVariables false
set_option linter.unusedSimpArgs false
set_option linter.unusedSectionVars false

theorem wid {x : Int} (h0 : -4611686018427387905 ≤ x) (h : x ≤ 4611686018427387905) : wrap64 x = x := by unfold wrap64; omega
theorem half64 {x : Int} (h0 : 0 ≤ x) (h : x ≤ 4611686018427387905) : wrap64 ((IntKind.u64.wrap (wrap64 x)) / 2) = x / 2 := by
  have e : IntKind.u64.wrap (wrap64 x) = x := by
    rw [wid (by omega) h]
    simp only [IntKind.wrap, IntKind.bits, IntKind.signed, IntKind.max, IntKind.min] <;> simp <;> omega
  rw [e, wid (by omega) (by omega)]
theorem rd_app {P R : List Int} {v i : Int} (h : i = (P.length : Int)) : rd (P ++ v :: R) i = v := by subst h; simp [rd]
theorem set_app {P R : List Int} {v w : Int} {i : Nat} (h : i = P.length) : (P ++ v :: R).set i w = P ++ w :: R := by
  subst h
  rw [List.set_append_right _ _ (Nat.le_refl _), Nat.sub_self]
  rfl
theorem rd_of {x P R : List Int} {v i : Int} (hx : x = P ++ v :: R) (h : i = (P.length : Int)) : rd x i = v := by rw [hx]; exact rd_app h
theorem set_of {x P R : List Int} {v w : Int} {i : Nat} (hx : x = P ++ v :: R) (h : i = P.length) : x.set i w = P ++ w :: R := by rw [hx]; exact set_app h

section
variable [CapU]
theorem swapL {W S : List Int} {a b n : Int} (hn : n ≤ 1000000) (ha : 0 ≤ a) (hb : 0 ≤ b) (ha2 : a ≤ 1000000) (hb2 : b ≤ 1000000) : ∀ (U2 V2 P U1 V1 : List Int) (k : Nat) (i : Int), U2.length = V2.length → U1.length = V1.length → i = (U1.length : Int) → n = i + (U2.length : Int) → a = (P.length : Int) → b = (P.length : Int) + n + (W.length : Int) → U2.length < k →
    slices_swapRangeCmpFunc_int.l0 k (P ++ (V1 ++ (U2 ++ (W ++ (U1 ++ (V2 ++ S)))))) a b n i = some (P ++ (V1 ++ (V2 ++ (W ++ (U1 ++ (U2 ++ S)))))) := by
  intro U2
  induction U2 with
  | nil =>
    intro V2 P U1 V1 k i h1 h2 h3 h4 h5 h6 hk
    obtain ⟨k, rfl⟩ : ∃ m, k = m + 1 := ⟨k - 1, by omega⟩
    obtain rfl : V2 = [] := by cases V2 <;> simp_all
    simp only [slices_swapRangeCmpFunc_int.l0]
    rw [if_neg (by simp at h4; omega)]
  | cons u U2 ih =>
    intro V2 P U1 V1 k i h1 h2 h3 h4 h5 h6 hk
    obtain ⟨k, rfl⟩ : ∃ m, k = m + 1 := ⟨k - 1, by omega⟩
    cases V2 with
    | nil => simp at h1
    | cons v V2 =>
      have l1 : U2.length = V2.length := by simpa using h1
      have l4 : n = i + 1 + (U2.length : Int) := by simp at h4; omega
      have hx1 : P ++ (V1 ++ (u :: U2 ++ (W ++ (U1 ++ (v :: V2 ++ S))))) = (P ++ V1) ++ u :: (U2 ++ (W ++ (U1 ++ (v :: V2 ++ S)))) := by simp
      have hx2 : P ++ (V1 ++ (u :: U2 ++ (W ++ (U1 ++ (v :: V2 ++ S))))) = (P ++ V1 ++ u :: U2 ++ W ++ U1) ++ v :: (V2 ++ S) := by simp
      have e1 : wrap64 (a + i) = ((P ++ V1).length : Int) := by rw [wid (by omega) (by omega)]; simp; omega
      have e2 : wrap64 (b + i) = ((P ++ V1 ++ u :: U2 ++ W ++ U1).length : Int) := by rw [wid (by omega) (by omega)]; simp; omega
      have e3 : wrap64 (i + 1) = i + 1 := wid (by omega) (by omega)
      have len : ((P ++ (V1 ++ (u :: U2 ++ (W ++ (U1 ++ (v :: V2 ++ S)))))).length : Int) = P.length + V1.length + U2.length + W.length + U1.length + V2.length + S.length + 2 := by simp; omega
      simp only [slices_swapRangeCmpFunc_int.l0]
      rw [if_pos (by omega), e1, e2, e3, len]
      rw [if_pos (by omega), if_pos (by simp; omega), if_pos (by omega), if_pos (by simp; omega)]
      rw [rd_of hx2 rfl, rd_of hx1 rfl, set_of hx1 (by omega)]
      have hx3 : (P ++ V1) ++ v :: (U2 ++ (W ++ (U1 ++ (v :: V2 ++ S)))) = (P ++ V1 ++ v :: U2 ++ W ++ U1) ++ v :: (V2 ++ S) := by simp
      rw [set_of hx3 (by simp; omega)]
      have := ih V2 P (U1 ++ [u]) (V1 ++ [v]) k (i + 1) l1 (by simp; omega) (by simp; omega) l4 h5 h6 (by simpa using hk)
      have hx4 : (P ++ V1 ++ v :: U2 ++ W ++ U1) ++ u :: (V2 ++ S) = P ++ (V1 ++ [v] ++ (U2 ++ (W ++ (U1 ++ [u] ++ (V2 ++ S))))) := by simp
      rw [hx4, this]
      simp
theorem swapRange {P U W V S : List Int} {a b n : Int} (k : Nat) (ha : a = (P.length : Int)) (hn : n = (U.length : Int)) (hUV : U.length = V.length) (hb : b = (P.length : Int) + U.length + W.length) (hl : P.length + U.length + W.length ≤ 1000000) (hk : U.length < k) :
    slices_swapRangeCmpFunc_int.f k (P ++ (U ++ (W ++ (V ++ S)))) a b n = some (P ++ (V ++ (W ++ (U ++ S)))) := by
  unfold slices_swapRangeCmpFunc_int.f
  have := swapL (W := W) (S := S) (a := a) (b := b) (n := n) (by omega) (by omega) (by omega) (by omega) (by omega) U V P [] [] k 0 hUV rfl rfl (by omega) ha (by omega) hk
  simpa using this
/-- two neighbours change places -/
theorem rotateL {S : List Int} {mi : Int} : ∀ (d : Nat) (P U V : List Int) (k : Nat), U.length + V.length = d → 0 < U.length → 0 < V.length → mi = (P.length : Int) + U.length → P.length + U.length + V.length ≤ 1000000 → d + 1 < k →
    slices_rotateCmpFunc_int.l0 k (P ++ (U ++ (V ++ S))) mi (U.length : Int) (V.length : Int) = some (P ++ (V ++ (U ++ S))) := by
  intro d
  induction d using Nat.strongRecOn generalizing S mi with
  | _ d ih =>
  intro P U V k hd hu hv hm hl hk
  obtain ⟨k, rfl⟩ : ∃ j, k = j + 1 := ⟨k - 1, by omega⟩
  simp only [slices_rotateCmpFunc_int.l0]
  by_cases c : (U.length : Int) = (V.length : Int)
  · rw [if_pos c, wid (by omega) (by omega)]
    have := swapRange (P := P) (U := U) (W := []) (V := V) (S := S) (a := mi - (U.length : Int)) (b := mi) (n := (U.length : Int)) k (by omega) rfl (by omega) (by simp; omega) (by simp; omega) (by omega)
    simp only [List.nil_append] at this
    rw [this]; rfl
  · rw [if_neg c]
    by_cases c2 : (U.length : Int) > (V.length : Int)
    · rw [if_pos c2, wid (by omega) (by omega), wid (x := (U.length : Int) - V.length) (by omega) (by omega)]
      have hU : U = U.take V.length ++ U.drop V.length := (List.take_append_drop _ _).symm
      have l1 : (U.take V.length).length = V.length := by simp; omega
      have l2 : (U.drop V.length).length = U.length - V.length := by simp
      generalize U.take V.length = U1 at *
      generalize U.drop V.length = U2 at *
      subst hU
      simp only [List.length_append] at *
      have h1 := swapRange (P := P) (U := U1) (W := U2) (V := V) (S := S) (a := mi - ((U1.length + U2.length : Nat) : Int)) (b := mi) (n := (V.length : Int)) k (by omega) (by omega) (by omega) (by omega) (by omega) (by omega)
      rw [List.append_assoc, h1]
      simp only [Option.bind_some]
      have h2 := ih (U2.length + U1.length) (by omega) (S := S) (mi := mi) (P ++ V) U2 U1 k rfl (by omega) (by omega) (by simp; omega) (by simp; omega) (by omega)
      have e1 : ((U1.length + U2.length : Nat) : Int) - (V.length : Int) = (U2.length : Int) := by omega
      have e2 : (V.length : Int) = (U1.length : Int) := by omega
      rw [e1, e2]
      have e3 : P ++ (V ++ (U2 ++ (U1 ++ S))) = (P ++ V) ++ (U2 ++ (U1 ++ S)) := by simp
      rw [e3, h2]
      simp
    · rw [if_neg c2, wid (x := mi - (U.length : Int)) (by omega) (by omega), wid (x := mi + (V.length : Int)) (by omega) (by omega), wid (by omega) (by omega), wid (x := (V.length : Int) - U.length) (by omega) (by omega)]
      have hV : V = V.take (V.length - U.length) ++ V.drop (V.length - U.length) := (List.take_append_drop _ _).symm
      have l1 : (V.take (V.length - U.length)).length = V.length - U.length := by simp
      have l2 : (V.drop (V.length - U.length)).length = U.length := by simp; omega
      generalize V.take (V.length - U.length) = V1 at *
      generalize V.drop (V.length - U.length) = V2 at *
      subst hV
      simp only [List.length_append] at *
      have h1 := swapRange (P := P) (U := U) (W := V1) (V := V2) (S := S) (a := mi - (U.length : Int)) (b := mi + ((V1.length + V2.length : Nat) : Int) - (U.length : Int)) (n := (U.length : Int)) k (by omega) (by omega) (by omega) (by omega) (by omega) (by omega)
      rw [List.append_assoc V1 V2 S, h1]
      simp only [Option.bind_some]
      have h2 := ih (V2.length + V1.length) (by omega) (S := U ++ S) (mi := mi) P V2 V1 k rfl (by omega) (by omega) (by omega) (by omega) (by omega)
      have e1 : ((V1.length + V2.length : Nat) : Int) - (U.length : Int) = (V1.length : Int) := by omega
      have e2 : (U.length : Int) = (V2.length : Int) := by omega
      rw [e1, e2]
      rw [h2]
      simp
theorem rotate {P U V S : List Int} {a m b : Int} (k : Nat) (ha : a = (P.length : Int)) (hm : m = a + U.length) (hb : b = m + V.length) (hu : 0 < U.length) (hv : 0 < V.length) (hl : P.length + U.length + V.length ≤ 1000000) (hk : U.length + V.length + 1 < k) :
    slices_rotateCmpFunc_int.f k (P ++ (U ++ (V ++ S))) a m b = some (P ++ (V ++ (U ++ S))) := by
  unfold slices_rotateCmpFunc_int.f
  have e1 : wrap64 (m - a) = (U.length : Int) := by rw [wid (by omega) (by omega)]; omega
  have e2 : wrap64 (b - m) = (V.length : Int) := by rw [wid (by omega) (by omega)]; omega
  rw [e1, e2]
  exact rotateL _ P U V k rfl hu hv (by omega) hl hk

/-! ### the order that the sort goes by -/
structure Cmp (Dm : Int → Prop) (T : Int → Int → Prop) : Prop where
  cmp : ∀ k a b, 10 ≤ k → Dm a → Dm b → b < a → ∃ c, share_Order_1.f k a b = some c ∧ (c < 0 ↔ T a b)
  trans : ∀ a b c, Dm a → Dm b → Dm c → T a b → T b c → T a c
  irrefl : ∀ a, ¬ T a a
  total : ∀ a b, Dm a → Dm b → a ≠ b → T a b ∨ T b a
variable {Dm : Int → Prop} {T : Int → Int → Prop}
theorem Cmp.asymm (H : Cmp Dm T) {a b : Int} (ha : Dm a) (hb : Dm b) (h : T a b) : ¬ T b a := fun h2 => H.irrefl a (H.trans a b a ha hb ha h h2)
theorem Cmp.other (H : Cmp Dm T) {a b : Int} (ha : Dm a) (hb : Dm b) (hne : a ≠ b) (h : ¬ T a b) : T b a := (H.total a b ha hb hne).resolve_left h
/-- sorted -/
abbrev Srt (T : Int → Int → Prop) (l : List Int) : Prop := l.Pairwise T

/-! ### insertion -/
/-- the inner loop: v goes down among A, what stood above it is A2 -/
theorem insL (H : Cmp Dm T) {P R : List Int} {a b i : Int} (hl : (P.length : Int) + R.length ≤ 1000000) (hP : a = (P.length : Int)) (hi0 : 0 ≤ i) (hi : i ≤ 1000000) : ∀ (A1 A2 : List Int) (v : Int) (k : Nat) (j : Int), j = a + A1.length → (A1.length + A2.length : Int) ≤ 1000000 → Dm v → (∀ x ∈ A1, Dm x ∧ x < v) → (∀ x ∈ A2, T v x) → Srt T (A1 ++ A2) → A1.length + 20 < k →
    ∃ A, Srt T A ∧ A.Perm (A1 ++ v :: A2) ∧ ∃ k', k < k' + A1.length + 2 ∧ slices_insertionSortCmpFunc_int.l1 k (P ++ (A1 ++ (v :: (A2 ++ R)))) a b i j = slices_insertionSortCmpFunc_int.l0 k' (P ++ (A ++ R)) a b (wrap64 (i + 1)) := by
  intro A1
  induction h : A1.length generalizing A1 with
  | zero =>
    intro A2 v k j hj hlen hv h1 h2 hs hk
    obtain rfl : A1 = [] := List.eq_nil_of_length_eq_zero h
    obtain ⟨k, rfl⟩ : ∃ m, k = m + 1 := ⟨k - 1, by omega⟩
    refine ⟨v :: A2, List.pairwise_cons.2 ⟨h2, hs⟩, List.Perm.refl _, k, by omega, ?_⟩
    simp only [slices_insertionSortCmpFunc_int.l1]
    rw [if_neg (by simp at hj; omega)]
    simp
  | succ n ih =>
    intro A2 v k j hj hlen hv h1 h2 hs hk
    obtain ⟨k, rfl⟩ : ∃ m, k = m + 1 := ⟨k - 1, by omega⟩
    obtain ⟨B, z, rfl⟩ : ∃ B z, A1 = B ++ [z] := by
      rcases List.eq_nil_or_concat A1 with e | ⟨q, z, e⟩
      · subst e; simp at h
      · exact ⟨q, z, by simpa using e⟩
    have hB : B.length = n := by simpa using h
    have hz := h1 z (by simp)
    have hx1 : P ++ (B ++ [z] ++ (v :: (A2 ++ R))) = (P ++ B ++ [z]) ++ v :: (A2 ++ R) := by simp
    have hx2 : P ++ (B ++ [z] ++ (v :: (A2 ++ R))) = (P ++ B) ++ z :: (v :: (A2 ++ R)) := by simp
    have e1 : j = ((P ++ B ++ [z]).length : Int) := by simp at hj ⊢; omega
    have e2 : wrap64 (j - 1) = ((P ++ B).length : Int) := by rw [wid (by omega) (by omega)]; simp at hj ⊢; omega
    have len : ((P ++ (B ++ [z] ++ (v :: (A2 ++ R)))).length : Int) = P.length + B.length + A2.length + R.length + 2 := by simp; omega
    obtain ⟨c, hc, hcT⟩ := H.cmp k v z (by omega) hv hz.1 hz.2
    simp only [slices_insertionSortCmpFunc_int.l1]
    rw [if_pos (by simp at hj; omega), if_pos (by omega), len, if_pos (by simp at hj; omega), e2, if_pos (by omega), if_pos (by simp; omega), rd_of hx1 e1, rd_of hx2 rfl, hc]
    simp only [Option.bind_some]
    by_cases ct : c < 0
    · rw [if_pos ct, set_of hx1 (by omega)]
      have hx3 : (P ++ B ++ [z]) ++ z :: (A2 ++ R) = (P ++ B) ++ z :: (z :: (A2 ++ R)) := by simp
      rw [set_of hx3 (by simp; omega)]
      have hTvz : T v z := hcT.1 ct
      have hs' : Srt T (B ++ (z :: A2)) := by simpa using hs
      obtain ⟨A, hA, hp, k', hk', he⟩ := ih B hB (z :: A2) v k ((P ++ B).length : Int) (by simp; omega) (by simp at hlen ⊢; omega) hv (fun x hx => h1 x (by simp [hx])) (fun x hx => by
        rcases List.mem_cons.1 hx with e | hx
        · subst e; exact hTvz
        · exact h2 x hx) hs' (by omega)
      refine ⟨A, hA, hp.trans ?_, k', by omega, ?_⟩
      · have : (B ++ v :: z :: A2).Perm (B ++ z :: v :: A2) := List.Perm.append_left _ (List.Perm.swap _ _ _)
        exact this.trans (by simp)
      · rw [← he]
        congr 1
        simp
    · rw [if_neg ct]
      have hTzv : T z v := H.other hv hz.1 (by omega) (fun hh => ct (hcT.2 hh))
      refine ⟨B ++ [z] ++ v :: A2, ?_, List.Perm.refl _, k, by omega, by simp⟩
      unfold Srt at hs ⊢
      rw [List.pairwise_append] at hs ⊢
      refine ⟨hs.1, List.pairwise_cons.2 ⟨h2, hs.2.1⟩, fun x hx y hy => ?_⟩
      rcases List.mem_cons.1 hy with e | hy
      · subst e
        rcases List.mem_append.1 hx with hxB | hxz
        · have hxz : T x z := by
            have := hs.1
            rw [List.pairwise_append] at this
            exact this.2.2 x hxB z (by simp)
          exact H.trans x z y (h1 x (by simp [hxB])).1 hz.1 hv hxz hTzv
        · simp at hxz; subst hxz; exact hTzv
      · exact hs.2.2 x hx y hy
/-- the outer loop: A is sorted, R is still to come -/
theorem insO (H : Cmp Dm T) {P S : List Int} {a b : Int} (hP : a = (P.length : Int)) : ∀ (R A : List Int) (k : Nat) (i : Int), i = a + A.length → b = i + R.length → (P.length + A.length + R.length + S.length : Int) ≤ 1000000 → (∀ x ∈ A, Dm x) → (∀ x ∈ R, Dm x) → (∀ x ∈ A, ∀ y ∈ R, x < y) → R.Pairwise (· < ·) → Srt T A → (R.length + 1) * (A.length + R.length + 30) ≤ k →
    ∃ M, Srt T M ∧ M.Perm (A ++ R) ∧ slices_insertionSortCmpFunc_int.l0 k (P ++ (A ++ (R ++ S))) a b i = some (P ++ (M ++ S)) := by
  intro R
  induction R with
  | nil =>
    intro A k i hi hb hl hA hR hlt hp hs hk
    obtain ⟨k, rfl⟩ : ∃ m, k = m + 1 := ⟨k - 1, by simp at hk; omega⟩
    refine ⟨A, hs, by simp, ?_⟩
    simp only [slices_insertionSortCmpFunc_int.l0]
    rw [if_neg (by simp at hb; omega)]
    simp
  | cons v R ih =>
    intro A k i hi hb hl hA hR hlt hp hs hk
    have hk2 : (R.length + 1) * (A.length + R.length + 31) + (A.length + R.length + 31) ≤ k := by
      have e : (v :: R).length = R.length + 1 := rfl
      have e2 : A.length + (R.length + 1) + 30 = A.length + R.length + 31 := by omega
      rw [e, e2, Nat.add_mul, Nat.one_mul] at hk
      exact hk
    clear hk
    obtain ⟨K, hK⟩ : ∃ K, (R.length + 1) * (A.length + R.length + 31) = K := ⟨_, rfl⟩
    rw [hK] at hk2
    obtain ⟨k, rfl⟩ : ∃ m, k = m + 1 := ⟨k - 1, by omega⟩
    simp only [slices_insertionSortCmpFunc_int.l0]
    simp only [List.length_cons] at hb hl
    rw [if_pos (by omega)]
    obtain ⟨A', hA', hpm, k', hk', he⟩ := insL H (P := P) (R := R ++ S) (a := a) (b := b) (i := i) (by simp; omega) hP (by omega) (by omega) A [] v k i hi (by simp; omega) (hR v (by simp)) (fun x hx => ⟨hA x hx, hlt x hx v (by simp)⟩) (by simp) (by simpa using hs) (by omega)
    have hl' : A'.length = A.length + 1 := by rw [hpm.length_eq]; simp
    have hmem : ∀ x, x ∈ A' → x ∈ A ∨ x = v := fun x hx => by
      have := hpm.mem_iff.1 hx
      simpa using this
    rw [show P ++ (A ++ (v :: R ++ S)) = P ++ (A ++ (v :: ([] ++ (R ++ S)))) by simp, he, wid (by omega) (by omega)]
    obtain ⟨M, hM, hMp, hMe⟩ := ih A' k' (i + 1) (by omega) (by omega) (by omega) (fun x hx => by
      rcases hmem x hx with h | h
      · exact hA x h
      · subst h; exact hR x (by simp)) (fun x hx => hR x (by simp [hx])) (fun x hx y hy => by
      rcases hmem x hx with h | h
      · exact hlt x h y (by simp [hy])
      · subst h; exact (List.pairwise_cons.1 hp).1 y hy) (List.pairwise_cons.1 hp).2 hA' (by rw [hl', show A.length + 1 + R.length + 30 = A.length + R.length + 31 by omega, hK]; omega)
    refine ⟨M, hM, hMp.trans ?_, hMe⟩
    refine (hpm.append_right R).trans ?_
    simp
theorem insF (H : Cmp Dm T) {P M S : List Int} {a b : Int} (k : Nat) (hP : a = (P.length : Int)) (hb : b = a + M.length) (hl : (P.length + M.length + S.length : Int) ≤ 1000000) (hD : ∀ x ∈ M, Dm x) (hp : M.Pairwise (· < ·)) (hk : (M.length + 1) * (M.length + 30) ≤ k) :
    ∃ N, Srt T N ∧ N.Perm M ∧ slices_insertionSortCmpFunc_int.f k (P ++ (M ++ S)) a b = some (P ++ (N ++ S)) := by
  unfold slices_insertionSortCmpFunc_int.f
  rw [wid (by omega) (by omega)]
  cases M with
  | nil =>
    have : 30 ≤ k := by simpa using hk
    obtain ⟨k, rfl⟩ : ∃ m, k = m + 1 := ⟨k - 1, by omega⟩
    refine ⟨[], List.Pairwise.nil, List.Perm.refl _, ?_⟩
    simp only [slices_insertionSortCmpFunc_int.l0]
    rw [if_neg (by simp at hb; omega)]
  | cons v R =>
    have hk2 : (R.length + 1) * ([v].length + R.length + 30) ≤ k := by
      refine Nat.le_trans (Nat.mul_le_mul (show R.length + 1 ≤ (v :: R).length + 1 by simp) (show [v].length + R.length + 30 ≤ (v :: R).length + 30 by simp; omega)) hk
    obtain ⟨N, h1, h2, h3⟩ := insO H (P := P) (S := S) (a := a) (b := b) hP R [v] k (a + 1) (by simp) (by simp at hb; omega) (by simp at hl ⊢; omega) (fun x hx => hD x (by simp at hx; simp [hx])) (fun x hx => hD x (by simp [hx])) (fun x hx y hy => by simp at hx; subst hx; exact (List.pairwise_cons.1 hp).1 y hy) (List.pairwise_cons.1 hp).2 (by simp) hk2
    exact ⟨N, h1, by simpa using h2, by simpa using h3⟩
end
end Go.Proofs.Ytemlhkognjhgbaa.PAll
