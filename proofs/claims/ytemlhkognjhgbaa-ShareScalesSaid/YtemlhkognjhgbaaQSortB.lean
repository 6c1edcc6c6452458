/- The stable sort of places, second part: two sorted neighbours merged in place. No program in sight. -/
import Derived.Test.YtemlhkognjhgbaaQSortA
namespace Go.Proofs.Ytemlhkognjhgbaa.PAll
open Go Go.RowKit Go.Proofs.YtemlhkognjhgbaaW.PrintWords Go.Proofs.YtemlhkognjhgbaaW.PrintLast Go.Proofs.YtemlhkognjhgbaaW.PrintMore
set_option linter.unusedVariables false
set_option linter.unusedSimpArgs false
set_option linter.unusedSectionVars false

/-- a search by halves finds the border of what holds at first and not later -/
theorem bsearch {α : Type} (g : Nat → Int → Int → Option α) (fin : Nat → Int → Option α) (D : Int → Prop) (lo hi : Int) (k0 : Nat)
    (stepT : ∀ k i j, k0 ≤ k → lo ≤ i → i < j → j ≤ hi → D ((i + j) / 2) → g (k + 1) i j = g k ((i + j) / 2 + 1) j)
    (stepF : ∀ k i j, k0 ≤ k → lo ≤ i → i < j → j ≤ hi → ¬ D ((i + j) / 2) → g (k + 1) i j = g k i ((i + j) / 2))
    (stepE : ∀ k i, k0 ≤ k → lo ≤ i → i ≤ hi → g (k + 1) i i = fin k i) (mono : ∀ h h', lo ≤ h → h ≤ h' → h' < hi → D h' → D h) :
    ∀ (d k : Nat) (i j : Int), j - i = d → lo ≤ i → j ≤ hi → (∀ h, lo ≤ h → h < i → D h) → (∀ h, j ≤ h → h < hi → ¬ D h) → d + k0 + 1 ≤ k →
      ∃ p k', i ≤ p ∧ p ≤ j ∧ (∀ h, lo ≤ h → h < p → D h) ∧ (∀ h, p ≤ h → h < hi → ¬ D h) ∧ k ≤ k' + d + 1 ∧ k0 ≤ k' ∧ g k i j = fin k' p := by
  intro d
  induction d using Nat.strongRecOn with
  | _ d ih =>
  intro k i j hd hi0 hj hl hr hk
  obtain ⟨k, rfl⟩ : ∃ m, k = m + 1 := ⟨k - 1, by omega⟩
  by_cases c : d = 0
  · obtain rfl : i = j := by omega
    exact ⟨i, k, by omega, by omega, hl, hr, by omega, by omega, stepE k i (by omega) hi0 (by omega)⟩
  · by_cases hD : D ((i + j) / 2)
    · obtain ⟨p, k', h1, h2, h3, h4, h5, h6, h7⟩ := ih (j - ((i + j) / 2 + 1)).toNat (by omega) k ((i + j) / 2 + 1) j (by omega) (by omega) hj (fun h a b => mono h ((i + j) / 2) a (by omega) (by omega) hD) hr (by omega)
      exact ⟨p, k', by omega, h2, h3, h4, by omega, h6, by rw [stepT k i j (by omega) hi0 (by omega) hj hD]; exact h7⟩
    · obtain ⟨p, k', h1, h2, h3, h4, h5, h6, h7⟩ := ih ((i + j) / 2 - i).toNat (by omega) k i ((i + j) / 2) (by omega) hi0 (by omega) hl (fun h a b hh => hD (mono _ h (by omega) a b hh)) (by omega)
      exact ⟨p, k', h1, by omega, h3, h4, by omega, h6, by rw [stepF k i j (by omega) hi0 (by omega) hj hD]; exact h7⟩

theorem rd_seg {x P B S : List Int} {h : Int} {i : Nat} (hx : x = P ++ (B ++ S)) (hi : i < B.length) (hh : h = (P.length : Int) + i) : rd x h = B.getD i 0 := by
  subst hx; subst hh
  have e : ((P.length : Int) + (i : Int)).toNat = P.length + i := by omega
  unfold rd
  rw [e, List.getD_eq_getElem?_getD, List.getD_eq_getElem?_getD, List.getElem?_append_right (by omega), Nat.add_sub_cancel_left, List.getElem?_append_left hi]
theorem getD_mem {B : List Int} {i : Nat} (hi : i < B.length) : B.getD i 0 ∈ B := by
  rw [List.getD_eq_getElem?_getD, List.getElem?_eq_getElem hi]
  exact List.getElem_mem hi
theorem srt_getD {T : Int → Int → Prop} {B : List Int} (h : Srt T B) {i j : Nat} (hij : i < j) (hj : j < B.length) : T (B.getD i 0) (B.getD j 0) := by
  have := List.pairwise_iff_getElem.1 h i j (by omega) hj hij
  rw [List.getD_eq_getElem?_getD, List.getD_eq_getElem?_getD, List.getElem?_eq_getElem (by omega), List.getElem?_eq_getElem hj]
  exact this
theorem mem_take_getD {B : List Int} {n : Nat} {y : Int} (h : y ∈ B.take n) : ∃ i, i < n ∧ i < B.length ∧ y = B.getD i 0 := by
  obtain ⟨i, hi, e⟩ := List.getElem_of_mem h
  simp only [List.length_take] at hi
  refine ⟨i, by omega, by omega, ?_⟩
  rw [← e, List.getElem_take, List.getD_eq_getElem?_getD, List.getElem?_eq_getElem (by omega)]
  rfl
theorem mem_drop_getD {B : List Int} {n : Nat} {y : Int} (h : y ∈ B.drop n) : ∃ i, n ≤ i ∧ i < B.length ∧ y = B.getD i 0 := by
  obtain ⟨i, hi, e⟩ := List.getElem_of_mem h
  simp only [List.length_drop] at hi
  refine ⟨n + i, by omega, by omega, ?_⟩
  rw [← e, List.getElem_drop, List.getD_eq_getElem?_getD, List.getElem?_eq_getElem (by omega)]
  rfl

section
variable [CapU] {Dm : Int → Prop} {T : Int → Int → Prop}

/-! ### one that goes up among those behind it -/
theorem upL {P R : List Int} {i : Int} (hi : i ≤ 1000000) : ∀ (B1 C : List Int) (u : Int) (k : Nat) (j : Int), j = (P.length : Int) + C.length → i = j + B1.length + 1 → B1.length < k →
    slices_symMergeCmpFunc_int.l1 k (P ++ (C ++ (u :: (B1 ++ R)))) i j = some (P ++ (C ++ (B1 ++ (u :: R)))) := by
  intro B1
  induction B1 with
  | nil =>
    intro C u k j hj h2 hk
    obtain ⟨k, rfl⟩ : ∃ m, k = m + 1 := ⟨k - 1, by omega⟩
    simp only [slices_symMergeCmpFunc_int.l1]
    simp only [List.length_nil] at h2
    rw [wid (by omega) (by omega), if_neg (by omega)]
    simp
  | cons y B1 ih =>
    intro C u k j hj h2 hk
    obtain ⟨k, rfl⟩ : ∃ m, k = m + 1 := ⟨k - 1, by omega⟩
    simp only [List.length_cons] at h2 hk
    have hx1 : P ++ (C ++ (u :: (y :: B1 ++ R))) = (P ++ C) ++ u :: (y :: (B1 ++ R)) := by simp
    have hx2 : P ++ (C ++ (u :: (y :: B1 ++ R))) = (P ++ C ++ [u]) ++ y :: (B1 ++ R) := by simp
    have len : ((P ++ (C ++ (u :: (y :: B1 ++ R)))).length : Int) = P.length + C.length + B1.length + R.length + 2 := by simp; omega
    have e1 : j = ((P ++ C).length : Int) := by simp; omega
    have e2 : wrap64 (j + 1) = ((P ++ C ++ [u]).length : Int) := by rw [wid (by omega) (by omega)]; simp; omega
    simp only [slices_symMergeCmpFunc_int.l1]
    rw [wid (x := i - 1) (by omega) (by omega), if_pos (by omega), e2, len, if_pos (by omega), if_pos (by simp; omega), if_pos (by omega), if_pos (by omega), rd_of hx2 rfl, rd_of hx1 e1, set_of hx1 (by omega)]
    have hx3 : (P ++ C) ++ y :: (y :: (B1 ++ R)) = (P ++ C ++ [y]) ++ y :: (B1 ++ R) := by simp
    rw [set_of hx3 (by simp; omega)]
    have hlc : ((P ++ C ++ [u]).length : Int) = P.length + C.length + 1 := by simp; omega
    have := ih (C ++ [y]) u k ((P ++ C ++ [u]).length : Int) (by rw [hlc, List.length_append]; simp; try omega) (by rw [hlc]; omega) (by omega)
    have e4 : (P ++ C ++ [y]) ++ u :: (B1 ++ R) = P ++ (C ++ [y] ++ u :: (B1 ++ R)) := by simp
    rw [e4, this]
    simp
/-! ### one that goes down -/
theorem downL {P A1 : List Int} {i : Int} (hi0 : i = (P.length : Int) + A1.length) : ∀ (n : Nat) (A2 R : List Int) (v : Int) (k : Nat) (j : Int), A2.length = n → j = i + A2.length → j ≤ 1000000 → A2.length < k →
    slices_symMergeCmpFunc_int.l3 k (P ++ (A1 ++ (A2 ++ (v :: R)))) i j = some (P ++ (A1 ++ (v :: (A2 ++ R)))) := by
  intro n
  induction n with
  | zero =>
    intro A2 R v k j hn hj hj2 hk
    obtain ⟨k, rfl⟩ : ∃ m, k = m + 1 := ⟨k - 1, by omega⟩
    obtain rfl : A2 = [] := List.eq_nil_of_length_eq_zero hn
    simp only [slices_symMergeCmpFunc_int.l3]
    rw [if_neg (by simp at hj; omega)]
    simp
  | succ n ih =>
    intro A2 R v k j hn hj hj2 hk
    obtain ⟨k, rfl⟩ : ∃ m, k = m + 1 := ⟨k - 1, by omega⟩
    obtain ⟨B, z, rfl⟩ : ∃ B z, A2 = B ++ [z] := by
      rcases List.eq_nil_or_concat A2 with e | ⟨q, z, e⟩
      · subst e; simp at hn
      · exact ⟨q, z, by simpa using e⟩
    have hB : B.length = n := by simpa using hn
    have hl2 : ((B ++ [z]).length : Int) = B.length + 1 := by simp
    rw [hl2] at hj
    have hx1 : P ++ (A1 ++ (B ++ [z] ++ (v :: R))) = (P ++ A1 ++ B ++ [z]) ++ v :: R := by simp
    have hx2 : P ++ (A1 ++ (B ++ [z] ++ (v :: R))) = (P ++ A1 ++ B) ++ z :: (v :: R) := by simp
    have len : ((P ++ (A1 ++ (B ++ [z] ++ (v :: R)))).length : Int) = P.length + A1.length + B.length + R.length + 2 := by simp; omega
    have e1 : j = ((P ++ A1 ++ B ++ [z]).length : Int) := by simp; omega
    have e2 : wrap64 (j - 1) = ((P ++ A1 ++ B).length : Int) := by rw [wid (by omega) (by omega)]; simp; omega
    simp only [slices_symMergeCmpFunc_int.l3]
    rw [if_pos (by omega), e2, len, if_pos (by omega), if_pos (by simp; omega), if_pos (by omega), if_pos (by omega), rd_of hx2 rfl, rd_of hx1 e1, set_of hx1 (by omega)]
    have hx3 : (P ++ A1 ++ B ++ [z]) ++ z :: R = (P ++ A1 ++ B) ++ z :: (z :: R) := by simp
    rw [set_of hx3 (by simp; omega)]
    have := ih B (z :: R) v k ((P ++ A1 ++ B).length : Int) hB (by simp; omega) (by simp; omega) (by simp at hk; omega)
    have e4 : (P ++ A1 ++ B) ++ v :: (z :: R) = P ++ (A1 ++ (B ++ (v :: (z :: R)))) := by simp
    rw [e4, this]
    simp
/-! ### a first row of one -/
theorem symOneA (H : Cmp Dm T) {P B S : List Int} {u a m b : Int} (k : Nat) (ha : a = (P.length : Int)) (hm : m = a + 1) (hb : b = m + B.length) (hl : (P.length : Int) + B.length + S.length ≤ 100000) (hB : Srt T B) (hu : Dm u) (hBD : ∀ y ∈ B, Dm y ∧ u < y) (hk : 2 * B.length + 20 ≤ k) :
    ∃ M, Srt T M ∧ M.Perm (u :: B) ∧ slices_symMergeCmpFunc_int.l0 k (P ++ (u :: (B ++ S))) a m b = some (P ++ (M ++ S)) := by
  obtain ⟨x, hx⟩ : ∃ x, x = P ++ (u :: (B ++ S)) := ⟨_, rfl⟩
  have hxB : x = (P ++ [u]) ++ (B ++ S) := by rw [hx]; simp
  have len : (x.length : Int) = P.length + B.length + S.length + 1 := by rw [hx]; simp; omega
  have hru : rd x a = u := rd_of hx ha
  have hrB : ∀ h, m ≤ h → h < b → rd x h = B.getD (h - m).toNat 0 := fun h h1 h2 => rd_seg hxB (by omega) (by simp; omega)
  obtain ⟨p, k', hp1, hp2, hp3, hp4, hk', hk0, he⟩ := bsearch (g := fun k i j => slices_symMergeCmpFunc_int.l0 k x a i j) (fin := fun k p => slices_symMergeCmpFunc_int.l1 k x p a) (D := fun h => T (rd x h) u) m b (B.length + 11)
    (fun k i j h0 h1 h2 h3 hD => by
      have hmid := half64 (x := i + j) (by omega) (by omega)
      have hy := hBD _ (getD_mem (B := B) (i := ((i + j) / 2 - m).toNat) (by omega))
      rw [← hrB _ (by omega) (by omega)] at hy
      obtain ⟨c, hc, hcT⟩ := H.cmp k (rd x ((i + j) / 2)) u (by omega) hy.1 hu hy.2
      simp only [slices_symMergeCmpFunc_int.l0]
      rw [if_pos h2, hmid, if_pos (by omega), if_pos (by omega), if_pos (by omega), if_pos (by omega), hru, hc]
      simp only [Option.bind_some]
      rw [if_pos (hcT.2 hD), wid (by omega) (by omega)])
    (fun k i j h0 h1 h2 h3 hD => by
      have hmid := half64 (x := i + j) (by omega) (by omega)
      have hy := hBD _ (getD_mem (B := B) (i := ((i + j) / 2 - m).toNat) (by omega))
      rw [← hrB _ (by omega) (by omega)] at hy
      obtain ⟨c, hc, hcT⟩ := H.cmp k (rd x ((i + j) / 2)) u (by omega) hy.1 hu hy.2
      simp only [slices_symMergeCmpFunc_int.l0]
      rw [if_pos h2, hmid, if_pos (by omega), if_pos (by omega), if_pos (by omega), if_pos (by omega), hru, hc]
      simp only [Option.bind_some]
      rw [if_neg (fun hh => hD (hcT.1 hh))])
    (fun k i h0 h1 h2 => by
      simp only [slices_symMergeCmpFunc_int.l0]
      rw [if_neg (by omega)])
    (fun h h' h1 h2 h3 hD => by
      by_cases c : h = h'
      · subst c; exact hD
      · have hs := srt_getD hB (i := (h - m).toNat) (j := (h' - m).toNat) (by omega) (by omega)
        rw [← hrB _ (by omega) (by omega), ← hrB _ (by omega) (by omega)] at hs
        have m1 := hBD _ (getD_mem (B := B) (i := (h - m).toNat) (by omega))
        have m2 := hBD _ (getD_mem (B := B) (i := (h' - m).toNat) (by omega))
        rw [← hrB _ (by omega) (by omega)] at m1 m2
        exact H.trans _ _ _ m1.1 m2.1 hu hs hD)
    B.length k m b (by omega) (by omega) (by omega) (fun h a b => by omega) (fun h a b => by omega) (by omega)
  have hBs : B = B.take (p - m).toNat ++ B.drop (p - m).toNat := (List.take_append_drop _ _).symm
  have l1 : (B.take (p - m).toNat).length = (p - m).toNat := by simp; omega
  have t1 : ∀ y ∈ B.take (p - m).toNat, T y u := fun y hy => by
    obtain ⟨i, h1, h2, e⟩ := mem_take_getD hy
    have := hp3 (m + i) (by omega) (by omega)
    rw [hrB _ (by omega) (by omega), show (m + (i : Int) - m).toNat = i by omega, ← e] at this
    exact this
  have t2 : ∀ y ∈ B.drop (p - m).toNat, T u y := fun y hy => by
    obtain ⟨i, h1, h2, e⟩ := mem_drop_getD hy
    have h3 := hp4 (m + i) (by omega) (by omega)
    rw [hrB _ (by omega) (by omega), show (m + (i : Int) - m).toNat = i by omega, ← e] at h3
    have hm := hBD y (by rw [e]; exact getD_mem h2)
    exact H.other hm.1 hu (by omega) h3
  have hBD1 : ∀ y ∈ B.take (p - m).toNat, Dm y := fun y hy => (hBD y (List.mem_of_mem_take hy)).1
  have hBD2 : ∀ y ∈ B.drop (p - m).toNat, Dm y := fun y hy => (hBD y (List.mem_of_mem_drop hy)).1
  have hsB := hB
  rw [hBs] at hsB
  refine ⟨B.take (p - m).toNat ++ u :: B.drop (p - m).toNat, ?_, ?_, ?_⟩
  · unfold Srt at hsB ⊢
    rw [List.pairwise_append] at hsB ⊢
    refine ⟨hsB.1, List.pairwise_cons.2 ⟨t2, hsB.2.1⟩, fun y hy z hz => ?_⟩
    rcases List.mem_cons.1 hz with e | hz
    · subst e; exact t1 y hy
    · exact hsB.2.2 y hy z hz
  · have : (B.take (p - m).toNat ++ u :: B.drop (p - m).toNat).Perm (u :: (B.take (p - m).toNat ++ B.drop (p - m).toNat)) := List.perm_middle
    rwa [← hBs] at this
  · have he : slices_symMergeCmpFunc_int.l0 k x a m b = slices_symMergeCmpFunc_int.l1 k' x p a := he
    rw [← hx, he]
    have hup := upL (P := P) (R := B.drop (p - m).toNat ++ S) (i := p) (by omega) (B.take (p - m).toNat) [] u k' a (by simp; omega) (by omega) (by omega)
    have hx5 : x = P ++ ([] ++ u :: (B.take (p - m).toNat ++ (B.drop (p - m).toNat ++ S))) := by
      rw [hx, ← List.append_assoc (B.take _), ← hBs]; rfl
    rw [hx5, hup]
    simp
/-! ### a second row of one -/
theorem symOneB (H : Cmp Dm T) {P A S : List Int} {v a m : Int} (k : Nat) (ha : a = (P.length : Int)) (hm : m = a + A.length) (hl : (P.length : Int) + A.length + S.length ≤ 100000) (hA : Srt T A) (hv : Dm v) (hAD : ∀ y ∈ A, Dm y ∧ y < v) (hk : 2 * A.length + 20 ≤ k) :
    ∃ M, Srt T M ∧ M.Perm (A ++ [v]) ∧ slices_symMergeCmpFunc_int.l2 k (P ++ (A ++ (v :: S))) m a m = some (P ++ (M ++ S)) := by
  obtain ⟨x, hx⟩ : ∃ x, x = P ++ (A ++ (v :: S)) := ⟨_, rfl⟩
  have hxv : x = (P ++ A) ++ v :: S := by rw [hx]; simp
  have len : (x.length : Int) = P.length + A.length + S.length + 1 := by rw [hx]; simp; omega
  have hrv : rd x m = v := rd_of hxv (by simp; omega)
  have hrA : ∀ h, a ≤ h → h < m → rd x h = A.getD (h - a).toNat 0 := fun h h1 h2 => rd_seg hx (by omega) (by omega)
  obtain ⟨p, k', hp1, hp2, hp3, hp4, hk', hk0, he⟩ := bsearch (g := fun k i j => slices_symMergeCmpFunc_int.l2 k x m i j) (fin := fun k p => slices_symMergeCmpFunc_int.l3 k x p m) (D := fun h => ¬ T v (rd x h)) a m (A.length + 11)
    (fun k i j h0 h1 h2 h3 hD => by
      have hmid := half64 (x := i + j) (by omega) (by omega)
      have hy := hAD _ (getD_mem (B := A) (i := ((i + j) / 2 - a).toNat) (by omega))
      rw [← hrA _ (by omega) (by omega)] at hy
      obtain ⟨c, hc, hcT⟩ := H.cmp k v (rd x ((i + j) / 2)) (by omega) hv hy.1 hy.2
      simp only [slices_symMergeCmpFunc_int.l2]
      rw [if_pos h2, hmid, if_pos (by omega), if_pos (by omega), if_pos (by omega), if_pos (by omega), hrv, hc]
      simp only [Option.bind_some]
      rw [if_neg (fun hh => hD (hcT.1 hh)), wid (by omega) (by omega)])
    (fun k i j h0 h1 h2 h3 hD => by
      have hmid := half64 (x := i + j) (by omega) (by omega)
      have hy := hAD _ (getD_mem (B := A) (i := ((i + j) / 2 - a).toNat) (by omega))
      rw [← hrA _ (by omega) (by omega)] at hy
      obtain ⟨c, hc, hcT⟩ := H.cmp k v (rd x ((i + j) / 2)) (by omega) hv hy.1 hy.2
      simp only [slices_symMergeCmpFunc_int.l2]
      rw [if_pos h2, hmid, if_pos (by omega), if_pos (by omega), if_pos (by omega), if_pos (by omega), hrv, hc]
      simp only [Option.bind_some]
      rw [if_pos (hcT.2 (Classical.byContradiction fun hh => hD hh))])
    (fun k i h0 h1 h2 => by
      simp only [slices_symMergeCmpFunc_int.l2]
      rw [if_neg (by omega)])
    (fun h h' h1 h2 h3 hD => by
      by_cases c : h = h'
      · subst c; exact hD
      · have hs := srt_getD hA (i := (h - a).toNat) (j := (h' - a).toNat) (by omega) (by omega)
        rw [← hrA _ (by omega) (by omega), ← hrA _ (by omega) (by omega)] at hs
        have m1 := hAD _ (getD_mem (B := A) (i := (h - a).toNat) (by omega))
        have m2 := hAD _ (getD_mem (B := A) (i := (h' - a).toNat) (by omega))
        rw [← hrA _ (by omega) (by omega)] at m1 m2
        exact fun hh => hD (H.trans _ _ _ hv m1.1 m2.1 hh hs))
    A.length k a m (by omega) (by omega) (by omega) (fun h a b => by omega) (fun h a b => by omega) (by omega)
  have hAs : A = A.take (p - a).toNat ++ A.drop (p - a).toNat := (List.take_append_drop _ _).symm
  have l1 : (A.take (p - a).toNat).length = (p - a).toNat := by simp; omega
  have l2 : (A.drop (p - a).toNat).length = A.length - (p - a).toNat := by simp
  have t1 : ∀ y ∈ A.take (p - a).toNat, T y v := fun y hy => by
    obtain ⟨i, h1, h2, e⟩ := mem_take_getD hy
    have h3 := hp3 (a + i) (by omega) (by omega)
    rw [hrA _ (by omega) (by omega), show (a + (i : Int) - a).toNat = i by omega, ← e] at h3
    have hm := hAD y (by rw [e]; exact getD_mem h2)
    exact H.other hv hm.1 (by omega) h3
  have t2 : ∀ y ∈ A.drop (p - a).toNat, T v y := fun y hy => by
    obtain ⟨i, h1, h2, e⟩ := mem_drop_getD hy
    have h3 := hp4 (a + i) (by omega) (by omega)
    rw [hrA _ (by omega) (by omega), show (a + (i : Int) - a).toNat = i by omega, ← e] at h3
    exact Classical.byContradiction fun hh => h3 hh
  have hsA := hA
  rw [hAs] at hsA
  refine ⟨A.take (p - a).toNat ++ v :: A.drop (p - a).toNat, ?_, ?_, ?_⟩
  · unfold Srt at hsA ⊢
    rw [List.pairwise_append] at hsA ⊢
    refine ⟨hsA.1, List.pairwise_cons.2 ⟨t2, hsA.2.1⟩, fun y hy z hz => ?_⟩
    rcases List.mem_cons.1 hz with e | hz
    · subst e; exact t1 y hy
    · exact hsA.2.2 y hy z hz
  · have h1 : (A.take (p - a).toNat ++ v :: A.drop (p - a).toNat).Perm (v :: (A.take (p - a).toNat ++ A.drop (p - a).toNat)) := List.perm_middle
    rw [← hAs] at h1
    exact h1.trans (List.perm_append_comm (l₁ := [v]) (l₂ := A))
  · have he : slices_symMergeCmpFunc_int.l2 k x m a m = slices_symMergeCmpFunc_int.l3 k' x p m := he
    rw [← hx, he]
    have hdn := downL (P := P) (A1 := A.take (p - a).toNat) (i := p) (by omega) _ (A.drop (p - a).toNat) S v k' m rfl (by omega) (by omega) (by omega)
    have hx5 : x = P ++ (A.take (p - a).toNat ++ (A.drop (p - a).toNat ++ (v :: S))) := by
      rw [hx, ← List.append_assoc (A.take _), ← hAs]
    rw [hx5, hdn]
    simp
end
end Go.Proofs.Ytemlhkognjhgbaa.PAll
