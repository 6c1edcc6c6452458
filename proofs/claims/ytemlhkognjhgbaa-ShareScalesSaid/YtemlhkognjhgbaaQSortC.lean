/- The stable sort of places, third part: the merge of two sorted neighbours of any length, and the sort of at most 60. No program in sight. -/
import Derived.Test.YtemlhkognjhgbaaQSortB
import Derived.Test.YtemlhkognjhgbaaPAllx10
namespace Go.Proofs.Ytemlhkognjhgbaa.PAll
open Go Go.RowKit Go.Proofs.YtemlhkognjhgbaaW.PrintWords Go.Proofs.YtemlhkognjhgbaaW.PrintLast Go.Proofs.YtemlhkognjhgbaaW.PrintMore
set_option linter.unusedVariables false
set_option linter.unusedSimpArgs false
set_option linter.unusedSectionVars false
section
variable [CapU] {Dm : Int → Prop} {T : Int → Int → Prop}

/-- What is shown of the merge, by the length of both. -/
def SymOk (Dm : Int → Prop) (T : Int → Int → Prop) (d : Nat) : Prop :=
  ∀ (P A B S : List Int) (k : Nat) (a m b : Int), A.length + B.length = d → 0 < A.length → 0 < B.length → a = (P.length : Int) → m = a + A.length → b = m + B.length → (P.length : Int) + d + S.length ≤ 10000 → d ≤ 100 →
    Srt T A → Srt T B → (∀ x ∈ A, Dm x) → (∀ y ∈ B, Dm y) → (∀ x ∈ A, ∀ y ∈ B, x < y) → 400 * (d + 1) ≤ k →
    ∃ M, Srt T M ∧ M.Perm (A ++ B) ∧ slices_symMergeCmpFunc_int.f k (P ++ (A ++ (B ++ S))) a m b = some (P ++ (M ++ S))
/-- one half of the merge: called where both parts are not empty -/
theorem symHalf {A B P S : List Int} {a m b : Int} {k d : Nat} (ih : ∀ e, e < d → SymOk Dm T e) (hd : A.length + B.length < d) (hd2 : d ≤ 100) (ha : a = (P.length : Int)) (hm : m = a + A.length) (hb : b = m + B.length) (hl : (P.length : Int) + A.length + B.length + S.length ≤ 10000)
    (hA : Srt T A) (hB : Srt T B) (hDA : ∀ x ∈ A, Dm x) (hDB : ∀ y ∈ B, Dm y) (hlt : ∀ x ∈ A, ∀ y ∈ B, x < y) (hk : 400 * d ≤ k) :
    ∃ M, Srt T M ∧ M.Perm (A ++ B) ∧ ((a < m ∧ m < b) → slices_symMergeCmpFunc_int.f k (P ++ (A ++ (B ++ S))) a m b = some (P ++ (M ++ S))) ∧ (¬ (a < m ∧ m < b) → P ++ (A ++ (B ++ S)) = P ++ (M ++ S)) := by
  by_cases c : a < m ∧ m < b
  · obtain ⟨M, h1, h2, h3⟩ := ih (A.length + B.length) hd P A B S k a m b rfl (by omega) (by omega) ha hm hb (by omega) (by omega) hA hB hDA hDB hlt (by omega)
    exact ⟨M, h1, h2, fun _ => h3, fun h => absurd c h⟩
  · refine ⟨A ++ B, ?_, List.Perm.refl _, fun h => absurd h c, fun _ => by simp⟩
    rcases Nat.eq_zero_or_pos A.length with h0 | h0
    · obtain rfl := List.eq_nil_of_length_eq_zero h0
      simpa using hB
    · have h0 : B.length = 0 := by omega
      obtain rfl := List.eq_nil_of_length_eq_zero h0
      simpa using hA
/-- behind the rotation: both halves -/
theorem symTail {A1 B1 A2 B2 P S : List Int} {a b s e mid : Int} {k d : Nat} (ih : ∀ e, e < d → SymOk Dm T e) (hd2 : d ≤ 100) (h1 : A1.length + B1.length < d) (h2 : A2.length + B2.length < d) (ha : a = (P.length : Int)) (hs : s = a + A1.length) (hmid : mid = s + B1.length) (he : e = mid + A2.length) (hb : b = e + B2.length)
    (hl : (P.length : Int) + A1.length + B1.length + A2.length + B2.length + S.length ≤ 10000) (sA1 : Srt T A1) (sB1 : Srt T B1) (sA2 : Srt T A2) (sB2 : Srt T B2) (dA1 : ∀ x ∈ A1, Dm x) (dB1 : ∀ x ∈ B1, Dm x) (dA2 : ∀ x ∈ A2, Dm x) (dB2 : ∀ x ∈ B2, Dm x)
    (l1 : ∀ x ∈ A1, ∀ y ∈ B1, x < y) (l2 : ∀ x ∈ A2, ∀ y ∈ B2, x < y) (hT : ∀ x ∈ A1 ++ B1, ∀ y ∈ A2 ++ B2, T x y) (hk : 400 * d + 2 ≤ k) :
    ∃ M, Srt T M ∧ M.Perm ((A1 ++ B1) ++ (A2 ++ B2)) ∧ slices_symMergeCmpFunc_int.j7 k (P ++ (A1 ++ (B1 ++ (A2 ++ (B2 ++ S))))) a b mid s e = some (P ++ (M ++ S)) := by
  obtain ⟨k, rfl⟩ : ∃ m, k = m + 1 + 1 := ⟨k - 2, by omega⟩
  obtain ⟨M1, m1, p1, f1, g1⟩ := symHalf (A := A1) (B := B1) (P := P) (S := A2 ++ (B2 ++ S)) (a := a) (m := s) (b := mid) (k := k) ih h1 hd2 ha hs hmid (by simp; omega) sA1 sB1 dA1 dB1 l1 (by omega)
  have hM1 : M1.length = A1.length + B1.length := by rw [p1.length_eq]; simp
  obtain ⟨M2, m2, p2, f2, g2⟩ := symHalf (A := A2) (B := B2) (P := P ++ M1) (S := S) (a := mid) (m := e) (b := b) (k := k) ih h2 hd2 (by simp; omega) he hb (by simp; omega) sA2 sB2 dA2 dB2 l2 (by omega)
  refine ⟨M1 ++ M2, ?_, p1.append p2, ?_⟩
  · unfold Srt at m1 m2 ⊢
    rw [List.pairwise_append]
    exact ⟨m1, m2, fun x hx y hy => hT x (p1.mem_iff.1 hx) y (p2.mem_iff.1 hy)⟩
  · have second : ∀ x, x = P ++ (M1 ++ (A2 ++ (B2 ++ S))) → (if mid < e then (if e < b then ((slices_symMergeCmpFunc_int.f k x mid e b).bind fun t147 => (some t147)) else (some x)) else (some x)) = some (P ++ (M1 ++ M2 ++ S)) := by
      intro x hx
      have hx' : x = (P ++ M1) ++ (A2 ++ (B2 ++ S)) := by rw [hx]; simp
      have hy : (P ++ M1) ++ (M2 ++ S) = P ++ (M1 ++ M2 ++ S) := by simp
      by_cases c1 : mid < e
      · rw [if_pos c1]
        by_cases c2 : e < b
        · rw [if_pos c2, hx', f2 ⟨c1, c2⟩, hy]; rfl
        · rw [if_neg c2, hx', g2 (fun h => c2 h.2), hy]
      · rw [if_neg c1, hx', g2 (fun h => c1 h.1), hy]
    have step8 : ∀ q : Bool, (q = true ↔ (a < s ∧ s < mid)) → slices_symMergeCmpFunc_int.j8 (k + 1) (P ++ (A1 ++ (B1 ++ (A2 ++ (B2 ++ S))))) a b mid s e q = some (P ++ (M1 ++ M2 ++ S)) := by
      intro q hq
      simp only [slices_symMergeCmpFunc_int.j8]
      by_cases c : q = true
      · rw [if_pos c, f1 (hq.1 c)]
        simp only [Option.bind_some]
        exact second _ rfl
      · rw [if_neg c]
        exact second _ (g1 (fun h => c (hq.2 h)))
    rw [slices_symMergeCmpFunc_int.j7]
    by_cases c : a < s
    · rw [if_pos c]
      exact step8 _ (by simp [c])
    · rw [if_neg c]
      exact step8 _ (by simp [c])
theorem symF (H : Cmp Dm T) : ∀ d, SymOk Dm T d := by
  intro d
  induction d using Nat.strongRecOn with
  | _ d ih =>
  intro P A B S k a m b hd hA0 hB0 ha hm hb hl hd2 sA sB dA dB hlt hk
  obtain ⟨k, rfl⟩ : ∃ j, k = j + 1 := ⟨k - 1, by omega⟩
  rw [slices_symMergeCmpFunc_int.f, wid (x := m - a) (by omega) (by omega), wid (x := b - m) (by omega) (by omega)]
  by_cases c1 : m - a = 1
  · rw [if_pos c1]
    obtain ⟨u, rfl⟩ : ∃ u, A = [u] := by
      match A, hA0, (by omega : A.length = 1) with
      | [u], _, _ => exact ⟨u, rfl⟩
    exact symOneA H (P := P) (B := B) (S := S) (u := u) k ha (by omega) hb (by simp at hd; omega) sB (dA u (by simp)) (fun y hy => ⟨dB y hy, hlt u (by simp) y hy⟩) (by simp at hd; omega)
  rw [if_neg c1]
  by_cases c2 : b - m = 1
  · rw [if_pos c2]
    obtain ⟨v, rfl⟩ : ∃ v, B = [v] := by
      match B, hB0, (by omega : B.length = 1) with
      | [v], _, _ => exact ⟨v, rfl⟩
    exact symOneB H (P := P) (A := A) (S := S) (v := v) k ha hm (by simp at hd; omega) sA (dB v (by simp)) (fun y hy => ⟨dA y hy, hlt y hy v (by simp)⟩) (by simp at hd; omega)
  rw [if_neg c2]
  have hmid := half64 (x := a + b) (by omega) (by omega)
  obtain ⟨mid, hmd⟩ : ∃ q, (a + b) / 2 = q := ⟨_, rfl⟩
  have hmr : a < mid ∧ mid < b ∧ 2 * mid ≤ a + b ∧ a + b ≤ 2 * mid + 1 := by omega
  rw [hmid, hmd, wid (x := mid + m) (by omega) (by omega), wid (x := mid + m - b) (by omega) (by omega)]
  -- both ways come to the same search
  suffices main : ∀ (st r : Int), ((m > mid ∧ st = mid + m - b ∧ r = mid) ∨ (¬ m > mid ∧ st = a ∧ r = m)) →
      ∃ M, Srt T M ∧ M.Perm (A ++ B) ∧ slices_symMergeCmpFunc_int.j4 k (P ++ (A ++ (B ++ S))) a m b mid (mid + m) st r = some (P ++ (M ++ S)) by
    by_cases c : m > mid
    · rw [if_pos c]; exact main _ _ (.inl ⟨c, rfl, rfl⟩)
    · rw [if_neg c]; exact main _ _ (.inr ⟨c, rfl, rfl⟩)
  intro st r hst
  have hstr : a ≤ st ∧ st ≤ r ∧ r ≤ m ∧ r ≤ mid ∧ mid + m - b ≤ st := by omega
  obtain ⟨x, hx⟩ : ∃ x, x = P ++ (A ++ (B ++ S)) := ⟨_, rfl⟩
  have hxB : x = (P ++ A) ++ (B ++ S) := by rw [hx]; simp
  have len : (x.length : Int) = P.length + A.length + B.length + S.length := by rw [hx]; simp; omega
  have hrA : ∀ h, a ≤ h → h < m → rd x h = A.getD (h - a).toNat 0 := fun h h1 h2 => rd_seg hx (by omega) (by omega)
  have hrB : ∀ h, m ≤ h → h < b → rd x h = B.getD (h - m).toNat 0 := fun h h1 h2 => rd_seg hxB (by omega) (by simp; omega)
  obtain ⟨k, rfl⟩ : ∃ j, k = j + 1 := ⟨k - 1, by omega⟩
  rw [← hx]
  have e4 : slices_symMergeCmpFunc_int.j4 (k + 1) x a m b mid (mid + m) st r = slices_symMergeCmpFunc_int.l4 k x a m b mid (mid + m) st r (mid + m - 1) := by
    rw [slices_symMergeCmpFunc_int.j4, wid (by omega) (by omega)]
  rw [e4]
  have memA : ∀ h, a ≤ h → h < m → rd x h ∈ A := fun h h1 h2 => by rw [hrA h h1 h2]; exact getD_mem (by omega)
  have memB : ∀ h, m ≤ h → h < b → rd x h ∈ B := fun h h1 h2 => by rw [hrB h h1 h2]; exact getD_mem (by omega)
  have srtA : ∀ h h', a ≤ h → h < h' → h' < m → T (rd x h) (rd x h') := fun h h' h1 h2 h3 => by
    rw [hrA h h1 (by omega), hrA h' (by omega) h3]; exact srt_getD sA (by omega) (by omega)
  have srtB : ∀ h h', m ≤ h → h < h' → h' < b → T (rd x h) (rd x h') := fun h h' h1 h2 h3 => by
    rw [hrB h h1 (by omega), hrB h' (by omega) h3]; exact srt_getD sB (by omega) (by omega)
  obtain ⟨s, k', hp1, hp2, hp3, hp4, hk', hk0, hE⟩ := bsearch (g := fun k i j => slices_symMergeCmpFunc_int.l4 k x a m b mid (mid + m) i j (mid + m - 1))
    (fin := fun k p => if p < m then slices_symMergeCmpFunc_int.j6 k x a m b mid p (mid + m - p) (decide (m < mid + m - p)) else slices_symMergeCmpFunc_int.j6 k x a m b mid p (mid + m - p) false) (D := fun c => ¬ T (rd x (mid + m - 1 - c)) (rd x c)) st r 10
    (fun k i j h0 h1 h2 h3 hD => by
      have hh := half64 (x := i + j) (by omega) (by omega)
      have m1 := memB (mid + m - 1 - (i + j) / 2) (by omega) (by omega)
      have m2 := memA ((i + j) / 2) (by omega) (by omega)
      obtain ⟨c, hc, hcT⟩ := H.cmp k (rd x (mid + m - 1 - (i + j) / 2)) (rd x ((i + j) / 2)) h0 (dB _ m1) (dA _ m2) (hlt _ m2 _ m1)
      simp only [slices_symMergeCmpFunc_int.l4]
      rw [if_pos h2, hh, wid (x := mid + m - 1 - (i + j) / 2) (by omega) (by omega), if_pos (by omega), if_pos (by omega), if_pos (by omega), if_pos (by omega), hc]
      simp only [Option.bind_some]
      rw [if_neg (fun hh => hD (hcT.1 hh)), wid (by omega) (by omega)])
    (fun k i j h0 h1 h2 h3 hD => by
      have hh := half64 (x := i + j) (by omega) (by omega)
      have m1 := memB (mid + m - 1 - (i + j) / 2) (by omega) (by omega)
      have m2 := memA ((i + j) / 2) (by omega) (by omega)
      obtain ⟨c, hc, hcT⟩ := H.cmp k (rd x (mid + m - 1 - (i + j) / 2)) (rd x ((i + j) / 2)) h0 (dB _ m1) (dA _ m2) (hlt _ m2 _ m1)
      simp only [slices_symMergeCmpFunc_int.l4]
      rw [if_pos h2, hh, wid (x := mid + m - 1 - (i + j) / 2) (by omega) (by omega), if_pos (by omega), if_pos (by omega), if_pos (by omega), if_pos (by omega), hc]
      simp only [Option.bind_some]
      rw [if_pos (hcT.2 (Classical.byContradiction fun hh => hD hh))])
    (fun k i h0 h1 h2 => by
      simp only [slices_symMergeCmpFunc_int.l4]
      rw [if_neg (by omega)]
      rw [wid (x := mid + m - i) (by omega) (by omega)])
    (fun h h' h1 h2 h3 hD hT => by
      by_cases c : h = h'
      · subst c; exact hD hT
      · have m1 := memB (mid + m - 1 - h) (by omega) (by omega)
        have m1' := memB (mid + m - 1 - h') (by omega) (by omega)
        have m2 := memA h (by omega) (by omega)
        have m2' := memA h' (by omega) (by omega)
        have t1 := srtB (mid + m - 1 - h') (mid + m - 1 - h) (by omega) (by omega) (by omega)
        have t2 := srtA h h' (by omega) (by omega) (by omega)
        exact hD (H.trans _ _ _ (dB _ m1') (dA _ m2) (dA _ m2') (H.trans _ _ _ (dB _ m1') (dB _ m1) (dA _ m2) t1 hT) t2))
    (r - st).toNat k st r (by omega) (by omega) (by omega) (fun h a b => by omega) (fun h a b => by omega) (by omega)
  have hE' : slices_symMergeCmpFunc_int.l4 k x a m b mid (mid + m) st r (mid + m - 1) = if s < m then slices_symMergeCmpFunc_int.j6 k' x a m b mid s (mid + m - s) (decide (m < mid + m - s)) else slices_symMergeCmpFunc_int.j6 k' x a m b mid s (mid + m - s) false := hE
  rw [hE']
  clear hE hE' e4
  obtain ⟨e, he⟩ : ∃ q, mid + m - s = q := ⟨_, rfl⟩
  rw [he]
  obtain ⟨k', rfl⟩ : ∃ j, k' = j + 1 := ⟨k' - 1, by omega⟩
  have leA : ∀ h h', a ≤ h → h ≤ h' → h' < m → rd x h = rd x h' ∨ T (rd x h) (rd x h') := fun h h' h1 h2 h3 => by
    by_cases c : h = h'
    · subst c; exact .inl rfl
    · exact .inr (srtA h h' h1 (by omega) h3)
  have leB : ∀ h h', m ≤ h → h ≤ h' → h' < b → rd x h = rd x h' ∨ T (rd x h) (rd x h') := fun h h' h1 h2 h3 => by
    by_cases c : h = h'
    · subst c; exact .inl rfl
    · exact .inr (srtB h h' h1 (by omega) h3)
  -- the pieces
  have hAs : A = A.take (s - a).toNat ++ A.drop (s - a).toNat := (List.take_append_drop _ _).symm
  have hBs : B = B.take (e - m).toNat ++ B.drop (e - m).toNat := (List.take_append_drop _ _).symm
  have lA1 : (A.take (s - a).toNat).length = (s - a).toNat := by simp; omega
  have lA2 : (A.drop (s - a).toNat).length = A.length - (s - a).toNat := by simp
  have lB1 : (B.take (e - m).toNat).length = (e - m).toNat := by simp; omega
  have lB2 : (B.drop (e - m).toNat).length = B.length - (e - m).toNat := by simp
  have idA1 : ∀ y ∈ A.take (s - a).toNat, ∃ h, a ≤ h ∧ h < s ∧ y = rd x h := fun y hy => by
    obtain ⟨i, h1, h2, e1⟩ := mem_take_getD hy
    exact ⟨a + i, by omega, by omega, by rw [hrA _ (by omega) (by omega), e1, show (a + (i : Int) - a).toNat = i by omega]⟩
  have idA2 : ∀ y ∈ A.drop (s - a).toNat, ∃ h, s ≤ h ∧ h < m ∧ y = rd x h := fun y hy => by
    obtain ⟨i, h1, h2, e1⟩ := mem_drop_getD hy
    exact ⟨a + i, by omega, by omega, by rw [hrA _ (by omega) (by omega), e1, show (a + (i : Int) - a).toNat = i by omega]⟩
  have idB1 : ∀ y ∈ B.take (e - m).toNat, ∃ h, m ≤ h ∧ h < e ∧ y = rd x h := fun y hy => by
    obtain ⟨i, h1, h2, e1⟩ := mem_take_getD hy
    exact ⟨m + i, by omega, by omega, by rw [hrB _ (by omega) (by omega), e1, show (m + (i : Int) - m).toNat = i by omega]⟩
  have idB2 : ∀ y ∈ B.drop (e - m).toNat, ∃ h, e ≤ h ∧ h < b ∧ y = rd x h := fun y hy => by
    obtain ⟨i, h1, h2, e1⟩ := mem_drop_getD hy
    exact ⟨m + i, by omega, by omega, by rw [hrB _ (by omega) (by omega), e1, show (m + (i : Int) - m).toNat = i by omega]⟩
  have mA1 : ∀ y ∈ A.take (s - a).toNat, y ∈ A := fun y hy => List.mem_of_mem_take hy
  have mA2 : ∀ y ∈ A.drop (s - a).toNat, y ∈ A := fun y hy => List.mem_of_mem_drop hy
  have mB1 : ∀ y ∈ B.take (e - m).toNat, y ∈ B := fun y hy => List.mem_of_mem_take hy
  have mB2 : ∀ y ∈ B.drop (e - m).toNat, y ∈ B := fun y hy => List.mem_of_mem_drop hy
  have t12 : ∀ u ∈ A.take (s - a).toNat, ∀ v ∈ B.drop (e - m).toNat, T u v := fun u hu v hv => by
    obtain ⟨h, h1, h2, e1⟩ := idA1 u hu
    obtain ⟨g, g1, g2, e2⟩ := idB2 v hv
    have hs1 : st < s := by omega
    have w1 := memA (s - 1) (by omega) (by omega)
    have w2 := memB e (by omega) (by omega)
    have hn := hp3 (s - 1) (by omega) (by omega)
    rw [show mid + m - 1 - (s - 1) = e by omega] at hn
    have hTT : T (rd x (s - 1)) (rd x e) := H.other (dB _ w2) (dA _ w1) (by have := hlt _ w1 _ w2; omega) hn
    have dv : Dm v := dB v (mB2 v hv)
    have du : Dm u := dA u (mA1 u hu)
    have q1 : T u (rd x e) := by
      rcases leA h (s - 1) (by omega) (by omega) (by omega) with w | w
      · rw [e1, w]; exact hTT
      · rw [e1]; exact H.trans _ _ _ (e1 ▸ du) (dA _ w1) (dB _ w2) w hTT
    rcases leB e g (by omega) (by omega) (by omega) with w | w
    · rw [e2, ← w]; exact q1
    · rw [e2]; exact H.trans _ _ _ du (dB _ w2) (e2 ▸ dv) q1 w
  have t21 : ∀ u ∈ B.take (e - m).toNat, ∀ v ∈ A.drop (s - a).toNat, T u v := fun u hu v hv => by
    obtain ⟨h, h1, h2, e1⟩ := idB1 u hu
    obtain ⟨g, g1, g2, e2⟩ := idA2 v hv
    have hs1 : s < r := by omega
    have w1 := memB (e - 1) (by omega) (by omega)
    have w2 := memA s (by omega) (by omega)
    have hn := hp4 s (by omega) (by omega)
    rw [show mid + m - 1 - s = e - 1 by omega] at hn
    have hTT : T (rd x (e - 1)) (rd x s) := Classical.byContradiction fun hh => hn hh
    have du : Dm u := dB u (mB1 u hu)
    have dv : Dm v := dA v (mA2 v hv)
    have q1 : T u (rd x s) := by
      rcases leB h (e - 1) (by omega) (by omega) (by omega) with w | w
      · rw [e1, w]; exact hTT
      · rw [e1]; exact H.trans _ _ _ (e1 ▸ du) (dB _ w1) (dA _ w2) w hTT
    rcases leA s g (by omega) (by omega) (by omega) with w | w
    · rw [e2, ← w]; exact q1
    · rw [e2]; exact H.trans _ _ _ du (dA _ w2) (e2 ▸ dv) q1 w
  have sA' := sA
  have sB' := sB
  rw [hAs] at sA'
  rw [hBs] at sB'
  unfold Srt at sA' sB'
  rw [List.pairwise_append] at sA' sB'
  have hx' : x = P ++ (A.take (s - a).toNat ++ (A.drop (s - a).toNat ++ (B.take (e - m).toNat ++ (B.drop (e - m).toNat ++ S)))) := by
    rw [hx, ← List.append_assoc (A.take _), ← hAs, ← List.append_assoc (B.take _), ← hBs]
  have hperm : ((A.take (s - a).toNat ++ B.take (e - m).toNat) ++ (A.drop (s - a).toNat ++ B.drop (e - m).toNat)).Perm (A ++ B) := by
    have h1 : ((A.take (s - a).toNat ++ B.take (e - m).toNat) ++ (A.drop (s - a).toNat ++ B.drop (e - m).toNat)).Perm ((A.take (s - a).toNat ++ A.drop (s - a).toNat) ++ (B.take (e - m).toNat ++ B.drop (e - m).toNat)) := by
      rw [List.append_assoc, List.append_assoc]
      exact List.Perm.append_left _ (List.perm_append_comm_assoc _ _ _)
    rwa [← hAs, ← hBs] at h1
  generalize A.take (s - a).toNat = A1 at *
  generalize A.drop (s - a).toNat = A2 at *
  generalize B.take (e - m).toNat = B1 at *
  generalize B.drop (e - m).toNat = B2 at *
  obtain ⟨M, hM1, hM2, hM3⟩ := symTail (A1 := A1) (B1 := B1) (A2 := A2) (B2 := B2) (P := P) (S := S) (a := a) (b := b) (s := s) (e := e) (mid := mid) (k := k') ih hd2 (by omega) (by omega) ha (by omega) (by omega) (by omega) (by omega) (by omega)
    sA'.1 sB'.1 sA'.2.1 sB'.2.1 (fun y hy => dA y (mA1 y hy)) (fun y hy => dB y (mB1 y hy)) (fun y hy => dA y (mA2 y hy)) (fun y hy => dB y (mB2 y hy))
    (fun u hu v hv => hlt u (mA1 u hu) v (mB1 v hv)) (fun u hu v hv => hlt u (mA2 u hu) v (mB2 v hv)) (fun u hu v hv => by
      rcases List.mem_append.1 hu with hu | hu <;> rcases List.mem_append.1 hv with hv | hv
      · exact sA'.2.2 u hu v hv
      · exact t12 u hu v hv
      · exact t21 u hu v hv
      · exact sB'.2.2 u hu v hv) (by omega)
  refine ⟨M, hM1, hM2.trans hperm, ?_⟩
  have six : ∀ q : Bool, (q = true ↔ (s < m ∧ m < e)) → slices_symMergeCmpFunc_int.j6 (k' + 1) x a m b mid s e q = some (P ++ (M ++ S)) := by
    intro q hq
    simp only [slices_symMergeCmpFunc_int.j6]
    by_cases c : q = true
    · have hc := hq.1 c
      have hrot := rotate (P := P ++ A1) (U := A2) (V := B1) (S := B2 ++ S) (a := s) (m := m) (b := e) k' (by simp; omega) (by omega) (by omega) (by omega) (by omega) (by simp; omega) (by omega)
      have hx2 : x = P ++ A1 ++ (A2 ++ (B1 ++ (B2 ++ S))) := by rw [hx']; simp
      have hy2 : P ++ A1 ++ (B1 ++ (A2 ++ (B2 ++ S))) = P ++ (A1 ++ (B1 ++ (A2 ++ (B2 ++ S)))) := by simp
      rw [if_pos c, hx2, hrot, hy2]
      simp only [Option.bind_some]
      exact hM3
    · rw [if_neg c]
      have hc : ¬ (s < m ∧ m < e) := fun h => c (hq.2 h)
      have hz : A2 = [] ∨ B1 = [] := by
        rcases Nat.eq_zero_or_pos A2.length with h0 | h0
        · exact .inl (List.eq_nil_of_length_eq_zero h0)
        · exact .inr (List.eq_nil_of_length_eq_zero (by omega))
      have hxy : x = P ++ (A1 ++ (B1 ++ (A2 ++ (B2 ++ S)))) := by
        rw [hx']
        rcases hz with h | h <;> subst h <;> simp
      rw [hxy]
      exact hM3
  by_cases c : s < m
  · rw [if_pos c]; exact six _ (by simp [c])
  · rw [if_neg c]; exact six _ (by simp [c])
end
end Go.Proofs.Ytemlhkognjhgbaa.PAll
