/- What an argument's reading tells: a value of any kind that the print knows (whole numbers, bools, strings, structs, slices of these), opened at once. No condition. -/
import Derived.Test.YtemlhkognjhgbaaWMoreAll
import Derived.Deep.Slices
import Derived.Deep.Strs
import Derived.ChangeSame
namespace Go.Proofs.YtemlhkognjhgbaaH
open Go.RowKit Go.Deep Go.ChangeShapes Go.Proofs.YtemlhkognjhgbaaW.PrintWords Go.Proofs.YtemlhkognjhgbaaW.PrintLast Go.Proofs.YtemlhkognjhgbaaW.PrintMore
variable {H : Type} {enc : TypeId × Value → H} {P : Program} {W : World} {base : Nat} {spare : Nat → Bool} {held : Bool}

/-- Whatever reads at type t is of kind d, and has the property p. -/
def Opens {α : Type} (enc : TypeId × Value → H) (P : Program) (W : World) (base : Nat) (spare : Nat → Bool) (held : Bool) (t : TypeId) (d : Kd α) (p : α → Prop) : Prop :=
  ∀ (fuel : Nat) (cs : List Value) (x : DataW H × List MemPlace), DataW.trod enc P W base spare held fuel t cs = some x → ∃ a, d.K W a cs ∧ p a

theorem Opens.int {t : TypeId} {k : IntKind} (ht : P.underlying t = some (.int k)) : Opens enc P W base spare held t (Kd.int k) (fun n => (Lit.int k n).wf = true) := by
  intro fuel cs x h
  obtain ⟨n, rfl, _, hw⟩ := DataW.trod_int ht h
  exact ⟨n, rfl, hw⟩
theorem Opens.bool {t : TypeId} (ht : P.underlying t = some .bool) : Opens enc P W base spare held t Kd.bool (fun _ => True) := by
  intro fuel cs x h
  obtain ⟨b, rfl, _⟩ := DataW.trod_bool ht h
  exact ⟨b, rfl, trivial⟩
theorem Opens.string {t : TypeId} (ht : P.underlying t = some .string) : Opens enc P W base spare held t Kd.string (fun s => s.size ≤ maxLen) := by
  intro fuel cs x h
  obtain ⟨s, rfl, _, hs⟩ := DataW.trod_string ht h
  exact ⟨s, rfl, hs⟩
/-- From 'for each place a thing' to a list. -/
theorem list_of {α : Type} {n : Nat} {q : Nat → α → Prop} (h : ∀ i, i < n → ∃ a, q i a) : ∃ l : List α, l.length = n ∧ ∀ (i : Nat) (a : α), l[i]? = some a → q i a := by
  induction n with
  | zero => exact ⟨[], rfl, fun i a e => by simp at e⟩
  | succ n ih =>
    obtain ⟨l, hl, hq⟩ := ih (fun i hi => h i (by omega))
    obtain ⟨a, ha⟩ := h n (by omega)
    refine ⟨l ++ [a], by simp [hl], fun i b e => ?_⟩
    by_cases hi : i < l.length
    · rw [List.getElem?_append_left hi] at e
      exact hq i b e
    · rw [List.getElem?_append_right (by omega)] at e
      have : i - l.length = 0 := by
        rcases Nat.eq_zero_or_pos (i - l.length) with h0 | h0
        · exact h0
        · rw [List.getElem?_eq_none (by simp only [List.length_cons, List.length_nil]; omega)] at e
          cases e
      rw [this] at e
      simp at e
      subst e
      obtain rfl : i = n := by omega
      exact ha
theorem Opens.slice {α : Type} {d : Kd α} {p : α → Prop} {t e : TypeId} (ht : P.underlying t = some (.slice e)) (hc : P.cellsOf e = d.sz) (h : Opens enc P W base spare held e d p) :
    Opens enc P W base spare held t (Kd.slice e d) (fun l => l.length ≤ maxLen ∧ ∀ a ∈ l, p a) := by
  intro fuel cs x hx
  rcases open_slice ht hx with ⟨rfl, _⟩ | ⟨a, len, cap, m, n, D, Pl, rfl, _, hl, hm, hmm, _, hall⟩
  · exact ⟨[], ⟨none, 0, rfl, Nat.le_refl _, rfl, by simp, fun h0 => absurd h0 (by simp)⟩, by simp, by simp⟩
  · have hlm : len ≤ m := by rw [hmm]; split <;> omega
    obtain ⟨l, hll, hq⟩ := list_of (n := len) (q := fun i b => (∃ cs', W.cells? base (a.add (i * P.cellsOf e)) (P.cellsOf e) = some cs' ∧ d.K W b cs') ∧ p b) (fun i hi => by
      obtain ⟨cs', h1, h2⟩ := hall i (by omega)
      obtain ⟨b, hb, hp⟩ := h n cs' _ h2
      exact ⟨b, ⟨cs', h1, hb⟩, hp⟩)
    have hmax : len ≤ maxLen := Nat.le_trans hl hm
    refine ⟨l, ⟨some a, cap, by rw [hll], by omega, rfl, by rw [hll]; simpa [maxLen] using hmax, fun _ => ⟨a, rfl, fun j b hj => ?_⟩⟩, by omega, fun b hb => ?_⟩
    · obtain ⟨⟨cs', h1, h2⟩, _⟩ := hq j b hj
      refine ⟨cs', d.K_len h2, h2, fun i u hu => ?_⟩
      obtain ⟨_, h4, h3⟩ := World.cells?_some h1
      have hi : i < P.cellsOf e := by
        have := (List.getElem?_eq_some_iff.1 hu).1
        omega
      rw [← Deep.add_add, ← hc, h3 i hi, hu]
    · obtain ⟨i, hi, e⟩ := List.getElem_of_mem hb
      exact (hq i b (by rw [List.getElem?_eq_getElem hi, e])).2
/-- A struct of two fields. -/
theorem Opens.pair {α β : Type} {d0 : Kd α} {d1 : Kd β} {p0 : α → Prop} {p1 : β → Prop} {t : TypeId} {f0 f1 : Field} (ht : P.underlying t = some (.struct #[f0, f1])) (hs : P.cellsOf t = d0.sz + d1.sz)
    (o0 : f0.offset = 0) (o1 : f1.offset = d0.sz) (s0 : P.cellsOf f0.type = d0.sz) (s1 : P.cellsOf f1.type = d1.sz)
    (h0 : Opens enc P W base spare held f0.type d0 p0) (h1 : Opens enc P W base spare held f1.type d1 p1) :
    Opens enc P W base spare held t (Kd.pair d0 d1) (fun x => p0 x.1 ∧ p1 x.2) := by
  intro fuel cs x hx
  obtain ⟨y0, y1, n, _, hl, e0, e1⟩ := trod_struct2 ht hx
  rw [o0, s0, List.drop_zero] at e0
  rw [o1, s1] at e1
  obtain ⟨a, ha, pa⟩ := h0 _ _ _ e0
  obtain ⟨b, hb, pb⟩ := h1 _ _ _ e1
  refine ⟨(a, b), ⟨_, _, ?_, ha, hb⟩, pa, pb⟩
  rw [List.take_of_length_le (l := cs.drop d0.sz) (by rw [List.length_drop]; omega), List.take_append_drop]
theorem Opens.float {t : TypeId} (ht : P.underlying t = some (.float .f64)) : Opens enc P W base spare held t Kd.float (fun b => b < 2 ^ 64) := by
  intro fuel cs x h
  cases fuel with
  | zero => simp [DataW.trod] at h
  | succ n =>
    unfold DataW.trod at h
    rw [ht] at h
    split at h
    case h_3 k2 k3 b heq =>
      injection heq with heq
      injection heq with heq
      subst heq
      split at h
      · rename_i hc
        obtain ⟨rfl, hw⟩ := hc
        exact ⟨b, rfl, by simpa [Lit.wf] using hw⟩
      · cases h
    all_goals simp_all
/-- A struct of three fields. -/
theorem Opens.triple {α β γ : Type} {d0 : Kd α} {d1 : Kd β} {d2 : Kd γ} {p0 : α → Prop} {p1 : β → Prop} {p2 : γ → Prop} {t : TypeId} {f0 f1 f2 : Field} (ht : P.underlying t = some (.struct #[f0, f1, f2])) (hs : P.cellsOf t = d0.sz + (d1.sz + d2.sz))
    (o0 : f0.offset = 0) (o1 : f1.offset = d0.sz) (o2 : f2.offset = d0.sz + d1.sz) (s0 : P.cellsOf f0.type = d0.sz) (s1 : P.cellsOf f1.type = d1.sz) (s2 : P.cellsOf f2.type = d2.sz)
    (h0 : Opens enc P W base spare held f0.type d0 p0) (h1 : Opens enc P W base spare held f1.type d1 p1) (h2 : Opens enc P W base spare held f2.type d2 p2) :
    Opens enc P W base spare held t (Kd.pair d0 (Kd.pair d1 d2)) (fun x => p0 x.1 ∧ p1 x.2.1 ∧ p2 x.2.2) := by
  intro fuel cs x hx
  obtain ⟨y0, y1, y2, n, _, hl, e0, e1, e2⟩ := trod_struct3 ht hx
  rw [o0, s0, List.drop_zero] at e0
  rw [o1, s1] at e1
  rw [o2, s2] at e2
  obtain ⟨a, ha, pa⟩ := h0 _ _ _ e0
  obtain ⟨b, hb, pb⟩ := h1 _ _ _ e1
  obtain ⟨c, hc, pc⟩ := h2 _ _ _ e2
  refine ⟨(a, b, c), ⟨_, cs.drop d0.sz, (List.take_append_drop _ _).symm, ha, _, _, ?_, hb, hc⟩, pa, pb, pc⟩
  · rw [List.take_of_length_le (l := cs.drop (d0.sz + d1.sz)) (by rw [List.length_drop]; omega), ← List.drop_drop, List.take_append_drop]
theorem Opens.iso {α β : Type} {d : Kd α} {f : β → α} {p : α → Prop} {t : TypeId} (g : α → β) (hg : ∀ x, f (g x) = x) (h : Opens enc P W base spare held t d p) : Opens enc P W base spare held t (Kd.iso d f) (fun y => p (f y)) := by
  intro fuel cs x hx
  obtain ⟨a, ha, pa⟩ := h _ _ _ hx
  exact ⟨g a, by show d.K W (f (g a)) cs; rw [hg]; exact ha, by show p (f (g a)); rw [hg]; exact pa⟩
end Go.Proofs.YtemlhkognjhgbaaH
