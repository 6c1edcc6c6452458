-- Written by wip/tools/hprint.py of this claim's session (a driver over the kit's print, with contracts proved by hand among them).
import Derived.Test.YtpekjfmlpogfaaaPAllx0
import Derived.Test.YtpekjfmlpogfaaaPAllx5
namespace Go.Proofs.Ytpekjfmlpogfaaa.PAll
open Go.RowKit Go.Proofs.YtpekjfmlpogfaaaW.PrintWords Go.Proofs.YtpekjfmlpogfaaaW.PrintLast Go.Proofs.YtpekjfmlpogfaaaW.PrintMore
attribute [local go_sem] max2_int min2_int max_two min_two max_three min_three max_four min_four   -- for this text's walks alone
set_option linter.unusedVariables false
set_option linter.unusedSimpArgs false

/-! ### step_least: function 37 -/
def step_least.l0 : Nat → List (S38) → Int → Int → Int → Option (Int)
  | 0, _, _, _, _ => none
  | k + 1, x0, x2, x7, x8 => if x8 < (x0.length : Int) then (if 0 ≤ x8 then (if ((rd_T38 x0 x8).f0) < x2 then (step_least.l0 k x0 x2 (mn x7 ((rd_T38 x0 x8).f1)) (wrap64 (x8 + 1))) else (some x7)) else (none)) else (some x7)
def step_least.f (k : Nat) (l0 : List (S38)) (a1 : Int) (a2 : Int) : Option (Int) := (step_place.f k l0 a1).bind fun t118 => (step_least.l0 k l0 a2 1048576 t118)
theorem step_least.mono_l : ∀ k, (∀ y0 y1 y2 y3, LeO (step_least.l0 k y0 y1 y2 y3) (step_least.l0 (k + 1) y0 y1 y2 y3))
  | 0 => fun _ _ _ _ r h => by simp [step_least.l0] at h
  | k + 1 => by
    have ih0 := step_least.mono_l k
    · intro y0 y1 y2 y3
      unfold step_least.l0
      repeat' first
      | (with_reducible exact ih0 _ _ _ _)
      | (with_reducible exact step_place.mono _ _ _)
      | (with_reducible exact LeO.refl _)
      | (with_reducible exact LeO.none _)
      | (with_reducible refine LeO.ite ?_ ?_)
      | (with_reducible refine LeO.bind ?_ (fun _ => ?_))
      | exact ih0 _ _ _ _
      | exact step_place.mono _ _ _
      | exact LeO.none _
      | refine LeO.ite ?_ ?_
      | refine LeO.bind ?_ (fun _ => ?_)
theorem step_least.mono : ∀ a0 a1 a2 k, LeO (step_least.f k a0 a1 a2) (step_least.f (k + 1) a0 a1 a2) := by
  intro a0 a1 a2 k
  have ih0 := step_least.mono_l k
  unfold step_least.f
  repeat' first
      | (with_reducible exact ih0 _ _ _ _)
      | (with_reducible exact step_place.mono _ _ _)
      | (with_reducible exact LeO.refl _)
      | (with_reducible exact LeO.none _)
      | (with_reducible refine LeO.ite ?_ ?_)
      | (with_reducible refine LeO.bind ?_ (fun _ => ?_))
      | exact ih0 _ _ _ _
      | exact step_place.mono _ _ _
      | exact LeO.none _
      | refine LeO.ite ?_ ?_
      | refine LeO.bind ?_ (fun _ => ?_)
set_option maxHeartbeats 8000000 in
set_option maxRecDepth 100000 in
theorem step_least.calls (k : Nat) (A0 : Option Addr) (c0 : Nat) (l0 : List (S38)) (a1 : Int) (a2 : Int) (r : Int) (w : World) (hr0 : Kd.C k38 w A0 l0.length l0) (hc0 : l0.length ≤ c0) (h : step_least.f k l0 a1 a2 = some r) :
    Calls Try.prog 37 #[.slice A0 l0.length c0, .int .i64 a1, .int .i64 a2] w fun e w' => e = .returned (.int .i64 r) ∧ Below w.heap.size w w' := by
  have HR0 := Aside0.mk hr0
  have HC0 := Aside0.mk hc0
  clear hr0 hc0
  have HB := Aside0.mk (Below.refl w.heap.size w)
  have H : ((step_place.f k l0 a1).bind fun t118 => (step_least.l0 k l0 a2 1048576 t118)) = some r := h
  clear h
  replace H := Option.bind_eq_some_iff.mp H
  obtain ⟨t118, A40, H⟩ := H
  replace H : (step_least.l0 k l0 a2 1048576 t118) = some r := H
  have A4 := Aside0.mk A40
  clear A40
  have H' := Aside0.mk H
  clear H
  go_enter Try.func37, Try.ntmps37
  go_wp2_with (first | ((with_reducible refine gate_callee (f := 40) rfl ?_); refine goesL_ (some 11) rfl rfl Try.func40 (by kernel_rfl) rfl #[.slice A0 l0.length c0, .int .i64 a1] rfl (by (try simp only [List.map_toArray, List.map_cons, List.map_nil]); first | done | rfl) ?_; (with_reducible refine (step_place.calls k _ _ l0 a1 t118 _ ?side1 ?side2 A4.out).mono ?_); (case side1 => repeat (first | exact HR0.out | (with_reducible refine Kd.C_alloc ?_ _) | (with_reducible refine Kd.C_drewN ?_ _) | (with_reducible refine Kd.C_drew ?_))); (case side2 => exact HC0.out); rintro e w5 ⟨rfl, hb⟩; refine ⟨_, rfl, ?_⟩; have n0_ := Aside0.mk (below_step (by repeat (first | (with_reducible first | exact HB.out | apply below_alloc | apply pw_below_drewN | apply below_drew1) | exact HB.out)) hb); clear HB; have HB := n0_; clear n0_; (try clear hb); (try clear hb2); (try clear hk); (try clear hi)))
  go_loopg [7, 8] k (fun kq v7 v8 w' => ∃ (x7_1 : Int) (x8_1 : Int), v7 = .int .i64 x7_1 ∧ v8 = .int .i64 x8_1 ∧ Aside0 (step_least.l0 kq l0 a2 x7_1 x8_1 = some r) ∧ Aside0 (kq ≤ k) ∧ Aside0 (Below w.heap.size w w'))
  case atStart => exact ⟨(1048576), (t118), (by first | rfl | (simp; done) | (simp [*]; done)), (by first | rfl | (simp; done) | (simp [*]; done)), H', ⟨Nat.le_refl _⟩, ⟨by repeat (first | (with_reducible first | exact HB.out | apply below_alloc | apply pw_below_drewN | apply below_drew1) | exact HB.out)⟩⟩
  clear H'
  try clear p2
  try clear c3
  try clear c4
  obtain ⟨x7_1, x8_1, rfl, rfl, HA, HK1, HB⟩ := hrel
  rcases gk with _ | k1
  · exact absurd HA.out (by simp [step_least.l0])
  have H := HA.out
  clear HA
  simp only [step_least.l0] at H
  by_cases c6 : x8_1 < (l0.length : Int)
  rotate_left
  · rw [if_neg c6] at H
    have c6b0 : decide (x8_1 < (l0.length : Int)) = false := decide_eq_false c6
    clear c6
    obtain rfl := Option.some.inj H
    go_wp2
    go_ret
    exact ⟨by first | rfl | (simp [errW_none, errW_some] <;> rfl) | (simp [*, errW_none, errW_some] <;> rfl), by repeat (first | (with_reducible first | exact HB.out | apply below_alloc | apply pw_below_drewN | apply below_drew1) | exact HB.out)⟩
  rw [if_pos c6] at H
  have c6b0 : decide (x8_1 < (l0.length : Int)) = true := decide_eq_true c6
  clear c6
  by_cases c7 : 0 ≤ x8_1
  rotate_left
  · rw [if_neg c7] at H
    exact absurd H (by simp)
  rw [if_pos c7] at H
  have c7b0 : decide (0 ≤ x8_1) = true := decide_eq_true c7
  clear c7
  by_cases c8 : ((rd_T38 l0 x8_1).f0) < a2
  rotate_left
  · rw [if_neg c8] at H
    have c8b0 : decide (((rd_T38 l0 x8_1).f0) < a2) = false := decide_eq_false c8
    clear c8
    obtain rfl := Option.some.inj H
    have p119 : 0 ≤ (x8_1 : Int) := of_decide_eq_true (by first | (with_reducible assumption) | assumption)
    have q119 : x8_1 < (l0.length : Int) := of_decide_eq_true (by first | (with_reducible assumption) | assumption)
    obtain ⟨ad119, e119, hx119_0, hx119_1⟩ := at_T38 HR0.out x8_1 p119 q119
    cases e119
    replace hx119_0 := (HB.out.cell (World.block_lt_of_cell? w _ hx119_0)).trans hx119_0
    replace hx119_1 := (HB.out.cell (World.block_lt_of_cell? w _ hx119_1)).trans hx119_1
    replace p119 := eq_true p119
    replace q119 := eq_true q119
    go_wp2
    go_ret
    exact ⟨by first | rfl | (simp [errW_none, errW_some] <;> rfl) | (simp [*, errW_none, errW_some] <;> rfl), by repeat (first | (with_reducible first | exact HB.out | apply below_alloc | apply pw_below_drewN | apply below_drew1) | exact HB.out)⟩
  rw [if_pos c8] at H
  have c8b0 : decide (((rd_T38 l0 x8_1).f0) < a2) = true := decide_eq_true c8
  clear c8
  obtain ⟨ji9, hji9⟩ : ∃ j_ : Int, (mn x7_1 ((rd_T38 l0 x8_1).f1)) = j_ := ⟨_, rfl⟩
  replace H : (step_least.l0 k1 l0 a2 ji9 (wrap64 (x8_1 + 1))) = some r := by first | (rw [hji9] at H; exact H) | (simp only [hji9] at H ⊢; exact H)
  have hji9_ : (if ((rd_T38 l0 x8_1).f1) < x7_1 then ((rd_T38 l0 x8_1).f1) else x7_1) = ji9 := hji9
  have H' := Aside0.mk H
  clear H
  have p119 : 0 ≤ (x8_1 : Int) := of_decide_eq_true (by first | (with_reducible assumption) | assumption)
  have q119 : x8_1 < (l0.length : Int) := of_decide_eq_true (by first | (with_reducible assumption) | assumption)
  obtain ⟨ad119, e119, hx119_0, hx119_1⟩ := at_T38 HR0.out x8_1 p119 q119
  cases e119
  replace hx119_0 := (HB.out.cell (World.block_lt_of_cell? w _ hx119_0)).trans hx119_0
  replace hx119_1 := (HB.out.cell (World.block_lt_of_cell? w _ hx119_1)).trans hx119_1
  replace p119 := eq_true p119
  replace q119 := eq_true q119
  have p120 : 0 ≤ (x8_1 : Int) := of_decide_eq_true (by first | (with_reducible assumption) | assumption)
  have q120 : x8_1 < (l0.length : Int) := of_decide_eq_true (by first | (with_reducible assumption) | assumption)
  obtain ⟨ad120, e120, hx120_0, hx120_1⟩ := at_T38 HR0.out x8_1 p120 q120
  obtain rfl : ad119 = ad120 := (by injection e120)
  replace hx120_0 := (HB.out.cell (World.block_lt_of_cell? w _ hx120_0)).trans hx120_0
  replace hx120_1 := (HB.out.cell (World.block_lt_of_cell? w _ hx120_1)).trans hx120_1
  replace p120 := eq_true p120
  replace q120 := eq_true q120
  go_wp2
  go_roundg k1
  case measure => have := HK1.out; omega
  case rel => exact ⟨(ji9), (wrap64 (x8_1 + 1)), (by first | rfl | (simp; done) | (simp only [← hji9] <;> (first | rfl | simp)) | (simp [*]; done)), (by first | rfl | (simp; done) | (simp [*]; done)), H', ⟨by have := HK1.out; omega⟩, ⟨by repeat (first | (with_reducible first | exact HB.out | apply below_alloc | apply pw_below_drewN | apply below_drew1) | exact HB.out)⟩⟩

/-! ### when_Meets: function 57 -/
def when_Meets.f (a0 : Int) (a1 : Int) (a2 : Int) (a3 : Int) : Option (Bool) := some (decide ((mx a0 a2) < (mn a1 a3)))
set_option maxHeartbeats 8000000 in
set_option maxRecDepth 100000 in
theorem when_Meets.calls (a0 : Int) (a1 : Int) (a2 : Int) (a3 : Int) (r : Bool) (w : World) (h : when_Meets.f a0 a1 a2 a3 = some r) :
    Calls Try.prog 57 #[.int .i64 a0, .int .i64 a1, .int .i64 a2, .int .i64 a3] w fun e w' => e = .returned (.bool r) ∧ Below w.heap.size w w' := by
  have HB := Aside0.mk (Below.refl w.heap.size w)
  have H : (some (decide ((mx a0 a2) < (mn a1 a3)))) = some r := h
  clear h
  obtain ⟨ji5, hji5⟩ : ∃ j_ : Int, (mx a0 a2) = j_ := ⟨_, rfl⟩
  replace H : (some (decide ((ji5) < (mn a1 a3)))) = some r := by first | (rw [hji5] at H; exact H) | (simp only [hji5] at H ⊢; exact H)
  have hji5_ : (if a0 < a2 then a2 else a0) = ji5 := hji5
  obtain ⟨ji6, hji6⟩ : ∃ j_ : Int, (mn a1 a3) = j_ := ⟨_, rfl⟩
  replace H : (some (decide ((ji5) < (ji6)))) = some r := by first | (rw [hji6] at H; exact H) | (simp only [hji6] at H ⊢; exact H)
  have hji6_ : (if a3 < a1 then a3 else a1) = ji6 := hji6
  obtain rfl := Option.some.inj H
  go_enter Try.func57, Try.ntmps57
  go_wp2
  go_ret
  exact ⟨by first | rfl | (simp [errW_none, errW_some] <;> rfl) | (simp only [← hji5, ← hji6]; first | rfl | (simp [errW_none, errW_some] <;> rfl)) | (simp [*, errW_none, errW_some] <;> rfl), by repeat (first | (with_reducible first | exact HB.out | apply below_alloc | apply pw_below_drewN | apply below_drew1) | exact HB.out)⟩

/-! ### step_plus_1: function 56 (the literal in step.plus), by hand -/
/-- A step is added, unless the last one says the same. -/
def addF (xs : List S38) (a f : Int) : List S38 :=
  if xs.length = 0 then xs ++ [⟨a, f⟩] else if (rd_T38 xs (xs.length - 1)).f1 = f then xs else xs ++ [⟨a, f⟩]
theorem addF_len (xs : List S38) (a f : Int) : (addF xs a f).length ≤ xs.length + 1 := by
  unfold addF; split
  · simp
  split <;> simp
set_option maxHeartbeats 8000000 in
set_option maxRecDepth 100000 in
theorem plus_add_new (w0 W : World) (B : Nat) (A : Option Addr) (c : Nat) (xs : List S38) (a f : Int) (ok : Nat → Prop) (hbs : w0.heap.size ≤ B) (hw0 : w0.heap.size ≤ W.heap.size)
    (hB : W.heap[B]? = some (.cells #[.slice A xs.length c] 22 (0, 0))) (HO : Kd.R k38 38 W w0.heap.size ok (.slice A xs.length c) xs) (hBb : Below w0.heap.size w0 W) (hok : ∀ k, ok k → k ≠ B) (hfr : ∀ k, W.heap.size ≤ k → ok k)
    (hl : xs.length < 8796093022208) (hne : xs.length = 0 ∨ (0 < xs.length ∧ ¬ (rd_T38 xs (xs.length - 1)).f1 = f)) :
    Calls Try.prog 56 #[.int .i64 a, .int .i64 f, .pointer (some ⟨B, 0, none⟩)] W fun e W' => e = .returned (.tuple #[]) ∧ ∃ v', W'.heap[B]? = some (.cells #[v'] 22 (0, 0)) ∧ Kd.R k38 38 W' w0.heap.size ok v' (xs ++ [⟨a, f⟩]) ∧ Below w0.heap.size w0 W' ∧ Kept W W' (fun k => ok k ∨ k = B) := by
  have hcell := Aside0.mk hB
  have hc0 : W.cell? ⟨B, 0, none⟩ = some (.slice A xs.length c) := (blk_cell hB 0).trans rfl
  have hf0 : W.frozen? ⟨B, 0, none⟩ = false := blk_frozen hB 0
  clear hB
  have fin : ∀ (v1 : Value) (w1 : World), Kd.R k38 38 w1 w0.heap.size ok v1 (xs ++ [⟨a, f⟩]) → Below w0.heap.size w0 w1 → W.grownBy w1 (Value.slice A xs.length c).ownBlock → w1.heap[B]? = some (.cells #[.slice A xs.length c] 22 (0, 0)) →
      ∃ v', (w1.setCell ⟨B, 0, none⟩ v1).heap[B]? = some (.cells #[v'] 22 (0, 0)) ∧ Kd.R k38 38 (w1.setCell ⟨B, 0, none⟩ v1) w0.heap.size ok v' (xs ++ [⟨a, f⟩]) ∧ Below w0.heap.size w0 (w1.setCell ⟨B, 0, none⟩ v1) ∧ Kept W (w1.setCell ⟨B, 0, none⟩ v1) (fun k => ok k ∨ k = B) := by
    intro v1 w1 h1 h2 h3 h4
    refine ⟨v1, blk_put h4 0 v1 rfl, Kd.R_far (p := ⟨B, 0, none⟩) h1 hok v1, below_set h2 hbs, ?_⟩
    refine Kept.setCell (Kept.of_grown h3 (Kept.refl _ _) (fun k hk => .inl (.inl (HO.1 k hk)))) (.inl (.inr rfl)) _
  rcases hne with h0 | ⟨h0, h1⟩
  · have e0 : ((xs.length : Int) == 0) = true := by simp [h0]
    clear h0
    go_enter Try.func56, Try.ntmps56
    go_wp2_with (first | ((with_reducible refine gate_builtin (b := .append) (xs := #[.tmp 19, .tmp 23]) rfl ?_); at_builtin; refine Kd.R_append k38 (w0 := w0) w0.heap.size rfl (.tmp 19) (.tmp 23) 22 38 (.agg #[(.int .i64 0), (.int .i64 0)]) 16 rfl Try.underlying22 info38 rfl (by decide) (by omega) (.slice A xs.length c) xs ⟨a, f⟩ [.int .i64 a, .int .i64 f] ok (fun _ => False) rfl rfl ?aP (fun _ hk => hk.elim) ?aF ?aO ?aB ?aS ?aL ?_; (case aP => exact k38_mkM _ _ _ ⟨a, f⟩); (case aB => exact hBb); (case aF => exact hfr); (case aO => exact HO); (case aS => exact hw0); (case aL => omega); intro v1 w1 ho hb hg hat; obtain ⟨A1, c1, e1⟩ := Kd.R_slice ho; subst e1; have hB1 := Aside0.mk (blk_grown hcell.out hg (fun e_ => hok B (HO.1 B e_.symm) rfl)); have hc1 : w1.cell? ⟨B, 0, none⟩ = some (.slice A xs.length c) := (blk_cell hB1.out 0).trans rfl; have hf1 : w1.frozen? ⟨B, 0, none⟩ = false := blk_frozen hB1.out 0; have ho1 := Aside0.mk ho; have hb1 := Aside0.mk hb; have hg1 := Aside0.mk hg; clear ho hb hg hat))
    go_end0
    exact ⟨rfl, fin _ _ (by simpa only [List.length_append, List.length_cons, List.length_nil] using ho1.out) hb1.out hg1.out hB1.out⟩
  have n0 : ((rd_T38 xs ((xs.length : Int) - 1)).f1 != f) = true := by simpa using h1
  clear h1
  have e0 : ((xs.length : Int) == 0) = false := by simp only [beq_eq_false_iff_ne]; omega
  have p0 : (0 : Int) ≤ (xs.length : Int) - 1 := by omega
  have q0 : (xs.length : Int) - 1 < (xs.length : Int) := by omega
  obtain ⟨_, _, hC⟩ := Kd.R_reads' HO
  obtain ⟨ad, rfl, hx0, hx1⟩ := at_T38 hC _ p0 q0
  rw [show ((xs.length : Int) - 1).toNat = xs.length - 1 from by omega] at hx1
  clear h0 hC hx0
  go_enter Try.func56, Try.ntmps56
  go_wp2_with (first | ((with_reducible refine gate_builtin (b := .append) (xs := #[.tmp 19, .tmp 23]) rfl ?_); at_builtin; refine Kd.R_append k38 (w0 := w0) w0.heap.size rfl (.tmp 19) (.tmp 23) 22 38 (.agg #[(.int .i64 0), (.int .i64 0)]) 16 rfl Try.underlying22 info38 rfl (by decide) (by omega) (.slice (some ad) xs.length c) xs ⟨a, f⟩ [.int .i64 a, .int .i64 f] ok (fun _ => False) rfl rfl ?aP (fun _ hk => hk.elim) ?aF ?aO ?aB ?aS ?aL ?_; (case aP => exact k38_mkM _ _ _ ⟨a, f⟩); (case aB => exact hBb); (case aF => exact hfr); (case aO => exact HO); (case aS => exact hw0); (case aL => omega); intro v1 w1 ho hb hg hat; obtain ⟨A1, c1, e1⟩ := Kd.R_slice ho; subst e1; have hB1 := Aside0.mk (blk_grown hcell.out hg (fun e_ => hok B (HO.1 B e_.symm) rfl)); have hc1 : w1.cell? ⟨B, 0, none⟩ = some (.slice (some ad) xs.length c) := (blk_cell hB1.out 0).trans rfl; have hf1 : w1.frozen? ⟨B, 0, none⟩ = false := blk_frozen hB1.out 0; have ho1 := Aside0.mk ho; have hb1 := Aside0.mk hb; have hg1 := Aside0.mk hg; clear ho hb hg hat))
  go_end0
  exact ⟨rfl, fin _ _ (by simpa only [List.length_append, List.length_cons, List.length_nil] using ho1.out) hb1.out hg1.out hB1.out⟩
set_option maxHeartbeats 8000000 in
set_option maxRecDepth 100000 in
theorem plus_add_same (w0 W : World) (B : Nat) (A : Option Addr) (c : Nat) (xs : List S38) (a f : Int) (ok : Nat → Prop) (hbs : w0.heap.size ≤ B)
    (hB : W.heap[B]? = some (.cells #[.slice A xs.length c] 22 (0, 0))) (HO : Kd.R k38 38 W w0.heap.size ok (.slice A xs.length c) xs) (hBb : Below w0.heap.size w0 W)
    (hl : xs.length < 8796093022208) (h0 : 0 < xs.length) (h1 : (rd_T38 xs (xs.length - 1)).f1 = f) :
    Calls Try.prog 56 #[.int .i64 a, .int .i64 f, .pointer (some ⟨B, 0, none⟩)] W fun e W' => e = .returned (.tuple #[]) ∧ ∃ v', W'.heap[B]? = some (.cells #[v'] 22 (0, 0)) ∧ Kd.R k38 38 W' w0.heap.size ok v' xs ∧ Below w0.heap.size w0 W' ∧ Kept W W' (fun k => ok k ∨ k = B) := by
  have fin : ∃ v', W.heap[B]? = some (.cells #[v'] 22 (0, 0)) ∧ Kd.R k38 38 W w0.heap.size ok v' xs ∧ Below w0.heap.size w0 W ∧ Kept W W (fun k => ok k ∨ k = B) := ⟨_, hB, HO, hBb, Kept.refl _ _⟩
  have hc0 : W.cell? ⟨B, 0, none⟩ = some (.slice A xs.length c) := (blk_cell hB 0).trans rfl
  clear hB
  have n0 : ((rd_T38 xs ((xs.length : Int) - 1)).f1 != f) = false := by simpa using h1
  clear h1
  have e0 : ((xs.length : Int) == 0) = false := by simp only [beq_eq_false_iff_ne]; omega
  have p0 : (0 : Int) ≤ (xs.length : Int) - 1 := by omega
  have q0 : (xs.length : Int) - 1 < (xs.length : Int) := by omega
  obtain ⟨_, _, hC⟩ := Kd.R_reads' HO
  obtain ⟨ad, rfl, hx0, hx1⟩ := at_T38 hC _ p0 q0
  rw [show ((xs.length : Int) - 1).toNat = xs.length - 1 from by omega] at hx1
  clear h0 hC hx0
  have Fin := Aside0.mk fin
  clear fin
  go_enter Try.func56, Try.ntmps56
  go_wp2
  go_end0
  exact ⟨rfl, Fin.out⟩
theorem plus_add (w0 W : World) (B : Nat) (v : Value) (xs : List S38) (a f : Int) (ok : Nat → Prop) (hbs : w0.heap.size ≤ B) (hw0 : w0.heap.size ≤ W.heap.size)
    (hB : W.heap[B]? = some (.cells #[v] 22 (0, 0))) (HO : Kd.R k38 38 W w0.heap.size ok v xs) (hBb : Below w0.heap.size w0 W) (hok : ∀ k, ok k → k ≠ B) (hfr : ∀ k, W.heap.size ≤ k → ok k)
    (hl : xs.length < 8796093022208) :
    Calls Try.prog 56 #[.int .i64 a, .int .i64 f, .pointer (some ⟨B, 0, none⟩)] W fun e W' => e = .returned (.tuple #[]) ∧ ∃ v', W'.heap[B]? = some (.cells #[v'] 22 (0, 0)) ∧ Kd.R k38 38 W' w0.heap.size ok v' (addF xs a f) ∧ Below w0.heap.size w0 W' ∧ Kept W W' (fun k => ok k ∨ k = B) := by
  obtain ⟨A, c, rfl⟩ := Kd.R_slice HO
  unfold addF
  by_cases h0 : xs.length = 0
  · rw [if_pos h0]
    exact plus_add_new w0 W B A c xs a f ok hbs hw0 hB HO hBb hok hfr hl (.inl h0)
  rw [if_neg h0]
  by_cases h1 : (rd_T38 xs (xs.length - 1)).f1 = f
  · rw [if_pos h1]
    exact plus_add_same w0 W B A c xs a f ok hbs hB HO hBb hl (by omega) h1
  rw [if_neg h1]
  exact plus_add_new w0 W B A c xs a f ok hbs hw0 hB HO hBb hok hfr hl (.inr ⟨by omega, h1⟩)


end Go.Proofs.Ytpekjfmlpogfaaa.PAll
