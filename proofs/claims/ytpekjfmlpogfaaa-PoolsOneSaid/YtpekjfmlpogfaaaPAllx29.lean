-- Written by wip/tools/hprint.py of this claim's session (a driver over the kit's print, with contracts proved by hand among them).
import Derived.Test.YtpekjfmlpogfaaaPAllx0
import Derived.Test.YtpekjfmlpogfaaaPAllx10
import Derived.Test.YtpekjfmlpogfaaaPAllx24
namespace Go.Proofs.Ytpekjfmlpogfaaa.PAll
open Go.RowKit Go.Proofs.YtpekjfmlpogfaaaW.PrintWords Go.Proofs.YtpekjfmlpogfaaaW.PrintLast Go.Proofs.YtpekjfmlpogfaaaW.PrintMore
attribute [local go_sem] max2_int min2_int max_two min_two max_three min_three max_four min_four   -- for this text's walks alone
set_option linter.unusedVariables false
set_option linter.unusedSimpArgs false

/-! ### pools_First: function 24 -/
mutual
def pools_First.j0 : Nat → List (List (S38)) → Int → Int → List Int → Bool → Option (Int × Bool)
  | 0, _, _, _, _, _ => none
  | k + 1, x0, x1, x2, x3, x25 => if x25 = true then (some (0, false)) else (pools_First.l0 k x0 x2 x3 x1)
def pools_First.l0 : Nat → List (List (S38)) → Int → List Int → Int → Option (Int × Bool)
  | 0, _, _, _, _ => none
  | k + 1, x0, x2, x3, x10 => pools_First.l1 k x0 x2 x3 x10 x10 x0 (x0.length : Int) 0
def pools_First.l1 : Nat → List (List (S38)) → Int → List Int → Int → Int → List (List (S38)) → Int → Int → Option (Int × Bool)
  | 0, _, _, _, _, _, _, _, _ => none
  | k + 1, x0, x2, x3, x10, x11, x28, x29, x30 => if x30 < x29 then (if 0 ≤ x30 then (if x30 < (x28.length : Int) then (if x30 < (x3.length : Int) then ((step_First.f k (rd_L2 x28 x30) x10 x2 (rd x3 x30)).bind fun bt419 => (if bt419.2 = true then (pools_First.l1 k x0 x2 x3 x10 (mx x11 bt419.1) x28 x29 (wrap64 (x30 + 1))) else (some (0, false)))) else (none)) else (none)) else (none)) else (if x11 = x10 then (some (x10, true)) else (pools_First.l0 k x0 x2 x3 x11))
end
def pools_First.f (k : Nat) (l0 : List (List (S38))) (a1 : Int) (a2 : Int) (l3 : List Int) : Option (Int × Bool) := (pools_Right.f k l0).bind fun t416 => (if t416 = true then (pools_First.j0 k l0 a1 a2 l3 ((l3.length : Int) != (l0.length : Int))) else (pools_First.j0 k l0 a1 a2 l3 true))
theorem pools_First.mono_l : ∀ k, (∀ y0 y1 y2 y3 y4, LeO (pools_First.j0 k y0 y1 y2 y3 y4) (pools_First.j0 (k + 1) y0 y1 y2 y3 y4)) ∧ (∀ y0 y1 y2 y3, LeO (pools_First.l0 k y0 y1 y2 y3) (pools_First.l0 (k + 1) y0 y1 y2 y3)) ∧ (∀ y0 y1 y2 y3 y4 y5 y6 y7, LeO (pools_First.l1 k y0 y1 y2 y3 y4 y5 y6 y7) (pools_First.l1 (k + 1) y0 y1 y2 y3 y4 y5 y6 y7))
  | 0 => ⟨fun _ _ _ _ _ r h => by simp [pools_First.j0] at h, fun _ _ _ _ r h => by simp [pools_First.l0] at h, fun _ _ _ _ _ _ _ _ r h => by simp [pools_First.l1] at h⟩
  | k + 1 => by
    obtain ⟨ih0, ih1, ih2⟩ := pools_First.mono_l k
    refine ⟨?_, ?_, ?_⟩
    · intro y0 y1 y2 y3 y4
      unfold pools_First.j0
      repeat' first
      | (with_reducible exact ih0 _ _ _ _ _)
      | (with_reducible exact ih1 _ _ _ _)
      | (with_reducible exact ih2 _ _ _ _ _ _ _ _)
      | (with_reducible exact pools_Right.mono _ _)
      | (with_reducible exact step_First.mono _ _ _ _ _)
      | (with_reducible exact LeO.refl _)
      | (with_reducible exact LeO.none _)
      | (with_reducible refine LeO.ite ?_ ?_)
      | (with_reducible refine LeO.bind ?_ (fun _ => ?_))
      | exact ih0 _ _ _ _ _
      | exact ih1 _ _ _ _
      | exact ih2 _ _ _ _ _ _ _ _
      | exact pools_Right.mono _ _
      | exact step_First.mono _ _ _ _ _
      | exact LeO.none _
      | refine LeO.ite ?_ ?_
      | refine LeO.bind ?_ (fun _ => ?_)
    · intro y0 y1 y2 y3
      unfold pools_First.l0
      repeat' first
      | (with_reducible exact ih0 _ _ _ _ _)
      | (with_reducible exact ih1 _ _ _ _)
      | (with_reducible exact ih2 _ _ _ _ _ _ _ _)
      | (with_reducible exact pools_Right.mono _ _)
      | (with_reducible exact step_First.mono _ _ _ _ _)
      | (with_reducible exact LeO.refl _)
      | (with_reducible exact LeO.none _)
      | (with_reducible refine LeO.ite ?_ ?_)
      | (with_reducible refine LeO.bind ?_ (fun _ => ?_))
      | exact ih0 _ _ _ _ _
      | exact ih1 _ _ _ _
      | exact ih2 _ _ _ _ _ _ _ _
      | exact pools_Right.mono _ _
      | exact step_First.mono _ _ _ _ _
      | exact LeO.none _
      | refine LeO.ite ?_ ?_
      | refine LeO.bind ?_ (fun _ => ?_)
    intro y0 y1 y2 y3 y4 y5 y6 y7
    unfold pools_First.l1
    repeat' first
    | (with_reducible exact ih0 _ _ _ _ _)
    | (with_reducible exact ih1 _ _ _ _)
    | (with_reducible exact ih2 _ _ _ _ _ _ _ _)
    | (with_reducible exact pools_Right.mono _ _)
    | (with_reducible exact step_First.mono _ _ _ _ _)
    | (with_reducible exact LeO.refl _)
    | (with_reducible exact LeO.none _)
    | (with_reducible refine LeO.ite ?_ ?_)
    | (with_reducible refine LeO.bind ?_ (fun _ => ?_))
    | exact ih0 _ _ _ _ _
    | exact ih1 _ _ _ _
    | exact ih2 _ _ _ _ _ _ _ _
    | exact pools_Right.mono _ _
    | exact step_First.mono _ _ _ _ _
    | exact LeO.none _
    | refine LeO.ite ?_ ?_
    | refine LeO.bind ?_ (fun _ => ?_)
theorem pools_First.mono : ∀ a0 a1 a2 a3 k, LeO (pools_First.f k a0 a1 a2 a3) (pools_First.f (k + 1) a0 a1 a2 a3) := by
  intro a0 a1 a2 a3 k
  obtain ⟨ih0, ih1, ih2⟩ := pools_First.mono_l k
  unfold pools_First.f
  repeat' first
      | (with_reducible exact ih0 _ _ _ _ _)
      | (with_reducible exact ih1 _ _ _ _)
      | (with_reducible exact ih2 _ _ _ _ _ _ _ _)
      | (with_reducible exact pools_Right.mono _ _)
      | (with_reducible exact step_First.mono _ _ _ _ _)
      | (with_reducible exact LeO.refl _)
      | (with_reducible exact LeO.none _)
      | (with_reducible refine LeO.ite ?_ ?_)
      | (with_reducible refine LeO.bind ?_ (fun _ => ?_))
      | exact ih0 _ _ _ _ _
      | exact ih1 _ _ _ _
      | exact ih2 _ _ _ _ _ _ _ _
      | exact pools_Right.mono _ _
      | exact step_First.mono _ _ _ _ _
      | exact LeO.none _
      | refine LeO.ite ?_ ?_
      | refine LeO.bind ?_ (fun _ => ?_)
set_option maxHeartbeats 8000000 in
set_option maxRecDepth 100000 in
theorem pools_First.calls (k : Nat) (A0 : Option Addr) (c0 : Nat) (l0 : List (List (S38))) (a1 : Int) (a2 : Int) (A3 : Option Addr) (c3 : Nat) (l3 : List Int) (r1 : Int) (r2 : Bool) (w : World) (hr0 : Kd.C (Kd.slice 38 k38) w A0 l0.length l0) (hc0 : l0.length ≤ c0) (hr3 : Kd.C (Kd.int .i64) w A3 l3.length l3) (hc3 : l3.length ≤ c3) (h : pools_First.f k l0 a1 a2 l3 = some (r1, r2)) :
    Calls Try.prog 24 #[.slice A0 l0.length c0, .int .i64 a1, .int .i64 a2, .slice A3 l3.length c3] w fun e w' => e = .returned (.tuple #[.int .i64 r1, .bool r2]) ∧ Below w.heap.size w w' := by
  have HR0 := Aside0.mk hr0
  have HC0 := Aside0.mk hc0
  clear hr0 hc0
  have HR3 := Aside0.mk hr3
  have HC3 := Aside0.mk hc3
  clear hr3 hc3
  have HB := Aside0.mk (Below.refl w.heap.size w)
  have H : ((pools_Right.f k l0).bind fun t416 => (if t416 = true then (pools_First.j0 k l0 a1 a2 l3 ((l3.length : Int) != (l0.length : Int))) else (pools_First.j0 k l0 a1 a2 l3 true))) = some (r1, r2) := h
  clear h
  have HC5 := Aside0.mk H
  clear H
  go_enter Try.func24, Try.ntmps24
  go_upto_region 1 with (fail)
  go_cut [25] (fun v25 wc => ∃ (kq : Nat) (x25_4 : Bool), v25 = .bool x25_4 ∧ Aside0 (pools_First.j0 kq l0 a1 a2 l3 x25_4 = some (r1, r2)) ∧ Aside0 (kq ≤ k) ∧ Aside0 (Below w.heap.size w wc))
  case first =>
    have H := HC5.out
    clear HC5
    replace H := Option.bind_eq_some_iff.mp H
    obtain ⟨t416, A60, H⟩ := H
    replace H : (if t416 = true then (pools_First.j0 k l0 a1 a2 l3 ((l3.length : Int) != (l0.length : Int))) else (pools_First.j0 k l0 a1 a2 l3 true)) = some (r1, r2) := H
    have A6 := Aside0.mk A60
    clear A60
    by_cases c7 : t416 = true
    · subst c7
      have H1 : (pools_First.j0 k l0 a1 a2 l3 ((l3.length : Int) != (l0.length : Int))) = some (r1, r2) := by rw [if_pos rfl] at H; exact H
      clear H
      have H := H1
      clear H1
      have H' := Aside0.mk H
      clear H
      go_wp2_with (first | ((with_reducible refine gate_callee (f := 26) rfl ?_); refine goesL_ (some 17) rfl rfl Try.func26 (by kernel_rfl) rfl #[.slice A0 l0.length c0] rfl (by (try simp only [List.map_toArray, List.map_cons, List.map_nil]); first | done | rfl) ?_; (with_reducible refine (pools_Right.calls k _ _ l0 true _ ?side1 ?side2 A6.out).mono ?_); (case side1 => repeat (first | exact (Kd.C_below HR0.out HB.out) | (with_reducible refine Kd.C_alloc ?_ _) | (with_reducible refine Kd.C_drewN ?_ _) | (with_reducible refine Kd.C_drew ?_))); (case side2 => exact HC0.out); rintro e w8 ⟨rfl, hb⟩; refine ⟨_, rfl, ?_⟩; have n0_ := Aside0.mk (below_step (by repeat (first | (with_reducible first | exact HB.out | apply below_alloc | apply pw_below_drewN | apply below_drew1) | exact HB.out)) hb); clear HB; have HB := n0_; clear n0_; (try clear hb); (try clear hb2); (try clear hk); (try clear hi)))
      go_meet
      case rel => exact ⟨_, (((l3.length : Int) != (l0.length : Int))), (by first | rfl | (simp; done) | (simp [*]; done)), H', ⟨by first | omega | exact Nat.le_refl _⟩, ⟨by repeat (first | (with_reducible first | exact HB.out | apply below_alloc | apply pw_below_drewN | apply below_drew1) | exact HB.out)⟩⟩
    replace c7 := Bool.eq_false_iff.mpr c7
    subst c7
    have H1 : (pools_First.j0 k l0 a1 a2 l3 true) = some (r1, r2) := by rw [if_neg (show ¬ (false = true) by decide)] at H; exact H
    clear H
    have H := H1
    clear H1
    have H' := Aside0.mk H
    clear H
    go_wp2_with (first | ((with_reducible refine gate_callee (f := 26) rfl ?_); refine goesL_ (some 17) rfl rfl Try.func26 (by kernel_rfl) rfl #[.slice A0 l0.length c0] rfl (by (try simp only [List.map_toArray, List.map_cons, List.map_nil]); first | done | rfl) ?_; (with_reducible refine (pools_Right.calls k _ _ l0 false _ ?side1 ?side2 A6.out).mono ?_); (case side1 => repeat (first | exact (Kd.C_below HR0.out HB.out) | (with_reducible refine Kd.C_alloc ?_ _) | (with_reducible refine Kd.C_drewN ?_ _) | (with_reducible refine Kd.C_drew ?_))); (case side2 => exact HC0.out); rintro e w9 ⟨rfl, hb⟩; refine ⟨_, rfl, ?_⟩; have n0_ := Aside0.mk (below_step (by repeat (first | (with_reducible first | exact HB.out | apply below_alloc | apply pw_below_drewN | apply below_drew1) | exact HB.out)) hb); clear HB; have HB := n0_; clear n0_; (try clear hb); (try clear hb2); (try clear hk); (try clear hi)))
    go_meet
    case rel => exact ⟨_, (true), (by first | rfl | (simp; done) | (simp [*]; done)), H', ⟨by first | omega | exact Nat.le_refl _⟩, ⟨by repeat (first | (with_reducible first | exact HB.out | apply below_alloc | apply pw_below_drewN | apply below_drew1) | exact HB.out)⟩⟩
  clear HC5
  try clear c2
  try clear p2
  try clear c3
  try clear c7
  obtain ⟨kq, x25_4, rfl, HA, HJ4, HB⟩ := hcut
  rcases kq with _ | kj4
  · exact absurd HA.out (by simp [pools_First.j0])
  have H := HA.out
  clear HA
  simp only [pools_First.j0] at H
  by_cases c10 : x25_4 = true
  · subst c10
    have H1 : (some (0, false)) = some (r1, r2) := by rw [if_pos rfl] at H; exact H
    clear H
    have H := H1
    clear H1
    simp only [Option.some.injEq, Prod.mk.injEq] at H
    obtain ⟨rfl, rfl⟩ := H
    go_wp2
    go_ret2
    exact ⟨by first | rfl | (simp [errW_none, errW_some] <;> rfl) | (simp [*, errW_none, errW_some] <;> rfl), by repeat (first | (with_reducible first | exact HB.out | apply below_alloc | apply pw_below_drewN | apply below_drew1) | exact HB.out)⟩
  replace c10 := Bool.eq_false_iff.mpr c10
  subst c10
  have H1 : (pools_First.l0 kj4 l0 a2 l3 a1) = some (r1, r2) := by rw [if_neg (show ¬ (false = true) by decide)] at H; exact H
  clear H
  have H := H1
  clear H1
  have H' := Aside0.mk H
  clear H
  go_wp2
  go_loopg [10] kj4 (fun kq v10 w' => ∃ (x10_2 : Int), v10 = .int .i64 x10_2 ∧ Aside0 (pools_First.l0 kq l0 a2 l3 x10_2 = some (r1, r2)) ∧ Aside0 (kq ≤ kj4) ∧ Aside0 (Below w.heap.size w w'))
  case atStart => exact ⟨(a1), (by first | rfl | (simp; done) | (simp [*]; done)), H', ⟨Nat.le_refl _⟩, ⟨by repeat (first | (with_reducible first | exact HB.out | apply below_alloc | apply pw_below_drewN | apply below_drew1) | exact HB.out)⟩⟩
  clear H'
  try clear c1
  try clear c2
  try clear p2
  try clear c3
  try clear c7
  try clear c10
  try clear p2
  obtain ⟨x10_2, rfl, HA, HK2, HB⟩ := hrel
  rcases gk with _ | k2
  · exact absurd HA.out (by simp [pools_First.l0])
  have H := HA.out
  clear HA
  simp only [pools_First.l0] at H
  have H' := Aside0.mk H
  clear H
  go_wp2
  go_loopg [11, 30] k2 (fun kq v11 v30 w' => ∃ (x11_3 : Int) (x30_3 : Int), v11 = .int .i64 x11_3 ∧ v30 = .int .i64 x30_3 ∧ Aside0 (pools_First.l1 kq l0 a2 l3 x10_2 x11_3 l0 (l0.length : Int) x30_3 = some (r1, r2)) ∧ Aside0 (kq ≤ k2) ∧ Aside0 (Below w.heap.size w w'))
  case atStart => exact ⟨(x10_2), (0), (by first | rfl | (simp; done) | (simp [*]; done)), (by first | rfl | (simp; done) | (simp [*]; done)), H', ⟨Nat.le_refl _⟩, ⟨by repeat (first | (with_reducible first | exact HB.out | apply below_alloc | apply pw_below_drewN | apply below_drew1) | exact HB.out)⟩⟩
  clear H'
  try clear c1
  try clear c2
  try clear p2
  try clear c3
  try clear c7
  try clear c10
  try clear p2
  obtain ⟨x11_3, x30_3, rfl, rfl, HA, HK3, HB⟩ := hrel
  rcases gk with _ | k3
  · exact absurd HA.out (by simp [pools_First.l1])
  have H := HA.out
  clear HA
  simp only [pools_First.l1] at H
  by_cases c11 : x30_3 < (l0.length : Int)
  rotate_left
  · rw [if_neg c11] at H
    have c11b0 : decide (x30_3 < (l0.length : Int)) = false := decide_eq_false c11
    clear c11
    by_cases c20 : x11_3 = x10_2
    · rw [if_pos c20] at H
      have c20b0 : (x11_3 == x10_2) = true := beq_iff_eq.mpr c20
      have c20b1 : (x11_3 != x10_2) = false := bne_eq_false_iff_eq.mpr c20
      clear c20
      simp only [Option.some.injEq, Prod.mk.injEq] at H
      obtain ⟨rfl, rfl⟩ := H
      go_wp2
      go_ret2
      exact ⟨by first | rfl | (simp [errW_none, errW_some] <;> rfl) | (simp [*, errW_none, errW_some] <;> rfl), by repeat (first | (with_reducible first | exact HB.out | apply below_alloc | apply pw_below_drewN | apply below_drew1) | exact HB.out)⟩
    rw [if_neg c20] at H
    have c20b0 : (x11_3 == x10_2) = false := beq_eq_false_iff_ne.mpr c20
    have c20b1 : (x11_3 != x10_2) = true := bne_iff_ne.mpr c20
    have H' := Aside0.mk H
    clear H
    go_wp2
    go_roundg k3
    case measure => have := HJ4.out; have := HK2.out; have := HK3.out; omega
    case rel => exact ⟨(x11_3), (by first | rfl | (simp; done) | (simp [*]; done)), H', ⟨by have := HJ4.out; have := HK2.out; have := HK3.out; omega⟩, ⟨by repeat (first | (with_reducible first | exact HB.out | apply below_alloc | apply pw_below_drewN | apply below_drew1) | exact HB.out)⟩⟩
  rw [if_pos c11] at H
  have c11b0 : decide (x30_3 < (l0.length : Int)) = true := decide_eq_true c11
  clear c11
  by_cases c12 : 0 ≤ x30_3
  rotate_left
  · rw [if_neg c12] at H
    exact absurd H (by simp)
  rw [if_pos c12] at H
  have c12b0 : decide (0 ≤ x30_3) = true := decide_eq_true c12
  clear c12
  by_cases c13 : x30_3 < (l0.length : Int)
  rotate_left
  · rw [if_neg c13] at H
    exact absurd H (by simp)
  rw [if_pos c13] at H
  have c13b0 : decide (x30_3 < (l0.length : Int)) = true := decide_eq_true c13
  clear c13
  by_cases c14 : x30_3 < (l3.length : Int)
  rotate_left
  · rw [if_neg c14] at H
    exact absurd H (by simp)
  rw [if_pos c14] at H
  have c14b0 : decide (x30_3 < (l3.length : Int)) = true := decide_eq_true c14
  clear c14
  replace H := Option.bind_eq_some_iff.mp H
  obtain ⟨⟨t419, t420⟩, A150, H⟩ := H
  replace H : (if t420 = true then (pools_First.l1 k3 l0 a2 l3 x10_2 (mx x11_3 t419) l0 (l0.length : Int) (wrap64 (x30_3 + 1))) else (some (0, false))) = some (r1, r2) := H
  have A15 := Aside0.mk A150
  clear A150
  by_cases c16 : t420 = true
  rotate_left
  · replace c16 := Bool.eq_false_iff.mpr c16
    subst c16
    have H1 : (some (0, false)) = some (r1, r2) := by rw [if_neg (show ¬ (false = true) by decide)] at H; exact H
    clear H
    have H := H1
    clear H1
    simp only [Option.some.injEq, Prod.mk.injEq] at H
    obtain ⟨rfl, rfl⟩ := H
    have p417 : 0 ≤ (x30_3 : Int) := of_decide_eq_true (by first | (with_reducible assumption) | assumption)
    have q417 : x30_3 < (l0.length : Int) := of_decide_eq_true (by first | (with_reducible assumption) | assumption)
    obtain ⟨ad417, A417_0, c417_0, e417, hx417_0, hl417_0, hi417_0⟩ := at_L2 HR0.out x30_3 p417 q417
    cases e417
    replace hx417_0 := (HB.out.cell (World.block_lt_of_cell? w _ hx417_0)).trans hx417_0
    have HR417_0 := Aside0.mk hi417_0
    have HC417_0 := Aside0.mk hl417_0
    clear hi417_0 hl417_0
    replace p417 := eq_true p417
    replace q417 := eq_true q417
    have p418 : 0 ≤ (x30_3 : Int) := of_decide_eq_true (by first | (with_reducible assumption) | assumption)
    have q418 : x30_3 < (l3.length : Int) := of_decide_eq_true (by first | (with_reducible assumption) | assumption)
    obtain ⟨ad418, e418, hx418_0⟩ := Kd.at_int HR3.out x30_3 p418 q418
    cases e418
    replace hx418_0 := (HB.out.cell (World.block_lt_of_cell? w _ hx418_0)).trans hx418_0
    replace p418 := eq_true p418
    replace q418 := eq_true q418
    go_wp2_with (first | ((with_reducible refine gate_callee (f := 25) rfl ?_); refine goesL_ (some 43) rfl rfl Try.func25 (by kernel_rfl) rfl #[.slice A417_0 (rd_L2 l0 x30_3).length c417_0, .int .i64 x10_2, .int .i64 a2, .int .i64 (rd l3 x30_3)] rfl (by (try simp only [List.map_toArray, List.map_cons, List.map_nil]); first | done | rfl) ?_; (with_reducible refine (step_First.calls k3 _ _ (rd_L2 l0 x30_3) x10_2 a2 (rd l3 x30_3) t419 false _ ?side1 ?side2 A15.out).mono ?_); (case side1 => repeat (first | exact (Kd.C_below HR417_0.out HB.out) | (with_reducible refine Kd.C_alloc ?_ _) | (with_reducible refine Kd.C_drewN ?_ _) | (with_reducible refine Kd.C_drew ?_))); (case side2 => exact HC417_0.out); rintro e w19 ⟨rfl, hb⟩; refine ⟨_, rfl, ?_⟩; have n0_ := Aside0.mk (below_step (by repeat (first | (with_reducible first | exact HB.out | apply below_alloc | apply pw_below_drewN | apply below_drew1) | exact HB.out)) hb); clear HB; have HB := n0_; clear n0_; (try clear hb); (try clear hb2); (try clear hk); (try clear hi)))
    go_ret2
    exact ⟨by first | rfl | (simp [errW_none, errW_some] <;> rfl) | (simp [*, errW_none, errW_some] <;> rfl), by repeat (first | (with_reducible first | exact HB.out | apply below_alloc | apply pw_below_drewN | apply below_drew1) | exact HB.out)⟩
  subst c16
  have H1 : (pools_First.l1 k3 l0 a2 l3 x10_2 (mx x11_3 t419) l0 (l0.length : Int) (wrap64 (x30_3 + 1))) = some (r1, r2) := by rw [if_pos rfl] at H; exact H
  clear H
  have H := H1
  clear H1
  obtain ⟨ji17, hji17⟩ : ∃ j_ : Int, (mx x11_3 t419) = j_ := ⟨_, rfl⟩
  replace H : (pools_First.l1 k3 l0 a2 l3 x10_2 ji17 l0 (l0.length : Int) (wrap64 (x30_3 + 1))) = some (r1, r2) := by first | (rw [hji17] at H; exact H) | (simp only [hji17] at H ⊢; exact H)
  (try rw [hji17] at A15)
  have hji17_ : (if x11_3 < t419 then t419 else x11_3) = ji17 := hji17
  have H' := Aside0.mk H
  clear H
  have p417 : 0 ≤ (x30_3 : Int) := of_decide_eq_true (by first | (with_reducible assumption) | assumption)
  have q417 : x30_3 < (l0.length : Int) := of_decide_eq_true (by first | (with_reducible assumption) | assumption)
  obtain ⟨ad417, A417_0, c417_0, e417, hx417_0, hl417_0, hi417_0⟩ := at_L2 HR0.out x30_3 p417 q417
  cases e417
  replace hx417_0 := (HB.out.cell (World.block_lt_of_cell? w _ hx417_0)).trans hx417_0
  have HR417_0 := Aside0.mk hi417_0
  have HC417_0 := Aside0.mk hl417_0
  clear hi417_0 hl417_0
  replace p417 := eq_true p417
  replace q417 := eq_true q417
  have p418 : 0 ≤ (x30_3 : Int) := of_decide_eq_true (by first | (with_reducible assumption) | assumption)
  have q418 : x30_3 < (l3.length : Int) := of_decide_eq_true (by first | (with_reducible assumption) | assumption)
  obtain ⟨ad418, e418, hx418_0⟩ := Kd.at_int HR3.out x30_3 p418 q418
  cases e418
  replace hx418_0 := (HB.out.cell (World.block_lt_of_cell? w _ hx418_0)).trans hx418_0
  replace p418 := eq_true p418
  replace q418 := eq_true q418
  go_wp2_with (first | ((with_reducible refine gate_callee (f := 25) rfl ?_); refine goesL_ (some 43) rfl rfl Try.func25 (by kernel_rfl) rfl #[.slice A417_0 (rd_L2 l0 x30_3).length c417_0, .int .i64 x10_2, .int .i64 a2, .int .i64 (rd l3 x30_3)] rfl (by (try simp only [List.map_toArray, List.map_cons, List.map_nil]); first | done | rfl) ?_; (with_reducible refine (step_First.calls k3 _ _ (rd_L2 l0 x30_3) x10_2 a2 (rd l3 x30_3) t419 true _ ?side1 ?side2 A15.out).mono ?_); (case side1 => repeat (first | exact (Kd.C_below HR417_0.out HB.out) | (with_reducible refine Kd.C_alloc ?_ _) | (with_reducible refine Kd.C_drewN ?_ _) | (with_reducible refine Kd.C_drew ?_))); (case side2 => exact HC417_0.out); rintro e w18 ⟨rfl, hb⟩; refine ⟨_, rfl, ?_⟩; have n0_ := Aside0.mk (below_step (by repeat (first | (with_reducible first | exact HB.out | apply below_alloc | apply pw_below_drewN | apply below_drew1) | exact HB.out)) hb); clear HB; have HB := n0_; clear n0_; (try clear hb); (try clear hb2); (try clear hk); (try clear hi)))
  go_roundg k3
  case measure => have := HJ4.out; have := HK2.out; have := HK3.out; omega
  case rel => exact ⟨(ji17), (wrap64 (x30_3 + 1)), (by first | rfl | (simp; done) | (simp only [← hji17] <;> (first | rfl | simp)) | (simp [*]; done)), (by first | rfl | (simp; done) | (simp [*]; done)), H', ⟨by have := HJ4.out; have := HK2.out; have := HK3.out; omega⟩, ⟨by repeat (first | (with_reducible first | exact HB.out | apply below_alloc | apply pw_below_drewN | apply below_drew1) | exact HB.out)⟩⟩

end Go.Proofs.Ytpekjfmlpogfaaa.PAll
