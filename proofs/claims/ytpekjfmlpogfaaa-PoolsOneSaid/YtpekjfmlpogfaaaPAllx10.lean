-- Written by wip/tools/hprint.py of this claim's session (a driver over the kit's print, with contracts proved by hand among them).
import Derived.Test.YtpekjfmlpogfaaaPAllx0
import Derived.Test.YtpekjfmlpogfaaaPAllx2
import Derived.Test.YtpekjfmlpogfaaaPAllx3
import Derived.Test.YtpekjfmlpogfaaaPAllx5
import Derived.Test.YtpekjfmlpogfaaaPAllx9
namespace Go.Proofs.Ytpekjfmlpogfaaa.PAll
open Go.RowKit Go.Proofs.YtpekjfmlpogfaaaW.PrintWords Go.Proofs.YtpekjfmlpogfaaaW.PrintLast Go.Proofs.YtpekjfmlpogfaaaW.PrintMore
attribute [local go_sem] max2_int min2_int max_two min_two max_three min_three max_four min_four   -- for this text's walks alone
set_option linter.unusedVariables false
set_option linter.unusedSimpArgs false

/-! ### step_First: function 25 -/
mutual
def step_First.j0 : Nat → List (S38) → Int → Int → Int → Bool → Option (Int × Bool)
  | 0, _, _, _, _, _ => none
  | k + 1, x0, x1, x2, x3, x32 => if x32 = true then (some (0, false)) else ((step_place.f k x0 x1).bind fun t156 => (step_First.l0 k x0 x2 x3 x1 t156))
def step_First.l0 : Nat → List (S38) → Int → Int → Int → Int → Option (Int × Bool)
  | 0, _, _, _, _, _ => none
  | k + 1, x0, x2, x3, x10, x11 => if x11 < (x0.length : Int) then (if 0 ≤ x11 then ((when_Plus.f x10 x2).bind fun t158 => (step_First.j2 k x0 x2 x3 x10 x11 (decide (((rd_T38 x0 x11).f0) < t158)))) else (none)) else (step_First.j2 k x0 x2 x3 x10 x11 false)
def step_First.j2 : Nat → List (S38) → Int → Int → Int → Int → Bool → Option (Int × Bool)
  | 0, _, _, _, _, _, _ => none
  | k + 1, x0, x2, x3, x10, x11, x51 => if x51 = true then (if 0 ≤ x11 then (if x11 < (x0.length : Int) then (if ((rd_T38 x0 x11).f1) < x3 then (if (wrap64 (x11 + 1)) = (x0.length : Int) then (some (0, false)) else (if 0 ≤ (wrap64 (x11 + 1)) then (if (wrap64 (x11 + 1)) < (x0.length : Int) then (step_First.l0 k x0 x2 x3 ((rd_T38 x0 (wrap64 (x11 + 1))).f0) (wrap64 (x11 + 1))) else (none)) else (none))) else (step_First.l0 k x0 x2 x3 x10 (wrap64 (x11 + 1)))) else (none)) else (none)) else (if x10 = 4611686018427387904 then (some (0, false)) else (some (x10, true)))
end
def step_First.f (k : Nat) (l0 : List (S38)) (a1 : Int) (a2 : Int) (a3 : Int) : Option (Int × Bool) := (step_Right.f k l0).bind fun t153 => (if t153 = true then ((when_Right.f a1).bind fun t154 => (if t154 = true then (if a1 = 4611686018427387904 then (step_First.j0 k l0 a1 a2 a3 true) else (if a2 < 1 then (step_First.j0 k l0 a1 a2 a3 true) else ((step_amount.f a3).bind fun t155 => (step_First.j0 k l0 a1 a2 a3 (!t155))))) else (step_First.j0 k l0 a1 a2 a3 true))) else (step_First.j0 k l0 a1 a2 a3 true))
theorem step_First.mono_l : ∀ k, (∀ y0 y1 y2 y3 y4, LeO (step_First.j0 k y0 y1 y2 y3 y4) (step_First.j0 (k + 1) y0 y1 y2 y3 y4)) ∧ (∀ y0 y1 y2 y3 y4, LeO (step_First.l0 k y0 y1 y2 y3 y4) (step_First.l0 (k + 1) y0 y1 y2 y3 y4)) ∧ (∀ y0 y1 y2 y3 y4 y5, LeO (step_First.j2 k y0 y1 y2 y3 y4 y5) (step_First.j2 (k + 1) y0 y1 y2 y3 y4 y5))
  | 0 => ⟨fun _ _ _ _ _ r h => by simp [step_First.j0] at h, fun _ _ _ _ _ r h => by simp [step_First.l0] at h, fun _ _ _ _ _ _ r h => by simp [step_First.j2] at h⟩
  | k + 1 => by
    obtain ⟨ih0, ih1, ih2⟩ := step_First.mono_l k
    refine ⟨?_, ?_, ?_⟩
    · intro y0 y1 y2 y3 y4
      unfold step_First.j0
      repeat' first
      | (with_reducible exact ih0 _ _ _ _ _)
      | (with_reducible exact ih1 _ _ _ _ _)
      | (with_reducible exact ih2 _ _ _ _ _ _)
      | (with_reducible exact step_Right.mono _ _)
      | (with_reducible exact step_place.mono _ _ _)
      | (with_reducible exact LeO.refl _)
      | (with_reducible exact LeO.none _)
      | (with_reducible refine LeO.ite ?_ ?_)
      | (with_reducible refine LeO.bind ?_ (fun _ => ?_))
      | exact ih0 _ _ _ _ _
      | exact ih1 _ _ _ _ _
      | exact ih2 _ _ _ _ _ _
      | exact step_Right.mono _ _
      | exact step_place.mono _ _ _
      | exact LeO.none _
      | refine LeO.ite ?_ ?_
      | refine LeO.bind ?_ (fun _ => ?_)
    · intro y0 y1 y2 y3 y4
      unfold step_First.l0
      repeat' first
      | (with_reducible exact ih0 _ _ _ _ _)
      | (with_reducible exact ih1 _ _ _ _ _)
      | (with_reducible exact ih2 _ _ _ _ _ _)
      | (with_reducible exact step_Right.mono _ _)
      | (with_reducible exact step_place.mono _ _ _)
      | (with_reducible exact LeO.refl _)
      | (with_reducible exact LeO.none _)
      | (with_reducible refine LeO.ite ?_ ?_)
      | (with_reducible refine LeO.bind ?_ (fun _ => ?_))
      | exact ih0 _ _ _ _ _
      | exact ih1 _ _ _ _ _
      | exact ih2 _ _ _ _ _ _
      | exact step_Right.mono _ _
      | exact step_place.mono _ _ _
      | exact LeO.none _
      | refine LeO.ite ?_ ?_
      | refine LeO.bind ?_ (fun _ => ?_)
    intro y0 y1 y2 y3 y4 y5
    unfold step_First.j2
    repeat' first
    | (with_reducible exact ih0 _ _ _ _ _)
    | (with_reducible exact ih1 _ _ _ _ _)
    | (with_reducible exact ih2 _ _ _ _ _ _)
    | (with_reducible exact step_Right.mono _ _)
    | (with_reducible exact step_place.mono _ _ _)
    | (with_reducible exact LeO.refl _)
    | (with_reducible exact LeO.none _)
    | (with_reducible refine LeO.ite ?_ ?_)
    | (with_reducible refine LeO.bind ?_ (fun _ => ?_))
    | exact ih0 _ _ _ _ _
    | exact ih1 _ _ _ _ _
    | exact ih2 _ _ _ _ _ _
    | exact step_Right.mono _ _
    | exact step_place.mono _ _ _
    | exact LeO.none _
    | refine LeO.ite ?_ ?_
    | refine LeO.bind ?_ (fun _ => ?_)
theorem step_First.mono : ∀ a0 a1 a2 a3 k, LeO (step_First.f k a0 a1 a2 a3) (step_First.f (k + 1) a0 a1 a2 a3) := by
  intro a0 a1 a2 a3 k
  obtain ⟨ih0, ih1, ih2⟩ := step_First.mono_l k
  unfold step_First.f
  repeat' first
      | (with_reducible exact ih0 _ _ _ _ _)
      | (with_reducible exact ih1 _ _ _ _ _)
      | (with_reducible exact ih2 _ _ _ _ _ _)
      | (with_reducible exact step_Right.mono _ _)
      | (with_reducible exact step_place.mono _ _ _)
      | (with_reducible exact LeO.refl _)
      | (with_reducible exact LeO.none _)
      | (with_reducible refine LeO.ite ?_ ?_)
      | (with_reducible refine LeO.bind ?_ (fun _ => ?_))
      | exact ih0 _ _ _ _ _
      | exact ih1 _ _ _ _ _
      | exact ih2 _ _ _ _ _ _
      | exact step_Right.mono _ _
      | exact step_place.mono _ _ _
      | exact LeO.none _
      | refine LeO.ite ?_ ?_
      | refine LeO.bind ?_ (fun _ => ?_)
def step_First.T5 : Bool × List (List Nat × List Nat) := (true, [([], []), ([], []), ([1], [1]), ([0, 2], [0, 2]), ([3], [3]), ([4], [4]), ([4], [4]), ([5, 6, 4], [4, 5, 6]), ([7, 4], [4, 7]), ([8, 4], [4, 8]), ([4], [4]), ([4], [4]), ([10, 11, 4, 4], [4, 10, 11]), ([9, 12, 4], [4, 9, 12]), ([4, 13], [4, 13])])
def step_First.B5 : List Nat := [0, 0, 2, 7, 15, 31, 31, 127, 255, 511, 31, 31, 3103, 8191, 16383]
theorem step_First.tab5 : rtab .any (opsOf Try.f25 5) = step_First.T5 := by kernel_rfl
theorem step_First.bits5 : waitsOk step_First.T5.2 step_First.B5 = true := by kernel_rfl
set_option maxHeartbeats 8000000 in
set_option maxRecDepth 100000 in
theorem step_First.calls (k : Nat) (A0 : Option Addr) (c0 : Nat) (l0 : List (S38)) (a1 : Int) (a2 : Int) (a3 : Int) (r1 : Int) (r2 : Bool) (w : World) (hr0 : Kd.C k38 w A0 l0.length l0) (hc0 : l0.length ≤ c0) (h : step_First.f k l0 a1 a2 a3 = some (r1, r2)) :
    Calls Try.prog 25 #[.slice A0 l0.length c0, .int .i64 a1, .int .i64 a2, .int .i64 a3] w fun e w' => e = .returned (.tuple #[.int .i64 r1, .bool r2]) ∧ Below w.heap.size w w' := by
  have HR0 := Aside0.mk hr0
  have HC0 := Aside0.mk hc0
  clear hr0 hc0
  have HB := Aside0.mk (Below.refl w.heap.size w)
  have H : ((step_Right.f k l0).bind fun t153 => (if t153 = true then ((when_Right.f a1).bind fun t154 => (if t154 = true then (if a1 = 4611686018427387904 then (step_First.j0 k l0 a1 a2 a3 true) else (if a2 < 1 then (step_First.j0 k l0 a1 a2 a3 true) else ((step_amount.f a3).bind fun t155 => (step_First.j0 k l0 a1 a2 a3 (!t155))))) else (step_First.j0 k l0 a1 a2 a3 true))) else (step_First.j0 k l0 a1 a2 a3 true))) = some (r1, r2) := h
  clear h
  have HC5 := Aside0.mk H
  clear H
  go_enter Try.func25, Try.ntmps25
  go_upto_region 1 with (fail)
  go_cut [32] (fun v32 wc => ∃ (kq : Nat) (x32_4 : Bool), v32 = .bool x32_4 ∧ Aside0 (step_First.j0 kq l0 a1 a2 a3 x32_4 = some (r1, r2)) ∧ Aside0 (kq ≤ k) ∧ Aside0 (Below w.heap.size w wc))
  case first =>
    have H := HC5.out
    clear HC5
    replace H := Option.bind_eq_some_iff.mp H
    obtain ⟨t153, A60, H⟩ := H
    replace H : (if t153 = true then ((when_Right.f a1).bind fun t154 => (if t154 = true then (if a1 = 4611686018427387904 then (step_First.j0 k l0 a1 a2 a3 true) else (if a2 < 1 then (step_First.j0 k l0 a1 a2 a3 true) else ((step_amount.f a3).bind fun t155 => (step_First.j0 k l0 a1 a2 a3 (!t155))))) else (step_First.j0 k l0 a1 a2 a3 true))) else (step_First.j0 k l0 a1 a2 a3 true)) = some (r1, r2) := H
    have A6 := Aside0.mk A60
    clear A60
    by_cases c7 : t153 = true
    rotate_left
    · replace c7 := Bool.eq_false_iff.mpr c7
      subst c7
      have H1 : (step_First.j0 k l0 a1 a2 a3 true) = some (r1, r2) := by rw [if_neg (show ¬ (false = true) by decide)] at H; exact H
      clear H
      have H := H1
      clear H1
      have H' := Aside0.mk H
      clear H
      go_wp2_with (first | ((with_reducible refine gate_callee (f := 18) rfl ?_); refine goesL_ (some 13) rfl rfl Try.func18 (by kernel_rfl) rfl #[.slice A0 l0.length c0] rfl (by (try simp only [List.map_toArray, List.map_cons, List.map_nil]); first | done | rfl) ?_; (with_reducible refine (step_Right.calls k _ _ l0 false _ ?side1 ?side2 A6.out).mono ?_); (case side1 => repeat (first | exact (Kd.C_below HR0.out HB.out) | (with_reducible refine Kd.C_alloc ?_ _) | (with_reducible refine Kd.C_drewN ?_ _) | (with_reducible refine Kd.C_drew ?_))); (case side2 => exact HC0.out); rintro e w17 ⟨rfl, hb⟩; refine ⟨_, rfl, ?_⟩; have n0_ := Aside0.mk (below_step (by repeat (first | (with_reducible first | exact HB.out | apply below_alloc | apply pw_below_drewN | apply below_drew1) | exact HB.out)) hb); clear HB; have HB := n0_; clear n0_; (try clear hb); (try clear hb2); (try clear hk); (try clear hi)))
      go_meet
      case rel => exact ⟨_, (true), (by first | rfl | (simp; done) | (simp [*]; done)), H', ⟨by first | omega | exact Nat.le_refl _⟩, ⟨by repeat (first | (with_reducible first | exact HB.out | apply below_alloc | apply pw_below_drewN | apply below_drew1) | exact HB.out)⟩⟩
    subst c7
    have H1 : ((when_Right.f a1).bind fun t154 => (if t154 = true then (if a1 = 4611686018427387904 then (step_First.j0 k l0 a1 a2 a3 true) else (if a2 < 1 then (step_First.j0 k l0 a1 a2 a3 true) else ((step_amount.f a3).bind fun t155 => (step_First.j0 k l0 a1 a2 a3 (!t155))))) else (step_First.j0 k l0 a1 a2 a3 true))) = some (r1, r2) := by rw [if_pos rfl] at H; exact H
    clear H
    have H := H1
    clear H1
    replace H := Option.bind_eq_some_iff.mp H
    obtain ⟨t154, A80, H⟩ := H
    replace H : (if t154 = true then (if a1 = 4611686018427387904 then (step_First.j0 k l0 a1 a2 a3 true) else (if a2 < 1 then (step_First.j0 k l0 a1 a2 a3 true) else ((step_amount.f a3).bind fun t155 => (step_First.j0 k l0 a1 a2 a3 (!t155))))) else (step_First.j0 k l0 a1 a2 a3 true)) = some (r1, r2) := H
    have A8 := Aside0.mk A80
    clear A80
    by_cases c9 : t154 = true
    rotate_left
    · replace c9 := Bool.eq_false_iff.mpr c9
      subst c9
      have H1 : (step_First.j0 k l0 a1 a2 a3 true) = some (r1, r2) := by rw [if_neg (show ¬ (false = true) by decide)] at H; exact H
      clear H
      have H := H1
      clear H1
      have H' := Aside0.mk H
      clear H
      go_wp2_with (first | ((with_reducible refine gate_callee (f := 18) rfl ?_); refine goesL_ (some 13) rfl rfl Try.func18 (by kernel_rfl) rfl #[.slice A0 l0.length c0] rfl (by (try simp only [List.map_toArray, List.map_cons, List.map_nil]); first | done | rfl) ?_; (with_reducible refine (step_Right.calls k _ _ l0 true _ ?side1 ?side2 A6.out).mono ?_); (case side1 => repeat (first | exact (Kd.C_below HR0.out HB.out) | (with_reducible refine Kd.C_alloc ?_ _) | (with_reducible refine Kd.C_drewN ?_ _) | (with_reducible refine Kd.C_drew ?_))); (case side2 => exact HC0.out); rintro e w16 ⟨rfl, hb⟩; refine ⟨_, rfl, ?_⟩; have n0_ := Aside0.mk (below_step (by repeat (first | (with_reducible first | exact HB.out | apply below_alloc | apply pw_below_drewN | apply below_drew1) | exact HB.out)) hb); clear HB; have HB := n0_; clear n0_; (try clear hb); (try clear hb2); (try clear hk); (try clear hi)) | (go_at_call 43; (with_reducible refine (when_Right.calls a1 false _ A8.out).mono ?_); rintro e w' ⟨rfl, ⟨nd, rfl⟩⟩))
      go_meet
      case rel => exact ⟨_, (true), (by first | rfl | (simp; done) | (simp [*]; done)), H', ⟨by first | omega | exact Nat.le_refl _⟩, ⟨by repeat (first | (with_reducible first | exact HB.out | apply below_alloc | apply pw_below_drewN | apply below_drew1) | exact HB.out)⟩⟩
    subst c9
    have H1 : (if a1 = 4611686018427387904 then (step_First.j0 k l0 a1 a2 a3 true) else (if a2 < 1 then (step_First.j0 k l0 a1 a2 a3 true) else ((step_amount.f a3).bind fun t155 => (step_First.j0 k l0 a1 a2 a3 (!t155))))) = some (r1, r2) := by rw [if_pos rfl] at H; exact H
    clear H
    have H := H1
    clear H1
    by_cases c10 : a1 = 4611686018427387904
    · rw [if_pos c10] at H
      have c10b0 : (a1 == 4611686018427387904) = true := beq_iff_eq.mpr c10
      have c10b1 : (a1 != 4611686018427387904) = false := bne_eq_false_iff_eq.mpr c10
      clear c10
      (first | rw [c10b0] | (simp only [i64_w, i32_w]; rw [c10b0]) | skip)
      have H' := Aside0.mk H
      clear H
      go_wp2_with (first | ((with_reducible refine gate_callee (f := 18) rfl ?_); refine goesL_ (some 13) rfl rfl Try.func18 (by kernel_rfl) rfl #[.slice A0 l0.length c0] rfl (by (try simp only [List.map_toArray, List.map_cons, List.map_nil]); first | done | rfl) ?_; (with_reducible refine (step_Right.calls k _ _ l0 true _ ?side1 ?side2 A6.out).mono ?_); (case side1 => repeat (first | exact (Kd.C_below HR0.out HB.out) | (with_reducible refine Kd.C_alloc ?_ _) | (with_reducible refine Kd.C_drewN ?_ _) | (with_reducible refine Kd.C_drew ?_))); (case side2 => exact HC0.out); rintro e w11 ⟨rfl, hb⟩; refine ⟨_, rfl, ?_⟩; have n0_ := Aside0.mk (below_step (by repeat (first | (with_reducible first | exact HB.out | apply below_alloc | apply pw_below_drewN | apply below_drew1) | exact HB.out)) hb); clear HB; have HB := n0_; clear n0_; (try clear hb); (try clear hb2); (try clear hk); (try clear hi)) | (go_at_call 43; (with_reducible refine (when_Right.calls a1 true _ A8.out).mono ?_); rintro e w' ⟨rfl, ⟨nd, rfl⟩⟩))
      go_meet
      case rel => exact ⟨_, (true), (by first | rfl | (simp; done) | (simp [*]; done)), H', ⟨by first | omega | exact Nat.le_refl _⟩, ⟨by repeat (first | (with_reducible first | exact HB.out | apply below_alloc | apply pw_below_drewN | apply below_drew1) | exact HB.out)⟩⟩
    rw [if_neg c10] at H
    have c10b0 : (a1 == 4611686018427387904) = false := beq_eq_false_iff_ne.mpr c10
    have c10b1 : (a1 != 4611686018427387904) = true := bne_iff_ne.mpr c10
    (first | rw [c10b0] | (simp only [i64_w, i32_w]; rw [c10b0]) | skip)
    by_cases c12 : a2 < 1
    · rw [if_pos c12] at H
      have c12b0 : decide (a2 < 1) = true := decide_eq_true c12
      clear c12
      have H' := Aside0.mk H
      clear H
      go_wp2_with (first | ((with_reducible refine gate_callee (f := 18) rfl ?_); refine goesL_ (some 13) rfl rfl Try.func18 (by kernel_rfl) rfl #[.slice A0 l0.length c0] rfl (by (try simp only [List.map_toArray, List.map_cons, List.map_nil]); first | done | rfl) ?_; (with_reducible refine (step_Right.calls k _ _ l0 true _ ?side1 ?side2 A6.out).mono ?_); (case side1 => repeat (first | exact (Kd.C_below HR0.out HB.out) | (with_reducible refine Kd.C_alloc ?_ _) | (with_reducible refine Kd.C_drewN ?_ _) | (with_reducible refine Kd.C_drew ?_))); (case side2 => exact HC0.out); rintro e w13 ⟨rfl, hb⟩; refine ⟨_, rfl, ?_⟩; have n0_ := Aside0.mk (below_step (by repeat (first | (with_reducible first | exact HB.out | apply below_alloc | apply pw_below_drewN | apply below_drew1) | exact HB.out)) hb); clear HB; have HB := n0_; clear n0_; (try clear hb); (try clear hb2); (try clear hk); (try clear hi)) | (go_at_call 43; (with_reducible refine (when_Right.calls a1 true _ A8.out).mono ?_); rintro e w' ⟨rfl, ⟨nd, rfl⟩⟩))
      go_meet
      case rel => exact ⟨_, (true), (by first | rfl | (simp; done) | (simp [*]; done)), H', ⟨by first | omega | exact Nat.le_refl _⟩, ⟨by repeat (first | (with_reducible first | exact HB.out | apply below_alloc | apply pw_below_drewN | apply below_drew1) | exact HB.out)⟩⟩
    rw [if_neg c12] at H
    have c12b0 : decide (a2 < 1) = false := decide_eq_false c12
    clear c12
    replace H := Option.bind_eq_some_iff.mp H
    obtain ⟨t155, A140, H⟩ := H
    replace H : (step_First.j0 k l0 a1 a2 a3 (!t155)) = some (r1, r2) := H
    have A14 := Aside0.mk A140
    clear A140
    have H' := Aside0.mk H
    clear H
    go_wp2_with (first | ((with_reducible refine gate_callee (f := 18) rfl ?_); refine goesL_ (some 13) rfl rfl Try.func18 (by kernel_rfl) rfl #[.slice A0 l0.length c0] rfl (by (try simp only [List.map_toArray, List.map_cons, List.map_nil]); first | done | rfl) ?_; (with_reducible refine (step_Right.calls k _ _ l0 true _ ?side1 ?side2 A6.out).mono ?_); (case side1 => repeat (first | exact (Kd.C_below HR0.out HB.out) | (with_reducible refine Kd.C_alloc ?_ _) | (with_reducible refine Kd.C_drewN ?_ _) | (with_reducible refine Kd.C_drew ?_))); (case side2 => exact HC0.out); rintro e w15 ⟨rfl, hb⟩; refine ⟨_, rfl, ?_⟩; have n0_ := Aside0.mk (below_step (by repeat (first | (with_reducible first | exact HB.out | apply below_alloc | apply pw_below_drewN | apply below_drew1) | exact HB.out)) hb); clear HB; have HB := n0_; clear n0_; (try clear hb); (try clear hb2); (try clear hk); (try clear hi)) | (go_at_call 43; (with_reducible refine (when_Right.calls a1 true _ A8.out).mono ?_); rintro e w' ⟨rfl, ⟨nd, rfl⟩⟩) | (go_at_call 35; (with_reducible refine (step_amount.calls a3 t155 _ A14.out).mono ?_); rintro e w' ⟨rfl, ⟨nd, rfl⟩⟩))
    go_meet
    case rel => exact ⟨_, (!t155), (by first | rfl | (simp; done) | (simp [*]; done)), H', ⟨by first | omega | exact Nat.le_refl _⟩, ⟨by repeat (first | (with_reducible first | exact HB.out | apply below_alloc | apply pw_below_drewN | apply below_drew1) | exact HB.out)⟩⟩
  clear HC5
  try clear c1
  try clear c2
  try clear p2
  try clear c7
  try clear c9
  try clear c10
  try clear c10b0
  try clear c10b1
  try clear c12
  try clear c12b0
  obtain ⟨kq, x32_4, rfl, HA, HJ4, HB⟩ := hcut
  rcases kq with _ | kj4
  · exact absurd HA.out (by simp [step_First.j0])
  have H := HA.out
  clear HA
  simp only [step_First.j0] at H
  by_cases c18 : x32_4 = true
  · subst c18
    have H1 : (some (0, false)) = some (r1, r2) := by rw [if_pos rfl] at H; exact H
    clear H
    have H := H1
    clear H1
    simp only [Option.some.injEq, Prod.mk.injEq] at H
    obtain ⟨rfl, rfl⟩ := H
    go_wp2
    go_ret2
    exact ⟨by first | rfl | (simp [errW_none, errW_some] <;> rfl) | (simp [*, errW_none, errW_some] <;> rfl), by repeat (first | (with_reducible first | exact HB.out | apply below_alloc | apply pw_below_drewN | apply below_drew1) | exact HB.out)⟩
  replace c18 := Bool.eq_false_iff.mpr c18
  subst c18
  have H1 : ((step_place.f kj4 l0 a1).bind fun t156 => (step_First.l0 kj4 l0 a2 a3 a1 t156)) = some (r1, r2) := by rw [if_neg (show ¬ (false = true) by decide)] at H; exact H
  clear H
  have H := H1
  clear H1
  replace H := Option.bind_eq_some_iff.mp H
  obtain ⟨t156, A190, H⟩ := H
  replace H : (step_First.l0 kj4 l0 a2 a3 a1 t156) = some (r1, r2) := H
  have A19 := Aside0.mk A190
  clear A190
  have H' := Aside0.mk H
  clear H
  go_wp2_with (first | ((with_reducible refine gate_callee (f := 40) rfl ?_); refine goesL_ (some 36) rfl rfl Try.func40 (by kernel_rfl) rfl #[.slice A0 l0.length c0, .int .i64 a1] rfl (by (try simp only [List.map_toArray, List.map_cons, List.map_nil]); first | done | rfl) ?_; (with_reducible refine (step_place.calls kj4 _ _ l0 a1 t156 _ ?side1 ?side2 A19.out).mono ?_); (case side1 => repeat (first | exact (Kd.C_below HR0.out HB.out) | (with_reducible refine Kd.C_alloc ?_ _) | (with_reducible refine Kd.C_drewN ?_ _) | (with_reducible refine Kd.C_drew ?_))); (case side2 => exact HC0.out); rintro e w20 ⟨rfl, hb⟩; refine ⟨_, rfl, ?_⟩; have n0_ := Aside0.mk (below_step (by repeat (first | (with_reducible first | exact HB.out | apply below_alloc | apply pw_below_drewN | apply below_drew1) | exact HB.out)) hb); clear HB; have HB := n0_; clear n0_; (try clear hb); (try clear hb2); (try clear hk); (try clear hi)))
  go_loopg [10, 11] kj4 (fun kq v10 v11 w' => ∃ (x10_2 : Int) (x11_2 : Int), v10 = .int .i64 x10_2 ∧ v11 = .int .i64 x11_2 ∧ Aside0 (step_First.l0 kq l0 a2 a3 x10_2 x11_2 = some (r1, r2)) ∧ Aside0 (kq ≤ kj4) ∧ Aside0 (Below w.heap.size w w'))
  case atStart => exact ⟨(a1), (t156), (by first | rfl | (simp; done) | (simp [*]; done)), (by first | rfl | (simp; done) | (simp [*]; done)), H', ⟨Nat.le_refl _⟩, ⟨by repeat (first | (with_reducible first | exact HB.out | apply below_alloc | apply pw_below_drewN | apply below_drew1) | exact HB.out)⟩⟩
  clear H'
  try clear c1
  try clear c2
  try clear p2
  try clear c4
  try clear c7
  try clear c9
  try clear c10
  try clear c10b0
  try clear c10b1
  try clear c12
  try clear c12b0
  try clear c18
  try clear p2
  obtain ⟨x10_2, x11_2, rfl, rfl, HA, HK2, HB⟩ := hrel
  rcases gk with _ | k2
  · exact absurd HA.out (by simp [step_First.l0])
  have H := HA.out
  clear HA
  simp only [step_First.l0] at H
  have HC21 := Aside0.mk H
  clear H
  go_upto_region 5 with (fail)
  go_cut [51] (fun v51 wc => ∃ (kq : Nat) (x51_20 : Bool), v51 = .bool x51_20 ∧ Aside0 (step_First.j2 kq l0 a2 a3 x10_2 x11_2 x51_20 = some (r1, r2)) ∧ Aside0 (kq ≤ k2) ∧ Aside0 (Below w.heap.size w wc))
  case first =>
    have H := HC21.out
    clear HC21
    by_cases c22 : x11_2 < (l0.length : Int)
    rotate_left
    · rw [if_neg c22] at H
      have c22b0 : decide (x11_2 < (l0.length : Int)) = false := decide_eq_false c22
      clear c22
      (first | rw [c22b0] | (simp only [i64_w, i32_w]; rw [c22b0]) | skip)
      have H' := Aside0.mk H
      clear H
      try go_wp2
      have n0_ := Aside0.mk (below_drew1 HB.out)
      clear HB
      have HB := n0_
      clear n0_
      refine start_ (n := 15) (S := fun w' => True) (ds := []) #[false, false, false, false, false, false, false, false, false, false, false, false, false, false, false] (by kernel_rfl) rfl rfl trivial (fun hHeld => ?_); refine with_tabW step_First.tab5 step_First.bits5 (fun HT_ HW_ => ?_)
      generalize wr.drew = w27 at HB hHeld ⊢
      refine pure_ (i := 0) (N := some 37) (v := ?_) (a' := ?_) #[true, false, false, false, false, false, false, false, false, false, false, false, false, false, false] rfl rfl (any_of HT_.out (by kernel_rfl)) (fun _ _ _ h => h) (Or.inl ⟨by rfl, ?_⟩) ?_ ?_
      rotate_left
      · intro w'
        go_simp
        with_reducible rfl
      rotate_left
      · simp only [Act.put, List.setIfInBounds_toArray, List.set_cons_zero, List.set_cons_succ, i64_w, i32_w]
        rfl
      refine pure_ (i := 1) (N := some 38) (v := ?_) (a' := ?_) #[true, true, false, false, false, false, false, false, false, false, false, false, false, false, false] rfl rfl (any_of HT_.out (by kernel_rfl)) (fun _ _ _ h => h) (Or.inl ⟨by rfl, ?_⟩) ?_ ?_
      rotate_left
      · intro w'
        go_simp
        with_reducible rfl
      rotate_left
      · simp only [Act.put, List.setIfInBounds_toArray, List.set_cons_zero, List.set_cons_succ, i64_w, i32_w]
        rfl
      refine pure_ (i := 2) (N := some 39) (v := ?_) (a' := ?_) #[true, true, true, false, false, false, false, false, false, false, false, false, false, false, false] rfl rfl (any_of HT_.out (by kernel_rfl)) (fun _ _ _ h => h) (Or.inl ⟨by rfl, ?_⟩) ?_ ?_
      rotate_left
      · intro w'
        go_simp
        with_reducible rfl
      rotate_left
      · simp only [Act.put, List.setIfInBounds_toArray, List.set_cons_zero, List.set_cons_succ, i64_w, i32_w]
        rfl
      refine pure_ (i := 3) (N := some 40) (v := ?_) (a' := ?_) #[true, true, true, true, false, false, false, false, false, false, false, false, false, false, false] rfl rfl (any_of HT_.out (by kernel_rfl)) (fun _ _ _ h => h) (Or.inl ⟨by rfl, ?_⟩) ?_ ?_
      rotate_left
      · intro w'
        go_simp
        with_reducible rfl
      rotate_left
      · simp only [Act.put, List.setIfInBounds_toArray, List.set_cons_zero, List.set_cons_succ, i64_w, i32_w]
        rfl
      refine pure_ (i := 4) (N := some 41) (v := ?_) (a' := ?_) #[true, true, true, true, true, false, false, false, false, false, false, false, false, false, false] rfl rfl (any_of HT_.out (by kernel_rfl)) (fun _ _ _ h => h) (Or.inl ⟨by rfl, ?_⟩) ?_ ?_
      rotate_left
      · intro w'
        go_simp
        with_reducible rfl
      rotate_left
      · simp only [Act.put, List.setIfInBounds_toArray, List.set_cons_zero, List.set_cons_succ, i64_w, i32_w]
        rfl
      refine pure_ (i := 5) (N := some 42) (v := undef) (a' := ?_) #[true, true, true, true, true, true, false, false, false, false, false, false, false, false, false] rfl rfl (any_of HT_.out (by kernel_rfl)) (fun _ _ _ h => h) (Or.inr ⟨by rfl, rfl⟩) ?_ ?_
      rotate_left
      · simp only [Act.put, List.setIfInBounds_toArray, List.set_cons_zero, List.set_cons_succ, i64_w, i32_w]
        rfl
      refine pure_ (i := 6) (N := some 43) (v := undef) (a' := ?_) #[true, true, true, true, true, true, true, false, false, false, false, false, false, false, false] rfl rfl (any_of HT_.out (by kernel_rfl)) (fun _ _ _ h => h) (Or.inr ⟨by rfl, rfl⟩) ?_ ?_
      rotate_left
      · simp only [Act.put, List.setIfInBounds_toArray, List.set_cons_zero, List.set_cons_succ, i64_w, i32_w]
        rfl
      refine pure_ (i := 7) (N := some 44) (v := undef) (a' := ?_) #[true, true, true, true, true, true, true, true, false, false, false, false, false, false, false] rfl rfl (any_of HT_.out (by kernel_rfl)) (fun _ _ _ h => h) (Or.inr ⟨by rfl, rfl⟩) ?_ ?_
      rotate_left
      · simp only [Act.put, List.setIfInBounds_toArray, List.set_cons_zero, List.set_cons_succ, i64_w, i32_w]
        rfl
      refine pure_ (i := 8) (N := some 45) (v := undef) (a' := ?_) #[true, true, true, true, true, true, true, true, true, false, false, false, false, false, false] rfl rfl (any_of HT_.out (by kernel_rfl)) (fun _ _ _ h => h) (Or.inr ⟨by rfl, rfl⟩) ?_ ?_
      rotate_left
      · simp only [Act.put, List.setIfInBounds_toArray, List.set_cons_zero, List.set_cons_succ, i64_w, i32_w]
        rfl
      refine pure_ (i := 9) (N := some 46) (v := undef) (a' := ?_) #[true, true, true, true, true, true, true, true, true, true, false, false, false, false, false] rfl rfl (any_of HT_.out (by kernel_rfl)) (fun _ _ _ h => h) (Or.inr ⟨by rfl, rfl⟩) ?_ ?_
      rotate_left
      · simp only [Act.put, List.setIfInBounds_toArray, List.set_cons_zero, List.set_cons_succ, i64_w, i32_w]
        rfl
      refine pure_ (i := 10) (N := some 47) (v := undef) (a' := ?_) #[true, true, true, true, true, true, true, true, true, true, true, false, false, false, false] rfl rfl (any_of HT_.out (by kernel_rfl)) (fun _ _ _ h => h) (Or.inr ⟨by rfl, rfl⟩) ?_ ?_
      rotate_left
      · simp only [Act.put, List.setIfInBounds_toArray, List.set_cons_zero, List.set_cons_succ, i64_w, i32_w]
        rfl
      refine pure_ (i := 11) (N := some 48) (v := undef) (a' := ?_) #[true, true, true, true, true, true, true, true, true, true, true, true, false, false, false] rfl rfl (any_of HT_.out (by kernel_rfl)) (fun _ _ _ h => h) (Or.inr ⟨by rfl, rfl⟩) ?_ ?_
      rotate_left
      · simp only [Act.put, List.setIfInBounds_toArray, List.set_cons_zero, List.set_cons_succ, i64_w, i32_w]
        rfl
      refine pure_ (i := 12) (N := some 49) (v := undef) (a' := ?_) #[true, true, true, true, true, true, true, true, true, true, true, true, true, false, false] rfl rfl (any_of HT_.out (by kernel_rfl)) (fun _ _ _ h => h) (Or.inr ⟨by rfl, rfl⟩) ?_ ?_
      rotate_left
      · simp only [Act.put, List.setIfInBounds_toArray, List.set_cons_zero, List.set_cons_succ, i64_w, i32_w]
        rfl
      refine pure_ (i := 13) (N := some 50) (v := undef) (a' := ?_) #[true, true, true, true, true, true, true, true, true, true, true, true, true, true, false] rfl rfl (any_of HT_.out (by kernel_rfl)) (fun _ _ _ h => h) (Or.inr ⟨by rfl, rfl⟩) ?_ ?_
      rotate_left
      · simp only [Act.put, List.setIfInBounds_toArray, List.set_cons_zero, List.set_cons_succ, i64_w, i32_w]
        rfl
      refine pure_ (i := 14) (N := some 51) (v := ?_) (a' := ?_) #[true, true, true, true, true, true, true, true, true, true, true, true, true, true, true] rfl rfl (any_of HT_.out (by kernel_rfl)) (fun _ _ _ h => h) (Or.inl ⟨by rfl, ?_⟩) ?_ ?_
      rotate_left
      · intro w'
        go_simp
        with_reducible rfl
      rotate_left
      · simp only [Act.put, List.setIfInBounds_toArray, List.set_cons_zero, List.set_cons_succ, i64_w, i32_w]
        rfl
      refine done_ (done_of HT_.out (by kernel_rfl)) ?_
      try go_wp2
      go_meet
      case rel => exact ⟨_, (false), (by first | rfl | (simp; done) | (simp [*]; done)), H', ⟨by have := HJ4.out; have := HK2.out; first | omega | exact Nat.le_refl _⟩, ⟨by repeat (first | (with_reducible first | exact HB.out | apply below_alloc | apply pw_below_drewN | apply below_drew1) | exact HB.out)⟩⟩
    rw [if_pos c22] at H
    have c22b0 : decide (x11_2 < (l0.length : Int)) = true := decide_eq_true c22
    clear c22
    (first | rw [c22b0] | (simp only [i64_w, i32_w]; rw [c22b0]) | skip)
    by_cases c23 : 0 ≤ x11_2
    rotate_left
    · rw [if_neg c23] at H
      exact absurd H (by simp)
    rw [if_pos c23] at H
    have c23b0 : decide (0 ≤ x11_2) = true := decide_eq_true c23
    clear c23
    replace H := Option.bind_eq_some_iff.mp H
    obtain ⟨t158, A240, H⟩ := H
    replace H : (step_First.j2 k2 l0 a2 a3 x10_2 x11_2 (decide (((rd_T38 l0 x11_2).f0) < t158))) = some (r1, r2) := H
    have A24 := Aside0.mk A240
    clear A240
    have H' := Aside0.mk H
    clear H
    try go_wp2
    have n0_ := Aside0.mk (below_drew1 HB.out)
    clear HB
    have HB := n0_
    clear n0_
    have p157 : 0 ≤ (x11_2 : Int) := of_decide_eq_true (by first | (with_reducible assumption) | assumption)
    have q157 : x11_2 < (l0.length : Int) := of_decide_eq_true (by first | (with_reducible assumption) | assumption)
    obtain ⟨ad157, e157, hx157_0, hx157_1⟩ := at_T38 HR0.out x11_2 p157 q157
    have hw157_1 := hx157_1
    have hw157_0 := hx157_0
    cases e157
    replace hx157_0 := (HB.out.cell (World.block_lt_of_cell? w _ hx157_0)).trans hx157_0
    replace hx157_1 := (HB.out.cell (World.block_lt_of_cell? w _ hx157_1)).trans hx157_1
    replace p157 := eq_true p157
    replace q157 := eq_true q157
    refine start_ (n := 15) (S := fun w' => w'.cell? (ad157.add ((x11_2).toNat * 2)) = some (.int .i64 ((rd_T38 l0 x11_2).f0)) ∧ w'.cell? ⟨(ad157.add ((x11_2).toNat * 2)).block, (ad157.add ((x11_2).toNat * 2)).off + 1, none⟩ = some (.int .i64 ((rd_T38 l0 x11_2).f1))) (ds := []) #[false, false, false, false, false, false, false, false, false, false, false, false, false, false, false] (by kernel_rfl) rfl rfl ⟨((HB.out.cell (World.block_lt_of_cell? w _ hw157_0)).trans hw157_0), ((HB.out.cell (World.block_lt_of_cell? w _ hw157_1)).trans hw157_1)⟩ (fun hHeld => ?_); refine with_tabW step_First.tab5 step_First.bits5 (fun HT_ HW_ => ?_)
    generalize wr.drew = w25 at HB hx157_0 hx157_1 hHeld ⊢
    refine pure_ (i := 0) (N := some 37) (v := ?_) (a' := ?_) #[true, false, false, false, false, false, false, false, false, false, false, false, false, false, false] rfl rfl (any_of HT_.out (by kernel_rfl)) (fun _ _ _ h => h) (Or.inl ⟨by rfl, ?_⟩) ?_ ?_
    rotate_left
    · intro w'
      go_simp
      with_reducible rfl
    rotate_left
    · simp only [Act.put, List.setIfInBounds_toArray, List.set_cons_zero, List.set_cons_succ, i64_w, i32_w]
      rfl
    refine pure_ (i := 1) (N := some 38) (v := ?_) (a' := ?_) #[true, true, false, false, false, false, false, false, false, false, false, false, false, false, false] rfl rfl (any_of HT_.out (by kernel_rfl)) (fun _ _ _ h => h) (Or.inl ⟨by rfl, ?_⟩) ?_ ?_
    rotate_left
    · intro w'
      go_simp
      with_reducible rfl
    rotate_left
    · simp only [Act.put, List.setIfInBounds_toArray, List.set_cons_zero, List.set_cons_succ, i64_w, i32_w]
      rfl
    refine pure_ (i := 2) (N := some 39) (v := ?_) (a' := ?_) #[true, true, true, false, false, false, false, false, false, false, false, false, false, false, false] rfl rfl (any_of HT_.out (by kernel_rfl)) (fun _ _ _ h => h) (Or.inl ⟨by rfl, ?_⟩) ?_ ?_
    rotate_left
    · intro w'
      go_simp
      with_reducible rfl
    rotate_left
    · simp only [Act.put, List.setIfInBounds_toArray, List.set_cons_zero, List.set_cons_succ, i64_w, i32_w]
      rfl
    refine pure_ (i := 3) (N := some 40) (v := ?_) (a' := ?_) #[true, true, true, true, false, false, false, false, false, false, false, false, false, false, false] rfl rfl (any_of HT_.out (by kernel_rfl)) (fun _ _ _ h => h) (Or.inl ⟨by rfl, ?_⟩) ?_ ?_
    rotate_left
    · intro w'
      go_simp
      with_reducible rfl
    rotate_left
    · simp only [Act.put, List.setIfInBounds_toArray, List.set_cons_zero, List.set_cons_succ, i64_w, i32_w]
      rfl
    refine pure_ (i := 4) (N := some 41) (v := ?_) (a' := ?_) #[true, true, true, true, true, false, false, false, false, false, false, false, false, false, false] rfl rfl (any_of HT_.out (by kernel_rfl)) (fun _ _ _ h => h) (Or.inl ⟨by rfl, ?_⟩) ?_ ?_
    rotate_left
    · intro w'
      go_simp
      with_reducible rfl
    rotate_left
    · simp only [Act.put, List.setIfInBounds_toArray, List.set_cons_zero, List.set_cons_succ, i64_w, i32_w]
      rfl
    refine pure_ (i := 5) (N := some 42) (v := ?_) (a' := ?_) #[true, true, true, true, true, true, false, false, false, false, false, false, false, false, false] rfl rfl (any_of HT_.out (by kernel_rfl)) (fun _ _ _ h => h) (Or.inl ⟨by rfl, ?_⟩) ?_ ?_
    rotate_left
    · intro w'
      go_simp
      with_reducible rfl
    rotate_left
    · simp only [Act.put, List.setIfInBounds_toArray, List.set_cons_zero, List.set_cons_succ, i64_w, i32_w]
      rfl
    refine pure_ (i := 6) (N := some 43) (v := ?_) (a' := ?_) #[true, true, true, true, true, true, true, false, false, false, false, false, false, false, false] rfl rfl (any_of HT_.out (by kernel_rfl)) (fun _ _ _ h => h) (Or.inl ⟨by rfl, ?_⟩) ?_ ?_
    rotate_left
    · intro w'
      go_simp
      with_reducible rfl
    rotate_left
    · simp only [Act.put, List.setIfInBounds_toArray, List.set_cons_zero, List.set_cons_succ, i64_w, i32_w]
      rfl
    refine pure_ (i := 7) (N := some 44) (v := ?_) (a' := ?_) #[true, true, true, true, true, true, true, true, false, false, false, false, false, false, false] rfl rfl (any_of HT_.out (by kernel_rfl)) (fun _ _ _ h => h) (Or.inl ⟨by rfl, ?_⟩) ?_ ?_
    rotate_left
    · intro w'
      go_simp
      with_reducible rfl
    rotate_left
    · simp only [Act.put, List.setIfInBounds_toArray, List.set_cons_zero, List.set_cons_succ, i64_w, i32_w]
      rfl
    refine pure_ (i := 8) (N := some 45) (v := ?_) (a' := ?_) #[true, true, true, true, true, true, true, true, true, false, false, false, false, false, false] rfl rfl (any_of HT_.out (by kernel_rfl)) (fun _ _ _ h => h) (Or.inl ⟨by rfl, ?_⟩) ?_ ?_
    rotate_left
    · intro w'
      go_simp
      with_reducible rfl
    rotate_left
    · simp only [Act.put, List.setIfInBounds_toArray, List.set_cons_zero, List.set_cons_succ, i64_w, i32_w]
      rfl
    refine pure_ (i := 10) (N := some 47) (v := ?_) (a' := ?_) #[true, true, true, true, true, true, true, true, true, false, true, false, false, false, false] rfl rfl (any_of HT_.out (by kernel_rfl)) (fun _ _ _ h => h) (Or.inl ⟨by rfl, ?_⟩) ?_ ?_
    rotate_left
    · intro w'
      go_simp
      with_reducible rfl
    rotate_left
    · simp only [Act.put, List.setIfInBounds_toArray, List.set_cons_zero, List.set_cons_succ, i64_w, i32_w]
      rfl
    refine pure_ (i := 11) (N := some 48) (v := ?_) (a' := ?_) #[true, true, true, true, true, true, true, true, true, false, true, true, false, false, false] rfl rfl (any_of HT_.out (by kernel_rfl)) (fun _ _ _ h => h) (Or.inl ⟨by rfl, ?_⟩) ?_ ?_
    rotate_left
    · intro w'
      go_simp
      with_reducible rfl
    rotate_left
    · simp only [Act.put, List.setIfInBounds_toArray, List.set_cons_zero, List.set_cons_succ, i64_w, i32_w]
      rfl
    refine take_ (i := 9) (N := some 46) (v := ?_) (a' := ?_) #[true, true, true, true, true, true, true, true, true, true, true, true, false, false, false] rfl rfl (take_ofW HT_.out HW_.out (by kernel_rfl)) (fun _ _ _ h => h) (Or.inl ⟨by rfl, ?_⟩) hHeld ?_ ?_
    rotate_left
    · rintro w' ⟨s0, s1⟩
      go_simp
      with_reducible rfl
    rotate_left
    · simp only [Act.put, List.setIfInBounds_toArray, List.set_cons_zero, List.set_cons_succ, i64_w, i32_w]
      rfl
    refine one_ (i := 12) (N := some 49) #[true, true, true, true, true, true, true, true, true, true, true, true, true, false, false] rfl rfl (one_of HT_.out (by kernel_rfl)) (by decide) (fun K hK => ?_)
    refine goes_ Try.func46 (by kernel_rfl) rfl #[.int .i64 x10_2, .int .i64 a2] (by rfl) rfl rfl (by (try simp only [List.map_toArray, List.map_cons, List.map_nil]); first | done | rfl) ?_
    with_reducible refine (when_Plus.calls x10_2 a2 t158 _ A24.out).mono ?_
    rintro e w26 ⟨rfl, hb⟩
    refine ⟨_, rfl, ?_⟩
    have n0_ := Aside0.mk (below_step (by repeat (first | (with_reducible first | exact HB.out | apply below_alloc | apply pw_below_drewN | apply below_drew1) | exact HB.out)) hb)
    clear HB
    have HB := n0_
    clear n0_
    (try clear hb)
    (try clear hb2)
    (try clear hk)
    (try clear hi)
    refine hK.out _ _ ⟨((HB.out.cell (World.block_lt_of_cell? w _ hw157_0)).trans hw157_0), ((HB.out.cell (World.block_lt_of_cell? w _ hw157_1)).trans hw157_1)⟩ (fun hHeld => ?_)
    clear hK K
    refine norm_ (a' := ?_) ?_ ?_
    rotate_left
    · show Act.put _ (some 49) _ = _
      simp only [Act.put, List.setIfInBounds_toArray, List.set_cons_zero, List.set_cons_succ, i64_w, i32_w]
      rfl
    refine pure_ (i := 13) (N := some 50) (v := ?_) (a' := ?_) #[true, true, true, true, true, true, true, true, true, true, true, true, true, true, false] rfl rfl (any_of HT_.out (by kernel_rfl)) (fun _ _ _ h => h) (Or.inl ⟨by rfl, ?_⟩) ?_ ?_
    rotate_left
    · intro w'
      go_simp
      with_reducible rfl
    rotate_left
    · simp only [Act.put, List.setIfInBounds_toArray, List.set_cons_zero, List.set_cons_succ, i64_w, i32_w]
      rfl
    refine pure_ (i := 14) (N := some 51) (v := ?_) (a' := ?_) #[true, true, true, true, true, true, true, true, true, true, true, true, true, true, true] rfl rfl (any_of HT_.out (by kernel_rfl)) (fun _ _ _ h => h) (Or.inl ⟨by rfl, ?_⟩) ?_ ?_
    rotate_left
    · intro w'
      go_simp
      with_reducible rfl
    rotate_left
    · simp only [Act.put, List.setIfInBounds_toArray, List.set_cons_zero, List.set_cons_succ, i64_w, i32_w]
      rfl
    refine done_ (done_of HT_.out (by kernel_rfl)) ?_
    try go_wp2
    go_meet
    case rel => exact ⟨_, (decide (((rd_T38 l0 x11_2).f0) < t158)), (by first | rfl | (simp; done) | (simp [*]; done)), H', ⟨by have := HJ4.out; have := HK2.out; first | omega | exact Nat.le_refl _⟩, ⟨by repeat (first | (with_reducible first | exact HB.out | apply below_alloc | apply pw_below_drewN | apply below_drew1) | exact HB.out)⟩⟩
  clear HC21
  try clear c1
  try clear p1
  try clear q1
  try clear hx1
  try clear c2
  try clear p2
  try clear c4
  try clear c7
  try clear c9
  try clear c10
  try clear c10b0
  try clear c10b1
  try clear c12
  try clear c12b0
  try clear p15
  try clear q15
  try clear hx15
  try clear c18
  try clear c22
  try clear c22b0
  try clear c23
  try clear c23b0
  try clear c25
  try clear hx157_0
  try clear hx157_1
  try clear p157
  try clear p2
  try clear q157
  obtain ⟨kq, x51_20, rfl, HA, HJ20, HB⟩ := hcut
  rcases kq with _ | kj20
  · exact absurd HA.out (by simp [step_First.j2])
  have H := HA.out
  clear HA
  simp only [step_First.j2] at H
  by_cases c28 : x51_20 = true
  rotate_left
  · replace c28 := Bool.eq_false_iff.mpr c28
    subst c28
    have H1 : (if x10_2 = 4611686018427387904 then (some (0, false)) else (some (x10_2, true))) = some (r1, r2) := by rw [if_neg (show ¬ (false = true) by decide)] at H; exact H
    clear H
    have H := H1
    clear H1
    by_cases c36 : x10_2 = 4611686018427387904
    · rw [if_pos c36] at H
      have c36b0 : (x10_2 == 4611686018427387904) = true := beq_iff_eq.mpr c36
      have c36b1 : (x10_2 != 4611686018427387904) = false := bne_eq_false_iff_eq.mpr c36
      clear c36
      simp only [Option.some.injEq, Prod.mk.injEq] at H
      obtain ⟨rfl, rfl⟩ := H
      go_wp2
      go_ret2
      exact ⟨by first | rfl | (simp [errW_none, errW_some] <;> rfl) | (simp [*, errW_none, errW_some] <;> rfl), by repeat (first | (with_reducible first | exact HB.out | apply below_alloc | apply pw_below_drewN | apply below_drew1) | exact HB.out)⟩
    rw [if_neg c36] at H
    have c36b0 : (x10_2 == 4611686018427387904) = false := beq_eq_false_iff_ne.mpr c36
    have c36b1 : (x10_2 != 4611686018427387904) = true := bne_iff_ne.mpr c36
    simp only [Option.some.injEq, Prod.mk.injEq] at H
    obtain ⟨rfl, rfl⟩ := H
    go_wp2
    go_ret2
    exact ⟨by first | rfl | (simp [errW_none, errW_some] <;> rfl) | (simp [*, errW_none, errW_some] <;> rfl), by repeat (first | (with_reducible first | exact HB.out | apply below_alloc | apply pw_below_drewN | apply below_drew1) | exact HB.out)⟩
  subst c28
  have H1 : (if 0 ≤ x11_2 then (if x11_2 < (l0.length : Int) then (if ((rd_T38 l0 x11_2).f1) < a3 then (if (wrap64 (x11_2 + 1)) = (l0.length : Int) then (some (0, false)) else (if 0 ≤ (wrap64 (x11_2 + 1)) then (if (wrap64 (x11_2 + 1)) < (l0.length : Int) then (step_First.l0 kj20 l0 a2 a3 ((rd_T38 l0 (wrap64 (x11_2 + 1))).f0) (wrap64 (x11_2 + 1))) else (none)) else (none))) else (step_First.l0 kj20 l0 a2 a3 x10_2 (wrap64 (x11_2 + 1)))) else (none)) else (none)) = some (r1, r2) := by rw [if_pos rfl] at H; exact H
  clear H
  have H := H1
  clear H1
  by_cases c29 : 0 ≤ x11_2
  rotate_left
  · rw [if_neg c29] at H
    exact absurd H (by simp)
  rw [if_pos c29] at H
  have c29b0 : decide (0 ≤ x11_2) = true := decide_eq_true c29
  clear c29
  by_cases c30 : x11_2 < (l0.length : Int)
  rotate_left
  · rw [if_neg c30] at H
    exact absurd H (by simp)
  rw [if_pos c30] at H
  have c30b0 : decide (x11_2 < (l0.length : Int)) = true := decide_eq_true c30
  clear c30
  by_cases c31 : ((rd_T38 l0 x11_2).f1) < a3
  rotate_left
  · rw [if_neg c31] at H
    have c31b0 : decide (((rd_T38 l0 x11_2).f1) < a3) = false := decide_eq_false c31
    clear c31
    have H' := Aside0.mk H
    clear H
    have p159 : 0 ≤ (x11_2 : Int) := of_decide_eq_true (by first | (with_reducible assumption) | assumption)
    have q159 : x11_2 < (l0.length : Int) := of_decide_eq_true (by first | (with_reducible assumption) | assumption)
    obtain ⟨ad159, e159, hx159_0, hx159_1⟩ := at_T38 HR0.out x11_2 p159 q159
    cases e159
    replace hx159_0 := (HB.out.cell (World.block_lt_of_cell? w _ hx159_0)).trans hx159_0
    replace hx159_1 := (HB.out.cell (World.block_lt_of_cell? w _ hx159_1)).trans hx159_1
    replace p159 := eq_true p159
    replace q159 := eq_true q159
    go_wp2
    go_roundg kj20
    case measure => have := HJ4.out; have := HK2.out; have := HJ20.out; omega
    case rel => exact ⟨(x10_2), (wrap64 (x11_2 + 1)), (by first | rfl | (simp; done) | (simp [*]; done)), (by first | rfl | (simp; done) | (simp [*]; done)), H', ⟨by have := HJ4.out; have := HK2.out; have := HJ20.out; omega⟩, ⟨by repeat (first | (with_reducible first | exact HB.out | apply below_alloc | apply pw_below_drewN | apply below_drew1) | exact HB.out)⟩⟩
  rw [if_pos c31] at H
  have c31b0 : decide (((rd_T38 l0 x11_2).f1) < a3) = true := decide_eq_true c31
  clear c31
  by_cases c32 : (wrap64 (x11_2 + 1)) = (l0.length : Int)
  · rw [if_pos c32] at H
    have c32b0 : ((wrap64 (x11_2 + 1)) == (l0.length : Int)) = true := beq_iff_eq.mpr c32
    have c32b1 : ((wrap64 (x11_2 + 1)) != (l0.length : Int)) = false := bne_eq_false_iff_eq.mpr c32
    clear c32
    simp only [Option.some.injEq, Prod.mk.injEq] at H
    obtain ⟨rfl, rfl⟩ := H
    have p159 : 0 ≤ (x11_2 : Int) := of_decide_eq_true (by first | (with_reducible assumption) | assumption)
    have q159 : x11_2 < (l0.length : Int) := of_decide_eq_true (by first | (with_reducible assumption) | assumption)
    obtain ⟨ad159, e159, hx159_0, hx159_1⟩ := at_T38 HR0.out x11_2 p159 q159
    cases e159
    replace hx159_0 := (HB.out.cell (World.block_lt_of_cell? w _ hx159_0)).trans hx159_0
    replace hx159_1 := (HB.out.cell (World.block_lt_of_cell? w _ hx159_1)).trans hx159_1
    replace p159 := eq_true p159
    replace q159 := eq_true q159
    go_wp2
    go_ret2
    exact ⟨by first | rfl | (simp [errW_none, errW_some] <;> rfl) | (simp [*, errW_none, errW_some] <;> rfl), by repeat (first | (with_reducible first | exact HB.out | apply below_alloc | apply pw_below_drewN | apply below_drew1) | exact HB.out)⟩
  rw [if_neg c32] at H
  have c32b0 : ((wrap64 (x11_2 + 1)) == (l0.length : Int)) = false := beq_eq_false_iff_ne.mpr c32
  have c32b1 : ((wrap64 (x11_2 + 1)) != (l0.length : Int)) = true := bne_iff_ne.mpr c32
  obtain ⟨ji33, hji33⟩ : ∃ j_ : Int, (wrap64 (x11_2 + 1)) = j_ := ⟨_, rfl⟩
  replace H : (if 0 ≤ (ji33) then (if (ji33) < (l0.length : Int) then (step_First.l0 kj20 l0 a2 a3 ((rd_T38 l0 (ji33)).f0) ji33) else (none)) else (none)) = some (r1, r2) := by first | (rw [hji33] at H; exact H) | (simp only [hji33] at H ⊢; exact H)
  (try rw [hji33] at c32b0)
  (try rw [hji33] at c32b1)
  have hji33w : (IntKind.i64.wrap (x11_2 + 1)) = ji33 := (i64_w _).trans hji33
  by_cases c34 : 0 ≤ (ji33)
  rotate_left
  · rw [if_neg c34] at H
    exact absurd H (by simp)
  rw [if_pos c34] at H
  have c34b0 : decide (0 ≤ (ji33)) = true := decide_eq_true c34
  clear c34
  by_cases c35 : (ji33) < (l0.length : Int)
  rotate_left
  · rw [if_neg c35] at H
    exact absurd H (by simp)
  rw [if_pos c35] at H
  have c35b0 : decide ((ji33) < (l0.length : Int)) = true := decide_eq_true c35
  clear c35
  have H' := Aside0.mk H
  clear H
  have p159 : 0 ≤ (x11_2 : Int) := of_decide_eq_true (by first | (with_reducible assumption) | assumption)
  have q159 : x11_2 < (l0.length : Int) := of_decide_eq_true (by first | (with_reducible assumption) | assumption)
  obtain ⟨ad159, e159, hx159_0, hx159_1⟩ := at_T38 HR0.out x11_2 p159 q159
  cases e159
  replace hx159_0 := (HB.out.cell (World.block_lt_of_cell? w _ hx159_0)).trans hx159_0
  replace hx159_1 := (HB.out.cell (World.block_lt_of_cell? w _ hx159_1)).trans hx159_1
  replace p159 := eq_true p159
  replace q159 := eq_true q159
  have p160 : 0 ≤ ((ji33) : Int) := of_decide_eq_true (by first | (with_reducible assumption) | assumption)
  have q160 : (ji33) < (l0.length : Int) := of_decide_eq_true (by first | (with_reducible assumption) | assumption)
  obtain ⟨ad160, e160, hx160_0, hx160_1⟩ := at_T38 HR0.out (ji33) p160 q160
  obtain rfl : ad159 = ad160 := (by injection e160)
  replace hx160_0 := (HB.out.cell (World.block_lt_of_cell? w _ hx160_0)).trans hx160_0
  replace hx160_1 := (HB.out.cell (World.block_lt_of_cell? w _ hx160_1)).trans hx160_1
  replace p160 := eq_true p160
  replace q160 := eq_true q160
  go_wp2
  go_roundg kj20
  case measure => have := HJ4.out; have := HK2.out; have := HJ20.out; omega
  case rel => exact ⟨((rd_T38 l0 (ji33)).f0), (ji33), (by first | rfl | (simp; done) | (simp only [← hji33] <;> (first | rfl | simp)) | (simp [*]; done)), (by first | rfl | (simp; done) | (simp only [← hji33] <;> (first | rfl | simp)) | (simp [*]; done)), H', ⟨by have := HJ4.out; have := HK2.out; have := HJ20.out; omega⟩, ⟨by repeat (first | (with_reducible first | exact HB.out | apply below_alloc | apply pw_below_drewN | apply below_drew1) | exact HB.out)⟩⟩

end Go.Proofs.Ytpekjfmlpogfaaa.PAll
