-- Written by wip/tools/hprint.py of this claim's session (a driver over the kit's print, with contracts proved by hand among them).
import Derived.Test.YtpekjfmlpogfaaaPAllx0
import Derived.Test.YtpekjfmlpogfaaaPAllx3
import Derived.Test.YtpekjfmlpogfaaaPAllx8
import Derived.Test.YtpekjfmlpogfaaaPAllx9
import Derived.Test.YtpekjfmlpogfaaaPAllx11
import Derived.Test.YtpekjfmlpogfaaaPAllx12
import Derived.Test.YtpekjfmlpogfaaaPAllx14
import Derived.Test.YtpekjfmlpogfaaaPAllx15
import Derived.Test.YtpekjfmlpogfaaaPAllx16
import Derived.Test.YtpekjfmlpogfaaaPAllx19
import Derived.Test.YtpekjfmlpogfaaaPAllx20
import Derived.Test.YtpekjfmlpogfaaaPAllx22
namespace Go.Proofs.Ytpekjfmlpogfaaa.PAll
open Go.RowKit Go.Proofs.YtpekjfmlpogfaaaW.PrintWords Go.Proofs.YtpekjfmlpogfaaaW.PrintLast Go.Proofs.YtpekjfmlpogfaaaW.PrintMore
attribute [local go_sem] max2_int min2_int max_two min_two max_three min_three max_four min_four   -- for this text's walks alone
set_option linter.unusedVariables false
set_option linter.unusedSimpArgs false

/-! ### bailiwicklaw03_StepRight: function 4 -/
mutual
def bailiwicklaw03_StepRight.j0 : Nat → List (S38) → Int → Int → List (S38) → List (S38) → Int → List (S38) → Int → List (S38) → Int → List (S38) → Int → Bool → Option (Bool)
  | 0, _, _, _, _, _, _, _, _, _, _, _, _, _ => none
  | k + 1, x0, x1, x3, x9, x10, x11, x12, x13, x14, x15, x16, x17, x99 => if x99 = true then (some false) else ((step_New.f x3).bind fun bt351 => (if x3 ≥ 0 then (if bt351.2 = 0 then (if x3 ≤ 1048576 then (if (bt351.1.length : Int) = 1 then (if 0 < (bt351.1.length : Int) then (if ((rd_T38 bt351.1 0).f1) = x3 then (bailiwicklaw03_StepRight.j1 k x0 x1 x9 x10 x11 x12 x13 x14 x15 x16 x17 false) else (bailiwicklaw03_StepRight.j1 k x0 x1 x9 x10 x11 x12 x13 x14 x15 x16 x17 true)) else (none)) else (bailiwicklaw03_StepRight.j1 k x0 x1 x9 x10 x11 x12 x13 x14 x15 x16 x17 true)) else (bailiwicklaw03_StepRight.j1 k x0 x1 x9 x10 x11 x12 x13 x14 x15 x16 x17 true)) else (if x3 ≤ 1048576 then (bailiwicklaw03_StepRight.j1 k x0 x1 x9 x10 x11 x12 x13 x14 x15 x16 x17 true) else (bailiwicklaw03_StepRight.j1 k x0 x1 x9 x10 x11 x12 x13 x14 x15 x16 x17 (bt351.2 != 1)))) else (if bt351.2 = 0 then (bailiwicklaw03_StepRight.j1 k x0 x1 x9 x10 x11 x12 x13 x14 x15 x16 x17 true) else (bailiwicklaw03_StepRight.j1 k x0 x1 x9 x10 x11 x12 x13 x14 x15 x16 x17 (bt351.2 != 1)))))
def bailiwicklaw03_StepRight.j1 : Nat → List (S38) → Int → List (S38) → List (S38) → Int → List (S38) → Int → List (S38) → Int → List (S38) → Int → Bool → Option (Bool)
  | 0, _, _, _, _, _, _, _, _, _, _, _, _ => none
  | k + 1, x0, x1, x9, x10, x11, x12, x13, x14, x15, x16, x17, x138 => if x138 = true then (some false) else ((step_Right.f k x9).bind fun t356 => ((bailiwickref03_Right.f k x0).bind fun t357 => (if t356 = true then (if t357 = true then ((step_At.f k x9 x1).bind fun t358 => ((bailiwickref03_At.f k x0 x1).bind fun t359 => (if t358 = t359 then ((bailiwickref03_Same.f k x10 x12).bind fun t360 => (if t360 = true then (if x11 = x13 then ((bailiwickref03_Same.f k x14 x16).bind fun t361 => (if t361 = true then (if x15 = x17 then ((bailiwickref03_Same.f k x9 x0).bind fun t362 => (some t362)) else (some false)) else (some false))) else (some false)) else (some false))) else (some false)))) else (some false)) else (if t357 = true then (some false) else ((step_At.f k x9 x1).bind fun t363 => ((bailiwickref03_At.f k x0 x1).bind fun t364 => (if t363 = t364 then ((bailiwickref03_Same.f k x10 x12).bind fun t365 => (if t365 = true then (if x11 = x13 then ((bailiwickref03_Same.f k x14 x16).bind fun t366 => (if t366 = true then (if x15 = x17 then ((bailiwickref03_Same.f k x9 x0).bind fun t367 => (some t367)) else (some false)) else (some false))) else (some false)) else (some false))) else (some false))))))))
end
def bailiwicklaw03_StepRight.f (k : Nat) (l0 : List (S38)) (a1 : Int) (a2 : Int) (a3 : Int) : Option (Bool) := (bailiwicklaw03_awake.f k).bind fun t324 => (if t324 = true then (if (l0.length : Int) > 200 then (some true) else ((some (([] : List (S38)) : List (S38))).bind fun y325 => (if y325.length + l0.length < 8796093022208 then ((some (y325 ++ l0 : List (S38))).bind fun y328 => ((step_Take.f k y328 a1 a2 a3).bind fun bt331 => ((bailiwickref03_Take.f k l0 a1 a2 a3).bind fun bt335 => ((step_Give.f k y328 a1 a2 a3).bind fun bt339 => ((bailiwickref03_Give.f k l0 a1 a2 a3).bind fun bt343 => ((step_Least.f k y328 a1 a2).bind fun bt347 => ((bailiwickref03_May.f k l0 a1 a2).bind fun t349 => (if t349 = true then (if bt347.2 = 0 then ((bailiwickref03_Least.f k l0 a1 a2).bind fun t350 => (if bt347.1 = t350 then (bailiwicklaw03_StepRight.j0 k l0 a1 a3 y328 bt331.1 bt331.2 bt335.1 bt335.2 bt339.1 bt339.2 bt343.1 bt343.2 false) else (bailiwicklaw03_StepRight.j0 k l0 a1 a3 y328 bt331.1 bt331.2 bt335.1 bt335.2 bt339.1 bt339.2 bt343.1 bt343.2 true))) else (bailiwicklaw03_StepRight.j0 k l0 a1 a3 y328 bt331.1 bt331.2 bt335.1 bt335.2 bt339.1 bt339.2 bt343.1 bt343.2 true)) else (if bt347.2 = 0 then (bailiwicklaw03_StepRight.j0 k l0 a1 a3 y328 bt331.1 bt331.2 bt335.1 bt335.2 bt339.1 bt339.2 bt343.1 bt343.2 true) else (if bt347.2 = 1 then (bailiwicklaw03_StepRight.j0 k l0 a1 a3 y328 bt331.1 bt331.2 bt335.1 bt335.2 bt339.1 bt339.2 bt343.1 bt343.2 (bt347.1 != 0)) else (bailiwicklaw03_StepRight.j0 k l0 a1 a3 y328 bt331.1 bt331.2 bt335.1 bt335.2 bt339.1 bt339.2 bt343.1 bt343.2 true))))))))))) else (none)))) else (some false))
theorem bailiwicklaw03_StepRight.mono_l : ∀ k, (∀ y0 y1 y2 y3 y4 y5 y6 y7 y8 y9 y10 y11 y12, LeO (bailiwicklaw03_StepRight.j0 k y0 y1 y2 y3 y4 y5 y6 y7 y8 y9 y10 y11 y12) (bailiwicklaw03_StepRight.j0 (k + 1) y0 y1 y2 y3 y4 y5 y6 y7 y8 y9 y10 y11 y12)) ∧ (∀ y0 y1 y2 y3 y4 y5 y6 y7 y8 y9 y10 y11, LeO (bailiwicklaw03_StepRight.j1 k y0 y1 y2 y3 y4 y5 y6 y7 y8 y9 y10 y11) (bailiwicklaw03_StepRight.j1 (k + 1) y0 y1 y2 y3 y4 y5 y6 y7 y8 y9 y10 y11))
  | 0 => ⟨fun _ _ _ _ _ _ _ _ _ _ _ _ _ r h => by simp [bailiwicklaw03_StepRight.j0] at h, fun _ _ _ _ _ _ _ _ _ _ _ _ r h => by simp [bailiwicklaw03_StepRight.j1] at h⟩
  | k + 1 => by
    obtain ⟨ih0, ih1⟩ := bailiwicklaw03_StepRight.mono_l k
    refine ⟨?_, ?_⟩
    · intro y0 y1 y2 y3 y4 y5 y6 y7 y8 y9 y10 y11 y12
      unfold bailiwicklaw03_StepRight.j0
      repeat' first
      | (with_reducible exact ih0 _ _ _ _ _ _ _ _ _ _ _ _ _)
      | (with_reducible exact ih1 _ _ _ _ _ _ _ _ _ _ _ _)
      | (with_reducible exact bailiwicklaw03_awake.mono _)
      | (with_reducible exact bailiwickref03_At.mono _ _ _)
      | (with_reducible exact bailiwickref03_Give.mono _ _ _ _ _)
      | (with_reducible exact bailiwickref03_Least.mono _ _ _ _)
      | (with_reducible exact bailiwickref03_May.mono _ _ _ _)
      | (with_reducible exact bailiwickref03_Right.mono _ _)
      | (with_reducible exact bailiwickref03_Same.mono _ _ _)
      | (with_reducible exact bailiwickref03_Take.mono _ _ _ _ _)
      | (with_reducible exact step_At.mono _ _ _)
      | (with_reducible exact step_Give.mono _ _ _ _ _)
      | (with_reducible exact step_Least.mono _ _ _ _)
      | (with_reducible exact step_Right.mono _ _)
      | (with_reducible exact step_Take.mono _ _ _ _ _)
      | (with_reducible exact LeO.refl _)
      | (with_reducible exact LeO.none _)
      | (with_reducible refine LeO.ite ?_ ?_)
      | (with_reducible refine LeO.bind ?_ (fun _ => ?_))
      | exact ih0 _ _ _ _ _ _ _ _ _ _ _ _ _
      | exact ih1 _ _ _ _ _ _ _ _ _ _ _ _
      | exact bailiwicklaw03_awake.mono _
      | exact bailiwickref03_At.mono _ _ _
      | exact bailiwickref03_Give.mono _ _ _ _ _
      | exact bailiwickref03_Least.mono _ _ _ _
      | exact bailiwickref03_May.mono _ _ _ _
      | exact bailiwickref03_Right.mono _ _
      | exact bailiwickref03_Same.mono _ _ _
      | exact bailiwickref03_Take.mono _ _ _ _ _
      | exact step_At.mono _ _ _
      | exact step_Give.mono _ _ _ _ _
      | exact step_Least.mono _ _ _ _
      | exact step_Right.mono _ _
      | exact step_Take.mono _ _ _ _ _
      | exact LeO.none _
      | refine LeO.ite ?_ ?_
      | refine LeO.bind ?_ (fun _ => ?_)
    intro y0 y1 y2 y3 y4 y5 y6 y7 y8 y9 y10 y11
    unfold bailiwicklaw03_StepRight.j1
    repeat' first
    | (with_reducible exact ih0 _ _ _ _ _ _ _ _ _ _ _ _ _)
    | (with_reducible exact ih1 _ _ _ _ _ _ _ _ _ _ _ _)
    | (with_reducible exact bailiwicklaw03_awake.mono _)
    | (with_reducible exact bailiwickref03_At.mono _ _ _)
    | (with_reducible exact bailiwickref03_Give.mono _ _ _ _ _)
    | (with_reducible exact bailiwickref03_Least.mono _ _ _ _)
    | (with_reducible exact bailiwickref03_May.mono _ _ _ _)
    | (with_reducible exact bailiwickref03_Right.mono _ _)
    | (with_reducible exact bailiwickref03_Same.mono _ _ _)
    | (with_reducible exact bailiwickref03_Take.mono _ _ _ _ _)
    | (with_reducible exact step_At.mono _ _ _)
    | (with_reducible exact step_Give.mono _ _ _ _ _)
    | (with_reducible exact step_Least.mono _ _ _ _)
    | (with_reducible exact step_Right.mono _ _)
    | (with_reducible exact step_Take.mono _ _ _ _ _)
    | (with_reducible exact LeO.refl _)
    | (with_reducible exact LeO.none _)
    | (with_reducible refine LeO.ite ?_ ?_)
    | (with_reducible refine LeO.bind ?_ (fun _ => ?_))
    | exact ih0 _ _ _ _ _ _ _ _ _ _ _ _ _
    | exact ih1 _ _ _ _ _ _ _ _ _ _ _ _
    | exact bailiwicklaw03_awake.mono _
    | exact bailiwickref03_At.mono _ _ _
    | exact bailiwickref03_Give.mono _ _ _ _ _
    | exact bailiwickref03_Least.mono _ _ _ _
    | exact bailiwickref03_May.mono _ _ _ _
    | exact bailiwickref03_Right.mono _ _
    | exact bailiwickref03_Same.mono _ _ _
    | exact bailiwickref03_Take.mono _ _ _ _ _
    | exact step_At.mono _ _ _
    | exact step_Give.mono _ _ _ _ _
    | exact step_Least.mono _ _ _ _
    | exact step_Right.mono _ _
    | exact step_Take.mono _ _ _ _ _
    | exact LeO.none _
    | refine LeO.ite ?_ ?_
    | refine LeO.bind ?_ (fun _ => ?_)
theorem bailiwicklaw03_StepRight.mono : ∀ a0 a1 a2 a3 k, LeO (bailiwicklaw03_StepRight.f k a0 a1 a2 a3) (bailiwicklaw03_StepRight.f (k + 1) a0 a1 a2 a3) := by
  intro a0 a1 a2 a3 k
  obtain ⟨ih0, ih1⟩ := bailiwicklaw03_StepRight.mono_l k
  unfold bailiwicklaw03_StepRight.f
  repeat' first
      | (with_reducible exact ih0 _ _ _ _ _ _ _ _ _ _ _ _ _)
      | (with_reducible exact ih1 _ _ _ _ _ _ _ _ _ _ _ _)
      | (with_reducible exact bailiwicklaw03_awake.mono _)
      | (with_reducible exact bailiwickref03_At.mono _ _ _)
      | (with_reducible exact bailiwickref03_Give.mono _ _ _ _ _)
      | (with_reducible exact bailiwickref03_Least.mono _ _ _ _)
      | (with_reducible exact bailiwickref03_May.mono _ _ _ _)
      | (with_reducible exact bailiwickref03_Right.mono _ _)
      | (with_reducible exact bailiwickref03_Same.mono _ _ _)
      | (with_reducible exact bailiwickref03_Take.mono _ _ _ _ _)
      | (with_reducible exact step_At.mono _ _ _)
      | (with_reducible exact step_Give.mono _ _ _ _ _)
      | (with_reducible exact step_Least.mono _ _ _ _)
      | (with_reducible exact step_Right.mono _ _)
      | (with_reducible exact step_Take.mono _ _ _ _ _)
      | (with_reducible exact LeO.refl _)
      | (with_reducible exact LeO.none _)
      | (with_reducible refine LeO.ite ?_ ?_)
      | (with_reducible refine LeO.bind ?_ (fun _ => ?_))
      | exact ih0 _ _ _ _ _ _ _ _ _ _ _ _ _
      | exact ih1 _ _ _ _ _ _ _ _ _ _ _ _
      | exact bailiwicklaw03_awake.mono _
      | exact bailiwickref03_At.mono _ _ _
      | exact bailiwickref03_Give.mono _ _ _ _ _
      | exact bailiwickref03_Least.mono _ _ _ _
      | exact bailiwickref03_May.mono _ _ _ _
      | exact bailiwickref03_Right.mono _ _
      | exact bailiwickref03_Same.mono _ _ _
      | exact bailiwickref03_Take.mono _ _ _ _ _
      | exact step_At.mono _ _ _
      | exact step_Give.mono _ _ _ _ _
      | exact step_Least.mono _ _ _ _
      | exact step_Right.mono _ _
      | exact step_Take.mono _ _ _ _ _
      | exact LeO.none _
      | refine LeO.ite ?_ ?_
      | refine LeO.bind ?_ (fun _ => ?_)
set_option maxHeartbeats 8000000 in
set_option maxRecDepth 100000 in
theorem bailiwicklaw03_StepRight.calls (k : Nat) (A0 : Option Addr) (c0 : Nat) (l0 : List (S38)) (a1 : Int) (a2 : Int) (a3 : Int) (r : Bool) (w : World) (hr0 : Kd.C k38 w A0 l0.length l0) (hc0 : l0.length ≤ c0) (h : bailiwicklaw03_StepRight.f k l0 a1 a2 a3 = some r) :
    Calls Try.prog 4 #[.slice A0 l0.length c0, .int .i64 a1, .int .i64 a2, .int .i64 a3] w fun e w' => e = .returned (.bool r) ∧ Below w.heap.size w w' := by
  have HR0 := Aside0.mk hr0
  have HC0 := Aside0.mk hc0
  clear hr0 hc0
  have HB := Aside0.mk (Below.refl w.heap.size w)
  have H : ((bailiwicklaw03_awake.f k).bind fun t324 => (if t324 = true then (if (l0.length : Int) > 200 then (some true) else ((some (([] : List (S38)) : List (S38))).bind fun y325 => (if y325.length + l0.length < 8796093022208 then ((some (y325 ++ l0 : List (S38))).bind fun y328 => ((step_Take.f k y328 a1 a2 a3).bind fun bt331 => ((bailiwickref03_Take.f k l0 a1 a2 a3).bind fun bt335 => ((step_Give.f k y328 a1 a2 a3).bind fun bt339 => ((bailiwickref03_Give.f k l0 a1 a2 a3).bind fun bt343 => ((step_Least.f k y328 a1 a2).bind fun bt347 => ((bailiwickref03_May.f k l0 a1 a2).bind fun t349 => (if t349 = true then (if bt347.2 = 0 then ((bailiwickref03_Least.f k l0 a1 a2).bind fun t350 => (if bt347.1 = t350 then (bailiwicklaw03_StepRight.j0 k l0 a1 a3 y328 bt331.1 bt331.2 bt335.1 bt335.2 bt339.1 bt339.2 bt343.1 bt343.2 false) else (bailiwicklaw03_StepRight.j0 k l0 a1 a3 y328 bt331.1 bt331.2 bt335.1 bt335.2 bt339.1 bt339.2 bt343.1 bt343.2 true))) else (bailiwicklaw03_StepRight.j0 k l0 a1 a3 y328 bt331.1 bt331.2 bt335.1 bt335.2 bt339.1 bt339.2 bt343.1 bt343.2 true)) else (if bt347.2 = 0 then (bailiwicklaw03_StepRight.j0 k l0 a1 a3 y328 bt331.1 bt331.2 bt335.1 bt335.2 bt339.1 bt339.2 bt343.1 bt343.2 true) else (if bt347.2 = 1 then (bailiwicklaw03_StepRight.j0 k l0 a1 a3 y328 bt331.1 bt331.2 bt335.1 bt335.2 bt339.1 bt339.2 bt343.1 bt343.2 (bt347.1 != 0)) else (bailiwicklaw03_StepRight.j0 k l0 a1 a3 y328 bt331.1 bt331.2 bt335.1 bt335.2 bt339.1 bt339.2 bt343.1 bt343.2 true))))))))))) else (none)))) else (some false))) = some r := h
  clear h
  replace H := Option.bind_eq_some_iff.mp H
  obtain ⟨t324, A50, H⟩ := H
  replace H : (if t324 = true then (if (l0.length : Int) > 200 then (some true) else ((some (([] : List (S38)) : List (S38))).bind fun y325 => (if y325.length + l0.length < 8796093022208 then ((some (y325 ++ l0 : List (S38))).bind fun y328 => ((step_Take.f k y328 a1 a2 a3).bind fun bt331 => ((bailiwickref03_Take.f k l0 a1 a2 a3).bind fun bt335 => ((step_Give.f k y328 a1 a2 a3).bind fun bt339 => ((bailiwickref03_Give.f k l0 a1 a2 a3).bind fun bt343 => ((step_Least.f k y328 a1 a2).bind fun bt347 => ((bailiwickref03_May.f k l0 a1 a2).bind fun t349 => (if t349 = true then (if bt347.2 = 0 then ((bailiwickref03_Least.f k l0 a1 a2).bind fun t350 => (if bt347.1 = t350 then (bailiwicklaw03_StepRight.j0 k l0 a1 a3 y328 bt331.1 bt331.2 bt335.1 bt335.2 bt339.1 bt339.2 bt343.1 bt343.2 false) else (bailiwicklaw03_StepRight.j0 k l0 a1 a3 y328 bt331.1 bt331.2 bt335.1 bt335.2 bt339.1 bt339.2 bt343.1 bt343.2 true))) else (bailiwicklaw03_StepRight.j0 k l0 a1 a3 y328 bt331.1 bt331.2 bt335.1 bt335.2 bt339.1 bt339.2 bt343.1 bt343.2 true)) else (if bt347.2 = 0 then (bailiwicklaw03_StepRight.j0 k l0 a1 a3 y328 bt331.1 bt331.2 bt335.1 bt335.2 bt339.1 bt339.2 bt343.1 bt343.2 true) else (if bt347.2 = 1 then (bailiwicklaw03_StepRight.j0 k l0 a1 a3 y328 bt331.1 bt331.2 bt335.1 bt335.2 bt339.1 bt339.2 bt343.1 bt343.2 (bt347.1 != 0)) else (bailiwicklaw03_StepRight.j0 k l0 a1 a3 y328 bt331.1 bt331.2 bt335.1 bt335.2 bt339.1 bt339.2 bt343.1 bt343.2 true))))))))))) else (none)))) else (some false)) = some r := H
  have A5 := Aside0.mk A50
  clear A50
  by_cases c6 : t324 = true
  rotate_left
  · replace c6 := Bool.eq_false_iff.mpr c6
    subst c6
    have H1 : (some false) = some r := by rw [if_neg (show ¬ (false = true) by decide)] at H; exact H
    clear H
    have H := H1
    clear H1
    obtain rfl := Option.some.inj H
    go_enter Try.func4, Try.ntmps4
    go_wp2_with (first | ((with_reducible refine gate_callee (f := 7) rfl ?_); refine goesL_ (some 22) rfl rfl Try.func7 (by kernel_rfl) rfl #[] rfl (by (try simp only [List.map_toArray, List.map_cons, List.map_nil]); first | done | rfl) ?_; (with_reducible refine (bailiwicklaw03_awake.calls k  false _ A5.out).mono ?_); rintro e w132 ⟨rfl, hb⟩; refine ⟨_, rfl, ?_⟩; have n0_ := Aside0.mk (below_step (by repeat (first | (with_reducible first | exact HB.out | apply below_alloc | apply pw_below_drewN | apply below_drew1) | exact HB.out)) hb); clear HB; have HB := n0_; clear n0_; (try clear hb); (try clear hb2); (try clear hk); (try clear hi)))
    go_ret
    exact ⟨by first | rfl | (simp [errW_none, errW_some] <;> rfl) | (simp [*, errW_none, errW_some] <;> rfl), by repeat (first | (with_reducible first | exact HB.out | apply below_alloc | apply pw_below_drewN | apply below_drew1) | exact HB.out)⟩
  subst c6
  have H1 : (if (l0.length : Int) > 200 then (some true) else ((some (([] : List (S38)) : List (S38))).bind fun y325 => (if y325.length + l0.length < 8796093022208 then ((some (y325 ++ l0 : List (S38))).bind fun y328 => ((step_Take.f k y328 a1 a2 a3).bind fun bt331 => ((bailiwickref03_Take.f k l0 a1 a2 a3).bind fun bt335 => ((step_Give.f k y328 a1 a2 a3).bind fun bt339 => ((bailiwickref03_Give.f k l0 a1 a2 a3).bind fun bt343 => ((step_Least.f k y328 a1 a2).bind fun bt347 => ((bailiwickref03_May.f k l0 a1 a2).bind fun t349 => (if t349 = true then (if bt347.2 = 0 then ((bailiwickref03_Least.f k l0 a1 a2).bind fun t350 => (if bt347.1 = t350 then (bailiwicklaw03_StepRight.j0 k l0 a1 a3 y328 bt331.1 bt331.2 bt335.1 bt335.2 bt339.1 bt339.2 bt343.1 bt343.2 false) else (bailiwicklaw03_StepRight.j0 k l0 a1 a3 y328 bt331.1 bt331.2 bt335.1 bt335.2 bt339.1 bt339.2 bt343.1 bt343.2 true))) else (bailiwicklaw03_StepRight.j0 k l0 a1 a3 y328 bt331.1 bt331.2 bt335.1 bt335.2 bt339.1 bt339.2 bt343.1 bt343.2 true)) else (if bt347.2 = 0 then (bailiwicklaw03_StepRight.j0 k l0 a1 a3 y328 bt331.1 bt331.2 bt335.1 bt335.2 bt339.1 bt339.2 bt343.1 bt343.2 true) else (if bt347.2 = 1 then (bailiwicklaw03_StepRight.j0 k l0 a1 a3 y328 bt331.1 bt331.2 bt335.1 bt335.2 bt339.1 bt339.2 bt343.1 bt343.2 (bt347.1 != 0)) else (bailiwicklaw03_StepRight.j0 k l0 a1 a3 y328 bt331.1 bt331.2 bt335.1 bt335.2 bt339.1 bt339.2 bt343.1 bt343.2 true))))))))))) else (none)))) = some r := by rw [if_pos rfl] at H; exact H
  clear H
  have H := H1
  clear H1
  by_cases c7 : (l0.length : Int) > 200
  · rw [if_pos c7] at H
    have c7b0 : decide (200 < (l0.length : Int)) = true := decide_eq_true c7
    have c7b1 : decide (200 < l0.length) = true := decide_eq_true (by omega)
    clear c7
    obtain rfl := Option.some.inj H
    go_enter Try.func4, Try.ntmps4
    go_wp2_with (first | ((with_reducible refine gate_callee (f := 7) rfl ?_); refine goesL_ (some 22) rfl rfl Try.func7 (by kernel_rfl) rfl #[] rfl (by (try simp only [List.map_toArray, List.map_cons, List.map_nil]); first | done | rfl) ?_; (with_reducible refine (bailiwicklaw03_awake.calls k  true _ A5.out).mono ?_); rintro e w8 ⟨rfl, hb⟩; refine ⟨_, rfl, ?_⟩; have n0_ := Aside0.mk (below_step (by repeat (first | (with_reducible first | exact HB.out | apply below_alloc | apply pw_below_drewN | apply below_drew1) | exact HB.out)) hb); clear HB; have HB := n0_; clear n0_; (try clear hb); (try clear hb2); (try clear hk); (try clear hi)))
    go_ret
    exact ⟨by first | rfl | (simp [errW_none, errW_some] <;> rfl) | (simp [*, errW_none, errW_some] <;> rfl), by repeat (first | (with_reducible first | exact HB.out | apply below_alloc | apply pw_below_drewN | apply below_drew1) | exact HB.out)⟩
  rw [if_neg c7] at H
  have c7b0 : decide (200 < (l0.length : Int)) = false := decide_eq_false c7
  have c7b1 : decide (200 < l0.length) = false := decide_eq_false (by omega)
  clear c7
  obtain ⟨y325, hy325⟩ : ∃ y_ : List (S38), y_ = (([] : List (S38))) := ⟨_, rfl⟩
  replace H : (if y325.length + l0.length < 8796093022208 then ((some (y325 ++ l0 : List (S38))).bind fun y328 => ((step_Take.f k y328 a1 a2 a3).bind fun bt331 => ((bailiwickref03_Take.f k l0 a1 a2 a3).bind fun bt335 => ((step_Give.f k y328 a1 a2 a3).bind fun bt339 => ((bailiwickref03_Give.f k l0 a1 a2 a3).bind fun bt343 => ((step_Least.f k y328 a1 a2).bind fun bt347 => ((bailiwickref03_May.f k l0 a1 a2).bind fun t349 => (if t349 = true then (if bt347.2 = 0 then ((bailiwickref03_Least.f k l0 a1 a2).bind fun t350 => (if bt347.1 = t350 then (bailiwicklaw03_StepRight.j0 k l0 a1 a3 y328 bt331.1 bt331.2 bt335.1 bt335.2 bt339.1 bt339.2 bt343.1 bt343.2 false) else (bailiwicklaw03_StepRight.j0 k l0 a1 a3 y328 bt331.1 bt331.2 bt335.1 bt335.2 bt339.1 bt339.2 bt343.1 bt343.2 true))) else (bailiwicklaw03_StepRight.j0 k l0 a1 a3 y328 bt331.1 bt331.2 bt335.1 bt335.2 bt339.1 bt339.2 bt343.1 bt343.2 true)) else (if bt347.2 = 0 then (bailiwicklaw03_StepRight.j0 k l0 a1 a3 y328 bt331.1 bt331.2 bt335.1 bt335.2 bt339.1 bt339.2 bt343.1 bt343.2 true) else (if bt347.2 = 1 then (bailiwicklaw03_StepRight.j0 k l0 a1 a3 y328 bt331.1 bt331.2 bt335.1 bt335.2 bt339.1 bt339.2 bt343.1 bt343.2 (bt347.1 != 0)) else (bailiwicklaw03_StepRight.j0 k l0 a1 a3 y328 bt331.1 bt331.2 bt335.1 bt335.2 bt339.1 bt339.2 bt343.1 bt343.2 true))))))))))) else (none)) = some r := by first | (rw [hy325]; with_reducible exact H) | (have H2_ := (Option.bind_some _ _).symm.trans H; rw [hy325]; with_reducible exact H2_) | (have H2_ := (Option.bind_some _ _).symm.trans H; with_reducible exact H2_) | with_reducible exact H | (rw [hy325]; exact H) | exact H
  have Ny325 := Aside0.mk hy325
  clear hy325
  by_cases c9 : y325.length + l0.length < 8796093022208
  rotate_left
  · rw [if_neg c9] at H
    exact absurd H (by simp)
  rw [if_pos c9] at H
  have LMc9 := Aside0.mk c9
  clear c9
  obtain ⟨y328, hy328⟩ : ∃ y_ : List (S38), y_ = (y325 ++ l0) := ⟨_, rfl⟩
  replace H : ((step_Take.f k y328 a1 a2 a3).bind fun bt331 => ((bailiwickref03_Take.f k l0 a1 a2 a3).bind fun bt335 => ((step_Give.f k y328 a1 a2 a3).bind fun bt339 => ((bailiwickref03_Give.f k l0 a1 a2 a3).bind fun bt343 => ((step_Least.f k y328 a1 a2).bind fun bt347 => ((bailiwickref03_May.f k l0 a1 a2).bind fun t349 => (if t349 = true then (if bt347.2 = 0 then ((bailiwickref03_Least.f k l0 a1 a2).bind fun t350 => (if bt347.1 = t350 then (bailiwicklaw03_StepRight.j0 k l0 a1 a3 y328 bt331.1 bt331.2 bt335.1 bt335.2 bt339.1 bt339.2 bt343.1 bt343.2 false) else (bailiwicklaw03_StepRight.j0 k l0 a1 a3 y328 bt331.1 bt331.2 bt335.1 bt335.2 bt339.1 bt339.2 bt343.1 bt343.2 true))) else (bailiwicklaw03_StepRight.j0 k l0 a1 a3 y328 bt331.1 bt331.2 bt335.1 bt335.2 bt339.1 bt339.2 bt343.1 bt343.2 true)) else (if bt347.2 = 0 then (bailiwicklaw03_StepRight.j0 k l0 a1 a3 y328 bt331.1 bt331.2 bt335.1 bt335.2 bt339.1 bt339.2 bt343.1 bt343.2 true) else (if bt347.2 = 1 then (bailiwicklaw03_StepRight.j0 k l0 a1 a3 y328 bt331.1 bt331.2 bt335.1 bt335.2 bt339.1 bt339.2 bt343.1 bt343.2 (bt347.1 != 0)) else (bailiwicklaw03_StepRight.j0 k l0 a1 a3 y328 bt331.1 bt331.2 bt335.1 bt335.2 bt339.1 bt339.2 bt343.1 bt343.2 true)))))))))) = some r := by first | (rw [hy328]; with_reducible exact H) | (have H2_ := (Option.bind_some _ _).symm.trans H; rw [hy328]; with_reducible exact H2_) | (have H2_ := (Option.bind_some _ _).symm.trans H; with_reducible exact H2_) | with_reducible exact H | (rw [hy328]; exact H) | exact H
  have Ny328 := Aside0.mk hy328
  clear hy328
  replace H := Option.bind_eq_some_iff.mp H
  obtain ⟨⟨t331, t332⟩, A100, H⟩ := H
  replace H : ((bailiwickref03_Take.f k l0 a1 a2 a3).bind fun bt335 => ((step_Give.f k y328 a1 a2 a3).bind fun bt339 => ((bailiwickref03_Give.f k l0 a1 a2 a3).bind fun bt343 => ((step_Least.f k y328 a1 a2).bind fun bt347 => ((bailiwickref03_May.f k l0 a1 a2).bind fun t349 => (if t349 = true then (if bt347.2 = 0 then ((bailiwickref03_Least.f k l0 a1 a2).bind fun t350 => (if bt347.1 = t350 then (bailiwicklaw03_StepRight.j0 k l0 a1 a3 y328 t331 t332 bt335.1 bt335.2 bt339.1 bt339.2 bt343.1 bt343.2 false) else (bailiwicklaw03_StepRight.j0 k l0 a1 a3 y328 t331 t332 bt335.1 bt335.2 bt339.1 bt339.2 bt343.1 bt343.2 true))) else (bailiwicklaw03_StepRight.j0 k l0 a1 a3 y328 t331 t332 bt335.1 bt335.2 bt339.1 bt339.2 bt343.1 bt343.2 true)) else (if bt347.2 = 0 then (bailiwicklaw03_StepRight.j0 k l0 a1 a3 y328 t331 t332 bt335.1 bt335.2 bt339.1 bt339.2 bt343.1 bt343.2 true) else (if bt347.2 = 1 then (bailiwicklaw03_StepRight.j0 k l0 a1 a3 y328 t331 t332 bt335.1 bt335.2 bt339.1 bt339.2 bt343.1 bt343.2 (bt347.1 != 0)) else (bailiwicklaw03_StepRight.j0 k l0 a1 a3 y328 t331 t332 bt335.1 bt335.2 bt339.1 bt339.2 bt343.1 bt343.2 true))))))))) = some r := H
  have A10 := Aside0.mk A100
  clear A100
  replace H := Option.bind_eq_some_iff.mp H
  obtain ⟨⟨t335, t338⟩, A110, H⟩ := H
  replace H : ((step_Give.f k y328 a1 a2 a3).bind fun bt339 => ((bailiwickref03_Give.f k l0 a1 a2 a3).bind fun bt343 => ((step_Least.f k y328 a1 a2).bind fun bt347 => ((bailiwickref03_May.f k l0 a1 a2).bind fun t349 => (if t349 = true then (if bt347.2 = 0 then ((bailiwickref03_Least.f k l0 a1 a2).bind fun t350 => (if bt347.1 = t350 then (bailiwicklaw03_StepRight.j0 k l0 a1 a3 y328 t331 t332 t335 t338 bt339.1 bt339.2 bt343.1 bt343.2 false) else (bailiwicklaw03_StepRight.j0 k l0 a1 a3 y328 t331 t332 t335 t338 bt339.1 bt339.2 bt343.1 bt343.2 true))) else (bailiwicklaw03_StepRight.j0 k l0 a1 a3 y328 t331 t332 t335 t338 bt339.1 bt339.2 bt343.1 bt343.2 true)) else (if bt347.2 = 0 then (bailiwicklaw03_StepRight.j0 k l0 a1 a3 y328 t331 t332 t335 t338 bt339.1 bt339.2 bt343.1 bt343.2 true) else (if bt347.2 = 1 then (bailiwicklaw03_StepRight.j0 k l0 a1 a3 y328 t331 t332 t335 t338 bt339.1 bt339.2 bt343.1 bt343.2 (bt347.1 != 0)) else (bailiwicklaw03_StepRight.j0 k l0 a1 a3 y328 t331 t332 t335 t338 bt339.1 bt339.2 bt343.1 bt343.2 true)))))))) = some r := H
  have A11 := Aside0.mk A110
  clear A110
  replace H := Option.bind_eq_some_iff.mp H
  obtain ⟨⟨t339, t340⟩, A120, H⟩ := H
  replace H : ((bailiwickref03_Give.f k l0 a1 a2 a3).bind fun bt343 => ((step_Least.f k y328 a1 a2).bind fun bt347 => ((bailiwickref03_May.f k l0 a1 a2).bind fun t349 => (if t349 = true then (if bt347.2 = 0 then ((bailiwickref03_Least.f k l0 a1 a2).bind fun t350 => (if bt347.1 = t350 then (bailiwicklaw03_StepRight.j0 k l0 a1 a3 y328 t331 t332 t335 t338 t339 t340 bt343.1 bt343.2 false) else (bailiwicklaw03_StepRight.j0 k l0 a1 a3 y328 t331 t332 t335 t338 t339 t340 bt343.1 bt343.2 true))) else (bailiwicklaw03_StepRight.j0 k l0 a1 a3 y328 t331 t332 t335 t338 t339 t340 bt343.1 bt343.2 true)) else (if bt347.2 = 0 then (bailiwicklaw03_StepRight.j0 k l0 a1 a3 y328 t331 t332 t335 t338 t339 t340 bt343.1 bt343.2 true) else (if bt347.2 = 1 then (bailiwicklaw03_StepRight.j0 k l0 a1 a3 y328 t331 t332 t335 t338 t339 t340 bt343.1 bt343.2 (bt347.1 != 0)) else (bailiwicklaw03_StepRight.j0 k l0 a1 a3 y328 t331 t332 t335 t338 t339 t340 bt343.1 bt343.2 true))))))) = some r := H
  have A12 := Aside0.mk A120
  clear A120
  replace H := Option.bind_eq_some_iff.mp H
  obtain ⟨⟨t343, t346⟩, A130, H⟩ := H
  replace H : ((step_Least.f k y328 a1 a2).bind fun bt347 => ((bailiwickref03_May.f k l0 a1 a2).bind fun t349 => (if t349 = true then (if bt347.2 = 0 then ((bailiwickref03_Least.f k l0 a1 a2).bind fun t350 => (if bt347.1 = t350 then (bailiwicklaw03_StepRight.j0 k l0 a1 a3 y328 t331 t332 t335 t338 t339 t340 t343 t346 false) else (bailiwicklaw03_StepRight.j0 k l0 a1 a3 y328 t331 t332 t335 t338 t339 t340 t343 t346 true))) else (bailiwicklaw03_StepRight.j0 k l0 a1 a3 y328 t331 t332 t335 t338 t339 t340 t343 t346 true)) else (if bt347.2 = 0 then (bailiwicklaw03_StepRight.j0 k l0 a1 a3 y328 t331 t332 t335 t338 t339 t340 t343 t346 true) else (if bt347.2 = 1 then (bailiwicklaw03_StepRight.j0 k l0 a1 a3 y328 t331 t332 t335 t338 t339 t340 t343 t346 (bt347.1 != 0)) else (bailiwicklaw03_StepRight.j0 k l0 a1 a3 y328 t331 t332 t335 t338 t339 t340 t343 t346 true)))))) = some r := H
  have A13 := Aside0.mk A130
  clear A130
  replace H := Option.bind_eq_some_iff.mp H
  obtain ⟨⟨t347, t348⟩, A140, H⟩ := H
  replace H : ((bailiwickref03_May.f k l0 a1 a2).bind fun t349 => (if t349 = true then (if t348 = 0 then ((bailiwickref03_Least.f k l0 a1 a2).bind fun t350 => (if t347 = t350 then (bailiwicklaw03_StepRight.j0 k l0 a1 a3 y328 t331 t332 t335 t338 t339 t340 t343 t346 false) else (bailiwicklaw03_StepRight.j0 k l0 a1 a3 y328 t331 t332 t335 t338 t339 t340 t343 t346 true))) else (bailiwicklaw03_StepRight.j0 k l0 a1 a3 y328 t331 t332 t335 t338 t339 t340 t343 t346 true)) else (if t348 = 0 then (bailiwicklaw03_StepRight.j0 k l0 a1 a3 y328 t331 t332 t335 t338 t339 t340 t343 t346 true) else (if t348 = 1 then (bailiwicklaw03_StepRight.j0 k l0 a1 a3 y328 t331 t332 t335 t338 t339 t340 t343 t346 (t347 != 0)) else (bailiwicklaw03_StepRight.j0 k l0 a1 a3 y328 t331 t332 t335 t338 t339 t340 t343 t346 true))))) = some r := H
  have A14 := Aside0.mk A140
  clear A140
  have HC15 := Aside0.mk H
  clear H
  go_enter Try.func4, Try.ntmps4
  go_upto_region 11 with (first | ((with_reducible refine gate_callee (f := 7) rfl ?_); refine goesL_ (some 22) rfl rfl Try.func7 (by kernel_rfl) rfl #[] rfl (by (try simp only [List.map_toArray, List.map_cons, List.map_nil]); first | done | rfl) ?_; (with_reducible refine (bailiwicklaw03_awake.calls k  true _ A5.out).mono ?_); rintro e w16 ⟨rfl, hb⟩; refine ⟨_, rfl, ?_⟩; have n0_ := Aside0.mk (below_step (by repeat (first | (with_reducible first | exact HB.out | apply below_alloc | apply pw_below_drewN | apply below_drew1) | exact HB.out)) hb); clear HB; have HB := n0_; clear n0_; (try clear hb); (try clear hb2); (try clear hk); (try clear hi)) | ((with_reducible refine gate_dst (N := 27) rfl ?_); (try (refine gate_guard (by rfl) ?_; dsimp only)); refine Kd.R_lit k38 _ 38 ?hg (N := 27) ?hd (xs := ([] : List (S38))) (inner := []) (ok := fun _ => True) (okp := fun _ => True) ?hr ?hp (fun _ hk => hk) trivial (Below.refl _ _) (Nat.le_refl _) (by simp) ?_; (case hd => rfl); (case hg => rfl); (case hr => first | (go_simp; done) | (go_simp; rfl)); (case hp => exact (Reps.none _ _)); intro v326 w17 ho18 hb hg_ hnew_; clear hg_ hnew_; (first | rw [← Ny325.out] at ho18 | (simp only [Int.reduceToNat] at ho18; rw [← Ny325.out] at ho18)); have n0_ := Aside0.mk (Kd.R_lower ho18 (below_size (by repeat (first | (with_reducible first | exact HB.out | apply below_alloc | apply pw_below_drewN | apply below_drew1) | exact HB.out)))); have n1_ := Aside0.mk (below_step (by repeat (first | (with_reducible first | exact HB.out | apply below_alloc | apply pw_below_drewN | apply below_drew1) | exact HB.out)) hb); clear HB; have HO327 := n0_; have HB := n1_; clear n0_ n1_; clear hb ho18) | ((with_reducible refine gate_builtin (b := .append) (xs := #[.tmp 27, .tmp 28]) rfl ?_); (try (refine gate_guard (by rfl) ?_; dsimp only)); at_builtin; refine Kd.R_append_rows k38 (w0 := w) w.heap.size rfl (.tmp 27) (.tmp 28) 22 38 (.agg #[(.int .i64 0), (.int .i64 0)]) 16 rfl Try.underlying22 info38 rfl (by decide) (by omega) v326 y325 l0 _ _ _ (fun _ => True) (fun _ => False) rfl rfl ?aO ?aR (fun _ _ h => h) (fun _ h => h.elim) ?aF ?aB ?aS ?aL ?_; (case aR => repeat (first | exact (Kd.C_below HR0.out HB.out) | (with_reducible refine Kd.C_alloc ?_ _) | (with_reducible refine Kd.C_drewN ?_ _) | (with_reducible refine Kd.C_drew ?_))); (case aB => exact (by repeat (first | (with_reducible first | exact HB.out | apply below_alloc | apply pw_below_drewN | apply below_drew1) | exact HB.out))); (case aF => exact (fun _ _ => trivial)); (case aO => exact (by (with_reducible repeat (first | apply Kd.R_alloc | apply Kd.R_drewN | apply Kd.R_drew)); exact HO327.out)); (case aS => exact (below_size (by repeat (first | (with_reducible first | exact HB.out | apply below_alloc | apply pw_below_drewN | apply below_drew1) | exact HB.out)))); (case aL => have := LMc9.out; omega); intro v329 w19 ho hb hg hat; rw [← Ny328.out] at ho; have n0_ := Aside0.mk (hb); have n1_ := Aside0.mk (ho); clear HB; clear HO327; have HB := n0_; have HO330 := n1_; clear n0_ n1_; clear ho hb hg hat; obtain ⟨Ao20, co20, eo20⟩ := Kd.R_slice HO330.out; subst eo20) | ((with_reducible refine gate_callee (f := 8) rfl ?_); refine goesL_ (some 35) rfl rfl Try.func8 (by kernel_rfl) rfl #[.slice Ao20 y328.length co20, .int .i64 a1, .int .i64 a2, .int .i64 a3] rfl (by (try simp only [List.map_toArray, List.map_cons, List.map_nil]); first | done | rfl) ?_; (with_reducible refine (step_Take.calls k _ _ y328 a1 a2 a3 t331 t332 _ ?side1 ?side2 A10.out).mono ?_); (case side1 => repeat (first | exact (Kd.R_reads' HO330.out).2.2 | (with_reducible refine Kd.C_alloc ?_ _) | (with_reducible refine Kd.C_drewN ?_ _) | (with_reducible refine Kd.C_drew ?_))); (case side2 => exact (Kd.R_reads' HO330.out).2.1); rintro e w21 ⟨v333, rfl, ho0, hb⟩; refine ⟨_, rfl, ?_⟩; have n0_ := Aside0.mk (Kd.R_elder' (by (with_reducible repeat (first | apply Kd.R_alloc | apply Kd.R_drewN | apply Kd.R_drew)); exact HO330.out) (Kd.R_base ho0) hb); have n1_ := Aside0.mk (Kd.R_lower (Kd.R_new' ho0 (Kd.R_lt (by (with_reducible repeat (first | apply Kd.R_alloc | apply Kd.R_drewN | apply Kd.R_drew)); exact HO330.out))) (below_size (by repeat (first | (with_reducible first | exact HB.out | apply below_alloc | apply pw_below_drewN | apply below_drew1) | exact HB.out)))); have n2_ := Aside0.mk (below_step (by repeat (first | (with_reducible first | exact HB.out | apply below_alloc | apply pw_below_drewN | apply below_drew1) | exact HB.out)) hb); clear HO330; clear HB; have HO330 := n0_; have HO334 := n1_; have HB := n2_; clear n0_ n1_ n2_; (try clear hb); (try clear hb2); (try clear hk); (try clear hi); (try clear ho0)) | ((with_reducible refine gate_callee (f := 11) rfl ?_); refine goesL_ (some 43) rfl rfl Try.func11 (by kernel_rfl) rfl #[.slice A0 l0.length c0, .int .i64 a1, .int .i64 a2, .int .i64 a3] rfl (by (try simp only [List.map_toArray, List.map_cons, List.map_nil]); first | done | rfl) ?_; (with_reducible refine (bailiwickref03_Take.calls k (fun k_ => k_ < w.heap.size) _ _ l0 a1 a2 a3 t335 t338 _ ?side1 A11.out).mono ?_); (case side1 => exact Kd.V_mk HC0.out (Kd.F_below (Kd.C_F k38_heap HR0.out) (by repeat (first | (with_reducible first | exact HB.out | apply below_alloc | apply pw_below_drewN | apply below_drew1) | exact HB.out)))); rintro e w22 ⟨v336, rfl, ho0, hb⟩; refine ⟨_, rfl, ?_⟩; have n0_ := Aside0.mk (Kd.R_below (by (with_reducible repeat (first | apply Kd.R_alloc | apply Kd.R_drewN | apply Kd.R_drew)); exact HO330.out) hb); have n1_ := Aside0.mk (Kd.R_below (by (with_reducible repeat (first | apply Kd.R_alloc | apply Kd.R_drewN | apply Kd.R_drew)); exact HO334.out) hb); have n2_ := Aside0.mk (Kd.V_lower (Kd.V_mono (ok' := fun k_ => some k_ ≠ (.slice Ao20 y328.length co20 : Value).ownBlock ∧ some k_ ≠ (v333 : Value).ownBlock) ho0 (fun k_ hk_ => ⟨Or.elim hk_ (fun hs_ => fun e_ => Nat.not_le.2 hs_ (Kd.R_base HO330.out k_ e_.symm)) (fun hn_ => (Kd.fresh' (Kd.R_lt (by (with_reducible repeat (first | apply Kd.R_alloc | apply Kd.R_drewN | apply Kd.R_drew)); exact HO330.out)) k_ hn_)), Or.elim hk_ (fun hs_ => fun e_ => Nat.not_le.2 hs_ (Kd.R_base HO334.out k_ e_.symm)) (fun hn_ => (Kd.fresh' (Kd.R_lt (by (with_reducible repeat (first | apply Kd.R_alloc | apply Kd.R_drewN | apply Kd.R_drew)); exact HO334.out)) k_ hn_))⟩)) (below_size (by repeat (first | (with_reducible first | exact HB.out | apply below_alloc | apply pw_below_drewN | apply below_drew1) | exact HB.out)))); have n3_ := Aside0.mk (below_step (by repeat (first | (with_reducible first | exact HB.out | apply below_alloc | apply pw_below_drewN | apply below_drew1) | exact HB.out)) hb); clear HO330; clear HO334; clear HB; have HO330 := n0_; have HO334 := n1_; have HO337 := n2_; have HB := n3_; clear n0_ n1_ n2_ n3_; (try clear hb); (try clear hb2); (try clear hk); (try clear hi); (try clear ho0)) | ((with_reducible refine gate_callee (f := 12) rfl ?_); refine goesL_ (some 51) rfl rfl Try.func12 (by kernel_rfl) rfl #[.slice Ao20 y328.length co20, .int .i64 a1, .int .i64 a2, .int .i64 a3] rfl (by (try simp only [List.map_toArray, List.map_cons, List.map_nil]); first | done | rfl) ?_; (with_reducible refine (step_Give.calls k _ _ y328 a1 a2 a3 t339 t340 _ ?side1 ?side2 A12.out).mono ?_); (case side1 => repeat (first | exact (Kd.R_reads' HO330.out).2.2 | (with_reducible refine Kd.C_alloc ?_ _) | (with_reducible refine Kd.C_drewN ?_ _) | (with_reducible refine Kd.C_drew ?_))); (case side2 => exact (Kd.R_reads' HO330.out).2.1); rintro e w23 ⟨v341, rfl, ho0, hb⟩; refine ⟨_, rfl, ?_⟩; have n0_ := Aside0.mk (Kd.R_elder' (by (with_reducible repeat (first | apply Kd.R_alloc | apply Kd.R_drewN | apply Kd.R_drew)); exact HO330.out) (Kd.R_base ho0) hb); have n1_ := Aside0.mk (Kd.R_elder' (by (with_reducible repeat (first | apply Kd.R_alloc | apply Kd.R_drewN | apply Kd.R_drew)); exact HO334.out) (Kd.R_base ho0) hb); have n2_ := Aside0.mk (Kd.V_elder' (by (with_reducible repeat (first | apply Kd.V_alloc | apply Kd.V_drewN | apply Kd.V_drew)); exact HO337.out) (Kd.R_base ho0) hb); have n3_ := Aside0.mk (Kd.R_lower (Kd.R_new' (Kd.R_new' ho0 (Kd.R_lt (by (with_reducible repeat (first | apply Kd.R_alloc | apply Kd.R_drewN | apply Kd.R_drew)); exact HO330.out))) (Kd.R_lt (by (with_reducible repeat (first | apply Kd.R_alloc | apply Kd.R_drewN | apply Kd.R_drew)); exact HO334.out))) (below_size (by repeat (first | (with_reducible first | exact HB.out | apply below_alloc | apply pw_below_drewN | apply below_drew1) | exact HB.out)))); have n4_ := Aside0.mk (below_step (by repeat (first | (with_reducible first | exact HB.out | apply below_alloc | apply pw_below_drewN | apply below_drew1) | exact HB.out)) hb); clear HO330; clear HO334; clear HO337; clear HB; have HO330 := n0_; have HO334 := n1_; have HO337 := n2_; have HO342 := n3_; have HB := n4_; clear n0_ n1_ n2_ n3_ n4_; (try clear hb); (try clear hb2); (try clear hk); (try clear hi); (try clear ho0)) | ((with_reducible refine gate_callee (f := 13) rfl ?_); refine goesL_ (some 59) rfl rfl Try.func13 (by kernel_rfl) rfl #[.slice A0 l0.length c0, .int .i64 a1, .int .i64 a2, .int .i64 a3] rfl (by (try simp only [List.map_toArray, List.map_cons, List.map_nil]); first | done | rfl) ?_; (with_reducible refine (bailiwickref03_Give.calls k (fun k_ => k_ < w.heap.size) _ _ l0 a1 a2 a3 t343 t346 _ ?side1 A13.out).mono ?_); (case side1 => exact Kd.V_mk HC0.out (Kd.F_below (Kd.C_F k38_heap HR0.out) (by repeat (first | (with_reducible first | exact HB.out | apply below_alloc | apply pw_below_drewN | apply below_drew1) | exact HB.out)))); rintro e w24 ⟨v344, rfl, ho0, hb⟩; refine ⟨_, rfl, ?_⟩; have n0_ := Aside0.mk (Kd.R_below (by (with_reducible repeat (first | apply Kd.R_alloc | apply Kd.R_drewN | apply Kd.R_drew)); exact HO330.out) hb); have n1_ := Aside0.mk (Kd.R_below (by (with_reducible repeat (first | apply Kd.R_alloc | apply Kd.R_drewN | apply Kd.R_drew)); exact HO334.out) hb); have n2_ := Aside0.mk (Kd.V_below (by (with_reducible repeat (first | apply Kd.V_alloc | apply Kd.V_drewN | apply Kd.V_drew)); exact HO337.out) hb); have n3_ := Aside0.mk (Kd.R_below (by (with_reducible repeat (first | apply Kd.R_alloc | apply Kd.R_drewN | apply Kd.R_drew)); exact HO342.out) hb); have n4_ := Aside0.mk (Kd.V_lower (Kd.V_mono (ok' := fun k_ => some k_ ≠ (.slice Ao20 y328.length co20 : Value).ownBlock ∧ some k_ ≠ (v333 : Value).ownBlock ∧ some k_ ≠ (v341 : Value).ownBlock) ho0 (fun k_ hk_ => ⟨Or.elim hk_ (fun hs_ => fun e_ => Nat.not_le.2 hs_ (Kd.R_base HO330.out k_ e_.symm)) (fun hn_ => (Kd.fresh' (Kd.R_lt (by (with_reducible repeat (first | apply Kd.R_alloc | apply Kd.R_drewN | apply Kd.R_drew)); exact HO330.out)) k_ hn_)), Or.elim hk_ (fun hs_ => fun e_ => Nat.not_le.2 hs_ (Kd.R_base HO334.out k_ e_.symm)) (fun hn_ => (Kd.fresh' (Kd.R_lt (by (with_reducible repeat (first | apply Kd.R_alloc | apply Kd.R_drewN | apply Kd.R_drew)); exact HO334.out)) k_ hn_)), Or.elim hk_ (fun hs_ => fun e_ => Nat.not_le.2 hs_ (Kd.R_base HO342.out k_ e_.symm)) (fun hn_ => (Kd.fresh' (Kd.R_lt (by (with_reducible repeat (first | apply Kd.R_alloc | apply Kd.R_drewN | apply Kd.R_drew)); exact HO342.out)) k_ hn_))⟩)) (below_size (by repeat (first | (with_reducible first | exact HB.out | apply below_alloc | apply pw_below_drewN | apply below_drew1) | exact HB.out)))); have n5_ := Aside0.mk (below_step (by repeat (first | (with_reducible first | exact HB.out | apply below_alloc | apply pw_below_drewN | apply below_drew1) | exact HB.out)) hb); clear HO330; clear HO334; clear HO337; clear HO342; clear HB; have HO330 := n0_; have HO334 := n1_; have HO337 := n2_; have HO342 := n3_; have HO345 := n4_; have HB := n5_; clear n0_ n1_ n2_ n3_ n4_ n5_; (try clear hb); (try clear hb2); (try clear hk); (try clear hi); (try clear ho0)) | ((with_reducible refine gate_callee (f := 14) rfl ?_); refine goesL_ (some 66) rfl rfl Try.func14 (by kernel_rfl) rfl #[.slice Ao20 y328.length co20, .int .i64 a1, .int .i64 a2] rfl (by (try simp only [List.map_toArray, List.map_cons, List.map_nil]); first | done | rfl) ?_; (with_reducible refine (step_Least.calls k _ _ y328 a1 a2 t347 t348 _ ?side1 ?side2 A14.out).mono ?_); (case side1 => repeat (first | exact (Kd.R_reads' HO330.out).2.2 | (with_reducible refine Kd.C_alloc ?_ _) | (with_reducible refine Kd.C_drewN ?_ _) | (with_reducible refine Kd.C_drew ?_))); (case side2 => exact (Kd.R_reads' HO330.out).2.1); rintro e w25 ⟨rfl, hb⟩; refine ⟨_, rfl, ?_⟩; have n0_ := Aside0.mk (Kd.R_below (by (with_reducible repeat (first | apply Kd.R_alloc | apply Kd.R_drewN | apply Kd.R_drew)); exact HO330.out) hb); have n1_ := Aside0.mk (Kd.R_below (by (with_reducible repeat (first | apply Kd.R_alloc | apply Kd.R_drewN | apply Kd.R_drew)); exact HO334.out) hb); have n2_ := Aside0.mk (Kd.V_below (by (with_reducible repeat (first | apply Kd.V_alloc | apply Kd.V_drewN | apply Kd.V_drew)); exact HO337.out) hb); have n3_ := Aside0.mk (Kd.R_below (by (with_reducible repeat (first | apply Kd.R_alloc | apply Kd.R_drewN | apply Kd.R_drew)); exact HO342.out) hb); have n4_ := Aside0.mk (Kd.V_below (by (with_reducible repeat (first | apply Kd.V_alloc | apply Kd.V_drewN | apply Kd.V_drew)); exact HO345.out) hb); have n5_ := Aside0.mk (below_step (by repeat (first | (with_reducible first | exact HB.out | apply below_alloc | apply pw_below_drewN | apply below_drew1) | exact HB.out)) hb); clear HO330; clear HO334; clear HO337; clear HO342; clear HO345; clear HB; have HO330 := n0_; have HO334 := n1_; have HO337 := n2_; have HO342 := n3_; have HO345 := n4_; have HB := n5_; clear n0_ n1_ n2_ n3_ n4_ n5_; (try clear hb); (try clear hb2); (try clear hk); (try clear hi)))
  (try simp only [Act.put, List.setIfInBounds_toArray, List.set_cons_zero, List.set_cons_succ])
  go_cut [99] (fun v99 wc => ∃ (kq : Nat) (x99_14 : Bool), v99 = .bool x99_14 ∧ Aside0 (bailiwicklaw03_StepRight.j0 kq l0 a1 a3 y328 t331 t332 t335 t338 t339 t340 t343 t346 x99_14 = some r) ∧ Aside0 (kq ≤ k) ∧ Aside0 (Kd.R k38 38 wc w.heap.size (fun k_ => some k_ ≠ (v333 : Value).ownBlock ∧ some k_ ≠ (v341 : Value).ownBlock) (.slice Ao20 y328.length co20) y328) ∧ Aside0 (Kd.R k38 38 wc w.heap.size (fun k_ => some k_ ≠ ((.slice Ao20 y328.length co20) : Value).ownBlock ∧ some k_ ≠ (v341 : Value).ownBlock) v333 t331) ∧ Aside0 (Kd.V k38 38 wc w.heap.size (fun k_ => some k_ ≠ ((.slice Ao20 y328.length co20) : Value).ownBlock ∧ some k_ ≠ (v333 : Value).ownBlock ∧ some k_ ≠ (v341 : Value).ownBlock) v336 t335) ∧ Aside0 (Kd.R k38 38 wc w.heap.size (fun k_ => some k_ ≠ ((.slice Ao20 y328.length co20) : Value).ownBlock ∧ some k_ ≠ (v333 : Value).ownBlock) v341 t339) ∧ Aside0 (Kd.V k38 38 wc w.heap.size (fun k_ => some k_ ≠ ((.slice Ao20 y328.length co20) : Value).ownBlock ∧ some k_ ≠ (v333 : Value).ownBlock ∧ some k_ ≠ (v341 : Value).ownBlock) v344 t343) ∧ Aside0 (Below w.heap.size w wc))
  case first =>
    have H := HC15.out
    clear HC15
    replace H := Option.bind_eq_some_iff.mp H
    obtain ⟨t349, A260, H⟩ := H
    replace H : (if t349 = true then (if t348 = 0 then ((bailiwickref03_Least.f k l0 a1 a2).bind fun t350 => (if t347 = t350 then (bailiwicklaw03_StepRight.j0 k l0 a1 a3 y328 t331 t332 t335 t338 t339 t340 t343 t346 false) else (bailiwicklaw03_StepRight.j0 k l0 a1 a3 y328 t331 t332 t335 t338 t339 t340 t343 t346 true))) else (bailiwicklaw03_StepRight.j0 k l0 a1 a3 y328 t331 t332 t335 t338 t339 t340 t343 t346 true)) else (if t348 = 0 then (bailiwicklaw03_StepRight.j0 k l0 a1 a3 y328 t331 t332 t335 t338 t339 t340 t343 t346 true) else (if t348 = 1 then (bailiwicklaw03_StepRight.j0 k l0 a1 a3 y328 t331 t332 t335 t338 t339 t340 t343 t346 (t347 != 0)) else (bailiwicklaw03_StepRight.j0 k l0 a1 a3 y328 t331 t332 t335 t338 t339 t340 t343 t346 true)))) = some r := H
    have A26 := Aside0.mk A260
    clear A260
    by_cases c27 : t349 = true
    rotate_left
    · replace c27 := Bool.eq_false_iff.mpr c27
      subst c27
      have H1 : (if t348 = 0 then (bailiwicklaw03_StepRight.j0 k l0 a1 a3 y328 t331 t332 t335 t338 t339 t340 t343 t346 true) else (if t348 = 1 then (bailiwicklaw03_StepRight.j0 k l0 a1 a3 y328 t331 t332 t335 t338 t339 t340 t343 t346 (t347 != 0)) else (bailiwicklaw03_StepRight.j0 k l0 a1 a3 y328 t331 t332 t335 t338 t339 t340 t343 t346 true))) = some r := by rw [if_neg (show ¬ (false = true) by decide)] at H; exact H
      clear H
      have H := H1
      clear H1
      by_cases c31 : t348 = 0
      · rw [if_pos c31] at H
        have c31b0 : (t348 == 0) = true := beq_iff_eq.mpr c31
        have c31b1 : (t348 != 0) = false := bne_eq_false_iff_eq.mpr c31
        clear c31
        have H' := Aside0.mk H
        clear H
        go_wp2_with (first | ((with_reducible refine gate_callee (f := 15) rfl ?_); refine goesL_ (some 72) rfl rfl Try.func15 (by kernel_rfl) rfl #[.slice A0 l0.length c0, .int .i64 a1, .int .i64 a2] rfl (by (try simp only [List.map_toArray, List.map_cons, List.map_nil]); first | done | rfl) ?_; (with_reducible refine (bailiwickref03_May.calls k _ _ l0 a1 a2 false _ ?side1 ?side2 A26.out).mono ?_); (case side1 => repeat (first | exact (Kd.C_below HR0.out HB.out) | (with_reducible refine Kd.C_alloc ?_ _) | (with_reducible refine Kd.C_drewN ?_ _) | (with_reducible refine Kd.C_drew ?_))); (case side2 => exact HC0.out); rintro e w' ⟨rfl, ⟨nd, rfl⟩⟩; refine ⟨_, rfl, ?_⟩))
        go_meet
        case rel => exact ⟨_, (true), (by first | rfl | (simp; done) | (simp [*]; done)), H', ⟨by first | omega | exact Nat.le_refl _⟩, ⟨by (with_reducible repeat (first | apply Kd.R_alloc | apply Kd.R_drewN | apply Kd.R_drew)); exact Kd.R_mono HO330.out (fun _ hk => ⟨hk.1.2, hk.2⟩)⟩, ⟨by (with_reducible repeat (first | apply Kd.R_alloc | apply Kd.R_drewN | apply Kd.R_drew)); exact Kd.R_mono HO334.out (fun _ hk => ⟨hk.1.2, hk.2⟩)⟩, ⟨by (with_reducible repeat (first | apply Kd.V_alloc | apply Kd.V_drewN | apply Kd.V_drew)); exact Kd.V_mono HO337.out (fun _ hk => ⟨hk.1.1, ⟨hk.1.2, hk.2⟩⟩)⟩, ⟨by (with_reducible repeat (first | apply Kd.R_alloc | apply Kd.R_drewN | apply Kd.R_drew)); exact Kd.R_mono HO342.out (fun _ hk => ⟨hk.1.2, hk.2⟩)⟩, ⟨by (with_reducible repeat (first | apply Kd.V_alloc | apply Kd.V_drewN | apply Kd.V_drew)); exact HO345.out⟩, ⟨by repeat (first | (with_reducible first | exact HB.out | apply below_alloc | apply pw_below_drewN | apply below_drew1) | exact HB.out)⟩⟩
      rw [if_neg c31] at H
      have c31b0 : (t348 == 0) = false := beq_eq_false_iff_ne.mpr c31
      have c31b1 : (t348 != 0) = true := bne_iff_ne.mpr c31
      by_cases c32 : t348 = 1
      · rw [if_pos c32] at H
        have c32b0 : (t348 == 1) = true := beq_iff_eq.mpr c32
        have c32b1 : (t348 != 1) = false := bne_eq_false_iff_eq.mpr c32
        clear c32
        have H' := Aside0.mk H
        clear H
        go_wp2_with (first | ((with_reducible refine gate_callee (f := 15) rfl ?_); refine goesL_ (some 72) rfl rfl Try.func15 (by kernel_rfl) rfl #[.slice A0 l0.length c0, .int .i64 a1, .int .i64 a2] rfl (by (try simp only [List.map_toArray, List.map_cons, List.map_nil]); first | done | rfl) ?_; (with_reducible refine (bailiwickref03_May.calls k _ _ l0 a1 a2 false _ ?side1 ?side2 A26.out).mono ?_); (case side1 => repeat (first | exact (Kd.C_below HR0.out HB.out) | (with_reducible refine Kd.C_alloc ?_ _) | (with_reducible refine Kd.C_drewN ?_ _) | (with_reducible refine Kd.C_drew ?_))); (case side2 => exact HC0.out); rintro e w' ⟨rfl, ⟨nd, rfl⟩⟩; refine ⟨_, rfl, ?_⟩))
        go_meet
        case rel => exact ⟨_, ((t347 != 0)), (by first | rfl | (simp; done) | (simp [*]; done)), H', ⟨by first | omega | exact Nat.le_refl _⟩, ⟨by (with_reducible repeat (first | apply Kd.R_alloc | apply Kd.R_drewN | apply Kd.R_drew)); exact Kd.R_mono HO330.out (fun _ hk => ⟨hk.1.2, hk.2⟩)⟩, ⟨by (with_reducible repeat (first | apply Kd.R_alloc | apply Kd.R_drewN | apply Kd.R_drew)); exact Kd.R_mono HO334.out (fun _ hk => ⟨hk.1.2, hk.2⟩)⟩, ⟨by (with_reducible repeat (first | apply Kd.V_alloc | apply Kd.V_drewN | apply Kd.V_drew)); exact Kd.V_mono HO337.out (fun _ hk => ⟨hk.1.1, ⟨hk.1.2, hk.2⟩⟩)⟩, ⟨by (with_reducible repeat (first | apply Kd.R_alloc | apply Kd.R_drewN | apply Kd.R_drew)); exact Kd.R_mono HO342.out (fun _ hk => ⟨hk.1.2, hk.2⟩)⟩, ⟨by (with_reducible repeat (first | apply Kd.V_alloc | apply Kd.V_drewN | apply Kd.V_drew)); exact HO345.out⟩, ⟨by repeat (first | (with_reducible first | exact HB.out | apply below_alloc | apply pw_below_drewN | apply below_drew1) | exact HB.out)⟩⟩
      rw [if_neg c32] at H
      have c32b0 : (t348 == 1) = false := beq_eq_false_iff_ne.mpr c32
      have c32b1 : (t348 != 1) = true := bne_iff_ne.mpr c32
      have H' := Aside0.mk H
      clear H
      go_wp2_with (first | ((with_reducible refine gate_callee (f := 15) rfl ?_); refine goesL_ (some 72) rfl rfl Try.func15 (by kernel_rfl) rfl #[.slice A0 l0.length c0, .int .i64 a1, .int .i64 a2] rfl (by (try simp only [List.map_toArray, List.map_cons, List.map_nil]); first | done | rfl) ?_; (with_reducible refine (bailiwickref03_May.calls k _ _ l0 a1 a2 false _ ?side1 ?side2 A26.out).mono ?_); (case side1 => repeat (first | exact (Kd.C_below HR0.out HB.out) | (with_reducible refine Kd.C_alloc ?_ _) | (with_reducible refine Kd.C_drewN ?_ _) | (with_reducible refine Kd.C_drew ?_))); (case side2 => exact HC0.out); rintro e w' ⟨rfl, ⟨nd, rfl⟩⟩; refine ⟨_, rfl, ?_⟩))
      go_meet
      case rel => exact ⟨_, (true), (by first | rfl | (simp; done) | (simp [*]; done)), H', ⟨by first | omega | exact Nat.le_refl _⟩, ⟨by (with_reducible repeat (first | apply Kd.R_alloc | apply Kd.R_drewN | apply Kd.R_drew)); exact Kd.R_mono HO330.out (fun _ hk => ⟨hk.1.2, hk.2⟩)⟩, ⟨by (with_reducible repeat (first | apply Kd.R_alloc | apply Kd.R_drewN | apply Kd.R_drew)); exact Kd.R_mono HO334.out (fun _ hk => ⟨hk.1.2, hk.2⟩)⟩, ⟨by (with_reducible repeat (first | apply Kd.V_alloc | apply Kd.V_drewN | apply Kd.V_drew)); exact Kd.V_mono HO337.out (fun _ hk => ⟨hk.1.1, ⟨hk.1.2, hk.2⟩⟩)⟩, ⟨by (with_reducible repeat (first | apply Kd.R_alloc | apply Kd.R_drewN | apply Kd.R_drew)); exact Kd.R_mono HO342.out (fun _ hk => ⟨hk.1.2, hk.2⟩)⟩, ⟨by (with_reducible repeat (first | apply Kd.V_alloc | apply Kd.V_drewN | apply Kd.V_drew)); exact HO345.out⟩, ⟨by repeat (first | (with_reducible first | exact HB.out | apply below_alloc | apply pw_below_drewN | apply below_drew1) | exact HB.out)⟩⟩
    subst c27
    have H1 : (if t348 = 0 then ((bailiwickref03_Least.f k l0 a1 a2).bind fun t350 => (if t347 = t350 then (bailiwicklaw03_StepRight.j0 k l0 a1 a3 y328 t331 t332 t335 t338 t339 t340 t343 t346 false) else (bailiwicklaw03_StepRight.j0 k l0 a1 a3 y328 t331 t332 t335 t338 t339 t340 t343 t346 true))) else (bailiwicklaw03_StepRight.j0 k l0 a1 a3 y328 t331 t332 t335 t338 t339 t340 t343 t346 true)) = some r := by rw [if_pos rfl] at H; exact H
    clear H
    have H := H1
    clear H1
    by_cases c28 : t348 = 0
    rotate_left
    · rw [if_neg c28] at H
      have c28b0 : (t348 == 0) = false := beq_eq_false_iff_ne.mpr c28
      have c28b1 : (t348 != 0) = true := bne_iff_ne.mpr c28
      (first | rw [c28b0] | (simp only [i64_w, i32_w]; rw [c28b0]) | skip)
      have H' := Aside0.mk H
      clear H
      go_wp2_with (first | ((with_reducible refine gate_callee (f := 15) rfl ?_); refine goesL_ (some 72) rfl rfl Try.func15 (by kernel_rfl) rfl #[.slice A0 l0.length c0, .int .i64 a1, .int .i64 a2] rfl (by (try simp only [List.map_toArray, List.map_cons, List.map_nil]); first | done | rfl) ?_; (with_reducible refine (bailiwickref03_May.calls k _ _ l0 a1 a2 true _ ?side1 ?side2 A26.out).mono ?_); (case side1 => repeat (first | exact (Kd.C_below HR0.out HB.out) | (with_reducible refine Kd.C_alloc ?_ _) | (with_reducible refine Kd.C_drewN ?_ _) | (with_reducible refine Kd.C_drew ?_))); (case side2 => exact HC0.out); rintro e w' ⟨rfl, ⟨nd, rfl⟩⟩; refine ⟨_, rfl, ?_⟩))
      go_meet
      case rel => exact ⟨_, (true), (by first | rfl | (simp; done) | (simp [*]; done)), H', ⟨by first | omega | exact Nat.le_refl _⟩, ⟨by (with_reducible repeat (first | apply Kd.R_alloc | apply Kd.R_drewN | apply Kd.R_drew)); exact Kd.R_mono HO330.out (fun _ hk => ⟨hk.1.2, hk.2⟩)⟩, ⟨by (with_reducible repeat (first | apply Kd.R_alloc | apply Kd.R_drewN | apply Kd.R_drew)); exact Kd.R_mono HO334.out (fun _ hk => ⟨hk.1.2, hk.2⟩)⟩, ⟨by (with_reducible repeat (first | apply Kd.V_alloc | apply Kd.V_drewN | apply Kd.V_drew)); exact Kd.V_mono HO337.out (fun _ hk => ⟨hk.1.1, ⟨hk.1.2, hk.2⟩⟩)⟩, ⟨by (with_reducible repeat (first | apply Kd.R_alloc | apply Kd.R_drewN | apply Kd.R_drew)); exact Kd.R_mono HO342.out (fun _ hk => ⟨hk.1.2, hk.2⟩)⟩, ⟨by (with_reducible repeat (first | apply Kd.V_alloc | apply Kd.V_drewN | apply Kd.V_drew)); exact HO345.out⟩, ⟨by repeat (first | (with_reducible first | exact HB.out | apply below_alloc | apply pw_below_drewN | apply below_drew1) | exact HB.out)⟩⟩
    rw [if_pos c28] at H
    have c28b0 : (t348 == 0) = true := beq_iff_eq.mpr c28
    have c28b1 : (t348 != 0) = false := bne_eq_false_iff_eq.mpr c28
    clear c28
    (first | rw [c28b0] | (simp only [i64_w, i32_w]; rw [c28b0]) | skip)
    replace H := Option.bind_eq_some_iff.mp H
    obtain ⟨t350, A290, H⟩ := H
    replace H : (if t347 = t350 then (bailiwicklaw03_StepRight.j0 k l0 a1 a3 y328 t331 t332 t335 t338 t339 t340 t343 t346 false) else (bailiwicklaw03_StepRight.j0 k l0 a1 a3 y328 t331 t332 t335 t338 t339 t340 t343 t346 true)) = some r := H
    have A29 := Aside0.mk A290
    clear A290
    by_cases c30 : t347 = t350
    · rw [if_pos c30] at H
      have c30b0 : (t347 == t350) = true := beq_iff_eq.mpr c30
      have c30b1 : (t347 != t350) = false := bne_eq_false_iff_eq.mpr c30
      clear c30
      have H' := Aside0.mk H
      clear H
      go_wp2_with (first | ((with_reducible refine gate_callee (f := 15) rfl ?_); refine goesL_ (some 72) rfl rfl Try.func15 (by kernel_rfl) rfl #[.slice A0 l0.length c0, .int .i64 a1, .int .i64 a2] rfl (by (try simp only [List.map_toArray, List.map_cons, List.map_nil]); first | done | rfl) ?_; (with_reducible refine (bailiwickref03_May.calls k _ _ l0 a1 a2 true _ ?side1 ?side2 A26.out).mono ?_); (case side1 => repeat (first | exact (Kd.C_below HR0.out HB.out) | (with_reducible refine Kd.C_alloc ?_ _) | (with_reducible refine Kd.C_drewN ?_ _) | (with_reducible refine Kd.C_drew ?_))); (case side2 => exact HC0.out); rintro e w' ⟨rfl, ⟨nd, rfl⟩⟩; refine ⟨_, rfl, ?_⟩) | (go_at_call 16; (with_reducible refine (bailiwickref03_Least.calls k _ _ l0 a1 a2 t350 _ ?side1 ?side2 A29.out).mono ?_); (case side1 => repeat (first | exact (Kd.C_below HR0.out (by repeat (first | (with_reducible first | exact HB.out | apply below_alloc | apply pw_below_drewN | apply below_drew1) | exact HB.out))) | (with_reducible refine Kd.C_alloc ?_ _) | (with_reducible refine Kd.C_drewN ?_ _) | (with_reducible refine Kd.C_drew ?_))); (case side2 => exact HC0.out); rintro e w' ⟨rfl, ⟨nd, rfl⟩⟩))
      go_meet
      case rel => exact ⟨_, (false), (by first | rfl | (simp; done) | (simp [*]; done)), H', ⟨by first | omega | exact Nat.le_refl _⟩, ⟨by (with_reducible repeat (first | apply Kd.R_alloc | apply Kd.R_drewN | apply Kd.R_drew)); exact Kd.R_mono HO330.out (fun _ hk => ⟨hk.1.2, hk.2⟩)⟩, ⟨by (with_reducible repeat (first | apply Kd.R_alloc | apply Kd.R_drewN | apply Kd.R_drew)); exact Kd.R_mono HO334.out (fun _ hk => ⟨hk.1.2, hk.2⟩)⟩, ⟨by (with_reducible repeat (first | apply Kd.V_alloc | apply Kd.V_drewN | apply Kd.V_drew)); exact Kd.V_mono HO337.out (fun _ hk => ⟨hk.1.1, ⟨hk.1.2, hk.2⟩⟩)⟩, ⟨by (with_reducible repeat (first | apply Kd.R_alloc | apply Kd.R_drewN | apply Kd.R_drew)); exact Kd.R_mono HO342.out (fun _ hk => ⟨hk.1.2, hk.2⟩)⟩, ⟨by (with_reducible repeat (first | apply Kd.V_alloc | apply Kd.V_drewN | apply Kd.V_drew)); exact HO345.out⟩, ⟨by repeat (first | (with_reducible first | exact HB.out | apply below_alloc | apply pw_below_drewN | apply below_drew1) | exact HB.out)⟩⟩
    rw [if_neg c30] at H
    have c30b0 : (t347 == t350) = false := beq_eq_false_iff_ne.mpr c30
    have c30b1 : (t347 != t350) = true := bne_iff_ne.mpr c30
    have H' := Aside0.mk H
    clear H
    go_wp2_with (first | ((with_reducible refine gate_callee (f := 15) rfl ?_); refine goesL_ (some 72) rfl rfl Try.func15 (by kernel_rfl) rfl #[.slice A0 l0.length c0, .int .i64 a1, .int .i64 a2] rfl (by (try simp only [List.map_toArray, List.map_cons, List.map_nil]); first | done | rfl) ?_; (with_reducible refine (bailiwickref03_May.calls k _ _ l0 a1 a2 true _ ?side1 ?side2 A26.out).mono ?_); (case side1 => repeat (first | exact (Kd.C_below HR0.out HB.out) | (with_reducible refine Kd.C_alloc ?_ _) | (with_reducible refine Kd.C_drewN ?_ _) | (with_reducible refine Kd.C_drew ?_))); (case side2 => exact HC0.out); rintro e w' ⟨rfl, ⟨nd, rfl⟩⟩; refine ⟨_, rfl, ?_⟩) | (go_at_call 16; (with_reducible refine (bailiwickref03_Least.calls k _ _ l0 a1 a2 t350 _ ?side1 ?side2 A29.out).mono ?_); (case side1 => repeat (first | exact (Kd.C_below HR0.out (by repeat (first | (with_reducible first | exact HB.out | apply below_alloc | apply pw_below_drewN | apply below_drew1) | exact HB.out))) | (with_reducible refine Kd.C_alloc ?_ _) | (with_reducible refine Kd.C_drewN ?_ _) | (with_reducible refine Kd.C_drew ?_))); (case side2 => exact HC0.out); rintro e w' ⟨rfl, ⟨nd, rfl⟩⟩))
    go_meet
    case rel => exact ⟨_, (true), (by first | rfl | (simp; done) | (simp [*]; done)), H', ⟨by first | omega | exact Nat.le_refl _⟩, ⟨by (with_reducible repeat (first | apply Kd.R_alloc | apply Kd.R_drewN | apply Kd.R_drew)); exact Kd.R_mono HO330.out (fun _ hk => ⟨hk.1.2, hk.2⟩)⟩, ⟨by (with_reducible repeat (first | apply Kd.R_alloc | apply Kd.R_drewN | apply Kd.R_drew)); exact Kd.R_mono HO334.out (fun _ hk => ⟨hk.1.2, hk.2⟩)⟩, ⟨by (with_reducible repeat (first | apply Kd.V_alloc | apply Kd.V_drewN | apply Kd.V_drew)); exact Kd.V_mono HO337.out (fun _ hk => ⟨hk.1.1, ⟨hk.1.2, hk.2⟩⟩)⟩, ⟨by (with_reducible repeat (first | apply Kd.R_alloc | apply Kd.R_drewN | apply Kd.R_drew)); exact Kd.R_mono HO342.out (fun _ hk => ⟨hk.1.2, hk.2⟩)⟩, ⟨by (with_reducible repeat (first | apply Kd.V_alloc | apply Kd.V_drewN | apply Kd.V_drew)); exact HO345.out⟩, ⟨by repeat (first | (with_reducible first | exact HB.out | apply below_alloc | apply pw_below_drewN | apply below_drew1) | exact HB.out)⟩⟩
  clear HC15
  try clear c1
  try clear c2
  try clear p2
  try clear c3
  try clear c4
  try clear c6
  try clear c7
  try clear c7b0
  try clear c7b1
  try clear c8
  try clear c9
  try clear c11
  try clear c12
  try clear c13
  try clear c14
  try clear c15
  try clear c27
  try clear c28
  try clear c28b0
  try clear c28b1
  try clear c30
  try clear c30b0
  try clear c30b1
  try clear c31
  try clear c31b0
  try clear c31b1
  try clear c32
  try clear c32b0
  try clear c32b1
  obtain ⟨kq, x99_14, rfl, HA, HJ14, HO_9, HO_10, HO_12, HO_14, HO_16, HB⟩ := hcut
  rcases kq with _ | kj14
  · exact absurd HA.out (by simp [bailiwicklaw03_StepRight.j0])
  have H := HA.out
  clear HA
  simp only [bailiwicklaw03_StepRight.j0] at H
  by_cases c33 : x99_14 = true
  · subst c33
    have H1 : (some false) = some r := by rw [if_pos rfl] at H; exact H
    clear H
    have H := H1
    clear H1
    obtain rfl := Option.some.inj H
    go_wp2
    go_ret
    exact ⟨by first | rfl | (simp [errW_none, errW_some] <;> rfl) | (simp [*, errW_none, errW_some] <;> rfl), by repeat (first | (with_reducible first | exact HB.out | apply below_alloc | apply pw_below_drewN | apply below_drew1) | exact HB.out)⟩
  replace c33 := Bool.eq_false_iff.mpr c33
  subst c33
  have H1 : ((step_New.f a3).bind fun bt351 => (if a3 ≥ 0 then (if bt351.2 = 0 then (if a3 ≤ 1048576 then (if (bt351.1.length : Int) = 1 then (if 0 < (bt351.1.length : Int) then (if ((rd_T38 bt351.1 0).f1) = a3 then (bailiwicklaw03_StepRight.j1 kj14 l0 a1 y328 t331 t332 t335 t338 t339 t340 t343 t346 false) else (bailiwicklaw03_StepRight.j1 kj14 l0 a1 y328 t331 t332 t335 t338 t339 t340 t343 t346 true)) else (none)) else (bailiwicklaw03_StepRight.j1 kj14 l0 a1 y328 t331 t332 t335 t338 t339 t340 t343 t346 true)) else (bailiwicklaw03_StepRight.j1 kj14 l0 a1 y328 t331 t332 t335 t338 t339 t340 t343 t346 true)) else (if a3 ≤ 1048576 then (bailiwicklaw03_StepRight.j1 kj14 l0 a1 y328 t331 t332 t335 t338 t339 t340 t343 t346 true) else (bailiwicklaw03_StepRight.j1 kj14 l0 a1 y328 t331 t332 t335 t338 t339 t340 t343 t346 (bt351.2 != 1)))) else (if bt351.2 = 0 then (bailiwicklaw03_StepRight.j1 kj14 l0 a1 y328 t331 t332 t335 t338 t339 t340 t343 t346 true) else (bailiwicklaw03_StepRight.j1 kj14 l0 a1 y328 t331 t332 t335 t338 t339 t340 t343 t346 (bt351.2 != 1))))) = some r := by rw [if_neg (show ¬ (false = true) by decide)] at H; exact H
  clear H
  have H := H1
  clear H1
  replace H := Option.bind_eq_some_iff.mp H
  obtain ⟨⟨t351, t352⟩, A340, H⟩ := H
  replace H : (if a3 ≥ 0 then (if t352 = 0 then (if a3 ≤ 1048576 then (if (t351.length : Int) = 1 then (if 0 < (t351.length : Int) then (if ((rd_T38 t351 0).f1) = a3 then (bailiwicklaw03_StepRight.j1 kj14 l0 a1 y328 t331 t332 t335 t338 t339 t340 t343 t346 false) else (bailiwicklaw03_StepRight.j1 kj14 l0 a1 y328 t331 t332 t335 t338 t339 t340 t343 t346 true)) else (none)) else (bailiwicklaw03_StepRight.j1 kj14 l0 a1 y328 t331 t332 t335 t338 t339 t340 t343 t346 true)) else (bailiwicklaw03_StepRight.j1 kj14 l0 a1 y328 t331 t332 t335 t338 t339 t340 t343 t346 true)) else (if a3 ≤ 1048576 then (bailiwicklaw03_StepRight.j1 kj14 l0 a1 y328 t331 t332 t335 t338 t339 t340 t343 t346 true) else (bailiwicklaw03_StepRight.j1 kj14 l0 a1 y328 t331 t332 t335 t338 t339 t340 t343 t346 (t352 != 1)))) else (if t352 = 0 then (bailiwicklaw03_StepRight.j1 kj14 l0 a1 y328 t331 t332 t335 t338 t339 t340 t343 t346 true) else (bailiwicklaw03_StepRight.j1 kj14 l0 a1 y328 t331 t332 t335 t338 t339 t340 t343 t346 (t352 != 1)))) = some r := H
  have A34 := Aside0.mk A340
  clear A340
  have HC35 := Aside0.mk H
  clear H
  go_upto_region 14 with (first | ((with_reducible refine gate_callee (f := 17) rfl ?_); refine goesL_ (some 102) rfl rfl Try.func17 (by kernel_rfl) rfl #[.int .i64 a3] rfl (by (try simp only [List.map_toArray, List.map_cons, List.map_nil]); first | done | rfl) ?_; (with_reducible refine (step_New.calls a3 t351 t352 _ A34.out).mono ?_); rintro e w36 ⟨v353, rfl, ho0, hb⟩; refine ⟨_, rfl, ?_⟩; have n0_ := Aside0.mk (Kd.R_elder' (by (with_reducible repeat (first | apply Kd.R_alloc | apply Kd.R_drewN | apply Kd.R_drew)); exact HO_9.out) (Kd.R_base ho0) hb); have n1_ := Aside0.mk (Kd.R_elder' (by (with_reducible repeat (first | apply Kd.R_alloc | apply Kd.R_drewN | apply Kd.R_drew)); exact HO_10.out) (Kd.R_base ho0) hb); have n2_ := Aside0.mk (Kd.V_elder' (by (with_reducible repeat (first | apply Kd.V_alloc | apply Kd.V_drewN | apply Kd.V_drew)); exact HO_12.out) (Kd.R_base ho0) hb); have n3_ := Aside0.mk (Kd.R_elder' (by (with_reducible repeat (first | apply Kd.R_alloc | apply Kd.R_drewN | apply Kd.R_drew)); exact HO_14.out) (Kd.R_base ho0) hb); have n4_ := Aside0.mk (Kd.V_elder' (by (with_reducible repeat (first | apply Kd.V_alloc | apply Kd.V_drewN | apply Kd.V_drew)); exact HO_16.out) (Kd.R_base ho0) hb); have n5_ := Aside0.mk (Kd.R_lower (Kd.R_new' (Kd.R_new' (Kd.R_new' ho0 (Kd.R_lt (by (with_reducible repeat (first | apply Kd.R_alloc | apply Kd.R_drewN | apply Kd.R_drew)); exact HO_9.out))) (Kd.R_lt (by (with_reducible repeat (first | apply Kd.R_alloc | apply Kd.R_drewN | apply Kd.R_drew)); exact HO_10.out))) (Kd.R_lt (by (with_reducible repeat (first | apply Kd.R_alloc | apply Kd.R_drewN | apply Kd.R_drew)); exact HO_14.out))) (below_size (by repeat (first | (with_reducible first | exact HB.out | apply below_alloc | apply pw_below_drewN | apply below_drew1) | exact HB.out)))); have n6_ := Aside0.mk (below_step (by repeat (first | (with_reducible first | exact HB.out | apply below_alloc | apply pw_below_drewN | apply below_drew1) | exact HB.out)) hb); clear HO_9; clear HO_10; clear HO_12; clear HO_14; clear HO_16; clear HB; have HO_9 := n0_; have HO_10 := n1_; have HO_12 := n2_; have HO_14 := n3_; have HO_16 := n4_; have HO354 := n5_; have HB := n6_; clear n0_ n1_ n2_ n3_ n4_ n5_ n6_; (try clear hb); (try clear hb2); (try clear hk); (try clear hi); (try clear ho0)))
  (try simp only [Act.put, List.setIfInBounds_toArray, List.set_cons_zero, List.set_cons_succ])
  go_cut [138] (fun v138 wc => ∃ (kq : Nat) (x138_34 : Bool), v138 = .bool x138_34 ∧ Aside0 (bailiwicklaw03_StepRight.j1 kq l0 a1 y328 t331 t332 t335 t338 t339 t340 t343 t346 x138_34 = some r) ∧ Aside0 (kq ≤ kj14) ∧ Aside0 (Kd.R k38 38 wc w.heap.size (fun k_ => some k_ ≠ (v333 : Value).ownBlock ∧ some k_ ≠ (v341 : Value).ownBlock) (.slice Ao20 y328.length co20) y328) ∧ Aside0 (Kd.R k38 38 wc w.heap.size (fun k_ => some k_ ≠ ((.slice Ao20 y328.length co20) : Value).ownBlock ∧ some k_ ≠ (v341 : Value).ownBlock) v333 t331) ∧ Aside0 (Kd.V k38 38 wc w.heap.size (fun k_ => some k_ ≠ ((.slice Ao20 y328.length co20) : Value).ownBlock ∧ some k_ ≠ (v333 : Value).ownBlock ∧ some k_ ≠ (v341 : Value).ownBlock) v336 t335) ∧ Aside0 (Kd.R k38 38 wc w.heap.size (fun k_ => some k_ ≠ ((.slice Ao20 y328.length co20) : Value).ownBlock ∧ some k_ ≠ (v333 : Value).ownBlock) v341 t339) ∧ Aside0 (Kd.V k38 38 wc w.heap.size (fun k_ => some k_ ≠ ((.slice Ao20 y328.length co20) : Value).ownBlock ∧ some k_ ≠ (v333 : Value).ownBlock ∧ some k_ ≠ (v341 : Value).ownBlock) v344 t343) ∧ Aside0 (Below w.heap.size w wc))
  case first =>
    have H := HC35.out
    clear HC35
    by_cases c37 : a3 ≥ 0
    rotate_left
    · rw [if_neg c37] at H
      have c37b0 : decide (0 ≤ a3) = false := decide_eq_false c37
      clear c37
      (first | rw [c37b0] | (simp only [i64_w, i32_w]; rw [c37b0]) | skip)
      by_cases c47 : t352 = 0
      · rw [if_pos c47] at H
        have c47b0 : (t352 == 0) = true := beq_iff_eq.mpr c47
        have c47b1 : (t352 != 0) = false := bne_eq_false_iff_eq.mpr c47
        clear c47
        have H' := Aside0.mk H
        clear H
        go_wp2
        go_meet
        case rel => exact ⟨_, (true), (by first | rfl | (simp; done) | (simp [*]; done)), H', ⟨by have := HJ14.out; first | omega | exact Nat.le_refl _⟩, ⟨by (with_reducible repeat (first | apply Kd.R_alloc | apply Kd.R_drewN | apply Kd.R_drew)); exact Kd.R_mono HO_9.out (fun _ hk => ⟨hk.1.1, hk.1.2⟩)⟩, ⟨by (with_reducible repeat (first | apply Kd.R_alloc | apply Kd.R_drewN | apply Kd.R_drew)); exact Kd.R_mono HO_10.out (fun _ hk => ⟨hk.1.1, hk.1.2⟩)⟩, ⟨by (with_reducible repeat (first | apply Kd.V_alloc | apply Kd.V_drewN | apply Kd.V_drew)); exact Kd.V_mono HO_12.out (fun _ hk => ⟨hk.1.1, ⟨hk.1.2.1, hk.1.2.2⟩⟩)⟩, ⟨by (with_reducible repeat (first | apply Kd.R_alloc | apply Kd.R_drewN | apply Kd.R_drew)); exact Kd.R_mono HO_14.out (fun _ hk => ⟨hk.1.1, hk.1.2⟩)⟩, ⟨by (with_reducible repeat (first | apply Kd.V_alloc | apply Kd.V_drewN | apply Kd.V_drew)); exact Kd.V_mono HO_16.out (fun _ hk => ⟨hk.1.1, ⟨hk.1.2.1, hk.1.2.2⟩⟩)⟩, ⟨by repeat (first | (with_reducible first | exact HB.out | apply below_alloc | apply pw_below_drewN | apply below_drew1) | exact HB.out)⟩⟩
      rw [if_neg c47] at H
      have c47b0 : (t352 == 0) = false := beq_eq_false_iff_ne.mpr c47
      have c47b1 : (t352 != 0) = true := bne_iff_ne.mpr c47
      have H' := Aside0.mk H
      clear H
      go_wp2
      go_meet
      case rel => exact ⟨_, ((t352 != 1)), (by first | rfl | (simp; done) | (simp [*]; done)), H', ⟨by have := HJ14.out; first | omega | exact Nat.le_refl _⟩, ⟨by (with_reducible repeat (first | apply Kd.R_alloc | apply Kd.R_drewN | apply Kd.R_drew)); exact Kd.R_mono HO_9.out (fun _ hk => ⟨hk.1.1, hk.1.2⟩)⟩, ⟨by (with_reducible repeat (first | apply Kd.R_alloc | apply Kd.R_drewN | apply Kd.R_drew)); exact Kd.R_mono HO_10.out (fun _ hk => ⟨hk.1.1, hk.1.2⟩)⟩, ⟨by (with_reducible repeat (first | apply Kd.V_alloc | apply Kd.V_drewN | apply Kd.V_drew)); exact Kd.V_mono HO_12.out (fun _ hk => ⟨hk.1.1, ⟨hk.1.2.1, hk.1.2.2⟩⟩)⟩, ⟨by (with_reducible repeat (first | apply Kd.R_alloc | apply Kd.R_drewN | apply Kd.R_drew)); exact Kd.R_mono HO_14.out (fun _ hk => ⟨hk.1.1, hk.1.2⟩)⟩, ⟨by (with_reducible repeat (first | apply Kd.V_alloc | apply Kd.V_drewN | apply Kd.V_drew)); exact Kd.V_mono HO_16.out (fun _ hk => ⟨hk.1.1, ⟨hk.1.2.1, hk.1.2.2⟩⟩)⟩, ⟨by repeat (first | (with_reducible first | exact HB.out | apply below_alloc | apply pw_below_drewN | apply below_drew1) | exact HB.out)⟩⟩
    rw [if_pos c37] at H
    have c37b0 : decide (0 ≤ a3) = true := decide_eq_true c37
    clear c37
    (first | rw [c37b0] | (simp only [i64_w, i32_w]; rw [c37b0]) | skip)
    by_cases c38 : t352 = 0
    rotate_left
    · rw [if_neg c38] at H
      have c38b0 : (t352 == 0) = false := beq_eq_false_iff_ne.mpr c38
      have c38b1 : (t352 != 0) = true := bne_iff_ne.mpr c38
      by_cases c46 : a3 ≤ 1048576
      · rw [if_pos c46] at H
        have c46b0 : decide (a3 ≤ 1048576) = true := decide_eq_true c46
        clear c46
        have H' := Aside0.mk H
        clear H
        go_wp2
        go_meet
        case rel => exact ⟨_, (true), (by first | rfl | (simp; done) | (simp [*]; done)), H', ⟨by have := HJ14.out; first | omega | exact Nat.le_refl _⟩, ⟨by (with_reducible repeat (first | apply Kd.R_alloc | apply Kd.R_drewN | apply Kd.R_drew)); exact Kd.R_mono HO_9.out (fun _ hk => ⟨hk.1.1, hk.1.2⟩)⟩, ⟨by (with_reducible repeat (first | apply Kd.R_alloc | apply Kd.R_drewN | apply Kd.R_drew)); exact Kd.R_mono HO_10.out (fun _ hk => ⟨hk.1.1, hk.1.2⟩)⟩, ⟨by (with_reducible repeat (first | apply Kd.V_alloc | apply Kd.V_drewN | apply Kd.V_drew)); exact Kd.V_mono HO_12.out (fun _ hk => ⟨hk.1.1, ⟨hk.1.2.1, hk.1.2.2⟩⟩)⟩, ⟨by (with_reducible repeat (first | apply Kd.R_alloc | apply Kd.R_drewN | apply Kd.R_drew)); exact Kd.R_mono HO_14.out (fun _ hk => ⟨hk.1.1, hk.1.2⟩)⟩, ⟨by (with_reducible repeat (first | apply Kd.V_alloc | apply Kd.V_drewN | apply Kd.V_drew)); exact Kd.V_mono HO_16.out (fun _ hk => ⟨hk.1.1, ⟨hk.1.2.1, hk.1.2.2⟩⟩)⟩, ⟨by repeat (first | (with_reducible first | exact HB.out | apply below_alloc | apply pw_below_drewN | apply below_drew1) | exact HB.out)⟩⟩
      rw [if_neg c46] at H
      have c46b0 : decide (a3 ≤ 1048576) = false := decide_eq_false c46
      clear c46
      have H' := Aside0.mk H
      clear H
      go_wp2
      go_meet
      case rel => exact ⟨_, ((t352 != 1)), (by first | rfl | (simp; done) | (simp [*]; done)), H', ⟨by have := HJ14.out; first | omega | exact Nat.le_refl _⟩, ⟨by (with_reducible repeat (first | apply Kd.R_alloc | apply Kd.R_drewN | apply Kd.R_drew)); exact Kd.R_mono HO_9.out (fun _ hk => ⟨hk.1.1, hk.1.2⟩)⟩, ⟨by (with_reducible repeat (first | apply Kd.R_alloc | apply Kd.R_drewN | apply Kd.R_drew)); exact Kd.R_mono HO_10.out (fun _ hk => ⟨hk.1.1, hk.1.2⟩)⟩, ⟨by (with_reducible repeat (first | apply Kd.V_alloc | apply Kd.V_drewN | apply Kd.V_drew)); exact Kd.V_mono HO_12.out (fun _ hk => ⟨hk.1.1, ⟨hk.1.2.1, hk.1.2.2⟩⟩)⟩, ⟨by (with_reducible repeat (first | apply Kd.R_alloc | apply Kd.R_drewN | apply Kd.R_drew)); exact Kd.R_mono HO_14.out (fun _ hk => ⟨hk.1.1, hk.1.2⟩)⟩, ⟨by (with_reducible repeat (first | apply Kd.V_alloc | apply Kd.V_drewN | apply Kd.V_drew)); exact Kd.V_mono HO_16.out (fun _ hk => ⟨hk.1.1, ⟨hk.1.2.1, hk.1.2.2⟩⟩)⟩, ⟨by repeat (first | (with_reducible first | exact HB.out | apply below_alloc | apply pw_below_drewN | apply below_drew1) | exact HB.out)⟩⟩
    rw [if_pos c38] at H
    have c38b0 : (t352 == 0) = true := beq_iff_eq.mpr c38
    have c38b1 : (t352 != 0) = false := bne_eq_false_iff_eq.mpr c38
    clear c38
    by_cases c39 : a3 ≤ 1048576
    rotate_left
    · rw [if_neg c39] at H
      have c39b0 : decide (a3 ≤ 1048576) = false := decide_eq_false c39
      clear c39
      have H' := Aside0.mk H
      clear H
      go_wp2
      go_meet
      case rel => exact ⟨_, (true), (by first | rfl | (simp; done) | (simp [*]; done)), H', ⟨by have := HJ14.out; first | omega | exact Nat.le_refl _⟩, ⟨by (with_reducible repeat (first | apply Kd.R_alloc | apply Kd.R_drewN | apply Kd.R_drew)); exact Kd.R_mono HO_9.out (fun _ hk => ⟨hk.1.1, hk.1.2⟩)⟩, ⟨by (with_reducible repeat (first | apply Kd.R_alloc | apply Kd.R_drewN | apply Kd.R_drew)); exact Kd.R_mono HO_10.out (fun _ hk => ⟨hk.1.1, hk.1.2⟩)⟩, ⟨by (with_reducible repeat (first | apply Kd.V_alloc | apply Kd.V_drewN | apply Kd.V_drew)); exact Kd.V_mono HO_12.out (fun _ hk => ⟨hk.1.1, ⟨hk.1.2.1, hk.1.2.2⟩⟩)⟩, ⟨by (with_reducible repeat (first | apply Kd.R_alloc | apply Kd.R_drewN | apply Kd.R_drew)); exact Kd.R_mono HO_14.out (fun _ hk => ⟨hk.1.1, hk.1.2⟩)⟩, ⟨by (with_reducible repeat (first | apply Kd.V_alloc | apply Kd.V_drewN | apply Kd.V_drew)); exact Kd.V_mono HO_16.out (fun _ hk => ⟨hk.1.1, ⟨hk.1.2.1, hk.1.2.2⟩⟩)⟩, ⟨by repeat (first | (with_reducible first | exact HB.out | apply below_alloc | apply pw_below_drewN | apply below_drew1) | exact HB.out)⟩⟩
    rw [if_pos c39] at H
    have c39b0 : decide (a3 ≤ 1048576) = true := decide_eq_true c39
    clear c39
    by_cases c40 : (t351.length : Int) = 1
    rotate_left
    · rw [if_neg c40] at H
      have c40b0 : ((t351.length : Int) == 1) = false := beq_eq_false_iff_ne.mpr c40
      have c40b1 : ((t351.length : Int) != 1) = true := bne_iff_ne.mpr c40
      have H' := Aside0.mk H
      clear H
      obtain ⟨Ao45, co45, eo45⟩ := Kd.R_slice HO354.out
      subst eo45
      go_wp2
      go_meet
      case rel => exact ⟨_, (true), (by first | rfl | (simp; done) | (simp [*]; done)), H', ⟨by have := HJ14.out; first | omega | exact Nat.le_refl _⟩, ⟨by (with_reducible repeat (first | apply Kd.R_alloc | apply Kd.R_drewN | apply Kd.R_drew)); exact Kd.R_mono HO_9.out (fun _ hk => ⟨hk.1.1, hk.1.2⟩)⟩, ⟨by (with_reducible repeat (first | apply Kd.R_alloc | apply Kd.R_drewN | apply Kd.R_drew)); exact Kd.R_mono HO_10.out (fun _ hk => ⟨hk.1.1, hk.1.2⟩)⟩, ⟨by (with_reducible repeat (first | apply Kd.V_alloc | apply Kd.V_drewN | apply Kd.V_drew)); exact Kd.V_mono HO_12.out (fun _ hk => ⟨hk.1.1, ⟨hk.1.2.1, hk.1.2.2⟩⟩)⟩, ⟨by (with_reducible repeat (first | apply Kd.R_alloc | apply Kd.R_drewN | apply Kd.R_drew)); exact Kd.R_mono HO_14.out (fun _ hk => ⟨hk.1.1, hk.1.2⟩)⟩, ⟨by (with_reducible repeat (first | apply Kd.V_alloc | apply Kd.V_drewN | apply Kd.V_drew)); exact Kd.V_mono HO_16.out (fun _ hk => ⟨hk.1.1, ⟨hk.1.2.1, hk.1.2.2⟩⟩)⟩, ⟨by repeat (first | (with_reducible first | exact HB.out | apply below_alloc | apply pw_below_drewN | apply below_drew1) | exact HB.out)⟩⟩
    rw [if_pos c40] at H
    have c40b0 : ((t351.length : Int) == 1) = true := beq_iff_eq.mpr c40
    have c40b1 : ((t351.length : Int) != 1) = false := bne_eq_false_iff_eq.mpr c40
    clear c40
    by_cases c41 : 0 < (t351.length : Int)
    rotate_left
    · rw [if_neg c41] at H
      exact absurd H (by simp)
    rw [if_pos c41] at H
    have c41b0 : decide (0 < (t351.length : Int)) = true := decide_eq_true c41
    have c41b1 : decide (0 < t351.length) = true := decide_eq_true (by omega)
    clear c41
    by_cases c42 : ((rd_T38 t351 0).f1) = a3
    · rw [if_pos c42] at H
      have c42b0 : (((rd_T38 t351 0).f1) == a3) = true := beq_iff_eq.mpr c42
      have c42b1 : (((rd_T38 t351 0).f1) != a3) = false := bne_eq_false_iff_eq.mpr c42
      clear c42
      have H' := Aside0.mk H
      clear H
      obtain ⟨Ao43, co43, eo43⟩ := Kd.R_slice HO354.out
      subst eo43
      have p355 : 0 ≤ (0 : Int) := (by omega)
      have q355 : 0 < (t351.length : Int) := of_decide_eq_true (by first | (with_reducible assumption) | assumption)
      obtain ⟨ad355, e355, hx355_0, hx355_1⟩ := at_T38 (Kd.R_reads' HO354.out).2.2 0 p355 q355
      cases e355
      have qi355 : (0 < t351.length) = True := eq_true (by omega)
      (try rw [show ((0 : Int)).toNat = 0 from rfl] at hx355_0)
      (try rw [show 0 * 2 = 0 from rfl] at hx355_0)
      (try rw [Addr.add_zero'] at hx355_0)
      (try rw [show ((0 : Int)).toNat = 0 from rfl] at hx355_1)
      (try rw [show 0 * 2 = 0 from rfl] at hx355_1)
      (try rw [Addr.add_zero'] at hx355_1)
      replace p355 := eq_true p355
      replace q355 := eq_true q355
      go_wp2
      go_meet
      case rel => exact ⟨_, (false), (by first | rfl | (simp; done) | (simp [*]; done)), H', ⟨by have := HJ14.out; first | omega | exact Nat.le_refl _⟩, ⟨by (with_reducible repeat (first | apply Kd.R_alloc | apply Kd.R_drewN | apply Kd.R_drew)); exact Kd.R_mono HO_9.out (fun _ hk => ⟨hk.1.1, hk.1.2⟩)⟩, ⟨by (with_reducible repeat (first | apply Kd.R_alloc | apply Kd.R_drewN | apply Kd.R_drew)); exact Kd.R_mono HO_10.out (fun _ hk => ⟨hk.1.1, hk.1.2⟩)⟩, ⟨by (with_reducible repeat (first | apply Kd.V_alloc | apply Kd.V_drewN | apply Kd.V_drew)); exact Kd.V_mono HO_12.out (fun _ hk => ⟨hk.1.1, ⟨hk.1.2.1, hk.1.2.2⟩⟩)⟩, ⟨by (with_reducible repeat (first | apply Kd.R_alloc | apply Kd.R_drewN | apply Kd.R_drew)); exact Kd.R_mono HO_14.out (fun _ hk => ⟨hk.1.1, hk.1.2⟩)⟩, ⟨by (with_reducible repeat (first | apply Kd.V_alloc | apply Kd.V_drewN | apply Kd.V_drew)); exact Kd.V_mono HO_16.out (fun _ hk => ⟨hk.1.1, ⟨hk.1.2.1, hk.1.2.2⟩⟩)⟩, ⟨by repeat (first | (with_reducible first | exact HB.out | apply below_alloc | apply pw_below_drewN | apply below_drew1) | exact HB.out)⟩⟩
    rw [if_neg c42] at H
    have c42b0 : (((rd_T38 t351 0).f1) == a3) = false := beq_eq_false_iff_ne.mpr c42
    have c42b1 : (((rd_T38 t351 0).f1) != a3) = true := bne_iff_ne.mpr c42
    have H' := Aside0.mk H
    clear H
    obtain ⟨Ao44, co44, eo44⟩ := Kd.R_slice HO354.out
    subst eo44
    have p355 : 0 ≤ (0 : Int) := (by omega)
    have q355 : 0 < (t351.length : Int) := of_decide_eq_true (by first | (with_reducible assumption) | assumption)
    obtain ⟨ad355, e355, hx355_0, hx355_1⟩ := at_T38 (Kd.R_reads' HO354.out).2.2 0 p355 q355
    cases e355
    have qi355 : (0 < t351.length) = True := eq_true (by omega)
    (try rw [show ((0 : Int)).toNat = 0 from rfl] at hx355_0)
    (try rw [show 0 * 2 = 0 from rfl] at hx355_0)
    (try rw [Addr.add_zero'] at hx355_0)
    (try rw [show ((0 : Int)).toNat = 0 from rfl] at hx355_1)
    (try rw [show 0 * 2 = 0 from rfl] at hx355_1)
    (try rw [Addr.add_zero'] at hx355_1)
    replace p355 := eq_true p355
    replace q355 := eq_true q355
    go_wp2
    go_meet
    case rel => exact ⟨_, (true), (by first | rfl | (simp; done) | (simp [*]; done)), H', ⟨by have := HJ14.out; first | omega | exact Nat.le_refl _⟩, ⟨by (with_reducible repeat (first | apply Kd.R_alloc | apply Kd.R_drewN | apply Kd.R_drew)); exact Kd.R_mono HO_9.out (fun _ hk => ⟨hk.1.1, hk.1.2⟩)⟩, ⟨by (with_reducible repeat (first | apply Kd.R_alloc | apply Kd.R_drewN | apply Kd.R_drew)); exact Kd.R_mono HO_10.out (fun _ hk => ⟨hk.1.1, hk.1.2⟩)⟩, ⟨by (with_reducible repeat (first | apply Kd.V_alloc | apply Kd.V_drewN | apply Kd.V_drew)); exact Kd.V_mono HO_12.out (fun _ hk => ⟨hk.1.1, ⟨hk.1.2.1, hk.1.2.2⟩⟩)⟩, ⟨by (with_reducible repeat (first | apply Kd.R_alloc | apply Kd.R_drewN | apply Kd.R_drew)); exact Kd.R_mono HO_14.out (fun _ hk => ⟨hk.1.1, hk.1.2⟩)⟩, ⟨by (with_reducible repeat (first | apply Kd.V_alloc | apply Kd.V_drewN | apply Kd.V_drew)); exact Kd.V_mono HO_16.out (fun _ hk => ⟨hk.1.1, ⟨hk.1.2.1, hk.1.2.2⟩⟩)⟩, ⟨by repeat (first | (with_reducible first | exact HB.out | apply below_alloc | apply pw_below_drewN | apply below_drew1) | exact HB.out)⟩⟩
  clear HC35
  try clear c1
  try clear c2
  try clear p2
  try clear c3
  try clear p3
  try clear q3
  try clear hx3
  try clear qi3
  try clear c4
  try clear c6
  try clear c7
  try clear c7b0
  try clear c7b1
  try clear c8
  try clear c9
  try clear c11
  try clear c12
  try clear c13
  try clear c14
  try clear c15
  try clear c17
  try clear c27
  try clear c28
  try clear c28b0
  try clear c28b1
  try clear c30
  try clear c30b0
  try clear c30b1
  try clear c31
  try clear c31b0
  try clear c31b1
  try clear c32
  try clear c32b0
  try clear c32b1
  try clear c33
  try clear p35
  try clear q35
  try clear hx35
  try clear qi35
  try clear c37
  try clear c37b0
  try clear c38
  try clear c38b0
  try clear c38b1
  try clear c39
  try clear c39b0
  try clear c40
  try clear c40b0
  try clear c40b1
  try clear c41
  try clear c41b0
  try clear c41b1
  try clear c42
  try clear c42b0
  try clear c42b1
  try clear c46
  try clear c46b0
  try clear c47
  try clear c47b0
  try clear c47b1
  try clear hx355_0
  try clear hx355_1
  try clear p2
  try clear p355
  try clear q355
  obtain ⟨kq, x138_34, rfl, HA, HJ34, HO_9, HO_10, HO_12, HO_14, HO_16, HB⟩ := hcut
  rcases kq with _ | kj34
  · exact absurd HA.out (by simp [bailiwicklaw03_StepRight.j1])
  have H := HA.out
  clear HA
  simp only [bailiwicklaw03_StepRight.j1] at H
  by_cases c48 : x138_34 = true
  · subst c48
    have H1 : (some false) = some r := by rw [if_pos rfl] at H; exact H
    clear H
    have H := H1
    clear H1
    obtain rfl := Option.some.inj H
    go_wp2
    go_ret
    exact ⟨by first | rfl | (simp [errW_none, errW_some] <;> rfl) | (simp [*, errW_none, errW_some] <;> rfl), by repeat (first | (with_reducible first | exact HB.out | apply below_alloc | apply pw_below_drewN | apply below_drew1) | exact HB.out)⟩
  replace c48 := Bool.eq_false_iff.mpr c48
  subst c48
  have H1 : ((step_Right.f kj34 y328).bind fun t356 => ((bailiwickref03_Right.f kj34 l0).bind fun t357 => (if t356 = true then (if t357 = true then ((step_At.f kj34 y328 a1).bind fun t358 => ((bailiwickref03_At.f kj34 l0 a1).bind fun t359 => (if t358 = t359 then ((bailiwickref03_Same.f kj34 t331 t335).bind fun t360 => (if t360 = true then (if t332 = t338 then ((bailiwickref03_Same.f kj34 t339 t343).bind fun t361 => (if t361 = true then (if t340 = t346 then ((bailiwickref03_Same.f kj34 y328 l0).bind fun t362 => (some t362)) else (some false)) else (some false))) else (some false)) else (some false))) else (some false)))) else (some false)) else (if t357 = true then (some false) else ((step_At.f kj34 y328 a1).bind fun t363 => ((bailiwickref03_At.f kj34 l0 a1).bind fun t364 => (if t363 = t364 then ((bailiwickref03_Same.f kj34 t331 t335).bind fun t365 => (if t365 = true then (if t332 = t338 then ((bailiwickref03_Same.f kj34 t339 t343).bind fun t366 => (if t366 = true then (if t340 = t346 then ((bailiwickref03_Same.f kj34 y328 l0).bind fun t367 => (some t367)) else (some false)) else (some false))) else (some false)) else (some false))) else (some false)))))))) = some r := by rw [if_neg (show ¬ (false = true) by decide)] at H; exact H
  clear H
  have H := H1
  clear H1
  replace H := Option.bind_eq_some_iff.mp H
  obtain ⟨t356, A490, H⟩ := H
  replace H : ((bailiwickref03_Right.f kj34 l0).bind fun t357 => (if t356 = true then (if t357 = true then ((step_At.f kj34 y328 a1).bind fun t358 => ((bailiwickref03_At.f kj34 l0 a1).bind fun t359 => (if t358 = t359 then ((bailiwickref03_Same.f kj34 t331 t335).bind fun t360 => (if t360 = true then (if t332 = t338 then ((bailiwickref03_Same.f kj34 t339 t343).bind fun t361 => (if t361 = true then (if t340 = t346 then ((bailiwickref03_Same.f kj34 y328 l0).bind fun t362 => (some t362)) else (some false)) else (some false))) else (some false)) else (some false))) else (some false)))) else (some false)) else (if t357 = true then (some false) else ((step_At.f kj34 y328 a1).bind fun t363 => ((bailiwickref03_At.f kj34 l0 a1).bind fun t364 => (if t363 = t364 then ((bailiwickref03_Same.f kj34 t331 t335).bind fun t365 => (if t365 = true then (if t332 = t338 then ((bailiwickref03_Same.f kj34 t339 t343).bind fun t366 => (if t366 = true then (if t340 = t346 then ((bailiwickref03_Same.f kj34 y328 l0).bind fun t367 => (some t367)) else (some false)) else (some false))) else (some false)) else (some false))) else (some false))))))) = some r := H
  have A49 := Aside0.mk A490
  clear A490
  replace H := Option.bind_eq_some_iff.mp H
  obtain ⟨t357, A500, H⟩ := H
  replace H : (if t356 = true then (if t357 = true then ((step_At.f kj34 y328 a1).bind fun t358 => ((bailiwickref03_At.f kj34 l0 a1).bind fun t359 => (if t358 = t359 then ((bailiwickref03_Same.f kj34 t331 t335).bind fun t360 => (if t360 = true then (if t332 = t338 then ((bailiwickref03_Same.f kj34 t339 t343).bind fun t361 => (if t361 = true then (if t340 = t346 then ((bailiwickref03_Same.f kj34 y328 l0).bind fun t362 => (some t362)) else (some false)) else (some false))) else (some false)) else (some false))) else (some false)))) else (some false)) else (if t357 = true then (some false) else ((step_At.f kj34 y328 a1).bind fun t363 => ((bailiwickref03_At.f kj34 l0 a1).bind fun t364 => (if t363 = t364 then ((bailiwickref03_Same.f kj34 t331 t335).bind fun t365 => (if t365 = true then (if t332 = t338 then ((bailiwickref03_Same.f kj34 t339 t343).bind fun t366 => (if t366 = true then (if t340 = t346 then ((bailiwickref03_Same.f kj34 y328 l0).bind fun t367 => (some t367)) else (some false)) else (some false))) else (some false)) else (some false))) else (some false)))))) = some r := H
  have A50 := Aside0.mk A500
  clear A500
  by_cases c51 : t356 = true
  · subst c51
    have H1 : (if t357 = true then ((step_At.f kj34 y328 a1).bind fun t358 => ((bailiwickref03_At.f kj34 l0 a1).bind fun t359 => (if t358 = t359 then ((bailiwickref03_Same.f kj34 t331 t335).bind fun t360 => (if t360 = true then (if t332 = t338 then ((bailiwickref03_Same.f kj34 t339 t343).bind fun t361 => (if t361 = true then (if t340 = t346 then ((bailiwickref03_Same.f kj34 y328 l0).bind fun t362 => (some t362)) else (some false)) else (some false))) else (some false)) else (some false))) else (some false)))) else (some false)) = some r := by rw [if_pos rfl] at H; exact H
    clear H
    have H := H1
    clear H1
    by_cases c52 : t357 = true
    rotate_left
    · replace c52 := Bool.eq_false_iff.mpr c52
      subst c52
      have H1 : (some false) = some r := by rw [if_neg (show ¬ (false = true) by decide)] at H; exact H
      clear H
      have H := H1
      clear H1
      obtain rfl := Option.some.inj H
      go_wp2_with (first | ((with_reducible refine gate_callee (f := 18) rfl ?_); refine goesL_ (some 140) rfl rfl Try.func18 (by kernel_rfl) rfl #[.slice Ao20 y328.length co20] rfl (by (try simp only [List.map_toArray, List.map_cons, List.map_nil]); first | done | rfl) ?_; (with_reducible refine (step_Right.calls kj34 _ _ y328 true _ ?side1 ?side2 A49.out).mono ?_); (case side1 => repeat (first | exact (Kd.R_reads' HO_9.out).2.2 | (with_reducible refine Kd.C_alloc ?_ _) | (with_reducible refine Kd.C_drewN ?_ _) | (with_reducible refine Kd.C_drew ?_))); (case side2 => exact (Kd.R_reads' HO_9.out).2.1); rintro e w91 ⟨rfl, hb⟩; refine ⟨_, rfl, ?_⟩; have n0_ := Aside0.mk (Kd.R_below (by (with_reducible repeat (first | apply Kd.R_alloc | apply Kd.R_drewN | apply Kd.R_drew)); exact HO_9.out) hb); have n1_ := Aside0.mk (Kd.R_below (by (with_reducible repeat (first | apply Kd.R_alloc | apply Kd.R_drewN | apply Kd.R_drew)); exact HO_10.out) hb); have n2_ := Aside0.mk (Kd.V_below (by (with_reducible repeat (first | apply Kd.V_alloc | apply Kd.V_drewN | apply Kd.V_drew)); exact HO_12.out) hb); have n3_ := Aside0.mk (Kd.R_below (by (with_reducible repeat (first | apply Kd.R_alloc | apply Kd.R_drewN | apply Kd.R_drew)); exact HO_14.out) hb); have n4_ := Aside0.mk (Kd.V_below (by (with_reducible repeat (first | apply Kd.V_alloc | apply Kd.V_drewN | apply Kd.V_drew)); exact HO_16.out) hb); have n5_ := Aside0.mk (below_step (by repeat (first | (with_reducible first | exact HB.out | apply below_alloc | apply pw_below_drewN | apply below_drew1) | exact HB.out)) hb); clear HO_9; clear HO_10; clear HO_12; clear HO_14; clear HO_16; clear HB; have HO_9 := n0_; have HO_10 := n1_; have HO_12 := n2_; have HO_14 := n3_; have HO_16 := n4_; have HB := n5_; clear n0_ n1_ n2_ n3_ n4_ n5_; (try clear hb); (try clear hb2); (try clear hk); (try clear hi)) | ((with_reducible refine gate_callee (f := 19) rfl ?_); refine goesL_ (some 142) rfl rfl Try.func19 (by kernel_rfl) rfl #[.slice A0 l0.length c0] rfl (by (try simp only [List.map_toArray, List.map_cons, List.map_nil]); first | done | rfl) ?_; (with_reducible refine (bailiwickref03_Right.calls kj34 _ _ l0 false _ ?side1 ?side2 A50.out).mono ?_); (case side1 => repeat (first | exact (Kd.C_below HR0.out HB.out) | (with_reducible refine Kd.C_alloc ?_ _) | (with_reducible refine Kd.C_drewN ?_ _) | (with_reducible refine Kd.C_drew ?_))); (case side2 => exact HC0.out); rintro e w' ⟨rfl, ⟨nd, rfl⟩⟩; refine ⟨_, rfl, ?_⟩))
      go_ret
      exact ⟨by first | rfl | (simp [errW_none, errW_some] <;> rfl) | (simp [*, errW_none, errW_some] <;> rfl), by repeat (first | (with_reducible first | exact HB.out | apply below_alloc | apply pw_below_drewN | apply below_drew1) | exact HB.out)⟩
    subst c52
    have H1 : ((step_At.f kj34 y328 a1).bind fun t358 => ((bailiwickref03_At.f kj34 l0 a1).bind fun t359 => (if t358 = t359 then ((bailiwickref03_Same.f kj34 t331 t335).bind fun t360 => (if t360 = true then (if t332 = t338 then ((bailiwickref03_Same.f kj34 t339 t343).bind fun t361 => (if t361 = true then (if t340 = t346 then ((bailiwickref03_Same.f kj34 y328 l0).bind fun t362 => (some t362)) else (some false)) else (some false))) else (some false)) else (some false))) else (some false)))) = some r := by rw [if_pos rfl] at H; exact H
    clear H
    have H := H1
    clear H1
    replace H := Option.bind_eq_some_iff.mp H
    obtain ⟨t358, A530, H⟩ := H
    replace H : ((bailiwickref03_At.f kj34 l0 a1).bind fun t359 => (if t358 = t359 then ((bailiwickref03_Same.f kj34 t331 t335).bind fun t360 => (if t360 = true then (if t332 = t338 then ((bailiwickref03_Same.f kj34 t339 t343).bind fun t361 => (if t361 = true then (if t340 = t346 then ((bailiwickref03_Same.f kj34 y328 l0).bind fun t362 => (some t362)) else (some false)) else (some false))) else (some false)) else (some false))) else (some false))) = some r := H
    have A53 := Aside0.mk A530
    clear A530
    replace H := Option.bind_eq_some_iff.mp H
    obtain ⟨t359, A540, H⟩ := H
    replace H : (if t358 = t359 then ((bailiwickref03_Same.f kj34 t331 t335).bind fun t360 => (if t360 = true then (if t332 = t338 then ((bailiwickref03_Same.f kj34 t339 t343).bind fun t361 => (if t361 = true then (if t340 = t346 then ((bailiwickref03_Same.f kj34 y328 l0).bind fun t362 => (some t362)) else (some false)) else (some false))) else (some false)) else (some false))) else (some false)) = some r := H
    have A54 := Aside0.mk A540
    clear A540
    by_cases c55 : t358 = t359
    rotate_left
    · rw [if_neg c55] at H
      have c55b0 : (t358 == t359) = false := beq_eq_false_iff_ne.mpr c55
      have c55b1 : (t358 != t359) = true := bne_iff_ne.mpr c55
      obtain rfl := Option.some.inj H
      go_wp2_with (first | ((with_reducible refine gate_callee (f := 18) rfl ?_); refine goesL_ (some 140) rfl rfl Try.func18 (by kernel_rfl) rfl #[.slice Ao20 y328.length co20] rfl (by (try simp only [List.map_toArray, List.map_cons, List.map_nil]); first | done | rfl) ?_; (with_reducible refine (step_Right.calls kj34 _ _ y328 true _ ?side1 ?side2 A49.out).mono ?_); (case side1 => repeat (first | exact (Kd.R_reads' HO_9.out).2.2 | (with_reducible refine Kd.C_alloc ?_ _) | (with_reducible refine Kd.C_drewN ?_ _) | (with_reducible refine Kd.C_drew ?_))); (case side2 => exact (Kd.R_reads' HO_9.out).2.1); rintro e w89 ⟨rfl, hb⟩; refine ⟨_, rfl, ?_⟩; have n0_ := Aside0.mk (Kd.R_below (by (with_reducible repeat (first | apply Kd.R_alloc | apply Kd.R_drewN | apply Kd.R_drew)); exact HO_9.out) hb); have n1_ := Aside0.mk (Kd.R_below (by (with_reducible repeat (first | apply Kd.R_alloc | apply Kd.R_drewN | apply Kd.R_drew)); exact HO_10.out) hb); have n2_ := Aside0.mk (Kd.V_below (by (with_reducible repeat (first | apply Kd.V_alloc | apply Kd.V_drewN | apply Kd.V_drew)); exact HO_12.out) hb); have n3_ := Aside0.mk (Kd.R_below (by (with_reducible repeat (first | apply Kd.R_alloc | apply Kd.R_drewN | apply Kd.R_drew)); exact HO_14.out) hb); have n4_ := Aside0.mk (Kd.V_below (by (with_reducible repeat (first | apply Kd.V_alloc | apply Kd.V_drewN | apply Kd.V_drew)); exact HO_16.out) hb); have n5_ := Aside0.mk (below_step (by repeat (first | (with_reducible first | exact HB.out | apply below_alloc | apply pw_below_drewN | apply below_drew1) | exact HB.out)) hb); clear HO_9; clear HO_10; clear HO_12; clear HO_14; clear HO_16; clear HB; have HO_9 := n0_; have HO_10 := n1_; have HO_12 := n2_; have HO_14 := n3_; have HO_16 := n4_; have HB := n5_; clear n0_ n1_ n2_ n3_ n4_ n5_; (try clear hb); (try clear hb2); (try clear hk); (try clear hi)) | ((with_reducible refine gate_callee (f := 19) rfl ?_); refine goesL_ (some 142) rfl rfl Try.func19 (by kernel_rfl) rfl #[.slice A0 l0.length c0] rfl (by (try simp only [List.map_toArray, List.map_cons, List.map_nil]); first | done | rfl) ?_; (with_reducible refine (bailiwickref03_Right.calls kj34 _ _ l0 true _ ?side1 ?side2 A50.out).mono ?_); (case side1 => repeat (first | exact (Kd.C_below HR0.out HB.out) | (with_reducible refine Kd.C_alloc ?_ _) | (with_reducible refine Kd.C_drewN ?_ _) | (with_reducible refine Kd.C_drew ?_))); (case side2 => exact HC0.out); rintro e w' ⟨rfl, ⟨nd, rfl⟩⟩; refine ⟨_, rfl, ?_⟩) | (go_at_call 20; (with_reducible refine (step_At.calls kj34 _ _ y328 a1 t358 _ ?side1 ?side2 A53.out).mono ?_); (case side1 => repeat (first | exact (Kd.R_reads' HO_9.out).2.2 | (with_reducible refine Kd.C_alloc ?_ _) | (with_reducible refine Kd.C_drewN ?_ _) | (with_reducible refine Kd.C_drew ?_))); (case side2 => exact (Kd.R_reads' HO_9.out).2.1); rintro e w90 ⟨rfl, hb⟩; have n0_ := Aside0.mk (Kd.R_below (by (with_reducible repeat (first | apply Kd.R_alloc | apply Kd.R_drewN | apply Kd.R_drew)); exact HO_9.out) hb); have n1_ := Aside0.mk (Kd.R_below (by (with_reducible repeat (first | apply Kd.R_alloc | apply Kd.R_drewN | apply Kd.R_drew)); exact HO_10.out) hb); have n2_ := Aside0.mk (Kd.V_below (by (with_reducible repeat (first | apply Kd.V_alloc | apply Kd.V_drewN | apply Kd.V_drew)); exact HO_12.out) hb); have n3_ := Aside0.mk (Kd.R_below (by (with_reducible repeat (first | apply Kd.R_alloc | apply Kd.R_drewN | apply Kd.R_drew)); exact HO_14.out) hb); have n4_ := Aside0.mk (Kd.V_below (by (with_reducible repeat (first | apply Kd.V_alloc | apply Kd.V_drewN | apply Kd.V_drew)); exact HO_16.out) hb); have n5_ := Aside0.mk (below_step (by repeat (first | (with_reducible first | exact HB.out | apply below_alloc | apply pw_below_drewN | apply below_drew1) | exact HB.out)) hb); clear HO_9; clear HO_10; clear HO_12; clear HO_14; clear HO_16; clear HB; have HO_9 := n0_; have HO_10 := n1_; have HO_12 := n2_; have HO_14 := n3_; have HO_16 := n4_; have HB := n5_; clear n0_ n1_ n2_ n3_ n4_ n5_; (try clear hb); (try clear hb2); (try clear hk); (try clear hi)) | (go_at_call 21; (with_reducible refine (bailiwickref03_At.calls kj34 _ _ l0 a1 t359 _ ?side1 ?side2 A54.out).mono ?_); (case side1 => repeat (first | exact (Kd.C_below HR0.out HB.out) | (with_reducible refine Kd.C_alloc ?_ _) | (with_reducible refine Kd.C_drewN ?_ _) | (with_reducible refine Kd.C_drew ?_))); (case side2 => exact HC0.out); rintro e w' ⟨rfl, ⟨nd, rfl⟩⟩))
      go_ret
      exact ⟨by first | rfl | (simp [errW_none, errW_some] <;> rfl) | (simp [*, errW_none, errW_some] <;> rfl), by repeat (first | (with_reducible first | exact HB.out | apply below_alloc | apply pw_below_drewN | apply below_drew1) | exact HB.out)⟩
    rw [if_pos c55] at H
    have c55b0 : (t358 == t359) = true := beq_iff_eq.mpr c55
    have c55b1 : (t358 != t359) = false := bne_eq_false_iff_eq.mpr c55
    clear c55
    replace H := Option.bind_eq_some_iff.mp H
    obtain ⟨t360, A560, H⟩ := H
    replace H : (if t360 = true then (if t332 = t338 then ((bailiwickref03_Same.f kj34 t339 t343).bind fun t361 => (if t361 = true then (if t340 = t346 then ((bailiwickref03_Same.f kj34 y328 l0).bind fun t362 => (some t362)) else (some false)) else (some false))) else (some false)) else (some false)) = some r := H
    have A56 := Aside0.mk A560
    clear A560
    by_cases c57 : t360 = true
    rotate_left
    · replace c57 := Bool.eq_false_iff.mpr c57
      subst c57
      have H1 : (some false) = some r := by rw [if_neg (show ¬ (false = true) by decide)] at H; exact H
      clear H
      have H := H1
      clear H1
      obtain rfl := Option.some.inj H
      go_wp2_with (first | ((with_reducible refine gate_callee (f := 18) rfl ?_); refine goesL_ (some 140) rfl rfl Try.func18 (by kernel_rfl) rfl #[.slice Ao20 y328.length co20] rfl (by (try simp only [List.map_toArray, List.map_cons, List.map_nil]); first | done | rfl) ?_; (with_reducible refine (step_Right.calls kj34 _ _ y328 true _ ?side1 ?side2 A49.out).mono ?_); (case side1 => repeat (first | exact (Kd.R_reads' HO_9.out).2.2 | (with_reducible refine Kd.C_alloc ?_ _) | (with_reducible refine Kd.C_drewN ?_ _) | (with_reducible refine Kd.C_drew ?_))); (case side2 => exact (Kd.R_reads' HO_9.out).2.1); rintro e w85 ⟨rfl, hb⟩; refine ⟨_, rfl, ?_⟩; have n0_ := Aside0.mk (Kd.R_below (by (with_reducible repeat (first | apply Kd.R_alloc | apply Kd.R_drewN | apply Kd.R_drew)); exact HO_9.out) hb); have n1_ := Aside0.mk (Kd.R_below (by (with_reducible repeat (first | apply Kd.R_alloc | apply Kd.R_drewN | apply Kd.R_drew)); exact HO_10.out) hb); have n2_ := Aside0.mk (Kd.V_below (by (with_reducible repeat (first | apply Kd.V_alloc | apply Kd.V_drewN | apply Kd.V_drew)); exact HO_12.out) hb); have n3_ := Aside0.mk (Kd.R_below (by (with_reducible repeat (first | apply Kd.R_alloc | apply Kd.R_drewN | apply Kd.R_drew)); exact HO_14.out) hb); have n4_ := Aside0.mk (Kd.V_below (by (with_reducible repeat (first | apply Kd.V_alloc | apply Kd.V_drewN | apply Kd.V_drew)); exact HO_16.out) hb); have n5_ := Aside0.mk (below_step (by repeat (first | (with_reducible first | exact HB.out | apply below_alloc | apply pw_below_drewN | apply below_drew1) | exact HB.out)) hb); clear HO_9; clear HO_10; clear HO_12; clear HO_14; clear HO_16; clear HB; have HO_9 := n0_; have HO_10 := n1_; have HO_12 := n2_; have HO_14 := n3_; have HO_16 := n4_; have HB := n5_; clear n0_ n1_ n2_ n3_ n4_ n5_; (try clear hb); (try clear hb2); (try clear hk); (try clear hi)) | ((with_reducible refine gate_callee (f := 19) rfl ?_); refine goesL_ (some 142) rfl rfl Try.func19 (by kernel_rfl) rfl #[.slice A0 l0.length c0] rfl (by (try simp only [List.map_toArray, List.map_cons, List.map_nil]); first | done | rfl) ?_; (with_reducible refine (bailiwickref03_Right.calls kj34 _ _ l0 true _ ?side1 ?side2 A50.out).mono ?_); (case side1 => repeat (first | exact (Kd.C_below HR0.out HB.out) | (with_reducible refine Kd.C_alloc ?_ _) | (with_reducible refine Kd.C_drewN ?_ _) | (with_reducible refine Kd.C_drew ?_))); (case side2 => exact HC0.out); rintro e w' ⟨rfl, ⟨nd, rfl⟩⟩; refine ⟨_, rfl, ?_⟩) | (go_at_call 20; (with_reducible refine (step_At.calls kj34 _ _ y328 a1 t358 _ ?side1 ?side2 A53.out).mono ?_); (case side1 => repeat (first | exact (Kd.R_reads' HO_9.out).2.2 | (with_reducible refine Kd.C_alloc ?_ _) | (with_reducible refine Kd.C_drewN ?_ _) | (with_reducible refine Kd.C_drew ?_))); (case side2 => exact (Kd.R_reads' HO_9.out).2.1); rintro e w86 ⟨rfl, hb⟩; have n0_ := Aside0.mk (Kd.R_below (by (with_reducible repeat (first | apply Kd.R_alloc | apply Kd.R_drewN | apply Kd.R_drew)); exact HO_9.out) hb); have n1_ := Aside0.mk (Kd.R_below (by (with_reducible repeat (first | apply Kd.R_alloc | apply Kd.R_drewN | apply Kd.R_drew)); exact HO_10.out) hb); have n2_ := Aside0.mk (Kd.V_below (by (with_reducible repeat (first | apply Kd.V_alloc | apply Kd.V_drewN | apply Kd.V_drew)); exact HO_12.out) hb); have n3_ := Aside0.mk (Kd.R_below (by (with_reducible repeat (first | apply Kd.R_alloc | apply Kd.R_drewN | apply Kd.R_drew)); exact HO_14.out) hb); have n4_ := Aside0.mk (Kd.V_below (by (with_reducible repeat (first | apply Kd.V_alloc | apply Kd.V_drewN | apply Kd.V_drew)); exact HO_16.out) hb); have n5_ := Aside0.mk (below_step (by repeat (first | (with_reducible first | exact HB.out | apply below_alloc | apply pw_below_drewN | apply below_drew1) | exact HB.out)) hb); clear HO_9; clear HO_10; clear HO_12; clear HO_14; clear HO_16; clear HB; have HO_9 := n0_; have HO_10 := n1_; have HO_12 := n2_; have HO_14 := n3_; have HO_16 := n4_; have HB := n5_; clear n0_ n1_ n2_ n3_ n4_ n5_; (try clear hb); (try clear hb2); (try clear hk); (try clear hi)) | (go_at_call 21; (with_reducible refine (bailiwickref03_At.calls kj34 _ _ l0 a1 t359 _ ?side1 ?side2 A54.out).mono ?_); (case side1 => repeat (first | exact (Kd.C_below HR0.out HB.out) | (with_reducible refine Kd.C_alloc ?_ _) | (with_reducible refine Kd.C_drewN ?_ _) | (with_reducible refine Kd.C_drew ?_))); (case side2 => exact HC0.out); rintro e w' ⟨rfl, ⟨nd, rfl⟩⟩; obtain ⟨Ao87, co87, eo87⟩ := Kd.R_slice HO_10.out; subst eo87; obtain ⟨Ao88, co88, eo88⟩ := Kd.V_slice HO_12.out; subst eo88) | (go_at_call 9; (with_reducible refine (bailiwickref03_Same.calls kj34 _ _ t331 _ _ t335 false _ ?side1 ?side2 ?side3 ?side4 A56.out).mono ?_); (case side1 => repeat (first | exact (Kd.R_reads' HO_10.out).2.2 | (with_reducible refine Kd.C_alloc ?_ _) | (with_reducible refine Kd.C_drewN ?_ _) | (with_reducible refine Kd.C_drew ?_))); (case side2 => exact (Kd.R_reads' HO_10.out).2.1); (case side3 => repeat (first | exact (Kd.V_reads' HO_12.out).2.2 | (with_reducible refine Kd.C_alloc ?_ _) | (with_reducible refine Kd.C_drewN ?_ _) | (with_reducible refine Kd.C_drew ?_))); (case side4 => exact (Kd.V_reads' HO_12.out).2.1); rintro e w' ⟨rfl, ⟨nd, rfl⟩⟩))
      go_ret
      exact ⟨by first | rfl | (simp [errW_none, errW_some] <;> rfl) | (simp [*, errW_none, errW_some] <;> rfl), by repeat (first | (with_reducible first | exact HB.out | apply below_alloc | apply pw_below_drewN | apply below_drew1) | exact HB.out)⟩
    subst c57
    have H1 : (if t332 = t338 then ((bailiwickref03_Same.f kj34 t339 t343).bind fun t361 => (if t361 = true then (if t340 = t346 then ((bailiwickref03_Same.f kj34 y328 l0).bind fun t362 => (some t362)) else (some false)) else (some false))) else (some false)) = some r := by rw [if_pos rfl] at H; exact H
    clear H
    have H := H1
    clear H1
    by_cases c58 : t332 = t338
    rotate_left
    · rw [if_neg c58] at H
      have c58b0 : (t332 == t338) = false := beq_eq_false_iff_ne.mpr c58
      have c58b1 : (t332 != t338) = true := bne_iff_ne.mpr c58
      obtain rfl := Option.some.inj H
      go_wp2_with (first | ((with_reducible refine gate_callee (f := 18) rfl ?_); refine goesL_ (some 140) rfl rfl Try.func18 (by kernel_rfl) rfl #[.slice Ao20 y328.length co20] rfl (by (try simp only [List.map_toArray, List.map_cons, List.map_nil]); first | done | rfl) ?_; (with_reducible refine (step_Right.calls kj34 _ _ y328 true _ ?side1 ?side2 A49.out).mono ?_); (case side1 => repeat (first | exact (Kd.R_reads' HO_9.out).2.2 | (with_reducible refine Kd.C_alloc ?_ _) | (with_reducible refine Kd.C_drewN ?_ _) | (with_reducible refine Kd.C_drew ?_))); (case side2 => exact (Kd.R_reads' HO_9.out).2.1); rintro e w81 ⟨rfl, hb⟩; refine ⟨_, rfl, ?_⟩; have n0_ := Aside0.mk (Kd.R_below (by (with_reducible repeat (first | apply Kd.R_alloc | apply Kd.R_drewN | apply Kd.R_drew)); exact HO_9.out) hb); have n1_ := Aside0.mk (Kd.R_below (by (with_reducible repeat (first | apply Kd.R_alloc | apply Kd.R_drewN | apply Kd.R_drew)); exact HO_10.out) hb); have n2_ := Aside0.mk (Kd.V_below (by (with_reducible repeat (first | apply Kd.V_alloc | apply Kd.V_drewN | apply Kd.V_drew)); exact HO_12.out) hb); have n3_ := Aside0.mk (Kd.R_below (by (with_reducible repeat (first | apply Kd.R_alloc | apply Kd.R_drewN | apply Kd.R_drew)); exact HO_14.out) hb); have n4_ := Aside0.mk (Kd.V_below (by (with_reducible repeat (first | apply Kd.V_alloc | apply Kd.V_drewN | apply Kd.V_drew)); exact HO_16.out) hb); have n5_ := Aside0.mk (below_step (by repeat (first | (with_reducible first | exact HB.out | apply below_alloc | apply pw_below_drewN | apply below_drew1) | exact HB.out)) hb); clear HO_9; clear HO_10; clear HO_12; clear HO_14; clear HO_16; clear HB; have HO_9 := n0_; have HO_10 := n1_; have HO_12 := n2_; have HO_14 := n3_; have HO_16 := n4_; have HB := n5_; clear n0_ n1_ n2_ n3_ n4_ n5_; (try clear hb); (try clear hb2); (try clear hk); (try clear hi)) | ((with_reducible refine gate_callee (f := 19) rfl ?_); refine goesL_ (some 142) rfl rfl Try.func19 (by kernel_rfl) rfl #[.slice A0 l0.length c0] rfl (by (try simp only [List.map_toArray, List.map_cons, List.map_nil]); first | done | rfl) ?_; (with_reducible refine (bailiwickref03_Right.calls kj34 _ _ l0 true _ ?side1 ?side2 A50.out).mono ?_); (case side1 => repeat (first | exact (Kd.C_below HR0.out HB.out) | (with_reducible refine Kd.C_alloc ?_ _) | (with_reducible refine Kd.C_drewN ?_ _) | (with_reducible refine Kd.C_drew ?_))); (case side2 => exact HC0.out); rintro e w' ⟨rfl, ⟨nd, rfl⟩⟩; refine ⟨_, rfl, ?_⟩) | (go_at_call 20; (with_reducible refine (step_At.calls kj34 _ _ y328 a1 t358 _ ?side1 ?side2 A53.out).mono ?_); (case side1 => repeat (first | exact (Kd.R_reads' HO_9.out).2.2 | (with_reducible refine Kd.C_alloc ?_ _) | (with_reducible refine Kd.C_drewN ?_ _) | (with_reducible refine Kd.C_drew ?_))); (case side2 => exact (Kd.R_reads' HO_9.out).2.1); rintro e w82 ⟨rfl, hb⟩; have n0_ := Aside0.mk (Kd.R_below (by (with_reducible repeat (first | apply Kd.R_alloc | apply Kd.R_drewN | apply Kd.R_drew)); exact HO_9.out) hb); have n1_ := Aside0.mk (Kd.R_below (by (with_reducible repeat (first | apply Kd.R_alloc | apply Kd.R_drewN | apply Kd.R_drew)); exact HO_10.out) hb); have n2_ := Aside0.mk (Kd.V_below (by (with_reducible repeat (first | apply Kd.V_alloc | apply Kd.V_drewN | apply Kd.V_drew)); exact HO_12.out) hb); have n3_ := Aside0.mk (Kd.R_below (by (with_reducible repeat (first | apply Kd.R_alloc | apply Kd.R_drewN | apply Kd.R_drew)); exact HO_14.out) hb); have n4_ := Aside0.mk (Kd.V_below (by (with_reducible repeat (first | apply Kd.V_alloc | apply Kd.V_drewN | apply Kd.V_drew)); exact HO_16.out) hb); have n5_ := Aside0.mk (below_step (by repeat (first | (with_reducible first | exact HB.out | apply below_alloc | apply pw_below_drewN | apply below_drew1) | exact HB.out)) hb); clear HO_9; clear HO_10; clear HO_12; clear HO_14; clear HO_16; clear HB; have HO_9 := n0_; have HO_10 := n1_; have HO_12 := n2_; have HO_14 := n3_; have HO_16 := n4_; have HB := n5_; clear n0_ n1_ n2_ n3_ n4_ n5_; (try clear hb); (try clear hb2); (try clear hk); (try clear hi)) | (go_at_call 21; (with_reducible refine (bailiwickref03_At.calls kj34 _ _ l0 a1 t359 _ ?side1 ?side2 A54.out).mono ?_); (case side1 => repeat (first | exact (Kd.C_below HR0.out HB.out) | (with_reducible refine Kd.C_alloc ?_ _) | (with_reducible refine Kd.C_drewN ?_ _) | (with_reducible refine Kd.C_drew ?_))); (case side2 => exact HC0.out); rintro e w' ⟨rfl, ⟨nd, rfl⟩⟩; obtain ⟨Ao83, co83, eo83⟩ := Kd.R_slice HO_10.out; subst eo83; obtain ⟨Ao84, co84, eo84⟩ := Kd.V_slice HO_12.out; subst eo84) | (go_at_call 9; (with_reducible refine (bailiwickref03_Same.calls kj34 _ _ t331 _ _ t335 true _ ?side1 ?side2 ?side3 ?side4 A56.out).mono ?_); (case side1 => repeat (first | exact (Kd.R_reads' HO_10.out).2.2 | (with_reducible refine Kd.C_alloc ?_ _) | (with_reducible refine Kd.C_drewN ?_ _) | (with_reducible refine Kd.C_drew ?_))); (case side2 => exact (Kd.R_reads' HO_10.out).2.1); (case side3 => repeat (first | exact (Kd.V_reads' HO_12.out).2.2 | (with_reducible refine Kd.C_alloc ?_ _) | (with_reducible refine Kd.C_drewN ?_ _) | (with_reducible refine Kd.C_drew ?_))); (case side4 => exact (Kd.V_reads' HO_12.out).2.1); rintro e w' ⟨rfl, ⟨nd, rfl⟩⟩))
      go_ret
      exact ⟨by first | rfl | (simp [errW_none, errW_some] <;> rfl) | (simp [*, errW_none, errW_some] <;> rfl), by repeat (first | (with_reducible first | exact HB.out | apply below_alloc | apply pw_below_drewN | apply below_drew1) | exact HB.out)⟩
    rw [if_pos c58] at H
    have c58b0 : (t332 == t338) = true := beq_iff_eq.mpr c58
    have c58b1 : (t332 != t338) = false := bne_eq_false_iff_eq.mpr c58
    clear c58
    replace H := Option.bind_eq_some_iff.mp H
    obtain ⟨t361, A590, H⟩ := H
    replace H : (if t361 = true then (if t340 = t346 then ((bailiwickref03_Same.f kj34 y328 l0).bind fun t362 => (some t362)) else (some false)) else (some false)) = some r := H
    have A59 := Aside0.mk A590
    clear A590
    by_cases c60 : t361 = true
    rotate_left
    · replace c60 := Bool.eq_false_iff.mpr c60
      subst c60
      have H1 : (some false) = some r := by rw [if_neg (show ¬ (false = true) by decide)] at H; exact H
      clear H
      have H := H1
      clear H1
      obtain rfl := Option.some.inj H
      go_wp2_with (first | ((with_reducible refine gate_callee (f := 18) rfl ?_); refine goesL_ (some 140) rfl rfl Try.func18 (by kernel_rfl) rfl #[.slice Ao20 y328.length co20] rfl (by (try simp only [List.map_toArray, List.map_cons, List.map_nil]); first | done | rfl) ?_; (with_reducible refine (step_Right.calls kj34 _ _ y328 true _ ?side1 ?side2 A49.out).mono ?_); (case side1 => repeat (first | exact (Kd.R_reads' HO_9.out).2.2 | (with_reducible refine Kd.C_alloc ?_ _) | (with_reducible refine Kd.C_drewN ?_ _) | (with_reducible refine Kd.C_drew ?_))); (case side2 => exact (Kd.R_reads' HO_9.out).2.1); rintro e w75 ⟨rfl, hb⟩; refine ⟨_, rfl, ?_⟩; have n0_ := Aside0.mk (Kd.R_below (by (with_reducible repeat (first | apply Kd.R_alloc | apply Kd.R_drewN | apply Kd.R_drew)); exact HO_9.out) hb); have n1_ := Aside0.mk (Kd.R_below (by (with_reducible repeat (first | apply Kd.R_alloc | apply Kd.R_drewN | apply Kd.R_drew)); exact HO_10.out) hb); have n2_ := Aside0.mk (Kd.V_below (by (with_reducible repeat (first | apply Kd.V_alloc | apply Kd.V_drewN | apply Kd.V_drew)); exact HO_12.out) hb); have n3_ := Aside0.mk (Kd.R_below (by (with_reducible repeat (first | apply Kd.R_alloc | apply Kd.R_drewN | apply Kd.R_drew)); exact HO_14.out) hb); have n4_ := Aside0.mk (Kd.V_below (by (with_reducible repeat (first | apply Kd.V_alloc | apply Kd.V_drewN | apply Kd.V_drew)); exact HO_16.out) hb); have n5_ := Aside0.mk (below_step (by repeat (first | (with_reducible first | exact HB.out | apply below_alloc | apply pw_below_drewN | apply below_drew1) | exact HB.out)) hb); clear HO_9; clear HO_10; clear HO_12; clear HO_14; clear HO_16; clear HB; have HO_9 := n0_; have HO_10 := n1_; have HO_12 := n2_; have HO_14 := n3_; have HO_16 := n4_; have HB := n5_; clear n0_ n1_ n2_ n3_ n4_ n5_; (try clear hb); (try clear hb2); (try clear hk); (try clear hi)) | ((with_reducible refine gate_callee (f := 19) rfl ?_); refine goesL_ (some 142) rfl rfl Try.func19 (by kernel_rfl) rfl #[.slice A0 l0.length c0] rfl (by (try simp only [List.map_toArray, List.map_cons, List.map_nil]); first | done | rfl) ?_; (with_reducible refine (bailiwickref03_Right.calls kj34 _ _ l0 true _ ?side1 ?side2 A50.out).mono ?_); (case side1 => repeat (first | exact (Kd.C_below HR0.out HB.out) | (with_reducible refine Kd.C_alloc ?_ _) | (with_reducible refine Kd.C_drewN ?_ _) | (with_reducible refine Kd.C_drew ?_))); (case side2 => exact HC0.out); rintro e w' ⟨rfl, ⟨nd, rfl⟩⟩; refine ⟨_, rfl, ?_⟩) | (go_at_call 20; (with_reducible refine (step_At.calls kj34 _ _ y328 a1 t358 _ ?side1 ?side2 A53.out).mono ?_); (case side1 => repeat (first | exact (Kd.R_reads' HO_9.out).2.2 | (with_reducible refine Kd.C_alloc ?_ _) | (with_reducible refine Kd.C_drewN ?_ _) | (with_reducible refine Kd.C_drew ?_))); (case side2 => exact (Kd.R_reads' HO_9.out).2.1); rintro e w76 ⟨rfl, hb⟩; have n0_ := Aside0.mk (Kd.R_below (by (with_reducible repeat (first | apply Kd.R_alloc | apply Kd.R_drewN | apply Kd.R_drew)); exact HO_9.out) hb); have n1_ := Aside0.mk (Kd.R_below (by (with_reducible repeat (first | apply Kd.R_alloc | apply Kd.R_drewN | apply Kd.R_drew)); exact HO_10.out) hb); have n2_ := Aside0.mk (Kd.V_below (by (with_reducible repeat (first | apply Kd.V_alloc | apply Kd.V_drewN | apply Kd.V_drew)); exact HO_12.out) hb); have n3_ := Aside0.mk (Kd.R_below (by (with_reducible repeat (first | apply Kd.R_alloc | apply Kd.R_drewN | apply Kd.R_drew)); exact HO_14.out) hb); have n4_ := Aside0.mk (Kd.V_below (by (with_reducible repeat (first | apply Kd.V_alloc | apply Kd.V_drewN | apply Kd.V_drew)); exact HO_16.out) hb); have n5_ := Aside0.mk (below_step (by repeat (first | (with_reducible first | exact HB.out | apply below_alloc | apply pw_below_drewN | apply below_drew1) | exact HB.out)) hb); clear HO_9; clear HO_10; clear HO_12; clear HO_14; clear HO_16; clear HB; have HO_9 := n0_; have HO_10 := n1_; have HO_12 := n2_; have HO_14 := n3_; have HO_16 := n4_; have HB := n5_; clear n0_ n1_ n2_ n3_ n4_ n5_; (try clear hb); (try clear hb2); (try clear hk); (try clear hi)) | (go_at_call 21; (with_reducible refine (bailiwickref03_At.calls kj34 _ _ l0 a1 t359 _ ?side1 ?side2 A54.out).mono ?_); (case side1 => repeat (first | exact (Kd.C_below HR0.out HB.out) | (with_reducible refine Kd.C_alloc ?_ _) | (with_reducible refine Kd.C_drewN ?_ _) | (with_reducible refine Kd.C_drew ?_))); (case side2 => exact HC0.out); rintro e w' ⟨rfl, ⟨nd, rfl⟩⟩; obtain ⟨Ao77, co77, eo77⟩ := Kd.R_slice HO_10.out; subst eo77; obtain ⟨Ao78, co78, eo78⟩ := Kd.V_slice HO_12.out; subst eo78) | (go_at_call 9; (with_reducible refine (bailiwickref03_Same.calls kj34 _ _ t331 _ _ t335 true _ ?side1 ?side2 ?side3 ?side4 A56.out).mono ?_); (case side1 => repeat (first | exact (Kd.R_reads' HO_10.out).2.2 | (with_reducible refine Kd.C_alloc ?_ _) | (with_reducible refine Kd.C_drewN ?_ _) | (with_reducible refine Kd.C_drew ?_))); (case side2 => exact (Kd.R_reads' HO_10.out).2.1); (case side3 => repeat (first | exact (Kd.V_reads' HO_12.out).2.2 | (with_reducible refine Kd.C_alloc ?_ _) | (with_reducible refine Kd.C_drewN ?_ _) | (with_reducible refine Kd.C_drew ?_))); (case side4 => exact (Kd.V_reads' HO_12.out).2.1); rintro e w' ⟨rfl, ⟨nd, rfl⟩⟩; obtain ⟨Ao79, co79, eo79⟩ := Kd.R_slice HO_14.out; subst eo79; obtain ⟨Ao80, co80, eo80⟩ := Kd.V_slice HO_16.out; subst eo80) | (go_at_call 9; (with_reducible refine (bailiwickref03_Same.calls kj34 _ _ t339 _ _ t343 false _ ?side1 ?side2 ?side3 ?side4 A59.out).mono ?_); (case side1 => repeat (first | exact (Kd.R_reads' HO_14.out).2.2 | (with_reducible refine Kd.C_alloc ?_ _) | (with_reducible refine Kd.C_drewN ?_ _) | (with_reducible refine Kd.C_drew ?_))); (case side2 => exact (Kd.R_reads' HO_14.out).2.1); (case side3 => repeat (first | exact (Kd.V_reads' HO_16.out).2.2 | (with_reducible refine Kd.C_alloc ?_ _) | (with_reducible refine Kd.C_drewN ?_ _) | (with_reducible refine Kd.C_drew ?_))); (case side4 => exact (Kd.V_reads' HO_16.out).2.1); rintro e w' ⟨rfl, ⟨nd, rfl⟩⟩))
      go_ret
      exact ⟨by first | rfl | (simp [errW_none, errW_some] <;> rfl) | (simp [*, errW_none, errW_some] <;> rfl), by repeat (first | (with_reducible first | exact HB.out | apply below_alloc | apply pw_below_drewN | apply below_drew1) | exact HB.out)⟩
    subst c60
    have H1 : (if t340 = t346 then ((bailiwickref03_Same.f kj34 y328 l0).bind fun t362 => (some t362)) else (some false)) = some r := by rw [if_pos rfl] at H; exact H
    clear H
    have H := H1
    clear H1
    by_cases c61 : t340 = t346
    rotate_left
    · rw [if_neg c61] at H
      have c61b0 : (t340 == t346) = false := beq_eq_false_iff_ne.mpr c61
      have c61b1 : (t340 != t346) = true := bne_iff_ne.mpr c61
      obtain rfl := Option.some.inj H
      go_wp2_with (first | ((with_reducible refine gate_callee (f := 18) rfl ?_); refine goesL_ (some 140) rfl rfl Try.func18 (by kernel_rfl) rfl #[.slice Ao20 y328.length co20] rfl (by (try simp only [List.map_toArray, List.map_cons, List.map_nil]); first | done | rfl) ?_; (with_reducible refine (step_Right.calls kj34 _ _ y328 true _ ?side1 ?side2 A49.out).mono ?_); (case side1 => repeat (first | exact (Kd.R_reads' HO_9.out).2.2 | (with_reducible refine Kd.C_alloc ?_ _) | (with_reducible refine Kd.C_drewN ?_ _) | (with_reducible refine Kd.C_drew ?_))); (case side2 => exact (Kd.R_reads' HO_9.out).2.1); rintro e w69 ⟨rfl, hb⟩; refine ⟨_, rfl, ?_⟩; have n0_ := Aside0.mk (Kd.R_below (by (with_reducible repeat (first | apply Kd.R_alloc | apply Kd.R_drewN | apply Kd.R_drew)); exact HO_9.out) hb); have n1_ := Aside0.mk (Kd.R_below (by (with_reducible repeat (first | apply Kd.R_alloc | apply Kd.R_drewN | apply Kd.R_drew)); exact HO_10.out) hb); have n2_ := Aside0.mk (Kd.V_below (by (with_reducible repeat (first | apply Kd.V_alloc | apply Kd.V_drewN | apply Kd.V_drew)); exact HO_12.out) hb); have n3_ := Aside0.mk (Kd.R_below (by (with_reducible repeat (first | apply Kd.R_alloc | apply Kd.R_drewN | apply Kd.R_drew)); exact HO_14.out) hb); have n4_ := Aside0.mk (Kd.V_below (by (with_reducible repeat (first | apply Kd.V_alloc | apply Kd.V_drewN | apply Kd.V_drew)); exact HO_16.out) hb); have n5_ := Aside0.mk (below_step (by repeat (first | (with_reducible first | exact HB.out | apply below_alloc | apply pw_below_drewN | apply below_drew1) | exact HB.out)) hb); clear HO_9; clear HO_10; clear HO_12; clear HO_14; clear HO_16; clear HB; have HO_9 := n0_; have HO_10 := n1_; have HO_12 := n2_; have HO_14 := n3_; have HO_16 := n4_; have HB := n5_; clear n0_ n1_ n2_ n3_ n4_ n5_; (try clear hb); (try clear hb2); (try clear hk); (try clear hi)) | ((with_reducible refine gate_callee (f := 19) rfl ?_); refine goesL_ (some 142) rfl rfl Try.func19 (by kernel_rfl) rfl #[.slice A0 l0.length c0] rfl (by (try simp only [List.map_toArray, List.map_cons, List.map_nil]); first | done | rfl) ?_; (with_reducible refine (bailiwickref03_Right.calls kj34 _ _ l0 true _ ?side1 ?side2 A50.out).mono ?_); (case side1 => repeat (first | exact (Kd.C_below HR0.out HB.out) | (with_reducible refine Kd.C_alloc ?_ _) | (with_reducible refine Kd.C_drewN ?_ _) | (with_reducible refine Kd.C_drew ?_))); (case side2 => exact HC0.out); rintro e w' ⟨rfl, ⟨nd, rfl⟩⟩; refine ⟨_, rfl, ?_⟩) | (go_at_call 20; (with_reducible refine (step_At.calls kj34 _ _ y328 a1 t358 _ ?side1 ?side2 A53.out).mono ?_); (case side1 => repeat (first | exact (Kd.R_reads' HO_9.out).2.2 | (with_reducible refine Kd.C_alloc ?_ _) | (with_reducible refine Kd.C_drewN ?_ _) | (with_reducible refine Kd.C_drew ?_))); (case side2 => exact (Kd.R_reads' HO_9.out).2.1); rintro e w70 ⟨rfl, hb⟩; have n0_ := Aside0.mk (Kd.R_below (by (with_reducible repeat (first | apply Kd.R_alloc | apply Kd.R_drewN | apply Kd.R_drew)); exact HO_9.out) hb); have n1_ := Aside0.mk (Kd.R_below (by (with_reducible repeat (first | apply Kd.R_alloc | apply Kd.R_drewN | apply Kd.R_drew)); exact HO_10.out) hb); have n2_ := Aside0.mk (Kd.V_below (by (with_reducible repeat (first | apply Kd.V_alloc | apply Kd.V_drewN | apply Kd.V_drew)); exact HO_12.out) hb); have n3_ := Aside0.mk (Kd.R_below (by (with_reducible repeat (first | apply Kd.R_alloc | apply Kd.R_drewN | apply Kd.R_drew)); exact HO_14.out) hb); have n4_ := Aside0.mk (Kd.V_below (by (with_reducible repeat (first | apply Kd.V_alloc | apply Kd.V_drewN | apply Kd.V_drew)); exact HO_16.out) hb); have n5_ := Aside0.mk (below_step (by repeat (first | (with_reducible first | exact HB.out | apply below_alloc | apply pw_below_drewN | apply below_drew1) | exact HB.out)) hb); clear HO_9; clear HO_10; clear HO_12; clear HO_14; clear HO_16; clear HB; have HO_9 := n0_; have HO_10 := n1_; have HO_12 := n2_; have HO_14 := n3_; have HO_16 := n4_; have HB := n5_; clear n0_ n1_ n2_ n3_ n4_ n5_; (try clear hb); (try clear hb2); (try clear hk); (try clear hi)) | (go_at_call 21; (with_reducible refine (bailiwickref03_At.calls kj34 _ _ l0 a1 t359 _ ?side1 ?side2 A54.out).mono ?_); (case side1 => repeat (first | exact (Kd.C_below HR0.out HB.out) | (with_reducible refine Kd.C_alloc ?_ _) | (with_reducible refine Kd.C_drewN ?_ _) | (with_reducible refine Kd.C_drew ?_))); (case side2 => exact HC0.out); rintro e w' ⟨rfl, ⟨nd, rfl⟩⟩; obtain ⟨Ao71, co71, eo71⟩ := Kd.R_slice HO_10.out; subst eo71; obtain ⟨Ao72, co72, eo72⟩ := Kd.V_slice HO_12.out; subst eo72) | (go_at_call 9; (with_reducible refine (bailiwickref03_Same.calls kj34 _ _ t331 _ _ t335 true _ ?side1 ?side2 ?side3 ?side4 A56.out).mono ?_); (case side1 => repeat (first | exact (Kd.R_reads' HO_10.out).2.2 | (with_reducible refine Kd.C_alloc ?_ _) | (with_reducible refine Kd.C_drewN ?_ _) | (with_reducible refine Kd.C_drew ?_))); (case side2 => exact (Kd.R_reads' HO_10.out).2.1); (case side3 => repeat (first | exact (Kd.V_reads' HO_12.out).2.2 | (with_reducible refine Kd.C_alloc ?_ _) | (with_reducible refine Kd.C_drewN ?_ _) | (with_reducible refine Kd.C_drew ?_))); (case side4 => exact (Kd.V_reads' HO_12.out).2.1); rintro e w' ⟨rfl, ⟨nd, rfl⟩⟩; obtain ⟨Ao73, co73, eo73⟩ := Kd.R_slice HO_14.out; subst eo73; obtain ⟨Ao74, co74, eo74⟩ := Kd.V_slice HO_16.out; subst eo74) | (go_at_call 9; (with_reducible refine (bailiwickref03_Same.calls kj34 _ _ t339 _ _ t343 true _ ?side1 ?side2 ?side3 ?side4 A59.out).mono ?_); (case side1 => repeat (first | exact (Kd.R_reads' HO_14.out).2.2 | (with_reducible refine Kd.C_alloc ?_ _) | (with_reducible refine Kd.C_drewN ?_ _) | (with_reducible refine Kd.C_drew ?_))); (case side2 => exact (Kd.R_reads' HO_14.out).2.1); (case side3 => repeat (first | exact (Kd.V_reads' HO_16.out).2.2 | (with_reducible refine Kd.C_alloc ?_ _) | (with_reducible refine Kd.C_drewN ?_ _) | (with_reducible refine Kd.C_drew ?_))); (case side4 => exact (Kd.V_reads' HO_16.out).2.1); rintro e w' ⟨rfl, ⟨nd, rfl⟩⟩))
      go_ret
      exact ⟨by first | rfl | (simp [errW_none, errW_some] <;> rfl) | (simp [*, errW_none, errW_some] <;> rfl), by repeat (first | (with_reducible first | exact HB.out | apply below_alloc | apply pw_below_drewN | apply below_drew1) | exact HB.out)⟩
    rw [if_pos c61] at H
    have c61b0 : (t340 == t346) = true := beq_iff_eq.mpr c61
    have c61b1 : (t340 != t346) = false := bne_eq_false_iff_eq.mpr c61
    clear c61
    replace H := Option.bind_eq_some_iff.mp H
    obtain ⟨t362, A620, H⟩ := H
    replace H : (some t362) = some r := H
    have A62 := Aside0.mk A620
    clear A620
    obtain rfl := Option.some.inj H
    go_wp2_with (first | ((with_reducible refine gate_callee (f := 18) rfl ?_); refine goesL_ (some 140) rfl rfl Try.func18 (by kernel_rfl) rfl #[.slice Ao20 y328.length co20] rfl (by (try simp only [List.map_toArray, List.map_cons, List.map_nil]); first | done | rfl) ?_; (with_reducible refine (step_Right.calls kj34 _ _ y328 true _ ?side1 ?side2 A49.out).mono ?_); (case side1 => repeat (first | exact (Kd.R_reads' HO_9.out).2.2 | (with_reducible refine Kd.C_alloc ?_ _) | (with_reducible refine Kd.C_drewN ?_ _) | (with_reducible refine Kd.C_drew ?_))); (case side2 => exact (Kd.R_reads' HO_9.out).2.1); rintro e w63 ⟨rfl, hb⟩; refine ⟨_, rfl, ?_⟩; have n0_ := Aside0.mk (Kd.R_below (by (with_reducible repeat (first | apply Kd.R_alloc | apply Kd.R_drewN | apply Kd.R_drew)); exact HO_9.out) hb); have n1_ := Aside0.mk (Kd.R_below (by (with_reducible repeat (first | apply Kd.R_alloc | apply Kd.R_drewN | apply Kd.R_drew)); exact HO_10.out) hb); have n2_ := Aside0.mk (Kd.V_below (by (with_reducible repeat (first | apply Kd.V_alloc | apply Kd.V_drewN | apply Kd.V_drew)); exact HO_12.out) hb); have n3_ := Aside0.mk (Kd.R_below (by (with_reducible repeat (first | apply Kd.R_alloc | apply Kd.R_drewN | apply Kd.R_drew)); exact HO_14.out) hb); have n4_ := Aside0.mk (Kd.V_below (by (with_reducible repeat (first | apply Kd.V_alloc | apply Kd.V_drewN | apply Kd.V_drew)); exact HO_16.out) hb); have n5_ := Aside0.mk (below_step (by repeat (first | (with_reducible first | exact HB.out | apply below_alloc | apply pw_below_drewN | apply below_drew1) | exact HB.out)) hb); clear HO_9; clear HO_10; clear HO_12; clear HO_14; clear HO_16; clear HB; have HO_9 := n0_; have HO_10 := n1_; have HO_12 := n2_; have HO_14 := n3_; have HO_16 := n4_; have HB := n5_; clear n0_ n1_ n2_ n3_ n4_ n5_; (try clear hb); (try clear hb2); (try clear hk); (try clear hi)) | ((with_reducible refine gate_callee (f := 19) rfl ?_); refine goesL_ (some 142) rfl rfl Try.func19 (by kernel_rfl) rfl #[.slice A0 l0.length c0] rfl (by (try simp only [List.map_toArray, List.map_cons, List.map_nil]); first | done | rfl) ?_; (with_reducible refine (bailiwickref03_Right.calls kj34 _ _ l0 true _ ?side1 ?side2 A50.out).mono ?_); (case side1 => repeat (first | exact (Kd.C_below HR0.out HB.out) | (with_reducible refine Kd.C_alloc ?_ _) | (with_reducible refine Kd.C_drewN ?_ _) | (with_reducible refine Kd.C_drew ?_))); (case side2 => exact HC0.out); rintro e w' ⟨rfl, ⟨nd, rfl⟩⟩; refine ⟨_, rfl, ?_⟩) | (go_at_call 20; (with_reducible refine (step_At.calls kj34 _ _ y328 a1 t358 _ ?side1 ?side2 A53.out).mono ?_); (case side1 => repeat (first | exact (Kd.R_reads' HO_9.out).2.2 | (with_reducible refine Kd.C_alloc ?_ _) | (with_reducible refine Kd.C_drewN ?_ _) | (with_reducible refine Kd.C_drew ?_))); (case side2 => exact (Kd.R_reads' HO_9.out).2.1); rintro e w64 ⟨rfl, hb⟩; have n0_ := Aside0.mk (Kd.R_below (by (with_reducible repeat (first | apply Kd.R_alloc | apply Kd.R_drewN | apply Kd.R_drew)); exact HO_9.out) hb); have n1_ := Aside0.mk (Kd.R_below (by (with_reducible repeat (first | apply Kd.R_alloc | apply Kd.R_drewN | apply Kd.R_drew)); exact HO_10.out) hb); have n2_ := Aside0.mk (Kd.V_below (by (with_reducible repeat (first | apply Kd.V_alloc | apply Kd.V_drewN | apply Kd.V_drew)); exact HO_12.out) hb); have n3_ := Aside0.mk (Kd.R_below (by (with_reducible repeat (first | apply Kd.R_alloc | apply Kd.R_drewN | apply Kd.R_drew)); exact HO_14.out) hb); have n4_ := Aside0.mk (Kd.V_below (by (with_reducible repeat (first | apply Kd.V_alloc | apply Kd.V_drewN | apply Kd.V_drew)); exact HO_16.out) hb); have n5_ := Aside0.mk (below_step (by repeat (first | (with_reducible first | exact HB.out | apply below_alloc | apply pw_below_drewN | apply below_drew1) | exact HB.out)) hb); clear HO_9; clear HO_10; clear HO_12; clear HO_14; clear HO_16; clear HB; have HO_9 := n0_; have HO_10 := n1_; have HO_12 := n2_; have HO_14 := n3_; have HO_16 := n4_; have HB := n5_; clear n0_ n1_ n2_ n3_ n4_ n5_; (try clear hb); (try clear hb2); (try clear hk); (try clear hi)) | (go_at_call 21; (with_reducible refine (bailiwickref03_At.calls kj34 _ _ l0 a1 t359 _ ?side1 ?side2 A54.out).mono ?_); (case side1 => repeat (first | exact (Kd.C_below HR0.out HB.out) | (with_reducible refine Kd.C_alloc ?_ _) | (with_reducible refine Kd.C_drewN ?_ _) | (with_reducible refine Kd.C_drew ?_))); (case side2 => exact HC0.out); rintro e w' ⟨rfl, ⟨nd, rfl⟩⟩; obtain ⟨Ao65, co65, eo65⟩ := Kd.R_slice HO_10.out; subst eo65; obtain ⟨Ao66, co66, eo66⟩ := Kd.V_slice HO_12.out; subst eo66) | (go_at_call 9; (with_reducible refine (bailiwickref03_Same.calls kj34 _ _ t331 _ _ t335 true _ ?side1 ?side2 ?side3 ?side4 A56.out).mono ?_); (case side1 => repeat (first | exact (Kd.R_reads' HO_10.out).2.2 | (with_reducible refine Kd.C_alloc ?_ _) | (with_reducible refine Kd.C_drewN ?_ _) | (with_reducible refine Kd.C_drew ?_))); (case side2 => exact (Kd.R_reads' HO_10.out).2.1); (case side3 => repeat (first | exact (Kd.V_reads' HO_12.out).2.2 | (with_reducible refine Kd.C_alloc ?_ _) | (with_reducible refine Kd.C_drewN ?_ _) | (with_reducible refine Kd.C_drew ?_))); (case side4 => exact (Kd.V_reads' HO_12.out).2.1); rintro e w' ⟨rfl, ⟨nd, rfl⟩⟩; obtain ⟨Ao67, co67, eo67⟩ := Kd.R_slice HO_14.out; subst eo67; obtain ⟨Ao68, co68, eo68⟩ := Kd.V_slice HO_16.out; subst eo68) | (go_at_call 9; (with_reducible refine (bailiwickref03_Same.calls kj34 _ _ t339 _ _ t343 true _ ?side1 ?side2 ?side3 ?side4 A59.out).mono ?_); (case side1 => repeat (first | exact (Kd.R_reads' HO_14.out).2.2 | (with_reducible refine Kd.C_alloc ?_ _) | (with_reducible refine Kd.C_drewN ?_ _) | (with_reducible refine Kd.C_drew ?_))); (case side2 => exact (Kd.R_reads' HO_14.out).2.1); (case side3 => repeat (first | exact (Kd.V_reads' HO_16.out).2.2 | (with_reducible refine Kd.C_alloc ?_ _) | (with_reducible refine Kd.C_drewN ?_ _) | (with_reducible refine Kd.C_drew ?_))); (case side4 => exact (Kd.V_reads' HO_16.out).2.1); rintro e w' ⟨rfl, ⟨nd, rfl⟩⟩) | (go_at_call 9; (with_reducible refine (bailiwickref03_Same.calls kj34 _ _ y328 _ _ l0 t362 _ ?side1 ?side2 ?side3 ?side4 A62.out).mono ?_); (case side1 => repeat (first | exact (Kd.R_reads' HO_9.out).2.2 | (with_reducible refine Kd.C_alloc ?_ _) | (with_reducible refine Kd.C_drewN ?_ _) | (with_reducible refine Kd.C_drew ?_))); (case side2 => exact (Kd.R_reads' HO_9.out).2.1); (case side3 => repeat (first | exact (Kd.C_below HR0.out (by repeat (first | (with_reducible first | exact HB.out | apply below_alloc | apply pw_below_drewN | apply below_drew1) | exact HB.out))) | (with_reducible refine Kd.C_alloc ?_ _) | (with_reducible refine Kd.C_drewN ?_ _) | (with_reducible refine Kd.C_drew ?_))); (case side4 => exact HC0.out); rintro e w' ⟨rfl, ⟨nd, rfl⟩⟩))
    go_ret
    exact ⟨by first | rfl | (simp [errW_none, errW_some] <;> rfl) | (simp [*, errW_none, errW_some] <;> rfl), by repeat (first | (with_reducible first | exact HB.out | apply below_alloc | apply pw_below_drewN | apply below_drew1) | exact HB.out)⟩
  replace c51 := Bool.eq_false_iff.mpr c51
  subst c51
  have H1 : (if t357 = true then (some false) else ((step_At.f kj34 y328 a1).bind fun t363 => ((bailiwickref03_At.f kj34 l0 a1).bind fun t364 => (if t363 = t364 then ((bailiwickref03_Same.f kj34 t331 t335).bind fun t365 => (if t365 = true then (if t332 = t338 then ((bailiwickref03_Same.f kj34 t339 t343).bind fun t366 => (if t366 = true then (if t340 = t346 then ((bailiwickref03_Same.f kj34 y328 l0).bind fun t367 => (some t367)) else (some false)) else (some false))) else (some false)) else (some false))) else (some false))))) = some r := by rw [if_neg (show ¬ (false = true) by decide)] at H; exact H
  clear H
  have H := H1
  clear H1
  by_cases c92 : t357 = true
  · subst c92
    have H1 : (some false) = some r := by rw [if_pos rfl] at H; exact H
    clear H
    have H := H1
    clear H1
    obtain rfl := Option.some.inj H
    go_wp2_with (first | ((with_reducible refine gate_callee (f := 18) rfl ?_); refine goesL_ (some 140) rfl rfl Try.func18 (by kernel_rfl) rfl #[.slice Ao20 y328.length co20] rfl (by (try simp only [List.map_toArray, List.map_cons, List.map_nil]); first | done | rfl) ?_; (with_reducible refine (step_Right.calls kj34 _ _ y328 false _ ?side1 ?side2 A49.out).mono ?_); (case side1 => repeat (first | exact (Kd.R_reads' HO_9.out).2.2 | (with_reducible refine Kd.C_alloc ?_ _) | (with_reducible refine Kd.C_drewN ?_ _) | (with_reducible refine Kd.C_drew ?_))); (case side2 => exact (Kd.R_reads' HO_9.out).2.1); rintro e w93 ⟨rfl, hb⟩; refine ⟨_, rfl, ?_⟩; have n0_ := Aside0.mk (Kd.R_below (by (with_reducible repeat (first | apply Kd.R_alloc | apply Kd.R_drewN | apply Kd.R_drew)); exact HO_9.out) hb); have n1_ := Aside0.mk (Kd.R_below (by (with_reducible repeat (first | apply Kd.R_alloc | apply Kd.R_drewN | apply Kd.R_drew)); exact HO_10.out) hb); have n2_ := Aside0.mk (Kd.V_below (by (with_reducible repeat (first | apply Kd.V_alloc | apply Kd.V_drewN | apply Kd.V_drew)); exact HO_12.out) hb); have n3_ := Aside0.mk (Kd.R_below (by (with_reducible repeat (first | apply Kd.R_alloc | apply Kd.R_drewN | apply Kd.R_drew)); exact HO_14.out) hb); have n4_ := Aside0.mk (Kd.V_below (by (with_reducible repeat (first | apply Kd.V_alloc | apply Kd.V_drewN | apply Kd.V_drew)); exact HO_16.out) hb); have n5_ := Aside0.mk (below_step (by repeat (first | (with_reducible first | exact HB.out | apply below_alloc | apply pw_below_drewN | apply below_drew1) | exact HB.out)) hb); clear HO_9; clear HO_10; clear HO_12; clear HO_14; clear HO_16; clear HB; have HO_9 := n0_; have HO_10 := n1_; have HO_12 := n2_; have HO_14 := n3_; have HO_16 := n4_; have HB := n5_; clear n0_ n1_ n2_ n3_ n4_ n5_; (try clear hb); (try clear hb2); (try clear hk); (try clear hi)) | ((with_reducible refine gate_callee (f := 19) rfl ?_); refine goesL_ (some 142) rfl rfl Try.func19 (by kernel_rfl) rfl #[.slice A0 l0.length c0] rfl (by (try simp only [List.map_toArray, List.map_cons, List.map_nil]); first | done | rfl) ?_; (with_reducible refine (bailiwickref03_Right.calls kj34 _ _ l0 true _ ?side1 ?side2 A50.out).mono ?_); (case side1 => repeat (first | exact (Kd.C_below HR0.out HB.out) | (with_reducible refine Kd.C_alloc ?_ _) | (with_reducible refine Kd.C_drewN ?_ _) | (with_reducible refine Kd.C_drew ?_))); (case side2 => exact HC0.out); rintro e w' ⟨rfl, ⟨nd, rfl⟩⟩; refine ⟨_, rfl, ?_⟩))
    go_ret
    exact ⟨by first | rfl | (simp [errW_none, errW_some] <;> rfl) | (simp [*, errW_none, errW_some] <;> rfl), by repeat (first | (with_reducible first | exact HB.out | apply below_alloc | apply pw_below_drewN | apply below_drew1) | exact HB.out)⟩
  replace c92 := Bool.eq_false_iff.mpr c92
  subst c92
  have H1 : ((step_At.f kj34 y328 a1).bind fun t363 => ((bailiwickref03_At.f kj34 l0 a1).bind fun t364 => (if t363 = t364 then ((bailiwickref03_Same.f kj34 t331 t335).bind fun t365 => (if t365 = true then (if t332 = t338 then ((bailiwickref03_Same.f kj34 t339 t343).bind fun t366 => (if t366 = true then (if t340 = t346 then ((bailiwickref03_Same.f kj34 y328 l0).bind fun t367 => (some t367)) else (some false)) else (some false))) else (some false)) else (some false))) else (some false)))) = some r := by rw [if_neg (show ¬ (false = true) by decide)] at H; exact H
  clear H
  have H := H1
  clear H1
  replace H := Option.bind_eq_some_iff.mp H
  obtain ⟨t363, A940, H⟩ := H
  replace H : ((bailiwickref03_At.f kj34 l0 a1).bind fun t364 => (if t363 = t364 then ((bailiwickref03_Same.f kj34 t331 t335).bind fun t365 => (if t365 = true then (if t332 = t338 then ((bailiwickref03_Same.f kj34 t339 t343).bind fun t366 => (if t366 = true then (if t340 = t346 then ((bailiwickref03_Same.f kj34 y328 l0).bind fun t367 => (some t367)) else (some false)) else (some false))) else (some false)) else (some false))) else (some false))) = some r := H
  have A94 := Aside0.mk A940
  clear A940
  replace H := Option.bind_eq_some_iff.mp H
  obtain ⟨t364, A950, H⟩ := H
  replace H : (if t363 = t364 then ((bailiwickref03_Same.f kj34 t331 t335).bind fun t365 => (if t365 = true then (if t332 = t338 then ((bailiwickref03_Same.f kj34 t339 t343).bind fun t366 => (if t366 = true then (if t340 = t346 then ((bailiwickref03_Same.f kj34 y328 l0).bind fun t367 => (some t367)) else (some false)) else (some false))) else (some false)) else (some false))) else (some false)) = some r := H
  have A95 := Aside0.mk A950
  clear A950
  by_cases c96 : t363 = t364
  rotate_left
  · rw [if_neg c96] at H
    have c96b0 : (t363 == t364) = false := beq_eq_false_iff_ne.mpr c96
    have c96b1 : (t363 != t364) = true := bne_iff_ne.mpr c96
    obtain rfl := Option.some.inj H
    go_wp2_with (first | ((with_reducible refine gate_callee (f := 18) rfl ?_); refine goesL_ (some 140) rfl rfl Try.func18 (by kernel_rfl) rfl #[.slice Ao20 y328.length co20] rfl (by (try simp only [List.map_toArray, List.map_cons, List.map_nil]); first | done | rfl) ?_; (with_reducible refine (step_Right.calls kj34 _ _ y328 false _ ?side1 ?side2 A49.out).mono ?_); (case side1 => repeat (first | exact (Kd.R_reads' HO_9.out).2.2 | (with_reducible refine Kd.C_alloc ?_ _) | (with_reducible refine Kd.C_drewN ?_ _) | (with_reducible refine Kd.C_drew ?_))); (case side2 => exact (Kd.R_reads' HO_9.out).2.1); rintro e w130 ⟨rfl, hb⟩; refine ⟨_, rfl, ?_⟩; have n0_ := Aside0.mk (Kd.R_below (by (with_reducible repeat (first | apply Kd.R_alloc | apply Kd.R_drewN | apply Kd.R_drew)); exact HO_9.out) hb); have n1_ := Aside0.mk (Kd.R_below (by (with_reducible repeat (first | apply Kd.R_alloc | apply Kd.R_drewN | apply Kd.R_drew)); exact HO_10.out) hb); have n2_ := Aside0.mk (Kd.V_below (by (with_reducible repeat (first | apply Kd.V_alloc | apply Kd.V_drewN | apply Kd.V_drew)); exact HO_12.out) hb); have n3_ := Aside0.mk (Kd.R_below (by (with_reducible repeat (first | apply Kd.R_alloc | apply Kd.R_drewN | apply Kd.R_drew)); exact HO_14.out) hb); have n4_ := Aside0.mk (Kd.V_below (by (with_reducible repeat (first | apply Kd.V_alloc | apply Kd.V_drewN | apply Kd.V_drew)); exact HO_16.out) hb); have n5_ := Aside0.mk (below_step (by repeat (first | (with_reducible first | exact HB.out | apply below_alloc | apply pw_below_drewN | apply below_drew1) | exact HB.out)) hb); clear HO_9; clear HO_10; clear HO_12; clear HO_14; clear HO_16; clear HB; have HO_9 := n0_; have HO_10 := n1_; have HO_12 := n2_; have HO_14 := n3_; have HO_16 := n4_; have HB := n5_; clear n0_ n1_ n2_ n3_ n4_ n5_; (try clear hb); (try clear hb2); (try clear hk); (try clear hi)) | ((with_reducible refine gate_callee (f := 19) rfl ?_); refine goesL_ (some 142) rfl rfl Try.func19 (by kernel_rfl) rfl #[.slice A0 l0.length c0] rfl (by (try simp only [List.map_toArray, List.map_cons, List.map_nil]); first | done | rfl) ?_; (with_reducible refine (bailiwickref03_Right.calls kj34 _ _ l0 false _ ?side1 ?side2 A50.out).mono ?_); (case side1 => repeat (first | exact (Kd.C_below HR0.out HB.out) | (with_reducible refine Kd.C_alloc ?_ _) | (with_reducible refine Kd.C_drewN ?_ _) | (with_reducible refine Kd.C_drew ?_))); (case side2 => exact HC0.out); rintro e w' ⟨rfl, ⟨nd, rfl⟩⟩; refine ⟨_, rfl, ?_⟩) | (go_at_call 20; (with_reducible refine (step_At.calls kj34 _ _ y328 a1 t363 _ ?side1 ?side2 A94.out).mono ?_); (case side1 => repeat (first | exact (Kd.R_reads' HO_9.out).2.2 | (with_reducible refine Kd.C_alloc ?_ _) | (with_reducible refine Kd.C_drewN ?_ _) | (with_reducible refine Kd.C_drew ?_))); (case side2 => exact (Kd.R_reads' HO_9.out).2.1); rintro e w131 ⟨rfl, hb⟩; have n0_ := Aside0.mk (Kd.R_below (by (with_reducible repeat (first | apply Kd.R_alloc | apply Kd.R_drewN | apply Kd.R_drew)); exact HO_9.out) hb); have n1_ := Aside0.mk (Kd.R_below (by (with_reducible repeat (first | apply Kd.R_alloc | apply Kd.R_drewN | apply Kd.R_drew)); exact HO_10.out) hb); have n2_ := Aside0.mk (Kd.V_below (by (with_reducible repeat (first | apply Kd.V_alloc | apply Kd.V_drewN | apply Kd.V_drew)); exact HO_12.out) hb); have n3_ := Aside0.mk (Kd.R_below (by (with_reducible repeat (first | apply Kd.R_alloc | apply Kd.R_drewN | apply Kd.R_drew)); exact HO_14.out) hb); have n4_ := Aside0.mk (Kd.V_below (by (with_reducible repeat (first | apply Kd.V_alloc | apply Kd.V_drewN | apply Kd.V_drew)); exact HO_16.out) hb); have n5_ := Aside0.mk (below_step (by repeat (first | (with_reducible first | exact HB.out | apply below_alloc | apply pw_below_drewN | apply below_drew1) | exact HB.out)) hb); clear HO_9; clear HO_10; clear HO_12; clear HO_14; clear HO_16; clear HB; have HO_9 := n0_; have HO_10 := n1_; have HO_12 := n2_; have HO_14 := n3_; have HO_16 := n4_; have HB := n5_; clear n0_ n1_ n2_ n3_ n4_ n5_; (try clear hb); (try clear hb2); (try clear hk); (try clear hi)) | (go_at_call 21; (with_reducible refine (bailiwickref03_At.calls kj34 _ _ l0 a1 t364 _ ?side1 ?side2 A95.out).mono ?_); (case side1 => repeat (first | exact (Kd.C_below HR0.out HB.out) | (with_reducible refine Kd.C_alloc ?_ _) | (with_reducible refine Kd.C_drewN ?_ _) | (with_reducible refine Kd.C_drew ?_))); (case side2 => exact HC0.out); rintro e w' ⟨rfl, ⟨nd, rfl⟩⟩))
    go_ret
    exact ⟨by first | rfl | (simp [errW_none, errW_some] <;> rfl) | (simp [*, errW_none, errW_some] <;> rfl), by repeat (first | (with_reducible first | exact HB.out | apply below_alloc | apply pw_below_drewN | apply below_drew1) | exact HB.out)⟩
  rw [if_pos c96] at H
  have c96b0 : (t363 == t364) = true := beq_iff_eq.mpr c96
  have c96b1 : (t363 != t364) = false := bne_eq_false_iff_eq.mpr c96
  clear c96
  replace H := Option.bind_eq_some_iff.mp H
  obtain ⟨t365, A970, H⟩ := H
  replace H : (if t365 = true then (if t332 = t338 then ((bailiwickref03_Same.f kj34 t339 t343).bind fun t366 => (if t366 = true then (if t340 = t346 then ((bailiwickref03_Same.f kj34 y328 l0).bind fun t367 => (some t367)) else (some false)) else (some false))) else (some false)) else (some false)) = some r := H
  have A97 := Aside0.mk A970
  clear A970
  by_cases c98 : t365 = true
  rotate_left
  · replace c98 := Bool.eq_false_iff.mpr c98
    subst c98
    have H1 : (some false) = some r := by rw [if_neg (show ¬ (false = true) by decide)] at H; exact H
    clear H
    have H := H1
    clear H1
    obtain rfl := Option.some.inj H
    go_wp2_with (first | ((with_reducible refine gate_callee (f := 18) rfl ?_); refine goesL_ (some 140) rfl rfl Try.func18 (by kernel_rfl) rfl #[.slice Ao20 y328.length co20] rfl (by (try simp only [List.map_toArray, List.map_cons, List.map_nil]); first | done | rfl) ?_; (with_reducible refine (step_Right.calls kj34 _ _ y328 false _ ?side1 ?side2 A49.out).mono ?_); (case side1 => repeat (first | exact (Kd.R_reads' HO_9.out).2.2 | (with_reducible refine Kd.C_alloc ?_ _) | (with_reducible refine Kd.C_drewN ?_ _) | (with_reducible refine Kd.C_drew ?_))); (case side2 => exact (Kd.R_reads' HO_9.out).2.1); rintro e w126 ⟨rfl, hb⟩; refine ⟨_, rfl, ?_⟩; have n0_ := Aside0.mk (Kd.R_below (by (with_reducible repeat (first | apply Kd.R_alloc | apply Kd.R_drewN | apply Kd.R_drew)); exact HO_9.out) hb); have n1_ := Aside0.mk (Kd.R_below (by (with_reducible repeat (first | apply Kd.R_alloc | apply Kd.R_drewN | apply Kd.R_drew)); exact HO_10.out) hb); have n2_ := Aside0.mk (Kd.V_below (by (with_reducible repeat (first | apply Kd.V_alloc | apply Kd.V_drewN | apply Kd.V_drew)); exact HO_12.out) hb); have n3_ := Aside0.mk (Kd.R_below (by (with_reducible repeat (first | apply Kd.R_alloc | apply Kd.R_drewN | apply Kd.R_drew)); exact HO_14.out) hb); have n4_ := Aside0.mk (Kd.V_below (by (with_reducible repeat (first | apply Kd.V_alloc | apply Kd.V_drewN | apply Kd.V_drew)); exact HO_16.out) hb); have n5_ := Aside0.mk (below_step (by repeat (first | (with_reducible first | exact HB.out | apply below_alloc | apply pw_below_drewN | apply below_drew1) | exact HB.out)) hb); clear HO_9; clear HO_10; clear HO_12; clear HO_14; clear HO_16; clear HB; have HO_9 := n0_; have HO_10 := n1_; have HO_12 := n2_; have HO_14 := n3_; have HO_16 := n4_; have HB := n5_; clear n0_ n1_ n2_ n3_ n4_ n5_; (try clear hb); (try clear hb2); (try clear hk); (try clear hi)) | ((with_reducible refine gate_callee (f := 19) rfl ?_); refine goesL_ (some 142) rfl rfl Try.func19 (by kernel_rfl) rfl #[.slice A0 l0.length c0] rfl (by (try simp only [List.map_toArray, List.map_cons, List.map_nil]); first | done | rfl) ?_; (with_reducible refine (bailiwickref03_Right.calls kj34 _ _ l0 false _ ?side1 ?side2 A50.out).mono ?_); (case side1 => repeat (first | exact (Kd.C_below HR0.out HB.out) | (with_reducible refine Kd.C_alloc ?_ _) | (with_reducible refine Kd.C_drewN ?_ _) | (with_reducible refine Kd.C_drew ?_))); (case side2 => exact HC0.out); rintro e w' ⟨rfl, ⟨nd, rfl⟩⟩; refine ⟨_, rfl, ?_⟩) | (go_at_call 20; (with_reducible refine (step_At.calls kj34 _ _ y328 a1 t363 _ ?side1 ?side2 A94.out).mono ?_); (case side1 => repeat (first | exact (Kd.R_reads' HO_9.out).2.2 | (with_reducible refine Kd.C_alloc ?_ _) | (with_reducible refine Kd.C_drewN ?_ _) | (with_reducible refine Kd.C_drew ?_))); (case side2 => exact (Kd.R_reads' HO_9.out).2.1); rintro e w127 ⟨rfl, hb⟩; have n0_ := Aside0.mk (Kd.R_below (by (with_reducible repeat (first | apply Kd.R_alloc | apply Kd.R_drewN | apply Kd.R_drew)); exact HO_9.out) hb); have n1_ := Aside0.mk (Kd.R_below (by (with_reducible repeat (first | apply Kd.R_alloc | apply Kd.R_drewN | apply Kd.R_drew)); exact HO_10.out) hb); have n2_ := Aside0.mk (Kd.V_below (by (with_reducible repeat (first | apply Kd.V_alloc | apply Kd.V_drewN | apply Kd.V_drew)); exact HO_12.out) hb); have n3_ := Aside0.mk (Kd.R_below (by (with_reducible repeat (first | apply Kd.R_alloc | apply Kd.R_drewN | apply Kd.R_drew)); exact HO_14.out) hb); have n4_ := Aside0.mk (Kd.V_below (by (with_reducible repeat (first | apply Kd.V_alloc | apply Kd.V_drewN | apply Kd.V_drew)); exact HO_16.out) hb); have n5_ := Aside0.mk (below_step (by repeat (first | (with_reducible first | exact HB.out | apply below_alloc | apply pw_below_drewN | apply below_drew1) | exact HB.out)) hb); clear HO_9; clear HO_10; clear HO_12; clear HO_14; clear HO_16; clear HB; have HO_9 := n0_; have HO_10 := n1_; have HO_12 := n2_; have HO_14 := n3_; have HO_16 := n4_; have HB := n5_; clear n0_ n1_ n2_ n3_ n4_ n5_; (try clear hb); (try clear hb2); (try clear hk); (try clear hi)) | (go_at_call 21; (with_reducible refine (bailiwickref03_At.calls kj34 _ _ l0 a1 t364 _ ?side1 ?side2 A95.out).mono ?_); (case side1 => repeat (first | exact (Kd.C_below HR0.out HB.out) | (with_reducible refine Kd.C_alloc ?_ _) | (with_reducible refine Kd.C_drewN ?_ _) | (with_reducible refine Kd.C_drew ?_))); (case side2 => exact HC0.out); rintro e w' ⟨rfl, ⟨nd, rfl⟩⟩; obtain ⟨Ao128, co128, eo128⟩ := Kd.R_slice HO_10.out; subst eo128; obtain ⟨Ao129, co129, eo129⟩ := Kd.V_slice HO_12.out; subst eo129) | (go_at_call 9; (with_reducible refine (bailiwickref03_Same.calls kj34 _ _ t331 _ _ t335 false _ ?side1 ?side2 ?side3 ?side4 A97.out).mono ?_); (case side1 => repeat (first | exact (Kd.R_reads' HO_10.out).2.2 | (with_reducible refine Kd.C_alloc ?_ _) | (with_reducible refine Kd.C_drewN ?_ _) | (with_reducible refine Kd.C_drew ?_))); (case side2 => exact (Kd.R_reads' HO_10.out).2.1); (case side3 => repeat (first | exact (Kd.V_reads' HO_12.out).2.2 | (with_reducible refine Kd.C_alloc ?_ _) | (with_reducible refine Kd.C_drewN ?_ _) | (with_reducible refine Kd.C_drew ?_))); (case side4 => exact (Kd.V_reads' HO_12.out).2.1); rintro e w' ⟨rfl, ⟨nd, rfl⟩⟩))
    go_ret
    exact ⟨by first | rfl | (simp [errW_none, errW_some] <;> rfl) | (simp [*, errW_none, errW_some] <;> rfl), by repeat (first | (with_reducible first | exact HB.out | apply below_alloc | apply pw_below_drewN | apply below_drew1) | exact HB.out)⟩
  subst c98
  have H1 : (if t332 = t338 then ((bailiwickref03_Same.f kj34 t339 t343).bind fun t366 => (if t366 = true then (if t340 = t346 then ((bailiwickref03_Same.f kj34 y328 l0).bind fun t367 => (some t367)) else (some false)) else (some false))) else (some false)) = some r := by rw [if_pos rfl] at H; exact H
  clear H
  have H := H1
  clear H1
  by_cases c99 : t332 = t338
  rotate_left
  · rw [if_neg c99] at H
    have c99b0 : (t332 == t338) = false := beq_eq_false_iff_ne.mpr c99
    have c99b1 : (t332 != t338) = true := bne_iff_ne.mpr c99
    obtain rfl := Option.some.inj H
    go_wp2_with (first | ((with_reducible refine gate_callee (f := 18) rfl ?_); refine goesL_ (some 140) rfl rfl Try.func18 (by kernel_rfl) rfl #[.slice Ao20 y328.length co20] rfl (by (try simp only [List.map_toArray, List.map_cons, List.map_nil]); first | done | rfl) ?_; (with_reducible refine (step_Right.calls kj34 _ _ y328 false _ ?side1 ?side2 A49.out).mono ?_); (case side1 => repeat (first | exact (Kd.R_reads' HO_9.out).2.2 | (with_reducible refine Kd.C_alloc ?_ _) | (with_reducible refine Kd.C_drewN ?_ _) | (with_reducible refine Kd.C_drew ?_))); (case side2 => exact (Kd.R_reads' HO_9.out).2.1); rintro e w122 ⟨rfl, hb⟩; refine ⟨_, rfl, ?_⟩; have n0_ := Aside0.mk (Kd.R_below (by (with_reducible repeat (first | apply Kd.R_alloc | apply Kd.R_drewN | apply Kd.R_drew)); exact HO_9.out) hb); have n1_ := Aside0.mk (Kd.R_below (by (with_reducible repeat (first | apply Kd.R_alloc | apply Kd.R_drewN | apply Kd.R_drew)); exact HO_10.out) hb); have n2_ := Aside0.mk (Kd.V_below (by (with_reducible repeat (first | apply Kd.V_alloc | apply Kd.V_drewN | apply Kd.V_drew)); exact HO_12.out) hb); have n3_ := Aside0.mk (Kd.R_below (by (with_reducible repeat (first | apply Kd.R_alloc | apply Kd.R_drewN | apply Kd.R_drew)); exact HO_14.out) hb); have n4_ := Aside0.mk (Kd.V_below (by (with_reducible repeat (first | apply Kd.V_alloc | apply Kd.V_drewN | apply Kd.V_drew)); exact HO_16.out) hb); have n5_ := Aside0.mk (below_step (by repeat (first | (with_reducible first | exact HB.out | apply below_alloc | apply pw_below_drewN | apply below_drew1) | exact HB.out)) hb); clear HO_9; clear HO_10; clear HO_12; clear HO_14; clear HO_16; clear HB; have HO_9 := n0_; have HO_10 := n1_; have HO_12 := n2_; have HO_14 := n3_; have HO_16 := n4_; have HB := n5_; clear n0_ n1_ n2_ n3_ n4_ n5_; (try clear hb); (try clear hb2); (try clear hk); (try clear hi)) | ((with_reducible refine gate_callee (f := 19) rfl ?_); refine goesL_ (some 142) rfl rfl Try.func19 (by kernel_rfl) rfl #[.slice A0 l0.length c0] rfl (by (try simp only [List.map_toArray, List.map_cons, List.map_nil]); first | done | rfl) ?_; (with_reducible refine (bailiwickref03_Right.calls kj34 _ _ l0 false _ ?side1 ?side2 A50.out).mono ?_); (case side1 => repeat (first | exact (Kd.C_below HR0.out HB.out) | (with_reducible refine Kd.C_alloc ?_ _) | (with_reducible refine Kd.C_drewN ?_ _) | (with_reducible refine Kd.C_drew ?_))); (case side2 => exact HC0.out); rintro e w' ⟨rfl, ⟨nd, rfl⟩⟩; refine ⟨_, rfl, ?_⟩) | (go_at_call 20; (with_reducible refine (step_At.calls kj34 _ _ y328 a1 t363 _ ?side1 ?side2 A94.out).mono ?_); (case side1 => repeat (first | exact (Kd.R_reads' HO_9.out).2.2 | (with_reducible refine Kd.C_alloc ?_ _) | (with_reducible refine Kd.C_drewN ?_ _) | (with_reducible refine Kd.C_drew ?_))); (case side2 => exact (Kd.R_reads' HO_9.out).2.1); rintro e w123 ⟨rfl, hb⟩; have n0_ := Aside0.mk (Kd.R_below (by (with_reducible repeat (first | apply Kd.R_alloc | apply Kd.R_drewN | apply Kd.R_drew)); exact HO_9.out) hb); have n1_ := Aside0.mk (Kd.R_below (by (with_reducible repeat (first | apply Kd.R_alloc | apply Kd.R_drewN | apply Kd.R_drew)); exact HO_10.out) hb); have n2_ := Aside0.mk (Kd.V_below (by (with_reducible repeat (first | apply Kd.V_alloc | apply Kd.V_drewN | apply Kd.V_drew)); exact HO_12.out) hb); have n3_ := Aside0.mk (Kd.R_below (by (with_reducible repeat (first | apply Kd.R_alloc | apply Kd.R_drewN | apply Kd.R_drew)); exact HO_14.out) hb); have n4_ := Aside0.mk (Kd.V_below (by (with_reducible repeat (first | apply Kd.V_alloc | apply Kd.V_drewN | apply Kd.V_drew)); exact HO_16.out) hb); have n5_ := Aside0.mk (below_step (by repeat (first | (with_reducible first | exact HB.out | apply below_alloc | apply pw_below_drewN | apply below_drew1) | exact HB.out)) hb); clear HO_9; clear HO_10; clear HO_12; clear HO_14; clear HO_16; clear HB; have HO_9 := n0_; have HO_10 := n1_; have HO_12 := n2_; have HO_14 := n3_; have HO_16 := n4_; have HB := n5_; clear n0_ n1_ n2_ n3_ n4_ n5_; (try clear hb); (try clear hb2); (try clear hk); (try clear hi)) | (go_at_call 21; (with_reducible refine (bailiwickref03_At.calls kj34 _ _ l0 a1 t364 _ ?side1 ?side2 A95.out).mono ?_); (case side1 => repeat (first | exact (Kd.C_below HR0.out HB.out) | (with_reducible refine Kd.C_alloc ?_ _) | (with_reducible refine Kd.C_drewN ?_ _) | (with_reducible refine Kd.C_drew ?_))); (case side2 => exact HC0.out); rintro e w' ⟨rfl, ⟨nd, rfl⟩⟩; obtain ⟨Ao124, co124, eo124⟩ := Kd.R_slice HO_10.out; subst eo124; obtain ⟨Ao125, co125, eo125⟩ := Kd.V_slice HO_12.out; subst eo125) | (go_at_call 9; (with_reducible refine (bailiwickref03_Same.calls kj34 _ _ t331 _ _ t335 true _ ?side1 ?side2 ?side3 ?side4 A97.out).mono ?_); (case side1 => repeat (first | exact (Kd.R_reads' HO_10.out).2.2 | (with_reducible refine Kd.C_alloc ?_ _) | (with_reducible refine Kd.C_drewN ?_ _) | (with_reducible refine Kd.C_drew ?_))); (case side2 => exact (Kd.R_reads' HO_10.out).2.1); (case side3 => repeat (first | exact (Kd.V_reads' HO_12.out).2.2 | (with_reducible refine Kd.C_alloc ?_ _) | (with_reducible refine Kd.C_drewN ?_ _) | (with_reducible refine Kd.C_drew ?_))); (case side4 => exact (Kd.V_reads' HO_12.out).2.1); rintro e w' ⟨rfl, ⟨nd, rfl⟩⟩))
    go_ret
    exact ⟨by first | rfl | (simp [errW_none, errW_some] <;> rfl) | (simp [*, errW_none, errW_some] <;> rfl), by repeat (first | (with_reducible first | exact HB.out | apply below_alloc | apply pw_below_drewN | apply below_drew1) | exact HB.out)⟩
  rw [if_pos c99] at H
  have c99b0 : (t332 == t338) = true := beq_iff_eq.mpr c99
  have c99b1 : (t332 != t338) = false := bne_eq_false_iff_eq.mpr c99
  clear c99
  replace H := Option.bind_eq_some_iff.mp H
  obtain ⟨t366, A1000, H⟩ := H
  replace H : (if t366 = true then (if t340 = t346 then ((bailiwickref03_Same.f kj34 y328 l0).bind fun t367 => (some t367)) else (some false)) else (some false)) = some r := H
  have A100 := Aside0.mk A1000
  clear A1000
  by_cases c101 : t366 = true
  rotate_left
  · replace c101 := Bool.eq_false_iff.mpr c101
    subst c101
    have H1 : (some false) = some r := by rw [if_neg (show ¬ (false = true) by decide)] at H; exact H
    clear H
    have H := H1
    clear H1
    obtain rfl := Option.some.inj H
    go_wp2_with (first | ((with_reducible refine gate_callee (f := 18) rfl ?_); refine goesL_ (some 140) rfl rfl Try.func18 (by kernel_rfl) rfl #[.slice Ao20 y328.length co20] rfl (by (try simp only [List.map_toArray, List.map_cons, List.map_nil]); first | done | rfl) ?_; (with_reducible refine (step_Right.calls kj34 _ _ y328 false _ ?side1 ?side2 A49.out).mono ?_); (case side1 => repeat (first | exact (Kd.R_reads' HO_9.out).2.2 | (with_reducible refine Kd.C_alloc ?_ _) | (with_reducible refine Kd.C_drewN ?_ _) | (with_reducible refine Kd.C_drew ?_))); (case side2 => exact (Kd.R_reads' HO_9.out).2.1); rintro e w116 ⟨rfl, hb⟩; refine ⟨_, rfl, ?_⟩; have n0_ := Aside0.mk (Kd.R_below (by (with_reducible repeat (first | apply Kd.R_alloc | apply Kd.R_drewN | apply Kd.R_drew)); exact HO_9.out) hb); have n1_ := Aside0.mk (Kd.R_below (by (with_reducible repeat (first | apply Kd.R_alloc | apply Kd.R_drewN | apply Kd.R_drew)); exact HO_10.out) hb); have n2_ := Aside0.mk (Kd.V_below (by (with_reducible repeat (first | apply Kd.V_alloc | apply Kd.V_drewN | apply Kd.V_drew)); exact HO_12.out) hb); have n3_ := Aside0.mk (Kd.R_below (by (with_reducible repeat (first | apply Kd.R_alloc | apply Kd.R_drewN | apply Kd.R_drew)); exact HO_14.out) hb); have n4_ := Aside0.mk (Kd.V_below (by (with_reducible repeat (first | apply Kd.V_alloc | apply Kd.V_drewN | apply Kd.V_drew)); exact HO_16.out) hb); have n5_ := Aside0.mk (below_step (by repeat (first | (with_reducible first | exact HB.out | apply below_alloc | apply pw_below_drewN | apply below_drew1) | exact HB.out)) hb); clear HO_9; clear HO_10; clear HO_12; clear HO_14; clear HO_16; clear HB; have HO_9 := n0_; have HO_10 := n1_; have HO_12 := n2_; have HO_14 := n3_; have HO_16 := n4_; have HB := n5_; clear n0_ n1_ n2_ n3_ n4_ n5_; (try clear hb); (try clear hb2); (try clear hk); (try clear hi)) | ((with_reducible refine gate_callee (f := 19) rfl ?_); refine goesL_ (some 142) rfl rfl Try.func19 (by kernel_rfl) rfl #[.slice A0 l0.length c0] rfl (by (try simp only [List.map_toArray, List.map_cons, List.map_nil]); first | done | rfl) ?_; (with_reducible refine (bailiwickref03_Right.calls kj34 _ _ l0 false _ ?side1 ?side2 A50.out).mono ?_); (case side1 => repeat (first | exact (Kd.C_below HR0.out HB.out) | (with_reducible refine Kd.C_alloc ?_ _) | (with_reducible refine Kd.C_drewN ?_ _) | (with_reducible refine Kd.C_drew ?_))); (case side2 => exact HC0.out); rintro e w' ⟨rfl, ⟨nd, rfl⟩⟩; refine ⟨_, rfl, ?_⟩) | (go_at_call 20; (with_reducible refine (step_At.calls kj34 _ _ y328 a1 t363 _ ?side1 ?side2 A94.out).mono ?_); (case side1 => repeat (first | exact (Kd.R_reads' HO_9.out).2.2 | (with_reducible refine Kd.C_alloc ?_ _) | (with_reducible refine Kd.C_drewN ?_ _) | (with_reducible refine Kd.C_drew ?_))); (case side2 => exact (Kd.R_reads' HO_9.out).2.1); rintro e w117 ⟨rfl, hb⟩; have n0_ := Aside0.mk (Kd.R_below (by (with_reducible repeat (first | apply Kd.R_alloc | apply Kd.R_drewN | apply Kd.R_drew)); exact HO_9.out) hb); have n1_ := Aside0.mk (Kd.R_below (by (with_reducible repeat (first | apply Kd.R_alloc | apply Kd.R_drewN | apply Kd.R_drew)); exact HO_10.out) hb); have n2_ := Aside0.mk (Kd.V_below (by (with_reducible repeat (first | apply Kd.V_alloc | apply Kd.V_drewN | apply Kd.V_drew)); exact HO_12.out) hb); have n3_ := Aside0.mk (Kd.R_below (by (with_reducible repeat (first | apply Kd.R_alloc | apply Kd.R_drewN | apply Kd.R_drew)); exact HO_14.out) hb); have n4_ := Aside0.mk (Kd.V_below (by (with_reducible repeat (first | apply Kd.V_alloc | apply Kd.V_drewN | apply Kd.V_drew)); exact HO_16.out) hb); have n5_ := Aside0.mk (below_step (by repeat (first | (with_reducible first | exact HB.out | apply below_alloc | apply pw_below_drewN | apply below_drew1) | exact HB.out)) hb); clear HO_9; clear HO_10; clear HO_12; clear HO_14; clear HO_16; clear HB; have HO_9 := n0_; have HO_10 := n1_; have HO_12 := n2_; have HO_14 := n3_; have HO_16 := n4_; have HB := n5_; clear n0_ n1_ n2_ n3_ n4_ n5_; (try clear hb); (try clear hb2); (try clear hk); (try clear hi)) | (go_at_call 21; (with_reducible refine (bailiwickref03_At.calls kj34 _ _ l0 a1 t364 _ ?side1 ?side2 A95.out).mono ?_); (case side1 => repeat (first | exact (Kd.C_below HR0.out HB.out) | (with_reducible refine Kd.C_alloc ?_ _) | (with_reducible refine Kd.C_drewN ?_ _) | (with_reducible refine Kd.C_drew ?_))); (case side2 => exact HC0.out); rintro e w' ⟨rfl, ⟨nd, rfl⟩⟩; obtain ⟨Ao118, co118, eo118⟩ := Kd.R_slice HO_10.out; subst eo118; obtain ⟨Ao119, co119, eo119⟩ := Kd.V_slice HO_12.out; subst eo119) | (go_at_call 9; (with_reducible refine (bailiwickref03_Same.calls kj34 _ _ t331 _ _ t335 true _ ?side1 ?side2 ?side3 ?side4 A97.out).mono ?_); (case side1 => repeat (first | exact (Kd.R_reads' HO_10.out).2.2 | (with_reducible refine Kd.C_alloc ?_ _) | (with_reducible refine Kd.C_drewN ?_ _) | (with_reducible refine Kd.C_drew ?_))); (case side2 => exact (Kd.R_reads' HO_10.out).2.1); (case side3 => repeat (first | exact (Kd.V_reads' HO_12.out).2.2 | (with_reducible refine Kd.C_alloc ?_ _) | (with_reducible refine Kd.C_drewN ?_ _) | (with_reducible refine Kd.C_drew ?_))); (case side4 => exact (Kd.V_reads' HO_12.out).2.1); rintro e w' ⟨rfl, ⟨nd, rfl⟩⟩; obtain ⟨Ao120, co120, eo120⟩ := Kd.R_slice HO_14.out; subst eo120; obtain ⟨Ao121, co121, eo121⟩ := Kd.V_slice HO_16.out; subst eo121) | (go_at_call 9; (with_reducible refine (bailiwickref03_Same.calls kj34 _ _ t339 _ _ t343 false _ ?side1 ?side2 ?side3 ?side4 A100.out).mono ?_); (case side1 => repeat (first | exact (Kd.R_reads' HO_14.out).2.2 | (with_reducible refine Kd.C_alloc ?_ _) | (with_reducible refine Kd.C_drewN ?_ _) | (with_reducible refine Kd.C_drew ?_))); (case side2 => exact (Kd.R_reads' HO_14.out).2.1); (case side3 => repeat (first | exact (Kd.V_reads' HO_16.out).2.2 | (with_reducible refine Kd.C_alloc ?_ _) | (with_reducible refine Kd.C_drewN ?_ _) | (with_reducible refine Kd.C_drew ?_))); (case side4 => exact (Kd.V_reads' HO_16.out).2.1); rintro e w' ⟨rfl, ⟨nd, rfl⟩⟩))
    go_ret
    exact ⟨by first | rfl | (simp [errW_none, errW_some] <;> rfl) | (simp [*, errW_none, errW_some] <;> rfl), by repeat (first | (with_reducible first | exact HB.out | apply below_alloc | apply pw_below_drewN | apply below_drew1) | exact HB.out)⟩
  subst c101
  have H1 : (if t340 = t346 then ((bailiwickref03_Same.f kj34 y328 l0).bind fun t367 => (some t367)) else (some false)) = some r := by rw [if_pos rfl] at H; exact H
  clear H
  have H := H1
  clear H1
  by_cases c102 : t340 = t346
  rotate_left
  · rw [if_neg c102] at H
    have c102b0 : (t340 == t346) = false := beq_eq_false_iff_ne.mpr c102
    have c102b1 : (t340 != t346) = true := bne_iff_ne.mpr c102
    obtain rfl := Option.some.inj H
    go_wp2_with (first | ((with_reducible refine gate_callee (f := 18) rfl ?_); refine goesL_ (some 140) rfl rfl Try.func18 (by kernel_rfl) rfl #[.slice Ao20 y328.length co20] rfl (by (try simp only [List.map_toArray, List.map_cons, List.map_nil]); first | done | rfl) ?_; (with_reducible refine (step_Right.calls kj34 _ _ y328 false _ ?side1 ?side2 A49.out).mono ?_); (case side1 => repeat (first | exact (Kd.R_reads' HO_9.out).2.2 | (with_reducible refine Kd.C_alloc ?_ _) | (with_reducible refine Kd.C_drewN ?_ _) | (with_reducible refine Kd.C_drew ?_))); (case side2 => exact (Kd.R_reads' HO_9.out).2.1); rintro e w110 ⟨rfl, hb⟩; refine ⟨_, rfl, ?_⟩; have n0_ := Aside0.mk (Kd.R_below (by (with_reducible repeat (first | apply Kd.R_alloc | apply Kd.R_drewN | apply Kd.R_drew)); exact HO_9.out) hb); have n1_ := Aside0.mk (Kd.R_below (by (with_reducible repeat (first | apply Kd.R_alloc | apply Kd.R_drewN | apply Kd.R_drew)); exact HO_10.out) hb); have n2_ := Aside0.mk (Kd.V_below (by (with_reducible repeat (first | apply Kd.V_alloc | apply Kd.V_drewN | apply Kd.V_drew)); exact HO_12.out) hb); have n3_ := Aside0.mk (Kd.R_below (by (with_reducible repeat (first | apply Kd.R_alloc | apply Kd.R_drewN | apply Kd.R_drew)); exact HO_14.out) hb); have n4_ := Aside0.mk (Kd.V_below (by (with_reducible repeat (first | apply Kd.V_alloc | apply Kd.V_drewN | apply Kd.V_drew)); exact HO_16.out) hb); have n5_ := Aside0.mk (below_step (by repeat (first | (with_reducible first | exact HB.out | apply below_alloc | apply pw_below_drewN | apply below_drew1) | exact HB.out)) hb); clear HO_9; clear HO_10; clear HO_12; clear HO_14; clear HO_16; clear HB; have HO_9 := n0_; have HO_10 := n1_; have HO_12 := n2_; have HO_14 := n3_; have HO_16 := n4_; have HB := n5_; clear n0_ n1_ n2_ n3_ n4_ n5_; (try clear hb); (try clear hb2); (try clear hk); (try clear hi)) | ((with_reducible refine gate_callee (f := 19) rfl ?_); refine goesL_ (some 142) rfl rfl Try.func19 (by kernel_rfl) rfl #[.slice A0 l0.length c0] rfl (by (try simp only [List.map_toArray, List.map_cons, List.map_nil]); first | done | rfl) ?_; (with_reducible refine (bailiwickref03_Right.calls kj34 _ _ l0 false _ ?side1 ?side2 A50.out).mono ?_); (case side1 => repeat (first | exact (Kd.C_below HR0.out HB.out) | (with_reducible refine Kd.C_alloc ?_ _) | (with_reducible refine Kd.C_drewN ?_ _) | (with_reducible refine Kd.C_drew ?_))); (case side2 => exact HC0.out); rintro e w' ⟨rfl, ⟨nd, rfl⟩⟩; refine ⟨_, rfl, ?_⟩) | (go_at_call 20; (with_reducible refine (step_At.calls kj34 _ _ y328 a1 t363 _ ?side1 ?side2 A94.out).mono ?_); (case side1 => repeat (first | exact (Kd.R_reads' HO_9.out).2.2 | (with_reducible refine Kd.C_alloc ?_ _) | (with_reducible refine Kd.C_drewN ?_ _) | (with_reducible refine Kd.C_drew ?_))); (case side2 => exact (Kd.R_reads' HO_9.out).2.1); rintro e w111 ⟨rfl, hb⟩; have n0_ := Aside0.mk (Kd.R_below (by (with_reducible repeat (first | apply Kd.R_alloc | apply Kd.R_drewN | apply Kd.R_drew)); exact HO_9.out) hb); have n1_ := Aside0.mk (Kd.R_below (by (with_reducible repeat (first | apply Kd.R_alloc | apply Kd.R_drewN | apply Kd.R_drew)); exact HO_10.out) hb); have n2_ := Aside0.mk (Kd.V_below (by (with_reducible repeat (first | apply Kd.V_alloc | apply Kd.V_drewN | apply Kd.V_drew)); exact HO_12.out) hb); have n3_ := Aside0.mk (Kd.R_below (by (with_reducible repeat (first | apply Kd.R_alloc | apply Kd.R_drewN | apply Kd.R_drew)); exact HO_14.out) hb); have n4_ := Aside0.mk (Kd.V_below (by (with_reducible repeat (first | apply Kd.V_alloc | apply Kd.V_drewN | apply Kd.V_drew)); exact HO_16.out) hb); have n5_ := Aside0.mk (below_step (by repeat (first | (with_reducible first | exact HB.out | apply below_alloc | apply pw_below_drewN | apply below_drew1) | exact HB.out)) hb); clear HO_9; clear HO_10; clear HO_12; clear HO_14; clear HO_16; clear HB; have HO_9 := n0_; have HO_10 := n1_; have HO_12 := n2_; have HO_14 := n3_; have HO_16 := n4_; have HB := n5_; clear n0_ n1_ n2_ n3_ n4_ n5_; (try clear hb); (try clear hb2); (try clear hk); (try clear hi)) | (go_at_call 21; (with_reducible refine (bailiwickref03_At.calls kj34 _ _ l0 a1 t364 _ ?side1 ?side2 A95.out).mono ?_); (case side1 => repeat (first | exact (Kd.C_below HR0.out HB.out) | (with_reducible refine Kd.C_alloc ?_ _) | (with_reducible refine Kd.C_drewN ?_ _) | (with_reducible refine Kd.C_drew ?_))); (case side2 => exact HC0.out); rintro e w' ⟨rfl, ⟨nd, rfl⟩⟩; obtain ⟨Ao112, co112, eo112⟩ := Kd.R_slice HO_10.out; subst eo112; obtain ⟨Ao113, co113, eo113⟩ := Kd.V_slice HO_12.out; subst eo113) | (go_at_call 9; (with_reducible refine (bailiwickref03_Same.calls kj34 _ _ t331 _ _ t335 true _ ?side1 ?side2 ?side3 ?side4 A97.out).mono ?_); (case side1 => repeat (first | exact (Kd.R_reads' HO_10.out).2.2 | (with_reducible refine Kd.C_alloc ?_ _) | (with_reducible refine Kd.C_drewN ?_ _) | (with_reducible refine Kd.C_drew ?_))); (case side2 => exact (Kd.R_reads' HO_10.out).2.1); (case side3 => repeat (first | exact (Kd.V_reads' HO_12.out).2.2 | (with_reducible refine Kd.C_alloc ?_ _) | (with_reducible refine Kd.C_drewN ?_ _) | (with_reducible refine Kd.C_drew ?_))); (case side4 => exact (Kd.V_reads' HO_12.out).2.1); rintro e w' ⟨rfl, ⟨nd, rfl⟩⟩; obtain ⟨Ao114, co114, eo114⟩ := Kd.R_slice HO_14.out; subst eo114; obtain ⟨Ao115, co115, eo115⟩ := Kd.V_slice HO_16.out; subst eo115) | (go_at_call 9; (with_reducible refine (bailiwickref03_Same.calls kj34 _ _ t339 _ _ t343 true _ ?side1 ?side2 ?side3 ?side4 A100.out).mono ?_); (case side1 => repeat (first | exact (Kd.R_reads' HO_14.out).2.2 | (with_reducible refine Kd.C_alloc ?_ _) | (with_reducible refine Kd.C_drewN ?_ _) | (with_reducible refine Kd.C_drew ?_))); (case side2 => exact (Kd.R_reads' HO_14.out).2.1); (case side3 => repeat (first | exact (Kd.V_reads' HO_16.out).2.2 | (with_reducible refine Kd.C_alloc ?_ _) | (with_reducible refine Kd.C_drewN ?_ _) | (with_reducible refine Kd.C_drew ?_))); (case side4 => exact (Kd.V_reads' HO_16.out).2.1); rintro e w' ⟨rfl, ⟨nd, rfl⟩⟩))
    go_ret
    exact ⟨by first | rfl | (simp [errW_none, errW_some] <;> rfl) | (simp [*, errW_none, errW_some] <;> rfl), by repeat (first | (with_reducible first | exact HB.out | apply below_alloc | apply pw_below_drewN | apply below_drew1) | exact HB.out)⟩
  rw [if_pos c102] at H
  have c102b0 : (t340 == t346) = true := beq_iff_eq.mpr c102
  have c102b1 : (t340 != t346) = false := bne_eq_false_iff_eq.mpr c102
  clear c102
  replace H := Option.bind_eq_some_iff.mp H
  obtain ⟨t367, A1030, H⟩ := H
  replace H : (some t367) = some r := H
  have A103 := Aside0.mk A1030
  clear A1030
  obtain rfl := Option.some.inj H
  go_wp2_with (first | ((with_reducible refine gate_callee (f := 18) rfl ?_); refine goesL_ (some 140) rfl rfl Try.func18 (by kernel_rfl) rfl #[.slice Ao20 y328.length co20] rfl (by (try simp only [List.map_toArray, List.map_cons, List.map_nil]); first | done | rfl) ?_; (with_reducible refine (step_Right.calls kj34 _ _ y328 false _ ?side1 ?side2 A49.out).mono ?_); (case side1 => repeat (first | exact (Kd.R_reads' HO_9.out).2.2 | (with_reducible refine Kd.C_alloc ?_ _) | (with_reducible refine Kd.C_drewN ?_ _) | (with_reducible refine Kd.C_drew ?_))); (case side2 => exact (Kd.R_reads' HO_9.out).2.1); rintro e w104 ⟨rfl, hb⟩; refine ⟨_, rfl, ?_⟩; have n0_ := Aside0.mk (Kd.R_below (by (with_reducible repeat (first | apply Kd.R_alloc | apply Kd.R_drewN | apply Kd.R_drew)); exact HO_9.out) hb); have n1_ := Aside0.mk (Kd.R_below (by (with_reducible repeat (first | apply Kd.R_alloc | apply Kd.R_drewN | apply Kd.R_drew)); exact HO_10.out) hb); have n2_ := Aside0.mk (Kd.V_below (by (with_reducible repeat (first | apply Kd.V_alloc | apply Kd.V_drewN | apply Kd.V_drew)); exact HO_12.out) hb); have n3_ := Aside0.mk (Kd.R_below (by (with_reducible repeat (first | apply Kd.R_alloc | apply Kd.R_drewN | apply Kd.R_drew)); exact HO_14.out) hb); have n4_ := Aside0.mk (Kd.V_below (by (with_reducible repeat (first | apply Kd.V_alloc | apply Kd.V_drewN | apply Kd.V_drew)); exact HO_16.out) hb); have n5_ := Aside0.mk (below_step (by repeat (first | (with_reducible first | exact HB.out | apply below_alloc | apply pw_below_drewN | apply below_drew1) | exact HB.out)) hb); clear HO_9; clear HO_10; clear HO_12; clear HO_14; clear HO_16; clear HB; have HO_9 := n0_; have HO_10 := n1_; have HO_12 := n2_; have HO_14 := n3_; have HO_16 := n4_; have HB := n5_; clear n0_ n1_ n2_ n3_ n4_ n5_; (try clear hb); (try clear hb2); (try clear hk); (try clear hi)) | ((with_reducible refine gate_callee (f := 19) rfl ?_); refine goesL_ (some 142) rfl rfl Try.func19 (by kernel_rfl) rfl #[.slice A0 l0.length c0] rfl (by (try simp only [List.map_toArray, List.map_cons, List.map_nil]); first | done | rfl) ?_; (with_reducible refine (bailiwickref03_Right.calls kj34 _ _ l0 false _ ?side1 ?side2 A50.out).mono ?_); (case side1 => repeat (first | exact (Kd.C_below HR0.out HB.out) | (with_reducible refine Kd.C_alloc ?_ _) | (with_reducible refine Kd.C_drewN ?_ _) | (with_reducible refine Kd.C_drew ?_))); (case side2 => exact HC0.out); rintro e w' ⟨rfl, ⟨nd, rfl⟩⟩; refine ⟨_, rfl, ?_⟩) | (go_at_call 20; (with_reducible refine (step_At.calls kj34 _ _ y328 a1 t363 _ ?side1 ?side2 A94.out).mono ?_); (case side1 => repeat (first | exact (Kd.R_reads' HO_9.out).2.2 | (with_reducible refine Kd.C_alloc ?_ _) | (with_reducible refine Kd.C_drewN ?_ _) | (with_reducible refine Kd.C_drew ?_))); (case side2 => exact (Kd.R_reads' HO_9.out).2.1); rintro e w105 ⟨rfl, hb⟩; have n0_ := Aside0.mk (Kd.R_below (by (with_reducible repeat (first | apply Kd.R_alloc | apply Kd.R_drewN | apply Kd.R_drew)); exact HO_9.out) hb); have n1_ := Aside0.mk (Kd.R_below (by (with_reducible repeat (first | apply Kd.R_alloc | apply Kd.R_drewN | apply Kd.R_drew)); exact HO_10.out) hb); have n2_ := Aside0.mk (Kd.V_below (by (with_reducible repeat (first | apply Kd.V_alloc | apply Kd.V_drewN | apply Kd.V_drew)); exact HO_12.out) hb); have n3_ := Aside0.mk (Kd.R_below (by (with_reducible repeat (first | apply Kd.R_alloc | apply Kd.R_drewN | apply Kd.R_drew)); exact HO_14.out) hb); have n4_ := Aside0.mk (Kd.V_below (by (with_reducible repeat (first | apply Kd.V_alloc | apply Kd.V_drewN | apply Kd.V_drew)); exact HO_16.out) hb); have n5_ := Aside0.mk (below_step (by repeat (first | (with_reducible first | exact HB.out | apply below_alloc | apply pw_below_drewN | apply below_drew1) | exact HB.out)) hb); clear HO_9; clear HO_10; clear HO_12; clear HO_14; clear HO_16; clear HB; have HO_9 := n0_; have HO_10 := n1_; have HO_12 := n2_; have HO_14 := n3_; have HO_16 := n4_; have HB := n5_; clear n0_ n1_ n2_ n3_ n4_ n5_; (try clear hb); (try clear hb2); (try clear hk); (try clear hi)) | (go_at_call 21; (with_reducible refine (bailiwickref03_At.calls kj34 _ _ l0 a1 t364 _ ?side1 ?side2 A95.out).mono ?_); (case side1 => repeat (first | exact (Kd.C_below HR0.out HB.out) | (with_reducible refine Kd.C_alloc ?_ _) | (with_reducible refine Kd.C_drewN ?_ _) | (with_reducible refine Kd.C_drew ?_))); (case side2 => exact HC0.out); rintro e w' ⟨rfl, ⟨nd, rfl⟩⟩; obtain ⟨Ao106, co106, eo106⟩ := Kd.R_slice HO_10.out; subst eo106; obtain ⟨Ao107, co107, eo107⟩ := Kd.V_slice HO_12.out; subst eo107) | (go_at_call 9; (with_reducible refine (bailiwickref03_Same.calls kj34 _ _ t331 _ _ t335 true _ ?side1 ?side2 ?side3 ?side4 A97.out).mono ?_); (case side1 => repeat (first | exact (Kd.R_reads' HO_10.out).2.2 | (with_reducible refine Kd.C_alloc ?_ _) | (with_reducible refine Kd.C_drewN ?_ _) | (with_reducible refine Kd.C_drew ?_))); (case side2 => exact (Kd.R_reads' HO_10.out).2.1); (case side3 => repeat (first | exact (Kd.V_reads' HO_12.out).2.2 | (with_reducible refine Kd.C_alloc ?_ _) | (with_reducible refine Kd.C_drewN ?_ _) | (with_reducible refine Kd.C_drew ?_))); (case side4 => exact (Kd.V_reads' HO_12.out).2.1); rintro e w' ⟨rfl, ⟨nd, rfl⟩⟩; obtain ⟨Ao108, co108, eo108⟩ := Kd.R_slice HO_14.out; subst eo108; obtain ⟨Ao109, co109, eo109⟩ := Kd.V_slice HO_16.out; subst eo109) | (go_at_call 9; (with_reducible refine (bailiwickref03_Same.calls kj34 _ _ t339 _ _ t343 true _ ?side1 ?side2 ?side3 ?side4 A100.out).mono ?_); (case side1 => repeat (first | exact (Kd.R_reads' HO_14.out).2.2 | (with_reducible refine Kd.C_alloc ?_ _) | (with_reducible refine Kd.C_drewN ?_ _) | (with_reducible refine Kd.C_drew ?_))); (case side2 => exact (Kd.R_reads' HO_14.out).2.1); (case side3 => repeat (first | exact (Kd.V_reads' HO_16.out).2.2 | (with_reducible refine Kd.C_alloc ?_ _) | (with_reducible refine Kd.C_drewN ?_ _) | (with_reducible refine Kd.C_drew ?_))); (case side4 => exact (Kd.V_reads' HO_16.out).2.1); rintro e w' ⟨rfl, ⟨nd, rfl⟩⟩) | (go_at_call 9; (with_reducible refine (bailiwickref03_Same.calls kj34 _ _ y328 _ _ l0 t367 _ ?side1 ?side2 ?side3 ?side4 A103.out).mono ?_); (case side1 => repeat (first | exact (Kd.R_reads' HO_9.out).2.2 | (with_reducible refine Kd.C_alloc ?_ _) | (with_reducible refine Kd.C_drewN ?_ _) | (with_reducible refine Kd.C_drew ?_))); (case side2 => exact (Kd.R_reads' HO_9.out).2.1); (case side3 => repeat (first | exact (Kd.C_below HR0.out (by repeat (first | (with_reducible first | exact HB.out | apply below_alloc | apply pw_below_drewN | apply below_drew1) | exact HB.out))) | (with_reducible refine Kd.C_alloc ?_ _) | (with_reducible refine Kd.C_drewN ?_ _) | (with_reducible refine Kd.C_drew ?_))); (case side4 => exact HC0.out); rintro e w' ⟨rfl, ⟨nd, rfl⟩⟩))
  go_ret
  exact ⟨by first | rfl | (simp [errW_none, errW_some] <;> rfl) | (simp [*, errW_none, errW_some] <;> rfl), by repeat (first | (with_reducible first | exact HB.out | apply below_alloc | apply pw_below_drewN | apply below_drew1) | exact HB.out)⟩

end Go.Proofs.Ytpekjfmlpogfaaa.PAll
