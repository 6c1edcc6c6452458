-- Written by wip/tools/hprint.py of this claim's session (a driver over the kit's print, with contracts proved by hand among them).
import Derived.Test.YtpekjfmlpogfaaaPAllx0
import Derived.Test.YtpekjfmlpogfaaaPAllx3
import Derived.Test.YtpekjfmlpogfaaaPAllx8
import Derived.Test.YtpekjfmlpogfaaaPAllx9
import Derived.Test.YtpekjfmlpogfaaaPAllx10
import Derived.Test.YtpekjfmlpogfaaaPAllx11
import Derived.Test.YtpekjfmlpogfaaaPAllx24
import Derived.Test.YtpekjfmlpogfaaaPAllx28
import Derived.Test.YtpekjfmlpogfaaaPAllx29
import Derived.Test.YtpekjfmlpogfaaaPAllx30
import Derived.Test.YtpekjfmlpogfaaaPAllx32
namespace Go.Proofs.Ytpekjfmlpogfaaa.PAll
open Go.RowKit Go.Proofs.YtpekjfmlpogfaaaW.PrintWords Go.Proofs.YtpekjfmlpogfaaaW.PrintLast Go.Proofs.YtpekjfmlpogfaaaW.PrintMore
attribute [local go_sem] max2_int min2_int max_two min_two max_three min_three max_four min_four   -- for this text's walks alone
set_option linter.unusedVariables false
set_option linter.unusedSimpArgs false

/-! ### bailiwicklaw04_PoolsOne: function 5 -/
def bailiwicklaw04_PoolsOne.j0 : Nat → List (S38) → Int → List (List (S38)) → List (List (S38)) → Int → List (S38) → Int → Bool → Option (Bool)
  | 0, _, _, _, _, _, _, _, _ => none
  | k + 1, x0, x1, x9, x10, x11, x12, x13, x79 => if x79 = true then (none) else ((step_Right.f k x0).bind fun t494 => (if t494 = true then ((pools_At.f k x9 x1).bind fun t495 => (if x11 = x13 then (if 0 < (x10.length : Int) then ((bailiwickref03_Same.f k (rd_L2 x10 0) x12).bind fun t499 => (if t499 = true then (if (t495.length : Int) = 1 then (if 0 < (t495.length : Int) then ((step_At.f k x0 x1).bind fun t501 => (some ((rd t495 0) == t501))) else (none)) else (none)) else (none))) else (none)) else (none))) else (if x11 = 1 then ((pools_At.f k x9 x1).bind fun t502 => (some ((t502.length : Int) == 0))) else (none))))
def bailiwicklaw04_PoolsOne.f (k : Nat) (l0 : List (S38)) (a1 : Int) (a2 : Int) (a3 : Int) : Option (Bool) := (bailiwicklaw04_awake.f k).bind fun t470 => (if t470 = true then (if (l0.length : Int) > 100 then (some true) else ((some (([l0] : List (List (S38))) : List (List (S38)))).bind fun y471 => ((pools_Take.f k y471 a1 a2 (([a3] : List Int))).bind fun bt477 => ((step_Take.f k l0 a1 a2 a3).bind fun bt481 => ((pools_First.f k y471 a1 a2 (([a3] : List Int))).bind fun bt488 => ((step_First.f k l0 a1 a2 a3).bind fun bt490 => ((pools_Right.f k y471).bind fun t492 => ((step_Right.f k l0).bind fun t493 => (if t492 = true then (if t493 = true then (if bt488.1 = bt490.1 then (if bt488.2 = true then (if bt490.2 = true then (bailiwicklaw04_PoolsOne.j0 k l0 a1 y471 bt477.1 bt477.2 bt481.1 bt481.2 ((bt477.1.length : Int) != 1)) else (bailiwicklaw04_PoolsOne.j0 k l0 a1 y471 bt477.1 bt477.2 bt481.1 bt481.2 true)) else (if bt490.2 = true then (bailiwicklaw04_PoolsOne.j0 k l0 a1 y471 bt477.1 bt477.2 bt481.1 bt481.2 true) else (bailiwicklaw04_PoolsOne.j0 k l0 a1 y471 bt477.1 bt477.2 bt481.1 bt481.2 ((bt477.1.length : Int) != 1)))) else (bailiwicklaw04_PoolsOne.j0 k l0 a1 y471 bt477.1 bt477.2 bt481.1 bt481.2 true)) else (bailiwicklaw04_PoolsOne.j0 k l0 a1 y471 bt477.1 bt477.2 bt481.1 bt481.2 true)) else (if t493 = true then (bailiwicklaw04_PoolsOne.j0 k l0 a1 y471 bt477.1 bt477.2 bt481.1 bt481.2 true) else (if bt488.1 = bt490.1 then (if bt488.2 = true then (if bt490.2 = true then (bailiwicklaw04_PoolsOne.j0 k l0 a1 y471 bt477.1 bt477.2 bt481.1 bt481.2 ((bt477.1.length : Int) != 1)) else (bailiwicklaw04_PoolsOne.j0 k l0 a1 y471 bt477.1 bt477.2 bt481.1 bt481.2 true)) else (if bt490.2 = true then (bailiwicklaw04_PoolsOne.j0 k l0 a1 y471 bt477.1 bt477.2 bt481.1 bt481.2 true) else (bailiwicklaw04_PoolsOne.j0 k l0 a1 y471 bt477.1 bt477.2 bt481.1 bt481.2 ((bt477.1.length : Int) != 1)))) else (bailiwicklaw04_PoolsOne.j0 k l0 a1 y471 bt477.1 bt477.2 bt481.1 bt481.2 true)))))))))))) else (none))
theorem bailiwicklaw04_PoolsOne.mono_l : ∀ k, (∀ y0 y1 y2 y3 y4 y5 y6 y7, LeO (bailiwicklaw04_PoolsOne.j0 k y0 y1 y2 y3 y4 y5 y6 y7) (bailiwicklaw04_PoolsOne.j0 (k + 1) y0 y1 y2 y3 y4 y5 y6 y7))
  | 0 => fun _ _ _ _ _ _ _ _ r h => by simp [bailiwicklaw04_PoolsOne.j0] at h
  | k + 1 => by
    have ih0 := bailiwicklaw04_PoolsOne.mono_l k
    · intro y0 y1 y2 y3 y4 y5 y6 y7
      unfold bailiwicklaw04_PoolsOne.j0
      repeat' first
      | (with_reducible exact ih0 _ _ _ _ _ _ _ _)
      | (with_reducible exact bailiwicklaw04_awake.mono _)
      | (with_reducible exact bailiwickref03_Same.mono _ _ _)
      | (with_reducible exact pools_At.mono _ _ _)
      | (with_reducible exact pools_First.mono _ _ _ _ _)
      | (with_reducible exact pools_Right.mono _ _)
      | (with_reducible exact pools_Take.mono _ _ _ _ _)
      | (with_reducible exact step_At.mono _ _ _)
      | (with_reducible exact step_First.mono _ _ _ _ _)
      | (with_reducible exact step_Right.mono _ _)
      | (with_reducible exact step_Take.mono _ _ _ _ _)
      | (with_reducible exact LeO.refl _)
      | (with_reducible exact LeO.none _)
      | (with_reducible refine LeO.ite ?_ ?_)
      | (with_reducible refine LeO.bind ?_ (fun _ => ?_))
      | exact ih0 _ _ _ _ _ _ _ _
      | exact bailiwicklaw04_awake.mono _
      | exact bailiwickref03_Same.mono _ _ _
      | exact pools_At.mono _ _ _
      | exact pools_First.mono _ _ _ _ _
      | exact pools_Right.mono _ _
      | exact pools_Take.mono _ _ _ _ _
      | exact step_At.mono _ _ _
      | exact step_First.mono _ _ _ _ _
      | exact step_Right.mono _ _
      | exact step_Take.mono _ _ _ _ _
      | exact LeO.none _
      | refine LeO.ite ?_ ?_
      | refine LeO.bind ?_ (fun _ => ?_)
theorem bailiwicklaw04_PoolsOne.mono : ∀ a0 a1 a2 a3 k, LeO (bailiwicklaw04_PoolsOne.f k a0 a1 a2 a3) (bailiwicklaw04_PoolsOne.f (k + 1) a0 a1 a2 a3) := by
  intro a0 a1 a2 a3 k
  have ih0 := bailiwicklaw04_PoolsOne.mono_l k
  unfold bailiwicklaw04_PoolsOne.f
  repeat' first
      | (with_reducible exact ih0 _ _ _ _ _ _ _ _)
      | (with_reducible exact bailiwicklaw04_awake.mono _)
      | (with_reducible exact bailiwickref03_Same.mono _ _ _)
      | (with_reducible exact pools_At.mono _ _ _)
      | (with_reducible exact pools_First.mono _ _ _ _ _)
      | (with_reducible exact pools_Right.mono _ _)
      | (with_reducible exact pools_Take.mono _ _ _ _ _)
      | (with_reducible exact step_At.mono _ _ _)
      | (with_reducible exact step_First.mono _ _ _ _ _)
      | (with_reducible exact step_Right.mono _ _)
      | (with_reducible exact step_Take.mono _ _ _ _ _)
      | (with_reducible exact LeO.refl _)
      | (with_reducible exact LeO.none _)
      | (with_reducible refine LeO.ite ?_ ?_)
      | (with_reducible refine LeO.bind ?_ (fun _ => ?_))
      | exact ih0 _ _ _ _ _ _ _ _
      | exact bailiwicklaw04_awake.mono _
      | exact bailiwickref03_Same.mono _ _ _
      | exact pools_At.mono _ _ _
      | exact pools_First.mono _ _ _ _ _
      | exact pools_Right.mono _ _
      | exact pools_Take.mono _ _ _ _ _
      | exact step_At.mono _ _ _
      | exact step_First.mono _ _ _ _ _
      | exact step_Right.mono _ _
      | exact step_Take.mono _ _ _ _ _
      | exact LeO.none _
      | refine LeO.ite ?_ ?_
      | refine LeO.bind ?_ (fun _ => ?_)
def bailiwicklaw04_PoolsOne.T15 : Bool × List (List Nat × List Nat) := (true, [([], []), ([], []), ([0, 1], [0, 1]), ([2], [2]), ([3], [3]), ([4, 3], [3, 4]), ([5, 3], [3, 5]), ([3], [3]), ([6, 7, 3, 3], [3, 6, 7]), ([3, 8], [3, 8]), ([9, 8], [9]), ([10], [10]), ([11, 10], [10, 11]), ([12, 10], [10, 12]), ([10, 13], [10, 13]), ([14, 10], [14]), ([15], [15]), ([16, 15], [15, 16]), ([17, 15], [15, 17]), ([15], [15]), ([15], [15]), ([19, 20, 15, 15], [15, 19, 20]), ([18, 21, 15], [15, 18, 21]), ([15, 22], [15, 22]), ([23, 21, 0, 1, 2, 3, 4, 5, 6, 7, 8, 9, 10, 11, 12, 13, 14, 15, 16, 17, 18, 19, 20, 21, 22, 23], [23])])
def bailiwicklaw04_PoolsOne.B15 : List Nat := [0, 0, 3, 7, 15, 31, 63, 15, 255, 511, 1023, 2047, 4095, 8191, 16383, 32767, 65535, 131071, 262143, 65535, 65535, 1638399, 4194303, 8388607, 16777215]
theorem bailiwicklaw04_PoolsOne.tab15 : rtab .any (opsOf Try.f5 15) = bailiwicklaw04_PoolsOne.T15 := by kernel_rfl
theorem bailiwicklaw04_PoolsOne.bits15 : waitsOk bailiwicklaw04_PoolsOne.T15.2 bailiwicklaw04_PoolsOne.B15 = true := by kernel_rfl
set_option maxHeartbeats 8000000 in
set_option maxRecDepth 100000 in
theorem bailiwicklaw04_PoolsOne.calls (k : Nat) (P0_ : Nat → Prop) (A0 : Option Addr) (c0 : Nat) (l0 : List (S38)) (a1 : Int) (a2 : Int) (a3 : Int) (r : Bool) (w : World) (hs0 : Kd.V k38 38 w w.heap.size (fun k_ => P0_ k_) (.slice A0 l0.length c0) l0) (h : bailiwicklaw04_PoolsOne.f k l0 a1 a2 a3 = some r) :
    Calls Try.prog 5 #[.slice A0 l0.length c0, .int .i64 a1, .int .i64 a2, .int .i64 a3] w fun e w' => e = .returned (.bool r) ∧ Below w.heap.size w w' := by
  have HO0 := Aside0.mk (show Kd.V k38 38 w w.heap.size (fun k_ => (P0_ k_ ∨ w.heap.size ≤ k_)) (.slice A0 l0.length c0) l0 from Kd.V_mono hs0 (fun k_ hk => .inl hk))
  have HB := Aside0.mk (Below.refl w.heap.size w)
  have H : ((bailiwicklaw04_awake.f k).bind fun t470 => (if t470 = true then (if (l0.length : Int) > 100 then (some true) else ((some (([l0] : List (List (S38))) : List (List (S38)))).bind fun y471 => ((pools_Take.f k y471 a1 a2 (([a3] : List Int))).bind fun bt477 => ((step_Take.f k l0 a1 a2 a3).bind fun bt481 => ((pools_First.f k y471 a1 a2 (([a3] : List Int))).bind fun bt488 => ((step_First.f k l0 a1 a2 a3).bind fun bt490 => ((pools_Right.f k y471).bind fun t492 => ((step_Right.f k l0).bind fun t493 => (if t492 = true then (if t493 = true then (if bt488.1 = bt490.1 then (if bt488.2 = true then (if bt490.2 = true then (bailiwicklaw04_PoolsOne.j0 k l0 a1 y471 bt477.1 bt477.2 bt481.1 bt481.2 ((bt477.1.length : Int) != 1)) else (bailiwicklaw04_PoolsOne.j0 k l0 a1 y471 bt477.1 bt477.2 bt481.1 bt481.2 true)) else (if bt490.2 = true then (bailiwicklaw04_PoolsOne.j0 k l0 a1 y471 bt477.1 bt477.2 bt481.1 bt481.2 true) else (bailiwicklaw04_PoolsOne.j0 k l0 a1 y471 bt477.1 bt477.2 bt481.1 bt481.2 ((bt477.1.length : Int) != 1)))) else (bailiwicklaw04_PoolsOne.j0 k l0 a1 y471 bt477.1 bt477.2 bt481.1 bt481.2 true)) else (bailiwicklaw04_PoolsOne.j0 k l0 a1 y471 bt477.1 bt477.2 bt481.1 bt481.2 true)) else (if t493 = true then (bailiwicklaw04_PoolsOne.j0 k l0 a1 y471 bt477.1 bt477.2 bt481.1 bt481.2 true) else (if bt488.1 = bt490.1 then (if bt488.2 = true then (if bt490.2 = true then (bailiwicklaw04_PoolsOne.j0 k l0 a1 y471 bt477.1 bt477.2 bt481.1 bt481.2 ((bt477.1.length : Int) != 1)) else (bailiwicklaw04_PoolsOne.j0 k l0 a1 y471 bt477.1 bt477.2 bt481.1 bt481.2 true)) else (if bt490.2 = true then (bailiwicklaw04_PoolsOne.j0 k l0 a1 y471 bt477.1 bt477.2 bt481.1 bt481.2 true) else (bailiwicklaw04_PoolsOne.j0 k l0 a1 y471 bt477.1 bt477.2 bt481.1 bt481.2 ((bt477.1.length : Int) != 1)))) else (bailiwicklaw04_PoolsOne.j0 k l0 a1 y471 bt477.1 bt477.2 bt481.1 bt481.2 true)))))))))))) else (none))) = some r := h
  clear h
  replace H := Option.bind_eq_some_iff.mp H
  obtain ⟨t470, A50, H⟩ := H
  replace H : (if t470 = true then (if (l0.length : Int) > 100 then (some true) else ((some (([l0] : List (List (S38))) : List (List (S38)))).bind fun y471 => ((pools_Take.f k y471 a1 a2 (([a3] : List Int))).bind fun bt477 => ((step_Take.f k l0 a1 a2 a3).bind fun bt481 => ((pools_First.f k y471 a1 a2 (([a3] : List Int))).bind fun bt488 => ((step_First.f k l0 a1 a2 a3).bind fun bt490 => ((pools_Right.f k y471).bind fun t492 => ((step_Right.f k l0).bind fun t493 => (if t492 = true then (if t493 = true then (if bt488.1 = bt490.1 then (if bt488.2 = true then (if bt490.2 = true then (bailiwicklaw04_PoolsOne.j0 k l0 a1 y471 bt477.1 bt477.2 bt481.1 bt481.2 ((bt477.1.length : Int) != 1)) else (bailiwicklaw04_PoolsOne.j0 k l0 a1 y471 bt477.1 bt477.2 bt481.1 bt481.2 true)) else (if bt490.2 = true then (bailiwicklaw04_PoolsOne.j0 k l0 a1 y471 bt477.1 bt477.2 bt481.1 bt481.2 true) else (bailiwicklaw04_PoolsOne.j0 k l0 a1 y471 bt477.1 bt477.2 bt481.1 bt481.2 ((bt477.1.length : Int) != 1)))) else (bailiwicklaw04_PoolsOne.j0 k l0 a1 y471 bt477.1 bt477.2 bt481.1 bt481.2 true)) else (bailiwicklaw04_PoolsOne.j0 k l0 a1 y471 bt477.1 bt477.2 bt481.1 bt481.2 true)) else (if t493 = true then (bailiwicklaw04_PoolsOne.j0 k l0 a1 y471 bt477.1 bt477.2 bt481.1 bt481.2 true) else (if bt488.1 = bt490.1 then (if bt488.2 = true then (if bt490.2 = true then (bailiwicklaw04_PoolsOne.j0 k l0 a1 y471 bt477.1 bt477.2 bt481.1 bt481.2 ((bt477.1.length : Int) != 1)) else (bailiwicklaw04_PoolsOne.j0 k l0 a1 y471 bt477.1 bt477.2 bt481.1 bt481.2 true)) else (if bt490.2 = true then (bailiwicklaw04_PoolsOne.j0 k l0 a1 y471 bt477.1 bt477.2 bt481.1 bt481.2 true) else (bailiwicklaw04_PoolsOne.j0 k l0 a1 y471 bt477.1 bt477.2 bt481.1 bt481.2 ((bt477.1.length : Int) != 1)))) else (bailiwicklaw04_PoolsOne.j0 k l0 a1 y471 bt477.1 bt477.2 bt481.1 bt481.2 true)))))))))))) else (none)) = some r := H
  have A5 := Aside0.mk A50
  clear A50
  by_cases c6 : t470 = true
  rotate_left
  · replace c6 := Bool.eq_false_iff.mpr c6
    subst c6
    have H1 : (none) = some r := by rw [if_neg (show ¬ (false = true) by decide)] at H; exact H
    clear H
    have H := H1
    clear H1
    exact absurd H (by simp)
  subst c6
  have H1 : (if (l0.length : Int) > 100 then (some true) else ((some (([l0] : List (List (S38))) : List (List (S38)))).bind fun y471 => ((pools_Take.f k y471 a1 a2 (([a3] : List Int))).bind fun bt477 => ((step_Take.f k l0 a1 a2 a3).bind fun bt481 => ((pools_First.f k y471 a1 a2 (([a3] : List Int))).bind fun bt488 => ((step_First.f k l0 a1 a2 a3).bind fun bt490 => ((pools_Right.f k y471).bind fun t492 => ((step_Right.f k l0).bind fun t493 => (if t492 = true then (if t493 = true then (if bt488.1 = bt490.1 then (if bt488.2 = true then (if bt490.2 = true then (bailiwicklaw04_PoolsOne.j0 k l0 a1 y471 bt477.1 bt477.2 bt481.1 bt481.2 ((bt477.1.length : Int) != 1)) else (bailiwicklaw04_PoolsOne.j0 k l0 a1 y471 bt477.1 bt477.2 bt481.1 bt481.2 true)) else (if bt490.2 = true then (bailiwicklaw04_PoolsOne.j0 k l0 a1 y471 bt477.1 bt477.2 bt481.1 bt481.2 true) else (bailiwicklaw04_PoolsOne.j0 k l0 a1 y471 bt477.1 bt477.2 bt481.1 bt481.2 ((bt477.1.length : Int) != 1)))) else (bailiwicklaw04_PoolsOne.j0 k l0 a1 y471 bt477.1 bt477.2 bt481.1 bt481.2 true)) else (bailiwicklaw04_PoolsOne.j0 k l0 a1 y471 bt477.1 bt477.2 bt481.1 bt481.2 true)) else (if t493 = true then (bailiwicklaw04_PoolsOne.j0 k l0 a1 y471 bt477.1 bt477.2 bt481.1 bt481.2 true) else (if bt488.1 = bt490.1 then (if bt488.2 = true then (if bt490.2 = true then (bailiwicklaw04_PoolsOne.j0 k l0 a1 y471 bt477.1 bt477.2 bt481.1 bt481.2 ((bt477.1.length : Int) != 1)) else (bailiwicklaw04_PoolsOne.j0 k l0 a1 y471 bt477.1 bt477.2 bt481.1 bt481.2 true)) else (if bt490.2 = true then (bailiwicklaw04_PoolsOne.j0 k l0 a1 y471 bt477.1 bt477.2 bt481.1 bt481.2 true) else (bailiwicklaw04_PoolsOne.j0 k l0 a1 y471 bt477.1 bt477.2 bt481.1 bt481.2 ((bt477.1.length : Int) != 1)))) else (bailiwicklaw04_PoolsOne.j0 k l0 a1 y471 bt477.1 bt477.2 bt481.1 bt481.2 true)))))))))))) = some r := by rw [if_pos rfl] at H; exact H
  clear H
  have H := H1
  clear H1
  by_cases c7 : (l0.length : Int) > 100
  · rw [if_pos c7] at H
    have c7b0 : decide (100 < (l0.length : Int)) = true := decide_eq_true c7
    have c7b1 : decide (100 < l0.length) = true := decide_eq_true (by omega)
    clear c7
    obtain rfl := Option.some.inj H
    go_enter Try.func5, Try.ntmps5
    go_wp2_with (first | ((with_reducible refine gate_callee (f := 22) rfl ?_); refine goesL_ (some 19) rfl rfl Try.func22 (by kernel_rfl) rfl #[] rfl (by (try simp only [List.map_toArray, List.map_cons, List.map_nil]); first | done | rfl) ?_; (with_reducible refine (bailiwicklaw04_awake.calls k  true _ A5.out).mono ?_); rintro e w8 ⟨rfl, hb⟩; refine ⟨_, rfl, ?_⟩; have n0_ := Aside0.mk (Kd.V_below (by (with_reducible repeat (first | apply Kd.V_alloc | apply Kd.V_drewN | apply Kd.V_drew)); exact HO0.out) hb); have n1_ := Aside0.mk (below_step (by repeat (first | (with_reducible first | exact HB.out | apply below_alloc | apply pw_below_drewN | apply below_drew1) | exact HB.out)) hb); clear HO0; clear HB; have HO0 := n0_; have HB := n1_; clear n0_ n1_; (try clear hb); (try clear hb2); (try clear hk); (try clear hi)))
    go_ret
    exact ⟨by first | rfl | (simp [errW_none, errW_some] <;> rfl) | (simp [*, errW_none, errW_some] <;> rfl), by repeat (first | (with_reducible first | exact HB.out | apply below_alloc | apply pw_below_drewN | apply below_drew1) | exact HB.out)⟩
  rw [if_neg c7] at H
  have c7b0 : decide (100 < (l0.length : Int)) = false := decide_eq_false c7
  have c7b1 : decide (100 < l0.length) = false := decide_eq_false (by omega)
  clear c7
  obtain ⟨y471, hy471⟩ : ∃ y_ : List (List (S38)), y_ = (([l0] : List (List (S38)))) := ⟨_, rfl⟩
  replace H : ((pools_Take.f k y471 a1 a2 (([a3] : List Int))).bind fun bt477 => ((step_Take.f k l0 a1 a2 a3).bind fun bt481 => ((pools_First.f k y471 a1 a2 (([a3] : List Int))).bind fun bt488 => ((step_First.f k l0 a1 a2 a3).bind fun bt490 => ((pools_Right.f k y471).bind fun t492 => ((step_Right.f k l0).bind fun t493 => (if t492 = true then (if t493 = true then (if bt488.1 = bt490.1 then (if bt488.2 = true then (if bt490.2 = true then (bailiwicklaw04_PoolsOne.j0 k l0 a1 y471 bt477.1 bt477.2 bt481.1 bt481.2 ((bt477.1.length : Int) != 1)) else (bailiwicklaw04_PoolsOne.j0 k l0 a1 y471 bt477.1 bt477.2 bt481.1 bt481.2 true)) else (if bt490.2 = true then (bailiwicklaw04_PoolsOne.j0 k l0 a1 y471 bt477.1 bt477.2 bt481.1 bt481.2 true) else (bailiwicklaw04_PoolsOne.j0 k l0 a1 y471 bt477.1 bt477.2 bt481.1 bt481.2 ((bt477.1.length : Int) != 1)))) else (bailiwicklaw04_PoolsOne.j0 k l0 a1 y471 bt477.1 bt477.2 bt481.1 bt481.2 true)) else (bailiwicklaw04_PoolsOne.j0 k l0 a1 y471 bt477.1 bt477.2 bt481.1 bt481.2 true)) else (if t493 = true then (bailiwicklaw04_PoolsOne.j0 k l0 a1 y471 bt477.1 bt477.2 bt481.1 bt481.2 true) else (if bt488.1 = bt490.1 then (if bt488.2 = true then (if bt490.2 = true then (bailiwicklaw04_PoolsOne.j0 k l0 a1 y471 bt477.1 bt477.2 bt481.1 bt481.2 ((bt477.1.length : Int) != 1)) else (bailiwicklaw04_PoolsOne.j0 k l0 a1 y471 bt477.1 bt477.2 bt481.1 bt481.2 true)) else (if bt490.2 = true then (bailiwicklaw04_PoolsOne.j0 k l0 a1 y471 bt477.1 bt477.2 bt481.1 bt481.2 true) else (bailiwicklaw04_PoolsOne.j0 k l0 a1 y471 bt477.1 bt477.2 bt481.1 bt481.2 ((bt477.1.length : Int) != 1)))) else (bailiwicklaw04_PoolsOne.j0 k l0 a1 y471 bt477.1 bt477.2 bt481.1 bt481.2 true)))))))))) = some r := by first | (rw [hy471]; with_reducible exact H) | (have H2_ := (Option.bind_some _ _).symm.trans H; rw [hy471]; with_reducible exact H2_) | (have H2_ := (Option.bind_some _ _).symm.trans H; with_reducible exact H2_) | with_reducible exact H | (rw [hy471]; exact H) | exact H
  have Ny471 := Aside0.mk hy471
  clear hy471
  obtain ⟨y474, hy474⟩ : ∃ y_ : List Int, y_ = (([a3] : List Int)) := ⟨_, rfl⟩
  replace H : ((pools_Take.f k y471 a1 a2 y474).bind fun bt477 => ((step_Take.f k l0 a1 a2 a3).bind fun bt481 => ((pools_First.f k y471 a1 a2 (([a3] : List Int))).bind fun bt488 => ((step_First.f k l0 a1 a2 a3).bind fun bt490 => ((pools_Right.f k y471).bind fun t492 => ((step_Right.f k l0).bind fun t493 => (if t492 = true then (if t493 = true then (if bt488.1 = bt490.1 then (if bt488.2 = true then (if bt490.2 = true then (bailiwicklaw04_PoolsOne.j0 k l0 a1 y471 bt477.1 bt477.2 bt481.1 bt481.2 ((bt477.1.length : Int) != 1)) else (bailiwicklaw04_PoolsOne.j0 k l0 a1 y471 bt477.1 bt477.2 bt481.1 bt481.2 true)) else (if bt490.2 = true then (bailiwicklaw04_PoolsOne.j0 k l0 a1 y471 bt477.1 bt477.2 bt481.1 bt481.2 true) else (bailiwicklaw04_PoolsOne.j0 k l0 a1 y471 bt477.1 bt477.2 bt481.1 bt481.2 ((bt477.1.length : Int) != 1)))) else (bailiwicklaw04_PoolsOne.j0 k l0 a1 y471 bt477.1 bt477.2 bt481.1 bt481.2 true)) else (bailiwicklaw04_PoolsOne.j0 k l0 a1 y471 bt477.1 bt477.2 bt481.1 bt481.2 true)) else (if t493 = true then (bailiwicklaw04_PoolsOne.j0 k l0 a1 y471 bt477.1 bt477.2 bt481.1 bt481.2 true) else (if bt488.1 = bt490.1 then (if bt488.2 = true then (if bt490.2 = true then (bailiwicklaw04_PoolsOne.j0 k l0 a1 y471 bt477.1 bt477.2 bt481.1 bt481.2 ((bt477.1.length : Int) != 1)) else (bailiwicklaw04_PoolsOne.j0 k l0 a1 y471 bt477.1 bt477.2 bt481.1 bt481.2 true)) else (if bt490.2 = true then (bailiwicklaw04_PoolsOne.j0 k l0 a1 y471 bt477.1 bt477.2 bt481.1 bt481.2 true) else (bailiwicklaw04_PoolsOne.j0 k l0 a1 y471 bt477.1 bt477.2 bt481.1 bt481.2 ((bt477.1.length : Int) != 1)))) else (bailiwicklaw04_PoolsOne.j0 k l0 a1 y471 bt477.1 bt477.2 bt481.1 bt481.2 true)))))))))) = some r := by first | (rw [hy474]; with_reducible exact H) | (have H2_ := (Option.bind_some _ _).symm.trans H; rw [hy474]; with_reducible exact H2_) | (have H2_ := (Option.bind_some _ _).symm.trans H; with_reducible exact H2_) | with_reducible exact H | (rw [hy474]; exact H) | exact H
  have Ny474 := Aside0.mk hy474
  clear hy474
  replace H := Option.bind_eq_some_iff.mp H
  obtain ⟨⟨t477, t478⟩, A90, H⟩ := H
  replace H : ((step_Take.f k l0 a1 a2 a3).bind fun bt481 => ((pools_First.f k y471 a1 a2 (([a3] : List Int))).bind fun bt488 => ((step_First.f k l0 a1 a2 a3).bind fun bt490 => ((pools_Right.f k y471).bind fun t492 => ((step_Right.f k l0).bind fun t493 => (if t492 = true then (if t493 = true then (if bt488.1 = bt490.1 then (if bt488.2 = true then (if bt490.2 = true then (bailiwicklaw04_PoolsOne.j0 k l0 a1 y471 t477 t478 bt481.1 bt481.2 ((t477.length : Int) != 1)) else (bailiwicklaw04_PoolsOne.j0 k l0 a1 y471 t477 t478 bt481.1 bt481.2 true)) else (if bt490.2 = true then (bailiwicklaw04_PoolsOne.j0 k l0 a1 y471 t477 t478 bt481.1 bt481.2 true) else (bailiwicklaw04_PoolsOne.j0 k l0 a1 y471 t477 t478 bt481.1 bt481.2 ((t477.length : Int) != 1)))) else (bailiwicklaw04_PoolsOne.j0 k l0 a1 y471 t477 t478 bt481.1 bt481.2 true)) else (bailiwicklaw04_PoolsOne.j0 k l0 a1 y471 t477 t478 bt481.1 bt481.2 true)) else (if t493 = true then (bailiwicklaw04_PoolsOne.j0 k l0 a1 y471 t477 t478 bt481.1 bt481.2 true) else (if bt488.1 = bt490.1 then (if bt488.2 = true then (if bt490.2 = true then (bailiwicklaw04_PoolsOne.j0 k l0 a1 y471 t477 t478 bt481.1 bt481.2 ((t477.length : Int) != 1)) else (bailiwicklaw04_PoolsOne.j0 k l0 a1 y471 t477 t478 bt481.1 bt481.2 true)) else (if bt490.2 = true then (bailiwicklaw04_PoolsOne.j0 k l0 a1 y471 t477 t478 bt481.1 bt481.2 true) else (bailiwicklaw04_PoolsOne.j0 k l0 a1 y471 t477 t478 bt481.1 bt481.2 ((t477.length : Int) != 1)))) else (bailiwicklaw04_PoolsOne.j0 k l0 a1 y471 t477 t478 bt481.1 bt481.2 true))))))))) = some r := H
  have A9 := Aside0.mk A90
  clear A90
  replace H := Option.bind_eq_some_iff.mp H
  obtain ⟨⟨t481, t482⟩, A100, H⟩ := H
  replace H : ((pools_First.f k y471 a1 a2 (([a3] : List Int))).bind fun bt488 => ((step_First.f k l0 a1 a2 a3).bind fun bt490 => ((pools_Right.f k y471).bind fun t492 => ((step_Right.f k l0).bind fun t493 => (if t492 = true then (if t493 = true then (if bt488.1 = bt490.1 then (if bt488.2 = true then (if bt490.2 = true then (bailiwicklaw04_PoolsOne.j0 k l0 a1 y471 t477 t478 t481 t482 ((t477.length : Int) != 1)) else (bailiwicklaw04_PoolsOne.j0 k l0 a1 y471 t477 t478 t481 t482 true)) else (if bt490.2 = true then (bailiwicklaw04_PoolsOne.j0 k l0 a1 y471 t477 t478 t481 t482 true) else (bailiwicklaw04_PoolsOne.j0 k l0 a1 y471 t477 t478 t481 t482 ((t477.length : Int) != 1)))) else (bailiwicklaw04_PoolsOne.j0 k l0 a1 y471 t477 t478 t481 t482 true)) else (bailiwicklaw04_PoolsOne.j0 k l0 a1 y471 t477 t478 t481 t482 true)) else (if t493 = true then (bailiwicklaw04_PoolsOne.j0 k l0 a1 y471 t477 t478 t481 t482 true) else (if bt488.1 = bt490.1 then (if bt488.2 = true then (if bt490.2 = true then (bailiwicklaw04_PoolsOne.j0 k l0 a1 y471 t477 t478 t481 t482 ((t477.length : Int) != 1)) else (bailiwicklaw04_PoolsOne.j0 k l0 a1 y471 t477 t478 t481 t482 true)) else (if bt490.2 = true then (bailiwicklaw04_PoolsOne.j0 k l0 a1 y471 t477 t478 t481 t482 true) else (bailiwicklaw04_PoolsOne.j0 k l0 a1 y471 t477 t478 t481 t482 ((t477.length : Int) != 1)))) else (bailiwicklaw04_PoolsOne.j0 k l0 a1 y471 t477 t478 t481 t482 true)))))))) = some r := H
  have A10 := Aside0.mk A100
  clear A100
  obtain ⟨y485, hy485⟩ : ∃ y_ : List Int, y_ = (([a3] : List Int)) := ⟨_, rfl⟩
  replace H : ((pools_First.f k y471 a1 a2 y485).bind fun bt488 => ((step_First.f k l0 a1 a2 a3).bind fun bt490 => ((pools_Right.f k y471).bind fun t492 => ((step_Right.f k l0).bind fun t493 => (if t492 = true then (if t493 = true then (if bt488.1 = bt490.1 then (if bt488.2 = true then (if bt490.2 = true then (bailiwicklaw04_PoolsOne.j0 k l0 a1 y471 t477 t478 t481 t482 ((t477.length : Int) != 1)) else (bailiwicklaw04_PoolsOne.j0 k l0 a1 y471 t477 t478 t481 t482 true)) else (if bt490.2 = true then (bailiwicklaw04_PoolsOne.j0 k l0 a1 y471 t477 t478 t481 t482 true) else (bailiwicklaw04_PoolsOne.j0 k l0 a1 y471 t477 t478 t481 t482 ((t477.length : Int) != 1)))) else (bailiwicklaw04_PoolsOne.j0 k l0 a1 y471 t477 t478 t481 t482 true)) else (bailiwicklaw04_PoolsOne.j0 k l0 a1 y471 t477 t478 t481 t482 true)) else (if t493 = true then (bailiwicklaw04_PoolsOne.j0 k l0 a1 y471 t477 t478 t481 t482 true) else (if bt488.1 = bt490.1 then (if bt488.2 = true then (if bt490.2 = true then (bailiwicklaw04_PoolsOne.j0 k l0 a1 y471 t477 t478 t481 t482 ((t477.length : Int) != 1)) else (bailiwicklaw04_PoolsOne.j0 k l0 a1 y471 t477 t478 t481 t482 true)) else (if bt490.2 = true then (bailiwicklaw04_PoolsOne.j0 k l0 a1 y471 t477 t478 t481 t482 true) else (bailiwicklaw04_PoolsOne.j0 k l0 a1 y471 t477 t478 t481 t482 ((t477.length : Int) != 1)))) else (bailiwicklaw04_PoolsOne.j0 k l0 a1 y471 t477 t478 t481 t482 true)))))))) = some r := by first | (rw [hy485]; with_reducible exact H) | (have H2_ := (Option.bind_some _ _).symm.trans H; rw [hy485]; with_reducible exact H2_) | (have H2_ := (Option.bind_some _ _).symm.trans H; with_reducible exact H2_) | with_reducible exact H | (rw [hy485]; exact H) | exact H
  have Ny485 := Aside0.mk hy485
  clear hy485
  replace H := Option.bind_eq_some_iff.mp H
  obtain ⟨⟨t488, t489⟩, A110, H⟩ := H
  replace H : ((step_First.f k l0 a1 a2 a3).bind fun bt490 => ((pools_Right.f k y471).bind fun t492 => ((step_Right.f k l0).bind fun t493 => (if t492 = true then (if t493 = true then (if t488 = bt490.1 then (if t489 = true then (if bt490.2 = true then (bailiwicklaw04_PoolsOne.j0 k l0 a1 y471 t477 t478 t481 t482 ((t477.length : Int) != 1)) else (bailiwicklaw04_PoolsOne.j0 k l0 a1 y471 t477 t478 t481 t482 true)) else (if bt490.2 = true then (bailiwicklaw04_PoolsOne.j0 k l0 a1 y471 t477 t478 t481 t482 true) else (bailiwicklaw04_PoolsOne.j0 k l0 a1 y471 t477 t478 t481 t482 ((t477.length : Int) != 1)))) else (bailiwicklaw04_PoolsOne.j0 k l0 a1 y471 t477 t478 t481 t482 true)) else (bailiwicklaw04_PoolsOne.j0 k l0 a1 y471 t477 t478 t481 t482 true)) else (if t493 = true then (bailiwicklaw04_PoolsOne.j0 k l0 a1 y471 t477 t478 t481 t482 true) else (if t488 = bt490.1 then (if t489 = true then (if bt490.2 = true then (bailiwicklaw04_PoolsOne.j0 k l0 a1 y471 t477 t478 t481 t482 ((t477.length : Int) != 1)) else (bailiwicklaw04_PoolsOne.j0 k l0 a1 y471 t477 t478 t481 t482 true)) else (if bt490.2 = true then (bailiwicklaw04_PoolsOne.j0 k l0 a1 y471 t477 t478 t481 t482 true) else (bailiwicklaw04_PoolsOne.j0 k l0 a1 y471 t477 t478 t481 t482 ((t477.length : Int) != 1)))) else (bailiwicklaw04_PoolsOne.j0 k l0 a1 y471 t477 t478 t481 t482 true))))))) = some r := H
  have A11 := Aside0.mk A110
  clear A110
  replace H := Option.bind_eq_some_iff.mp H
  obtain ⟨⟨t490, t491⟩, A120, H⟩ := H
  replace H : ((pools_Right.f k y471).bind fun t492 => ((step_Right.f k l0).bind fun t493 => (if t492 = true then (if t493 = true then (if t488 = t490 then (if t489 = true then (if t491 = true then (bailiwicklaw04_PoolsOne.j0 k l0 a1 y471 t477 t478 t481 t482 ((t477.length : Int) != 1)) else (bailiwicklaw04_PoolsOne.j0 k l0 a1 y471 t477 t478 t481 t482 true)) else (if t491 = true then (bailiwicklaw04_PoolsOne.j0 k l0 a1 y471 t477 t478 t481 t482 true) else (bailiwicklaw04_PoolsOne.j0 k l0 a1 y471 t477 t478 t481 t482 ((t477.length : Int) != 1)))) else (bailiwicklaw04_PoolsOne.j0 k l0 a1 y471 t477 t478 t481 t482 true)) else (bailiwicklaw04_PoolsOne.j0 k l0 a1 y471 t477 t478 t481 t482 true)) else (if t493 = true then (bailiwicklaw04_PoolsOne.j0 k l0 a1 y471 t477 t478 t481 t482 true) else (if t488 = t490 then (if t489 = true then (if t491 = true then (bailiwicklaw04_PoolsOne.j0 k l0 a1 y471 t477 t478 t481 t482 ((t477.length : Int) != 1)) else (bailiwicklaw04_PoolsOne.j0 k l0 a1 y471 t477 t478 t481 t482 true)) else (if t491 = true then (bailiwicklaw04_PoolsOne.j0 k l0 a1 y471 t477 t478 t481 t482 true) else (bailiwicklaw04_PoolsOne.j0 k l0 a1 y471 t477 t478 t481 t482 ((t477.length : Int) != 1)))) else (bailiwicklaw04_PoolsOne.j0 k l0 a1 y471 t477 t478 t481 t482 true)))))) = some r := H
  have A12 := Aside0.mk A120
  clear A120
  have HC13 := Aside0.mk H
  clear H
  go_enter Try.func5, Try.ntmps5
  go_upto_region 10 with (first | ((with_reducible refine gate_callee (f := 22) rfl ?_); refine goesL_ (some 19) rfl rfl Try.func22 (by kernel_rfl) rfl #[] rfl (by (try simp only [List.map_toArray, List.map_cons, List.map_nil]); first | done | rfl) ?_; (with_reducible refine (bailiwicklaw04_awake.calls k  true _ A5.out).mono ?_); rintro e w14 ⟨rfl, hb⟩; refine ⟨_, rfl, ?_⟩; have n0_ := Aside0.mk (Kd.V_below (by (with_reducible repeat (first | apply Kd.V_alloc | apply Kd.V_drewN | apply Kd.V_drew)); exact HO0.out) hb); have n1_ := Aside0.mk (below_step (by repeat (first | (with_reducible first | exact HB.out | apply below_alloc | apply pw_below_drewN | apply below_drew1) | exact HB.out)) hb); clear HO0; clear HB; have HO0 := n0_; have HB := n1_; clear n0_ n1_; (try clear hb); (try clear hb2); (try clear hk); (try clear hi)) | ((with_reducible refine gate_dst (N := 25) rfl ?_); (try (refine gate_guard (by rfl) ?_; dsimp only)); refine Kd.N_lit (Kd.slice 38 k38) _ 22 ?hg (N' := 25) ?hd (xs := ([l0] : List (List (S38)))) (inner := [.slice A0 l0.length c0]) (ok := (fun k_ => (P0_ k_ ∨ w.heap.size ≤ k_))) (okp := (fun k_ => (P0_ k_ ∨ w.heap.size ≤ k_))) ?hr ?hp (fun _ hk => hk) ((show ∀ k_, w14.heap.size ≤ k_ → (fun k_ => (P0_ k_ ∨ w.heap.size ≤ k_)) k_ from fun k_ hk => (.inr (Nat.le_trans (below_size (by repeat (first | (with_reducible first | exact HB.out | apply below_alloc | apply pw_below_drewN | apply below_drew1) | exact HB.out))) hk))) _ (Nat.le_refl _)) (Below.refl _ _) (Nat.le_refl _) (by simp) ?_; (case hd => rfl); (case hg => rfl); (case hr => first | (go_simp; done) | (go_simp; rfl)); (case hp => exact (Reps.one (show Kd.FK (Kd.slice 38 k38) _ _ l0 [.slice A0 l0.length c0] from (Kd.FK_slice_mk (Kd.V_reads' (Kd.V_mono (ok' := (fun k_ => (P0_ k_ ∨ w.heap.size ≤ k_))) (HO0.out) (fun k_ hk => hk))).2.1 (Kd.V_F (Kd.V_mono (ok' := (fun k_ => (P0_ k_ ∨ w.heap.size ≤ k_))) (HO0.out) (fun k_ hk => hk))))) (Reps.none _ _))); intro v472 w15 ho16 hb hg_ hnew_; clear hg_ hnew_; (first | rw [← Ny471.out] at ho16 | (simp only [Int.reduceToNat] at ho16; rw [← Ny471.out] at ho16)); have n0_ := Aside0.mk (Kd.V_elder' (by (with_reducible repeat (first | apply Kd.V_alloc | apply Kd.V_drewN | apply Kd.V_drew)); exact HO0.out) (Kd.N_base ho16) hb); have n1_ := Aside0.mk (Kd.N_lower ho16 (below_size (by repeat (first | (with_reducible first | exact HB.out | apply below_alloc | apply pw_below_drewN | apply below_drew1) | exact HB.out)))); have n2_ := Aside0.mk (below_step (by repeat (first | (with_reducible first | exact HB.out | apply below_alloc | apply pw_below_drewN | apply below_drew1) | exact HB.out)) hb); clear HO0; clear HB; have HO0 := n0_; have HO473 := n1_; have HB := n2_; clear n0_ n1_ n2_; clear hb ho16) | ((with_reducible refine gate_dst (N := 31) rfl ?_); (try (refine gate_guard (by rfl) ?_; dsimp only)); refine Kd.R_lit (Kd.int .i64) _ 3 ?hg (N := 31) ?hd (xs := ([a3] : List Int)) (inner := [.int .i64 a3]) (ok := fun _ => True) (okp := fun _ => True) ?hr ?hp (fun _ hk => hk) trivial (Below.refl _ _) (Nat.le_refl _) (by simp) ?_; (case hd => rfl); (case hg => rfl); (case hr => first | (go_simp; done) | (go_simp; rfl)); (case hp => exact (Reps.one (show Kd.M (Kd.int .i64) _ _ _ a3 [.int .i64 a3] from rfl) (Reps.none _ _))); intro v475 w17 ho18 hb hg_ hnew_; clear hg_ hnew_; (first | rw [← Ny474.out] at ho18 | (simp only [Int.reduceToNat] at ho18; rw [← Ny474.out] at ho18)); have n0_ := Aside0.mk (Kd.V_elder' (by (with_reducible repeat (first | apply Kd.V_alloc | apply Kd.V_drewN | apply Kd.V_drew)); exact HO0.out) (Kd.R_base ho18) hb); have n1_ := Aside0.mk (Kd.N_elder' (by (with_reducible repeat (first | apply Kd.N_alloc | apply Kd.N_drewN | apply Kd.N_drew)); exact HO473.out) (Kd.R_base ho18) hb); have n2_ := Aside0.mk (Kd.R_lower (Kd.R_newM (M := fun k_ => (w.heap.size ≤ k_)) ho18 (below_size (by repeat (first | (with_reducible first | exact HB.out | apply below_alloc | apply pw_below_drewN | apply below_drew1) | exact HB.out))) (fun k_ h_ => h_)) (below_size (by repeat (first | (with_reducible first | exact HB.out | apply below_alloc | apply pw_below_drewN | apply below_drew1) | exact HB.out)))); have n3_ := Aside0.mk (below_step (by repeat (first | (with_reducible first | exact HB.out | apply below_alloc | apply pw_below_drewN | apply below_drew1) | exact HB.out)) hb); clear HO0; clear HO473; clear HB; have HO0 := n0_; have HO473 := n1_; have HO476 := n2_; have HB := n3_; clear n0_ n1_ n2_ n3_; clear hb ho18; obtain ⟨Ao19, co19, eo19⟩ := Kd.N_slice HO473.out; subst eo19; obtain ⟨Ao20, co20, eo20⟩ := Kd.R_slice HO476.out; subst eo20) | ((with_reducible refine gate_callee (f := 23) rfl ?_); refine goesL_ (some 32) rfl rfl Try.func23 (by kernel_rfl) rfl #[.slice Ao19 y471.length co19, .int .i64 a1, .int .i64 a2, .slice Ao20 y474.length co20] rfl (by (try simp only [List.map_toArray, List.map_cons, List.map_nil]); first | done | rfl) ?_; (with_reducible refine (pools_Take.calls k _ _ y471 a1 a2 _ _ y474 t477 t478 _ ?side1 ?side2 ?side3 ?side4 A9.out).mono ?_); (case side1 => repeat (first | exact (Kd.N_reads' HO473.out).2.2 | (with_reducible refine Kd.C_alloc ?_ _) | (with_reducible refine Kd.C_drewN ?_ _) | (with_reducible refine Kd.C_drew ?_))); (case side2 => exact (Kd.N_reads' HO473.out).2.1); (case side3 => repeat (first | exact (Kd.R_reads' HO476.out).2.2 | (with_reducible refine Kd.C_alloc ?_ _) | (with_reducible refine Kd.C_drewN ?_ _) | (with_reducible refine Kd.C_drew ?_))); (case side4 => exact (Kd.R_reads' HO476.out).2.1); rintro e w21 ⟨v479, rfl, ho0, hb⟩; refine ⟨_, rfl, ?_⟩; have n0_ := Aside0.mk (Kd.V_elder' (by (with_reducible repeat (first | apply Kd.V_alloc | apply Kd.V_drewN | apply Kd.V_drew)); exact HO0.out) (by first | exact Kd.N_base ho0 | exact Kd.S_base ho0) hb); have n1_ := Aside0.mk (Kd.N_elder' (by (with_reducible repeat (first | apply Kd.N_alloc | apply Kd.N_drewN | apply Kd.N_drew)); exact HO473.out) (by first | exact Kd.N_base ho0 | exact Kd.S_base ho0) hb); have n2_ := Aside0.mk (Kd.R_below (by (with_reducible repeat (first | apply Kd.R_alloc | apply Kd.R_drewN | apply Kd.R_drew)); exact HO476.out) hb); have n3_ := Aside0.mk (Kd.N_lower (Kd.N_mono (ok' := fun k_ => (P0_ k_ ∨ w.heap.size ≤ k_) ∧ some k_ ≠ (.slice Ao19 y471.length co19 : Value).ownBlock ∧ some k_ ≠ (.slice Ao20 y474.length co20 : Value).ownBlock) (Kd.S_N (Kd.S_bound ho0)) (fun k_ hk_ => ⟨(.inr (Nat.le_trans (below_size (by repeat (first | (with_reducible first | exact HB.out | apply below_alloc | apply pw_below_drewN | apply below_drew1) | exact HB.out))) hk_.2.1)), (Kd.fresh' (Kd.N_lt (by (with_reducible repeat (first | apply Kd.N_alloc | apply Kd.N_drewN | apply Kd.N_drew)); exact HO473.out)) k_ hk_.2.1), (Kd.fresh' (Kd.R_lt (by (with_reducible repeat (first | apply Kd.R_alloc | apply Kd.R_drewN | apply Kd.R_drew)); exact HO476.out)) k_ hk_.2.1)⟩)) (below_size (by repeat (first | (with_reducible first | exact HB.out | apply below_alloc | apply pw_below_drewN | apply below_drew1) | exact HB.out)))); have n4_ := Aside0.mk (below_step (by repeat (first | (with_reducible first | exact HB.out | apply below_alloc | apply pw_below_drewN | apply below_drew1) | exact HB.out)) hb); clear HO0; clear HO473; clear HO476; clear HB; have HO0 := n0_; have HO473 := n1_; have HO476 := n2_; have HO480 := n3_; have HB := n4_; clear n0_ n1_ n2_ n3_ n4_; (try clear hb); (try clear hb2); (try clear hk); (try clear hi); (try clear ho0)) | ((with_reducible refine gate_callee (f := 8) rfl ?_); refine goesL_ (some 40) rfl rfl Try.func8 (by kernel_rfl) rfl #[.slice A0 l0.length c0, .int .i64 a1, .int .i64 a2, .int .i64 a3] rfl (by (try simp only [List.map_toArray, List.map_cons, List.map_nil]); first | done | rfl) ?_; (with_reducible refine (step_Take.calls k _ _ l0 a1 a2 a3 t481 t482 _ ?side1 ?side2 A10.out).mono ?_); (case side1 => repeat (first | exact (Kd.V_reads' HO0.out).2.2 | (with_reducible refine Kd.C_alloc ?_ _) | (with_reducible refine Kd.C_drewN ?_ _) | (with_reducible refine Kd.C_drew ?_))); (case side2 => exact (Kd.V_reads' HO0.out).2.1); rintro e w22 ⟨v483, rfl, ho0, hb⟩; refine ⟨_, rfl, ?_⟩; have n0_ := Aside0.mk (Kd.V_elder' (by (with_reducible repeat (first | apply Kd.V_alloc | apply Kd.V_drewN | apply Kd.V_drew)); exact HO0.out) (Kd.R_base ho0) hb); have n1_ := Aside0.mk (Kd.N_elder' (by (with_reducible repeat (first | apply Kd.N_alloc | apply Kd.N_drewN | apply Kd.N_drew)); exact HO473.out) (Kd.R_base ho0) hb); have n2_ := Aside0.mk (Kd.R_below (by (with_reducible repeat (first | apply Kd.R_alloc | apply Kd.R_drewN | apply Kd.R_drew)); exact HO476.out) hb); have n3_ := Aside0.mk (Kd.N_elder' (by (with_reducible repeat (first | apply Kd.N_alloc | apply Kd.N_drewN | apply Kd.N_drew)); exact HO480.out) (Kd.R_base ho0) hb); have n4_ := Aside0.mk (Kd.R_lower (Kd.R_newM (M := fun k_ => (w.heap.size ≤ k_)) ho0 (below_size (by repeat (first | (with_reducible first | exact HB.out | apply below_alloc | apply pw_below_drewN | apply below_drew1) | exact HB.out))) (fun k_ h_ => h_)) (below_size (by repeat (first | (with_reducible first | exact HB.out | apply below_alloc | apply pw_below_drewN | apply below_drew1) | exact HB.out)))); have n5_ := Aside0.mk (below_step (by repeat (first | (with_reducible first | exact HB.out | apply below_alloc | apply pw_below_drewN | apply below_drew1) | exact HB.out)) hb); clear HO0; clear HO473; clear HO476; clear HO480; clear HB; have HO0 := n0_; have HO473 := n1_; have HO476 := n2_; have HO480 := n3_; have HO484 := n4_; have HB := n5_; clear n0_ n1_ n2_ n3_ n4_ n5_; (try clear hb); (try clear hb2); (try clear hk); (try clear hi); (try clear ho0)) | ((with_reducible refine gate_dst (N := 48) rfl ?_); (try (refine gate_guard (by rfl) ?_; dsimp only)); refine Kd.R_lit (Kd.int .i64) _ 3 ?hg (N := 48) ?hd (xs := ([a3] : List Int)) (inner := [.int .i64 a3]) (ok := fun _ => True) (okp := fun _ => True) ?hr ?hp (fun _ hk => hk) trivial (Below.refl _ _) (Nat.le_refl _) (by simp) ?_; (case hd => rfl); (case hg => rfl); (case hr => first | (go_simp; done) | (go_simp; rfl)); (case hp => exact (Reps.one (show Kd.M (Kd.int .i64) _ _ _ a3 [.int .i64 a3] from rfl) (Reps.none _ _))); intro v486 w23 ho24 hb hg_ hnew_; clear hg_ hnew_; (first | rw [← Ny485.out] at ho24 | (simp only [Int.reduceToNat] at ho24; rw [← Ny485.out] at ho24)); have n0_ := Aside0.mk (Kd.V_elder' (by (with_reducible repeat (first | apply Kd.V_alloc | apply Kd.V_drewN | apply Kd.V_drew)); exact HO0.out) (Kd.R_base ho24) hb); have n1_ := Aside0.mk (Kd.N_elder' (by (with_reducible repeat (first | apply Kd.N_alloc | apply Kd.N_drewN | apply Kd.N_drew)); exact HO473.out) (Kd.R_base ho24) hb); have n2_ := Aside0.mk (Kd.R_elder' (by (with_reducible repeat (first | apply Kd.R_alloc | apply Kd.R_drewN | apply Kd.R_drew)); exact HO476.out) (Kd.R_base ho24) hb); have n3_ := Aside0.mk (Kd.N_elder' (by (with_reducible repeat (first | apply Kd.N_alloc | apply Kd.N_drewN | apply Kd.N_drew)); exact HO480.out) (Kd.R_base ho24) hb); have n4_ := Aside0.mk (Kd.R_below (by (with_reducible repeat (first | apply Kd.R_alloc | apply Kd.R_drewN | apply Kd.R_drew)); exact HO484.out) hb); have n5_ := Aside0.mk (Kd.R_lower (Kd.R_new' (Kd.R_newM (M := fun k_ => (w.heap.size ≤ k_)) ho24 (below_size (by repeat (first | (with_reducible first | exact HB.out | apply below_alloc | apply pw_below_drewN | apply below_drew1) | exact HB.out))) (fun k_ h_ => h_)) (Kd.R_lt (by (with_reducible repeat (first | apply Kd.R_alloc | apply Kd.R_drewN | apply Kd.R_drew)); exact HO476.out))) (below_size (by repeat (first | (with_reducible first | exact HB.out | apply below_alloc | apply pw_below_drewN | apply below_drew1) | exact HB.out)))); have n6_ := Aside0.mk (below_step (by repeat (first | (with_reducible first | exact HB.out | apply below_alloc | apply pw_below_drewN | apply below_drew1) | exact HB.out)) hb); clear HO0; clear HO473; clear HO476; clear HO480; clear HO484; clear HB; have HO0 := n0_; have HO473 := n1_; have HO476 := n2_; have HO480 := n3_; have HO484 := n4_; have HO487 := n5_; have HB := n6_; clear n0_ n1_ n2_ n3_ n4_ n5_ n6_; clear hb ho24; obtain ⟨Ao25, co25, eo25⟩ := Kd.R_slice HO487.out; subst eo25) | ((with_reducible refine gate_callee (f := 24) rfl ?_); refine goesL_ (some 49) rfl rfl Try.func24 (by kernel_rfl) rfl #[.slice Ao19 y471.length co19, .int .i64 a1, .int .i64 a2, .slice Ao25 y485.length co25] rfl (by (try simp only [List.map_toArray, List.map_cons, List.map_nil]); first | done | rfl) ?_; (with_reducible refine (pools_First.calls k _ _ y471 a1 a2 _ _ y485 t488 t489 _ ?side1 ?side2 ?side3 ?side4 A11.out).mono ?_); (case side1 => repeat (first | exact (Kd.N_reads' HO473.out).2.2 | (with_reducible refine Kd.C_alloc ?_ _) | (with_reducible refine Kd.C_drewN ?_ _) | (with_reducible refine Kd.C_drew ?_))); (case side2 => exact (Kd.N_reads' HO473.out).2.1); (case side3 => repeat (first | exact (Kd.R_reads' HO487.out).2.2 | (with_reducible refine Kd.C_alloc ?_ _) | (with_reducible refine Kd.C_drewN ?_ _) | (with_reducible refine Kd.C_drew ?_))); (case side4 => exact (Kd.R_reads' HO487.out).2.1); rintro e w26 ⟨rfl, hb⟩; refine ⟨_, rfl, ?_⟩; have n0_ := Aside0.mk (Kd.V_below (by (with_reducible repeat (first | apply Kd.V_alloc | apply Kd.V_drewN | apply Kd.V_drew)); exact HO0.out) hb); have n1_ := Aside0.mk (Kd.N_below (by (with_reducible repeat (first | apply Kd.N_alloc | apply Kd.N_drewN | apply Kd.N_drew)); exact HO473.out) hb); have n2_ := Aside0.mk (Kd.R_below (by (with_reducible repeat (first | apply Kd.R_alloc | apply Kd.R_drewN | apply Kd.R_drew)); exact HO476.out) hb); have n3_ := Aside0.mk (Kd.N_below (by (with_reducible repeat (first | apply Kd.N_alloc | apply Kd.N_drewN | apply Kd.N_drew)); exact HO480.out) hb); have n4_ := Aside0.mk (Kd.R_below (by (with_reducible repeat (first | apply Kd.R_alloc | apply Kd.R_drewN | apply Kd.R_drew)); exact HO484.out) hb); have n5_ := Aside0.mk (Kd.R_below (by (with_reducible repeat (first | apply Kd.R_alloc | apply Kd.R_drewN | apply Kd.R_drew)); exact HO487.out) hb); have n6_ := Aside0.mk (below_step (by repeat (first | (with_reducible first | exact HB.out | apply below_alloc | apply pw_below_drewN | apply below_drew1) | exact HB.out)) hb); clear HO0; clear HO473; clear HO476; clear HO480; clear HO484; clear HO487; clear HB; have HO0 := n0_; have HO473 := n1_; have HO476 := n2_; have HO480 := n3_; have HO484 := n4_; have HO487 := n5_; have HB := n6_; clear n0_ n1_ n2_ n3_ n4_ n5_ n6_; (try clear hb); (try clear hb2); (try clear hk); (try clear hi)) | ((with_reducible refine gate_callee (f := 25) rfl ?_); refine goesL_ (some 57) rfl rfl Try.func25 (by kernel_rfl) rfl #[.slice A0 l0.length c0, .int .i64 a1, .int .i64 a2, .int .i64 a3] rfl (by (try simp only [List.map_toArray, List.map_cons, List.map_nil]); first | done | rfl) ?_; (with_reducible refine (step_First.calls k _ _ l0 a1 a2 a3 t490 t491 _ ?side1 ?side2 A12.out).mono ?_); (case side1 => repeat (first | exact (Kd.V_reads' HO0.out).2.2 | (with_reducible refine Kd.C_alloc ?_ _) | (with_reducible refine Kd.C_drewN ?_ _) | (with_reducible refine Kd.C_drew ?_))); (case side2 => exact (Kd.V_reads' HO0.out).2.1); rintro e w27 ⟨rfl, hb⟩; refine ⟨_, rfl, ?_⟩; have n0_ := Aside0.mk (Kd.V_below (by (with_reducible repeat (first | apply Kd.V_alloc | apply Kd.V_drewN | apply Kd.V_drew)); exact HO0.out) hb); have n1_ := Aside0.mk (Kd.N_below (by (with_reducible repeat (first | apply Kd.N_alloc | apply Kd.N_drewN | apply Kd.N_drew)); exact HO473.out) hb); have n2_ := Aside0.mk (Kd.R_below (by (with_reducible repeat (first | apply Kd.R_alloc | apply Kd.R_drewN | apply Kd.R_drew)); exact HO476.out) hb); have n3_ := Aside0.mk (Kd.N_below (by (with_reducible repeat (first | apply Kd.N_alloc | apply Kd.N_drewN | apply Kd.N_drew)); exact HO480.out) hb); have n4_ := Aside0.mk (Kd.R_below (by (with_reducible repeat (first | apply Kd.R_alloc | apply Kd.R_drewN | apply Kd.R_drew)); exact HO484.out) hb); have n5_ := Aside0.mk (Kd.R_below (by (with_reducible repeat (first | apply Kd.R_alloc | apply Kd.R_drewN | apply Kd.R_drew)); exact HO487.out) hb); have n6_ := Aside0.mk (below_step (by repeat (first | (with_reducible first | exact HB.out | apply below_alloc | apply pw_below_drewN | apply below_drew1) | exact HB.out)) hb); clear HO0; clear HO473; clear HO476; clear HO480; clear HO484; clear HO487; clear HB; have HO0 := n0_; have HO473 := n1_; have HO476 := n2_; have HO480 := n3_; have HO484 := n4_; have HO487 := n5_; have HB := n6_; clear n0_ n1_ n2_ n3_ n4_ n5_ n6_; (try clear hb); (try clear hb2); (try clear hk); (try clear hi)))
  (try simp only [Act.put, List.setIfInBounds_toArray, List.set_cons_zero, List.set_cons_succ])
  go_cut [79] (fun v79 wc => ∃ (kq : Nat) (x79_12 : Bool), v79 = .bool x79_12 ∧ Aside0 (bailiwicklaw04_PoolsOne.j0 kq l0 a1 y471 t477 t478 t481 t482 x79_12 = some r) ∧ Aside0 (kq ≤ k) ∧ Aside0 (Kd.V k38 38 wc w.heap.size (fun k_ => (P0_ k_ ∨ w.heap.size ≤ k_) ∧ some k_ ≠ ((.slice Ao19 y471.length co19) : Value).ownBlock ∧ some k_ ≠ (v479 : Value).ownBlock ∧ some k_ ≠ (v483 : Value).ownBlock) (.slice A0 l0.length c0) l0) ∧ Aside0 (Kd.N (Kd.slice 38 k38) 22 wc w.heap.size (fun k_ => (P0_ k_ ∨ w.heap.size ≤ k_) ∧ some k_ ≠ (v479 : Value).ownBlock ∧ some k_ ≠ (v483 : Value).ownBlock) (.slice Ao19 y471.length co19) y471) ∧ Aside0 (Kd.N (Kd.slice 38 k38) 22 wc w.heap.size (fun k_ => (P0_ k_ ∨ w.heap.size ≤ k_) ∧ some k_ ≠ ((.slice Ao19 y471.length co19) : Value).ownBlock ∧ some k_ ≠ (v483 : Value).ownBlock) v479 t477) ∧ Aside0 (Kd.R k38 38 wc w.heap.size (fun k_ => (w.heap.size ≤ k_)) v483 t481) ∧ Aside0 (Below w.heap.size w wc))
  case first =>
    have H := HC13.out
    clear HC13
    replace H := Option.bind_eq_some_iff.mp H
    obtain ⟨t492, A280, H⟩ := H
    replace H : ((step_Right.f k l0).bind fun t493 => (if t492 = true then (if t493 = true then (if t488 = t490 then (if t489 = true then (if t491 = true then (bailiwicklaw04_PoolsOne.j0 k l0 a1 y471 t477 t478 t481 t482 ((t477.length : Int) != 1)) else (bailiwicklaw04_PoolsOne.j0 k l0 a1 y471 t477 t478 t481 t482 true)) else (if t491 = true then (bailiwicklaw04_PoolsOne.j0 k l0 a1 y471 t477 t478 t481 t482 true) else (bailiwicklaw04_PoolsOne.j0 k l0 a1 y471 t477 t478 t481 t482 ((t477.length : Int) != 1)))) else (bailiwicklaw04_PoolsOne.j0 k l0 a1 y471 t477 t478 t481 t482 true)) else (bailiwicklaw04_PoolsOne.j0 k l0 a1 y471 t477 t478 t481 t482 true)) else (if t493 = true then (bailiwicklaw04_PoolsOne.j0 k l0 a1 y471 t477 t478 t481 t482 true) else (if t488 = t490 then (if t489 = true then (if t491 = true then (bailiwicklaw04_PoolsOne.j0 k l0 a1 y471 t477 t478 t481 t482 ((t477.length : Int) != 1)) else (bailiwicklaw04_PoolsOne.j0 k l0 a1 y471 t477 t478 t481 t482 true)) else (if t491 = true then (bailiwicklaw04_PoolsOne.j0 k l0 a1 y471 t477 t478 t481 t482 true) else (bailiwicklaw04_PoolsOne.j0 k l0 a1 y471 t477 t478 t481 t482 ((t477.length : Int) != 1)))) else (bailiwicklaw04_PoolsOne.j0 k l0 a1 y471 t477 t478 t481 t482 true))))) = some r := H
    have A28 := Aside0.mk A280
    clear A280
    replace H := Option.bind_eq_some_iff.mp H
    obtain ⟨t493, A290, H⟩ := H
    replace H : (if t492 = true then (if t493 = true then (if t488 = t490 then (if t489 = true then (if t491 = true then (bailiwicklaw04_PoolsOne.j0 k l0 a1 y471 t477 t478 t481 t482 ((t477.length : Int) != 1)) else (bailiwicklaw04_PoolsOne.j0 k l0 a1 y471 t477 t478 t481 t482 true)) else (if t491 = true then (bailiwicklaw04_PoolsOne.j0 k l0 a1 y471 t477 t478 t481 t482 true) else (bailiwicklaw04_PoolsOne.j0 k l0 a1 y471 t477 t478 t481 t482 ((t477.length : Int) != 1)))) else (bailiwicklaw04_PoolsOne.j0 k l0 a1 y471 t477 t478 t481 t482 true)) else (bailiwicklaw04_PoolsOne.j0 k l0 a1 y471 t477 t478 t481 t482 true)) else (if t493 = true then (bailiwicklaw04_PoolsOne.j0 k l0 a1 y471 t477 t478 t481 t482 true) else (if t488 = t490 then (if t489 = true then (if t491 = true then (bailiwicklaw04_PoolsOne.j0 k l0 a1 y471 t477 t478 t481 t482 ((t477.length : Int) != 1)) else (bailiwicklaw04_PoolsOne.j0 k l0 a1 y471 t477 t478 t481 t482 true)) else (if t491 = true then (bailiwicklaw04_PoolsOne.j0 k l0 a1 y471 t477 t478 t481 t482 true) else (bailiwicklaw04_PoolsOne.j0 k l0 a1 y471 t477 t478 t481 t482 ((t477.length : Int) != 1)))) else (bailiwicklaw04_PoolsOne.j0 k l0 a1 y471 t477 t478 t481 t482 true)))) = some r := H
    have A29 := Aside0.mk A290
    clear A290
    by_cases c30 : t492 = true
    · subst c30
      have H1 : (if t493 = true then (if t488 = t490 then (if t489 = true then (if t491 = true then (bailiwicklaw04_PoolsOne.j0 k l0 a1 y471 t477 t478 t481 t482 ((t477.length : Int) != 1)) else (bailiwicklaw04_PoolsOne.j0 k l0 a1 y471 t477 t478 t481 t482 true)) else (if t491 = true then (bailiwicklaw04_PoolsOne.j0 k l0 a1 y471 t477 t478 t481 t482 true) else (bailiwicklaw04_PoolsOne.j0 k l0 a1 y471 t477 t478 t481 t482 ((t477.length : Int) != 1)))) else (bailiwicklaw04_PoolsOne.j0 k l0 a1 y471 t477 t478 t481 t482 true)) else (bailiwicklaw04_PoolsOne.j0 k l0 a1 y471 t477 t478 t481 t482 true)) = some r := by rw [if_pos rfl] at H; exact H
      clear H
      have H := H1
      clear H1
      by_cases c31 : t493 = true
      rotate_left
      · replace c31 := Bool.eq_false_iff.mpr c31
        subst c31
        have H1 : (bailiwicklaw04_PoolsOne.j0 k l0 a1 y471 t477 t478 t481 t482 true) = some r := by rw [if_neg (show ¬ (false = true) by decide)] at H; exact H
        clear H
        have H := H1
        clear H1
        have H' := Aside0.mk H
        clear H
        go_wp2_with (first | ((with_reducible refine gate_callee (f := 26) rfl ?_); refine goesL_ (some 61) rfl rfl Try.func26 (by kernel_rfl) rfl #[.slice Ao19 y471.length co19] rfl (by (try simp only [List.map_toArray, List.map_cons, List.map_nil]); first | done | rfl) ?_; (with_reducible refine (pools_Right.calls k _ _ y471 true _ ?side1 ?side2 A28.out).mono ?_); (case side1 => repeat (first | exact (Kd.N_reads' HO473.out).2.2 | (with_reducible refine Kd.C_alloc ?_ _) | (with_reducible refine Kd.C_drewN ?_ _) | (with_reducible refine Kd.C_drew ?_))); (case side2 => exact (Kd.N_reads' HO473.out).2.1); rintro e w48 ⟨rfl, hb⟩; refine ⟨_, rfl, ?_⟩; have n0_ := Aside0.mk (Kd.V_below (by (with_reducible repeat (first | apply Kd.V_alloc | apply Kd.V_drewN | apply Kd.V_drew)); exact HO0.out) hb); have n1_ := Aside0.mk (Kd.N_below (by (with_reducible repeat (first | apply Kd.N_alloc | apply Kd.N_drewN | apply Kd.N_drew)); exact HO473.out) hb); have n2_ := Aside0.mk (Kd.R_below (by (with_reducible repeat (first | apply Kd.R_alloc | apply Kd.R_drewN | apply Kd.R_drew)); exact HO476.out) hb); have n3_ := Aside0.mk (Kd.N_below (by (with_reducible repeat (first | apply Kd.N_alloc | apply Kd.N_drewN | apply Kd.N_drew)); exact HO480.out) hb); have n4_ := Aside0.mk (Kd.R_below (by (with_reducible repeat (first | apply Kd.R_alloc | apply Kd.R_drewN | apply Kd.R_drew)); exact HO484.out) hb); have n5_ := Aside0.mk (Kd.R_below (by (with_reducible repeat (first | apply Kd.R_alloc | apply Kd.R_drewN | apply Kd.R_drew)); exact HO487.out) hb); have n6_ := Aside0.mk (below_step (by repeat (first | (with_reducible first | exact HB.out | apply below_alloc | apply pw_below_drewN | apply below_drew1) | exact HB.out)) hb); clear HO0; clear HO473; clear HO476; clear HO480; clear HO484; clear HO487; clear HB; have HO0 := n0_; have HO473 := n1_; have HO476 := n2_; have HO480 := n3_; have HO484 := n4_; have HO487 := n5_; have HB := n6_; clear n0_ n1_ n2_ n3_ n4_ n5_ n6_; (try clear hb); (try clear hb2); (try clear hk); (try clear hi)) | ((with_reducible refine gate_callee (f := 18) rfl ?_); refine goesL_ (some 63) rfl rfl Try.func18 (by kernel_rfl) rfl #[.slice A0 l0.length c0] rfl (by (try simp only [List.map_toArray, List.map_cons, List.map_nil]); first | done | rfl) ?_; (with_reducible refine (step_Right.calls k _ _ l0 false _ ?side1 ?side2 A29.out).mono ?_); (case side1 => repeat (first | exact (Kd.V_reads' HO0.out).2.2 | (with_reducible refine Kd.C_alloc ?_ _) | (with_reducible refine Kd.C_drewN ?_ _) | (with_reducible refine Kd.C_drew ?_))); (case side2 => exact (Kd.V_reads' HO0.out).2.1); rintro e w49 ⟨rfl, hb⟩; refine ⟨_, rfl, ?_⟩; have n0_ := Aside0.mk (Kd.V_below (by (with_reducible repeat (first | apply Kd.V_alloc | apply Kd.V_drewN | apply Kd.V_drew)); exact HO0.out) hb); have n1_ := Aside0.mk (Kd.N_below (by (with_reducible repeat (first | apply Kd.N_alloc | apply Kd.N_drewN | apply Kd.N_drew)); exact HO473.out) hb); have n2_ := Aside0.mk (Kd.R_below (by (with_reducible repeat (first | apply Kd.R_alloc | apply Kd.R_drewN | apply Kd.R_drew)); exact HO476.out) hb); have n3_ := Aside0.mk (Kd.N_below (by (with_reducible repeat (first | apply Kd.N_alloc | apply Kd.N_drewN | apply Kd.N_drew)); exact HO480.out) hb); have n4_ := Aside0.mk (Kd.R_below (by (with_reducible repeat (first | apply Kd.R_alloc | apply Kd.R_drewN | apply Kd.R_drew)); exact HO484.out) hb); have n5_ := Aside0.mk (Kd.R_below (by (with_reducible repeat (first | apply Kd.R_alloc | apply Kd.R_drewN | apply Kd.R_drew)); exact HO487.out) hb); have n6_ := Aside0.mk (below_step (by repeat (first | (with_reducible first | exact HB.out | apply below_alloc | apply pw_below_drewN | apply below_drew1) | exact HB.out)) hb); clear HO0; clear HO473; clear HO476; clear HO480; clear HO484; clear HO487; clear HB; have HO0 := n0_; have HO473 := n1_; have HO476 := n2_; have HO480 := n3_; have HO484 := n4_; have HO487 := n5_; have HB := n6_; clear n0_ n1_ n2_ n3_ n4_ n5_ n6_; (try clear hb); (try clear hb2); (try clear hk); (try clear hi)))
        go_meet
        case rel => exact ⟨_, (true), (by first | rfl | (simp; done) | (simp [*]; done)), H', ⟨by first | omega | exact Nat.le_refl _⟩, ⟨by (with_reducible repeat (first | apply Kd.V_alloc | apply Kd.V_drewN | apply Kd.V_drew)); exact Kd.V_mono HO0.out (fun _ hk => ⟨hk.1.1.1.1.1, ⟨hk.1.1.1.1.2, ⟨hk.1.1.2, hk.1.2⟩⟩⟩)⟩, ⟨by (with_reducible repeat (first | apply Kd.N_alloc | apply Kd.N_drewN | apply Kd.N_drew)); exact Kd.N_mono HO473.out (fun _ hk => ⟨hk.1.1.1.1, ⟨hk.1.1.2, hk.1.2⟩⟩)⟩, ⟨by (with_reducible repeat (first | apply Kd.N_alloc | apply Kd.N_drewN | apply Kd.N_drew)); exact Kd.N_mono HO480.out (fun _ hk => ⟨hk.1.1.1, ⟨hk.1.1.2.1, hk.1.2⟩⟩)⟩, ⟨by (with_reducible repeat (first | apply Kd.R_alloc | apply Kd.R_drewN | apply Kd.R_drew)); exact Kd.R_mono HO484.out (fun _ hk => hk.1)⟩, ⟨by repeat (first | (with_reducible first | exact HB.out | apply below_alloc | apply pw_below_drewN | apply below_drew1) | exact HB.out)⟩⟩
      subst c31
      have H1 : (if t488 = t490 then (if t489 = true then (if t491 = true then (bailiwicklaw04_PoolsOne.j0 k l0 a1 y471 t477 t478 t481 t482 ((t477.length : Int) != 1)) else (bailiwicklaw04_PoolsOne.j0 k l0 a1 y471 t477 t478 t481 t482 true)) else (if t491 = true then (bailiwicklaw04_PoolsOne.j0 k l0 a1 y471 t477 t478 t481 t482 true) else (bailiwicklaw04_PoolsOne.j0 k l0 a1 y471 t477 t478 t481 t482 ((t477.length : Int) != 1)))) else (bailiwicklaw04_PoolsOne.j0 k l0 a1 y471 t477 t478 t481 t482 true)) = some r := by rw [if_pos rfl] at H; exact H
      clear H
      have H := H1
      clear H1
      by_cases c32 : t488 = t490
      rotate_left
      · rw [if_neg c32] at H
        have c32b0 : (t488 == t490) = false := beq_eq_false_iff_ne.mpr c32
        have c32b1 : (t488 != t490) = true := bne_iff_ne.mpr c32
        (first | rw [c32b0] | (simp only [i64_w, i32_w]; rw [c32b0]) | skip)
        have H' := Aside0.mk H
        clear H
        go_wp2_with (first | ((with_reducible refine gate_callee (f := 26) rfl ?_); refine goesL_ (some 61) rfl rfl Try.func26 (by kernel_rfl) rfl #[.slice Ao19 y471.length co19] rfl (by (try simp only [List.map_toArray, List.map_cons, List.map_nil]); first | done | rfl) ?_; (with_reducible refine (pools_Right.calls k _ _ y471 true _ ?side1 ?side2 A28.out).mono ?_); (case side1 => repeat (first | exact (Kd.N_reads' HO473.out).2.2 | (with_reducible refine Kd.C_alloc ?_ _) | (with_reducible refine Kd.C_drewN ?_ _) | (with_reducible refine Kd.C_drew ?_))); (case side2 => exact (Kd.N_reads' HO473.out).2.1); rintro e w46 ⟨rfl, hb⟩; refine ⟨_, rfl, ?_⟩; have n0_ := Aside0.mk (Kd.V_below (by (with_reducible repeat (first | apply Kd.V_alloc | apply Kd.V_drewN | apply Kd.V_drew)); exact HO0.out) hb); have n1_ := Aside0.mk (Kd.N_below (by (with_reducible repeat (first | apply Kd.N_alloc | apply Kd.N_drewN | apply Kd.N_drew)); exact HO473.out) hb); have n2_ := Aside0.mk (Kd.R_below (by (with_reducible repeat (first | apply Kd.R_alloc | apply Kd.R_drewN | apply Kd.R_drew)); exact HO476.out) hb); have n3_ := Aside0.mk (Kd.N_below (by (with_reducible repeat (first | apply Kd.N_alloc | apply Kd.N_drewN | apply Kd.N_drew)); exact HO480.out) hb); have n4_ := Aside0.mk (Kd.R_below (by (with_reducible repeat (first | apply Kd.R_alloc | apply Kd.R_drewN | apply Kd.R_drew)); exact HO484.out) hb); have n5_ := Aside0.mk (Kd.R_below (by (with_reducible repeat (first | apply Kd.R_alloc | apply Kd.R_drewN | apply Kd.R_drew)); exact HO487.out) hb); have n6_ := Aside0.mk (below_step (by repeat (first | (with_reducible first | exact HB.out | apply below_alloc | apply pw_below_drewN | apply below_drew1) | exact HB.out)) hb); clear HO0; clear HO473; clear HO476; clear HO480; clear HO484; clear HO487; clear HB; have HO0 := n0_; have HO473 := n1_; have HO476 := n2_; have HO480 := n3_; have HO484 := n4_; have HO487 := n5_; have HB := n6_; clear n0_ n1_ n2_ n3_ n4_ n5_ n6_; (try clear hb); (try clear hb2); (try clear hk); (try clear hi)) | ((with_reducible refine gate_callee (f := 18) rfl ?_); refine goesL_ (some 63) rfl rfl Try.func18 (by kernel_rfl) rfl #[.slice A0 l0.length c0] rfl (by (try simp only [List.map_toArray, List.map_cons, List.map_nil]); first | done | rfl) ?_; (with_reducible refine (step_Right.calls k _ _ l0 true _ ?side1 ?side2 A29.out).mono ?_); (case side1 => repeat (first | exact (Kd.V_reads' HO0.out).2.2 | (with_reducible refine Kd.C_alloc ?_ _) | (with_reducible refine Kd.C_drewN ?_ _) | (with_reducible refine Kd.C_drew ?_))); (case side2 => exact (Kd.V_reads' HO0.out).2.1); rintro e w47 ⟨rfl, hb⟩; refine ⟨_, rfl, ?_⟩; have n0_ := Aside0.mk (Kd.V_below (by (with_reducible repeat (first | apply Kd.V_alloc | apply Kd.V_drewN | apply Kd.V_drew)); exact HO0.out) hb); have n1_ := Aside0.mk (Kd.N_below (by (with_reducible repeat (first | apply Kd.N_alloc | apply Kd.N_drewN | apply Kd.N_drew)); exact HO473.out) hb); have n2_ := Aside0.mk (Kd.R_below (by (with_reducible repeat (first | apply Kd.R_alloc | apply Kd.R_drewN | apply Kd.R_drew)); exact HO476.out) hb); have n3_ := Aside0.mk (Kd.N_below (by (with_reducible repeat (first | apply Kd.N_alloc | apply Kd.N_drewN | apply Kd.N_drew)); exact HO480.out) hb); have n4_ := Aside0.mk (Kd.R_below (by (with_reducible repeat (first | apply Kd.R_alloc | apply Kd.R_drewN | apply Kd.R_drew)); exact HO484.out) hb); have n5_ := Aside0.mk (Kd.R_below (by (with_reducible repeat (first | apply Kd.R_alloc | apply Kd.R_drewN | apply Kd.R_drew)); exact HO487.out) hb); have n6_ := Aside0.mk (below_step (by repeat (first | (with_reducible first | exact HB.out | apply below_alloc | apply pw_below_drewN | apply below_drew1) | exact HB.out)) hb); clear HO0; clear HO473; clear HO476; clear HO480; clear HO484; clear HO487; clear HB; have HO0 := n0_; have HO473 := n1_; have HO476 := n2_; have HO480 := n3_; have HO484 := n4_; have HO487 := n5_; have HB := n6_; clear n0_ n1_ n2_ n3_ n4_ n5_ n6_; (try clear hb); (try clear hb2); (try clear hk); (try clear hi)))
        go_meet
        case rel => exact ⟨_, (true), (by first | rfl | (simp; done) | (simp [*]; done)), H', ⟨by first | omega | exact Nat.le_refl _⟩, ⟨by (with_reducible repeat (first | apply Kd.V_alloc | apply Kd.V_drewN | apply Kd.V_drew)); exact Kd.V_mono HO0.out (fun _ hk => ⟨hk.1.1.1.1.1, ⟨hk.1.1.1.1.2, ⟨hk.1.1.2, hk.1.2⟩⟩⟩)⟩, ⟨by (with_reducible repeat (first | apply Kd.N_alloc | apply Kd.N_drewN | apply Kd.N_drew)); exact Kd.N_mono HO473.out (fun _ hk => ⟨hk.1.1.1.1, ⟨hk.1.1.2, hk.1.2⟩⟩)⟩, ⟨by (with_reducible repeat (first | apply Kd.N_alloc | apply Kd.N_drewN | apply Kd.N_drew)); exact Kd.N_mono HO480.out (fun _ hk => ⟨hk.1.1.1, ⟨hk.1.1.2.1, hk.1.2⟩⟩)⟩, ⟨by (with_reducible repeat (first | apply Kd.R_alloc | apply Kd.R_drewN | apply Kd.R_drew)); exact Kd.R_mono HO484.out (fun _ hk => hk.1)⟩, ⟨by repeat (first | (with_reducible first | exact HB.out | apply below_alloc | apply pw_below_drewN | apply below_drew1) | exact HB.out)⟩⟩
      rw [if_pos c32] at H
      have c32b0 : (t488 == t490) = true := beq_iff_eq.mpr c32
      have c32b1 : (t488 != t490) = false := bne_eq_false_iff_eq.mpr c32
      clear c32
      (first | rw [c32b0] | (simp only [i64_w, i32_w]; rw [c32b0]) | skip)
      by_cases c33 : t489 = true
      · subst c33
        have H1 : (if t491 = true then (bailiwicklaw04_PoolsOne.j0 k l0 a1 y471 t477 t478 t481 t482 ((t477.length : Int) != 1)) else (bailiwicklaw04_PoolsOne.j0 k l0 a1 y471 t477 t478 t481 t482 true)) = some r := by rw [if_pos rfl] at H; exact H
        clear H
        have H := H1
        clear H1
        by_cases c34 : t491 = true
        · subst c34
          have H1 : (bailiwicklaw04_PoolsOne.j0 k l0 a1 y471 t477 t478 t481 t482 ((t477.length : Int) != 1)) = some r := by rw [if_pos rfl] at H; exact H
          clear H
          have H := H1
          clear H1
          have H' := Aside0.mk H
          clear H
          go_wp2_with (first | ((with_reducible refine gate_callee (f := 26) rfl ?_); refine goesL_ (some 61) rfl rfl Try.func26 (by kernel_rfl) rfl #[.slice Ao19 y471.length co19] rfl (by (try simp only [List.map_toArray, List.map_cons, List.map_nil]); first | done | rfl) ?_; (with_reducible refine (pools_Right.calls k _ _ y471 true _ ?side1 ?side2 A28.out).mono ?_); (case side1 => repeat (first | exact (Kd.N_reads' HO473.out).2.2 | (with_reducible refine Kd.C_alloc ?_ _) | (with_reducible refine Kd.C_drewN ?_ _) | (with_reducible refine Kd.C_drew ?_))); (case side2 => exact (Kd.N_reads' HO473.out).2.1); rintro e w35 ⟨rfl, hb⟩; refine ⟨_, rfl, ?_⟩; have n0_ := Aside0.mk (Kd.V_below (by (with_reducible repeat (first | apply Kd.V_alloc | apply Kd.V_drewN | apply Kd.V_drew)); exact HO0.out) hb); have n1_ := Aside0.mk (Kd.N_below (by (with_reducible repeat (first | apply Kd.N_alloc | apply Kd.N_drewN | apply Kd.N_drew)); exact HO473.out) hb); have n2_ := Aside0.mk (Kd.R_below (by (with_reducible repeat (first | apply Kd.R_alloc | apply Kd.R_drewN | apply Kd.R_drew)); exact HO476.out) hb); have n3_ := Aside0.mk (Kd.N_below (by (with_reducible repeat (first | apply Kd.N_alloc | apply Kd.N_drewN | apply Kd.N_drew)); exact HO480.out) hb); have n4_ := Aside0.mk (Kd.R_below (by (with_reducible repeat (first | apply Kd.R_alloc | apply Kd.R_drewN | apply Kd.R_drew)); exact HO484.out) hb); have n5_ := Aside0.mk (Kd.R_below (by (with_reducible repeat (first | apply Kd.R_alloc | apply Kd.R_drewN | apply Kd.R_drew)); exact HO487.out) hb); have n6_ := Aside0.mk (below_step (by repeat (first | (with_reducible first | exact HB.out | apply below_alloc | apply pw_below_drewN | apply below_drew1) | exact HB.out)) hb); clear HO0; clear HO473; clear HO476; clear HO480; clear HO484; clear HO487; clear HB; have HO0 := n0_; have HO473 := n1_; have HO476 := n2_; have HO480 := n3_; have HO484 := n4_; have HO487 := n5_; have HB := n6_; clear n0_ n1_ n2_ n3_ n4_ n5_ n6_; (try clear hb); (try clear hb2); (try clear hk); (try clear hi)) | ((with_reducible refine gate_callee (f := 18) rfl ?_); refine goesL_ (some 63) rfl rfl Try.func18 (by kernel_rfl) rfl #[.slice A0 l0.length c0] rfl (by (try simp only [List.map_toArray, List.map_cons, List.map_nil]); first | done | rfl) ?_; (with_reducible refine (step_Right.calls k _ _ l0 true _ ?side1 ?side2 A29.out).mono ?_); (case side1 => repeat (first | exact (Kd.V_reads' HO0.out).2.2 | (with_reducible refine Kd.C_alloc ?_ _) | (with_reducible refine Kd.C_drewN ?_ _) | (with_reducible refine Kd.C_drew ?_))); (case side2 => exact (Kd.V_reads' HO0.out).2.1); rintro e w36 ⟨rfl, hb⟩; refine ⟨_, rfl, ?_⟩; have n0_ := Aside0.mk (Kd.V_below (by (with_reducible repeat (first | apply Kd.V_alloc | apply Kd.V_drewN | apply Kd.V_drew)); exact HO0.out) hb); have n1_ := Aside0.mk (Kd.N_below (by (with_reducible repeat (first | apply Kd.N_alloc | apply Kd.N_drewN | apply Kd.N_drew)); exact HO473.out) hb); have n2_ := Aside0.mk (Kd.R_below (by (with_reducible repeat (first | apply Kd.R_alloc | apply Kd.R_drewN | apply Kd.R_drew)); exact HO476.out) hb); have n3_ := Aside0.mk (Kd.N_below (by (with_reducible repeat (first | apply Kd.N_alloc | apply Kd.N_drewN | apply Kd.N_drew)); exact HO480.out) hb); have n4_ := Aside0.mk (Kd.R_below (by (with_reducible repeat (first | apply Kd.R_alloc | apply Kd.R_drewN | apply Kd.R_drew)); exact HO484.out) hb); have n5_ := Aside0.mk (Kd.R_below (by (with_reducible repeat (first | apply Kd.R_alloc | apply Kd.R_drewN | apply Kd.R_drew)); exact HO487.out) hb); have n6_ := Aside0.mk (below_step (by repeat (first | (with_reducible first | exact HB.out | apply below_alloc | apply pw_below_drewN | apply below_drew1) | exact HB.out)) hb); clear HO0; clear HO473; clear HO476; clear HO480; clear HO484; clear HO487; clear HB; have HO0 := n0_; have HO473 := n1_; have HO476 := n2_; have HO480 := n3_; have HO484 := n4_; have HO487 := n5_; have HB := n6_; clear n0_ n1_ n2_ n3_ n4_ n5_ n6_; (try clear hb); (try clear hb2); (try clear hk); (try clear hi); obtain ⟨Ao37, co37, eo37⟩ := Kd.N_slice HO480.out; subst eo37))
          go_meet
          case rel => exact ⟨_, (((t477.length : Int) != 1)), (by first | rfl | (simp; done) | (simp [*]; done)), H', ⟨by first | omega | exact Nat.le_refl _⟩, ⟨by (with_reducible repeat (first | apply Kd.V_alloc | apply Kd.V_drewN | apply Kd.V_drew)); exact Kd.V_mono HO0.out (fun _ hk => ⟨hk.1.1.1.1.1, ⟨hk.1.1.1.1.2, ⟨hk.1.1.2, hk.1.2⟩⟩⟩)⟩, ⟨by (with_reducible repeat (first | apply Kd.N_alloc | apply Kd.N_drewN | apply Kd.N_drew)); exact Kd.N_mono HO473.out (fun _ hk => ⟨hk.1.1.1.1, ⟨hk.1.1.2, hk.1.2⟩⟩)⟩, ⟨by (with_reducible repeat (first | apply Kd.N_alloc | apply Kd.N_drewN | apply Kd.N_drew)); exact Kd.N_mono HO480.out (fun _ hk => ⟨hk.1.1.1, ⟨hk.1.1.2.1, hk.1.2⟩⟩)⟩, ⟨by (with_reducible repeat (first | apply Kd.R_alloc | apply Kd.R_drewN | apply Kd.R_drew)); exact Kd.R_mono HO484.out (fun _ hk => hk.1)⟩, ⟨by repeat (first | (with_reducible first | exact HB.out | apply below_alloc | apply pw_below_drewN | apply below_drew1) | exact HB.out)⟩⟩
        replace c34 := Bool.eq_false_iff.mpr c34
        subst c34
        have H1 : (bailiwicklaw04_PoolsOne.j0 k l0 a1 y471 t477 t478 t481 t482 true) = some r := by rw [if_neg (show ¬ (false = true) by decide)] at H; exact H
        clear H
        have H := H1
        clear H1
        have H' := Aside0.mk H
        clear H
        go_wp2_with (first | ((with_reducible refine gate_callee (f := 26) rfl ?_); refine goesL_ (some 61) rfl rfl Try.func26 (by kernel_rfl) rfl #[.slice Ao19 y471.length co19] rfl (by (try simp only [List.map_toArray, List.map_cons, List.map_nil]); first | done | rfl) ?_; (with_reducible refine (pools_Right.calls k _ _ y471 true _ ?side1 ?side2 A28.out).mono ?_); (case side1 => repeat (first | exact (Kd.N_reads' HO473.out).2.2 | (with_reducible refine Kd.C_alloc ?_ _) | (with_reducible refine Kd.C_drewN ?_ _) | (with_reducible refine Kd.C_drew ?_))); (case side2 => exact (Kd.N_reads' HO473.out).2.1); rintro e w38 ⟨rfl, hb⟩; refine ⟨_, rfl, ?_⟩; have n0_ := Aside0.mk (Kd.V_below (by (with_reducible repeat (first | apply Kd.V_alloc | apply Kd.V_drewN | apply Kd.V_drew)); exact HO0.out) hb); have n1_ := Aside0.mk (Kd.N_below (by (with_reducible repeat (first | apply Kd.N_alloc | apply Kd.N_drewN | apply Kd.N_drew)); exact HO473.out) hb); have n2_ := Aside0.mk (Kd.R_below (by (with_reducible repeat (first | apply Kd.R_alloc | apply Kd.R_drewN | apply Kd.R_drew)); exact HO476.out) hb); have n3_ := Aside0.mk (Kd.N_below (by (with_reducible repeat (first | apply Kd.N_alloc | apply Kd.N_drewN | apply Kd.N_drew)); exact HO480.out) hb); have n4_ := Aside0.mk (Kd.R_below (by (with_reducible repeat (first | apply Kd.R_alloc | apply Kd.R_drewN | apply Kd.R_drew)); exact HO484.out) hb); have n5_ := Aside0.mk (Kd.R_below (by (with_reducible repeat (first | apply Kd.R_alloc | apply Kd.R_drewN | apply Kd.R_drew)); exact HO487.out) hb); have n6_ := Aside0.mk (below_step (by repeat (first | (with_reducible first | exact HB.out | apply below_alloc | apply pw_below_drewN | apply below_drew1) | exact HB.out)) hb); clear HO0; clear HO473; clear HO476; clear HO480; clear HO484; clear HO487; clear HB; have HO0 := n0_; have HO473 := n1_; have HO476 := n2_; have HO480 := n3_; have HO484 := n4_; have HO487 := n5_; have HB := n6_; clear n0_ n1_ n2_ n3_ n4_ n5_ n6_; (try clear hb); (try clear hb2); (try clear hk); (try clear hi)) | ((with_reducible refine gate_callee (f := 18) rfl ?_); refine goesL_ (some 63) rfl rfl Try.func18 (by kernel_rfl) rfl #[.slice A0 l0.length c0] rfl (by (try simp only [List.map_toArray, List.map_cons, List.map_nil]); first | done | rfl) ?_; (with_reducible refine (step_Right.calls k _ _ l0 true _ ?side1 ?side2 A29.out).mono ?_); (case side1 => repeat (first | exact (Kd.V_reads' HO0.out).2.2 | (with_reducible refine Kd.C_alloc ?_ _) | (with_reducible refine Kd.C_drewN ?_ _) | (with_reducible refine Kd.C_drew ?_))); (case side2 => exact (Kd.V_reads' HO0.out).2.1); rintro e w39 ⟨rfl, hb⟩; refine ⟨_, rfl, ?_⟩; have n0_ := Aside0.mk (Kd.V_below (by (with_reducible repeat (first | apply Kd.V_alloc | apply Kd.V_drewN | apply Kd.V_drew)); exact HO0.out) hb); have n1_ := Aside0.mk (Kd.N_below (by (with_reducible repeat (first | apply Kd.N_alloc | apply Kd.N_drewN | apply Kd.N_drew)); exact HO473.out) hb); have n2_ := Aside0.mk (Kd.R_below (by (with_reducible repeat (first | apply Kd.R_alloc | apply Kd.R_drewN | apply Kd.R_drew)); exact HO476.out) hb); have n3_ := Aside0.mk (Kd.N_below (by (with_reducible repeat (first | apply Kd.N_alloc | apply Kd.N_drewN | apply Kd.N_drew)); exact HO480.out) hb); have n4_ := Aside0.mk (Kd.R_below (by (with_reducible repeat (first | apply Kd.R_alloc | apply Kd.R_drewN | apply Kd.R_drew)); exact HO484.out) hb); have n5_ := Aside0.mk (Kd.R_below (by (with_reducible repeat (first | apply Kd.R_alloc | apply Kd.R_drewN | apply Kd.R_drew)); exact HO487.out) hb); have n6_ := Aside0.mk (below_step (by repeat (first | (with_reducible first | exact HB.out | apply below_alloc | apply pw_below_drewN | apply below_drew1) | exact HB.out)) hb); clear HO0; clear HO473; clear HO476; clear HO480; clear HO484; clear HO487; clear HB; have HO0 := n0_; have HO473 := n1_; have HO476 := n2_; have HO480 := n3_; have HO484 := n4_; have HO487 := n5_; have HB := n6_; clear n0_ n1_ n2_ n3_ n4_ n5_ n6_; (try clear hb); (try clear hb2); (try clear hk); (try clear hi)))
        go_meet
        case rel => exact ⟨_, (true), (by first | rfl | (simp; done) | (simp [*]; done)), H', ⟨by first | omega | exact Nat.le_refl _⟩, ⟨by (with_reducible repeat (first | apply Kd.V_alloc | apply Kd.V_drewN | apply Kd.V_drew)); exact Kd.V_mono HO0.out (fun _ hk => ⟨hk.1.1.1.1.1, ⟨hk.1.1.1.1.2, ⟨hk.1.1.2, hk.1.2⟩⟩⟩)⟩, ⟨by (with_reducible repeat (first | apply Kd.N_alloc | apply Kd.N_drewN | apply Kd.N_drew)); exact Kd.N_mono HO473.out (fun _ hk => ⟨hk.1.1.1.1, ⟨hk.1.1.2, hk.1.2⟩⟩)⟩, ⟨by (with_reducible repeat (first | apply Kd.N_alloc | apply Kd.N_drewN | apply Kd.N_drew)); exact Kd.N_mono HO480.out (fun _ hk => ⟨hk.1.1.1, ⟨hk.1.1.2.1, hk.1.2⟩⟩)⟩, ⟨by (with_reducible repeat (first | apply Kd.R_alloc | apply Kd.R_drewN | apply Kd.R_drew)); exact Kd.R_mono HO484.out (fun _ hk => hk.1)⟩, ⟨by repeat (first | (with_reducible first | exact HB.out | apply below_alloc | apply pw_below_drewN | apply below_drew1) | exact HB.out)⟩⟩
      replace c33 := Bool.eq_false_iff.mpr c33
      subst c33
      have H1 : (if t491 = true then (bailiwicklaw04_PoolsOne.j0 k l0 a1 y471 t477 t478 t481 t482 true) else (bailiwicklaw04_PoolsOne.j0 k l0 a1 y471 t477 t478 t481 t482 ((t477.length : Int) != 1))) = some r := by rw [if_neg (show ¬ (false = true) by decide)] at H; exact H
      clear H
      have H := H1
      clear H1
      by_cases c40 : t491 = true
      · subst c40
        have H1 : (bailiwicklaw04_PoolsOne.j0 k l0 a1 y471 t477 t478 t481 t482 true) = some r := by rw [if_pos rfl] at H; exact H
        clear H
        have H := H1
        clear H1
        have H' := Aside0.mk H
        clear H
        go_wp2_with (first | ((with_reducible refine gate_callee (f := 26) rfl ?_); refine goesL_ (some 61) rfl rfl Try.func26 (by kernel_rfl) rfl #[.slice Ao19 y471.length co19] rfl (by (try simp only [List.map_toArray, List.map_cons, List.map_nil]); first | done | rfl) ?_; (with_reducible refine (pools_Right.calls k _ _ y471 true _ ?side1 ?side2 A28.out).mono ?_); (case side1 => repeat (first | exact (Kd.N_reads' HO473.out).2.2 | (with_reducible refine Kd.C_alloc ?_ _) | (with_reducible refine Kd.C_drewN ?_ _) | (with_reducible refine Kd.C_drew ?_))); (case side2 => exact (Kd.N_reads' HO473.out).2.1); rintro e w41 ⟨rfl, hb⟩; refine ⟨_, rfl, ?_⟩; have n0_ := Aside0.mk (Kd.V_below (by (with_reducible repeat (first | apply Kd.V_alloc | apply Kd.V_drewN | apply Kd.V_drew)); exact HO0.out) hb); have n1_ := Aside0.mk (Kd.N_below (by (with_reducible repeat (first | apply Kd.N_alloc | apply Kd.N_drewN | apply Kd.N_drew)); exact HO473.out) hb); have n2_ := Aside0.mk (Kd.R_below (by (with_reducible repeat (first | apply Kd.R_alloc | apply Kd.R_drewN | apply Kd.R_drew)); exact HO476.out) hb); have n3_ := Aside0.mk (Kd.N_below (by (with_reducible repeat (first | apply Kd.N_alloc | apply Kd.N_drewN | apply Kd.N_drew)); exact HO480.out) hb); have n4_ := Aside0.mk (Kd.R_below (by (with_reducible repeat (first | apply Kd.R_alloc | apply Kd.R_drewN | apply Kd.R_drew)); exact HO484.out) hb); have n5_ := Aside0.mk (Kd.R_below (by (with_reducible repeat (first | apply Kd.R_alloc | apply Kd.R_drewN | apply Kd.R_drew)); exact HO487.out) hb); have n6_ := Aside0.mk (below_step (by repeat (first | (with_reducible first | exact HB.out | apply below_alloc | apply pw_below_drewN | apply below_drew1) | exact HB.out)) hb); clear HO0; clear HO473; clear HO476; clear HO480; clear HO484; clear HO487; clear HB; have HO0 := n0_; have HO473 := n1_; have HO476 := n2_; have HO480 := n3_; have HO484 := n4_; have HO487 := n5_; have HB := n6_; clear n0_ n1_ n2_ n3_ n4_ n5_ n6_; (try clear hb); (try clear hb2); (try clear hk); (try clear hi)) | ((with_reducible refine gate_callee (f := 18) rfl ?_); refine goesL_ (some 63) rfl rfl Try.func18 (by kernel_rfl) rfl #[.slice A0 l0.length c0] rfl (by (try simp only [List.map_toArray, List.map_cons, List.map_nil]); first | done | rfl) ?_; (with_reducible refine (step_Right.calls k _ _ l0 true _ ?side1 ?side2 A29.out).mono ?_); (case side1 => repeat (first | exact (Kd.V_reads' HO0.out).2.2 | (with_reducible refine Kd.C_alloc ?_ _) | (with_reducible refine Kd.C_drewN ?_ _) | (with_reducible refine Kd.C_drew ?_))); (case side2 => exact (Kd.V_reads' HO0.out).2.1); rintro e w42 ⟨rfl, hb⟩; refine ⟨_, rfl, ?_⟩; have n0_ := Aside0.mk (Kd.V_below (by (with_reducible repeat (first | apply Kd.V_alloc | apply Kd.V_drewN | apply Kd.V_drew)); exact HO0.out) hb); have n1_ := Aside0.mk (Kd.N_below (by (with_reducible repeat (first | apply Kd.N_alloc | apply Kd.N_drewN | apply Kd.N_drew)); exact HO473.out) hb); have n2_ := Aside0.mk (Kd.R_below (by (with_reducible repeat (first | apply Kd.R_alloc | apply Kd.R_drewN | apply Kd.R_drew)); exact HO476.out) hb); have n3_ := Aside0.mk (Kd.N_below (by (with_reducible repeat (first | apply Kd.N_alloc | apply Kd.N_drewN | apply Kd.N_drew)); exact HO480.out) hb); have n4_ := Aside0.mk (Kd.R_below (by (with_reducible repeat (first | apply Kd.R_alloc | apply Kd.R_drewN | apply Kd.R_drew)); exact HO484.out) hb); have n5_ := Aside0.mk (Kd.R_below (by (with_reducible repeat (first | apply Kd.R_alloc | apply Kd.R_drewN | apply Kd.R_drew)); exact HO487.out) hb); have n6_ := Aside0.mk (below_step (by repeat (first | (with_reducible first | exact HB.out | apply below_alloc | apply pw_below_drewN | apply below_drew1) | exact HB.out)) hb); clear HO0; clear HO473; clear HO476; clear HO480; clear HO484; clear HO487; clear HB; have HO0 := n0_; have HO473 := n1_; have HO476 := n2_; have HO480 := n3_; have HO484 := n4_; have HO487 := n5_; have HB := n6_; clear n0_ n1_ n2_ n3_ n4_ n5_ n6_; (try clear hb); (try clear hb2); (try clear hk); (try clear hi)))
        go_meet
        case rel => exact ⟨_, (true), (by first | rfl | (simp; done) | (simp [*]; done)), H', ⟨by first | omega | exact Nat.le_refl _⟩, ⟨by (with_reducible repeat (first | apply Kd.V_alloc | apply Kd.V_drewN | apply Kd.V_drew)); exact Kd.V_mono HO0.out (fun _ hk => ⟨hk.1.1.1.1.1, ⟨hk.1.1.1.1.2, ⟨hk.1.1.2, hk.1.2⟩⟩⟩)⟩, ⟨by (with_reducible repeat (first | apply Kd.N_alloc | apply Kd.N_drewN | apply Kd.N_drew)); exact Kd.N_mono HO473.out (fun _ hk => ⟨hk.1.1.1.1, ⟨hk.1.1.2, hk.1.2⟩⟩)⟩, ⟨by (with_reducible repeat (first | apply Kd.N_alloc | apply Kd.N_drewN | apply Kd.N_drew)); exact Kd.N_mono HO480.out (fun _ hk => ⟨hk.1.1.1, ⟨hk.1.1.2.1, hk.1.2⟩⟩)⟩, ⟨by (with_reducible repeat (first | apply Kd.R_alloc | apply Kd.R_drewN | apply Kd.R_drew)); exact Kd.R_mono HO484.out (fun _ hk => hk.1)⟩, ⟨by repeat (first | (with_reducible first | exact HB.out | apply below_alloc | apply pw_below_drewN | apply below_drew1) | exact HB.out)⟩⟩
      replace c40 := Bool.eq_false_iff.mpr c40
      subst c40
      have H1 : (bailiwicklaw04_PoolsOne.j0 k l0 a1 y471 t477 t478 t481 t482 ((t477.length : Int) != 1)) = some r := by rw [if_neg (show ¬ (false = true) by decide)] at H; exact H
      clear H
      have H := H1
      clear H1
      have H' := Aside0.mk H
      clear H
      go_wp2_with (first | ((with_reducible refine gate_callee (f := 26) rfl ?_); refine goesL_ (some 61) rfl rfl Try.func26 (by kernel_rfl) rfl #[.slice Ao19 y471.length co19] rfl (by (try simp only [List.map_toArray, List.map_cons, List.map_nil]); first | done | rfl) ?_; (with_reducible refine (pools_Right.calls k _ _ y471 true _ ?side1 ?side2 A28.out).mono ?_); (case side1 => repeat (first | exact (Kd.N_reads' HO473.out).2.2 | (with_reducible refine Kd.C_alloc ?_ _) | (with_reducible refine Kd.C_drewN ?_ _) | (with_reducible refine Kd.C_drew ?_))); (case side2 => exact (Kd.N_reads' HO473.out).2.1); rintro e w43 ⟨rfl, hb⟩; refine ⟨_, rfl, ?_⟩; have n0_ := Aside0.mk (Kd.V_below (by (with_reducible repeat (first | apply Kd.V_alloc | apply Kd.V_drewN | apply Kd.V_drew)); exact HO0.out) hb); have n1_ := Aside0.mk (Kd.N_below (by (with_reducible repeat (first | apply Kd.N_alloc | apply Kd.N_drewN | apply Kd.N_drew)); exact HO473.out) hb); have n2_ := Aside0.mk (Kd.R_below (by (with_reducible repeat (first | apply Kd.R_alloc | apply Kd.R_drewN | apply Kd.R_drew)); exact HO476.out) hb); have n3_ := Aside0.mk (Kd.N_below (by (with_reducible repeat (first | apply Kd.N_alloc | apply Kd.N_drewN | apply Kd.N_drew)); exact HO480.out) hb); have n4_ := Aside0.mk (Kd.R_below (by (with_reducible repeat (first | apply Kd.R_alloc | apply Kd.R_drewN | apply Kd.R_drew)); exact HO484.out) hb); have n5_ := Aside0.mk (Kd.R_below (by (with_reducible repeat (first | apply Kd.R_alloc | apply Kd.R_drewN | apply Kd.R_drew)); exact HO487.out) hb); have n6_ := Aside0.mk (below_step (by repeat (first | (with_reducible first | exact HB.out | apply below_alloc | apply pw_below_drewN | apply below_drew1) | exact HB.out)) hb); clear HO0; clear HO473; clear HO476; clear HO480; clear HO484; clear HO487; clear HB; have HO0 := n0_; have HO473 := n1_; have HO476 := n2_; have HO480 := n3_; have HO484 := n4_; have HO487 := n5_; have HB := n6_; clear n0_ n1_ n2_ n3_ n4_ n5_ n6_; (try clear hb); (try clear hb2); (try clear hk); (try clear hi)) | ((with_reducible refine gate_callee (f := 18) rfl ?_); refine goesL_ (some 63) rfl rfl Try.func18 (by kernel_rfl) rfl #[.slice A0 l0.length c0] rfl (by (try simp only [List.map_toArray, List.map_cons, List.map_nil]); first | done | rfl) ?_; (with_reducible refine (step_Right.calls k _ _ l0 true _ ?side1 ?side2 A29.out).mono ?_); (case side1 => repeat (first | exact (Kd.V_reads' HO0.out).2.2 | (with_reducible refine Kd.C_alloc ?_ _) | (with_reducible refine Kd.C_drewN ?_ _) | (with_reducible refine Kd.C_drew ?_))); (case side2 => exact (Kd.V_reads' HO0.out).2.1); rintro e w44 ⟨rfl, hb⟩; refine ⟨_, rfl, ?_⟩; have n0_ := Aside0.mk (Kd.V_below (by (with_reducible repeat (first | apply Kd.V_alloc | apply Kd.V_drewN | apply Kd.V_drew)); exact HO0.out) hb); have n1_ := Aside0.mk (Kd.N_below (by (with_reducible repeat (first | apply Kd.N_alloc | apply Kd.N_drewN | apply Kd.N_drew)); exact HO473.out) hb); have n2_ := Aside0.mk (Kd.R_below (by (with_reducible repeat (first | apply Kd.R_alloc | apply Kd.R_drewN | apply Kd.R_drew)); exact HO476.out) hb); have n3_ := Aside0.mk (Kd.N_below (by (with_reducible repeat (first | apply Kd.N_alloc | apply Kd.N_drewN | apply Kd.N_drew)); exact HO480.out) hb); have n4_ := Aside0.mk (Kd.R_below (by (with_reducible repeat (first | apply Kd.R_alloc | apply Kd.R_drewN | apply Kd.R_drew)); exact HO484.out) hb); have n5_ := Aside0.mk (Kd.R_below (by (with_reducible repeat (first | apply Kd.R_alloc | apply Kd.R_drewN | apply Kd.R_drew)); exact HO487.out) hb); have n6_ := Aside0.mk (below_step (by repeat (first | (with_reducible first | exact HB.out | apply below_alloc | apply pw_below_drewN | apply below_drew1) | exact HB.out)) hb); clear HO0; clear HO473; clear HO476; clear HO480; clear HO484; clear HO487; clear HB; have HO0 := n0_; have HO473 := n1_; have HO476 := n2_; have HO480 := n3_; have HO484 := n4_; have HO487 := n5_; have HB := n6_; clear n0_ n1_ n2_ n3_ n4_ n5_ n6_; (try clear hb); (try clear hb2); (try clear hk); (try clear hi); obtain ⟨Ao45, co45, eo45⟩ := Kd.N_slice HO480.out; subst eo45))
      go_meet
      case rel => exact ⟨_, (((t477.length : Int) != 1)), (by first | rfl | (simp; done) | (simp [*]; done)), H', ⟨by first | omega | exact Nat.le_refl _⟩, ⟨by (with_reducible repeat (first | apply Kd.V_alloc | apply Kd.V_drewN | apply Kd.V_drew)); exact Kd.V_mono HO0.out (fun _ hk => ⟨hk.1.1.1.1.1, ⟨hk.1.1.1.1.2, ⟨hk.1.1.2, hk.1.2⟩⟩⟩)⟩, ⟨by (with_reducible repeat (first | apply Kd.N_alloc | apply Kd.N_drewN | apply Kd.N_drew)); exact Kd.N_mono HO473.out (fun _ hk => ⟨hk.1.1.1.1, ⟨hk.1.1.2, hk.1.2⟩⟩)⟩, ⟨by (with_reducible repeat (first | apply Kd.N_alloc | apply Kd.N_drewN | apply Kd.N_drew)); exact Kd.N_mono HO480.out (fun _ hk => ⟨hk.1.1.1, ⟨hk.1.1.2.1, hk.1.2⟩⟩)⟩, ⟨by (with_reducible repeat (first | apply Kd.R_alloc | apply Kd.R_drewN | apply Kd.R_drew)); exact Kd.R_mono HO484.out (fun _ hk => hk.1)⟩, ⟨by repeat (first | (with_reducible first | exact HB.out | apply below_alloc | apply pw_below_drewN | apply below_drew1) | exact HB.out)⟩⟩
    replace c30 := Bool.eq_false_iff.mpr c30
    subst c30
    have H1 : (if t493 = true then (bailiwicklaw04_PoolsOne.j0 k l0 a1 y471 t477 t478 t481 t482 true) else (if t488 = t490 then (if t489 = true then (if t491 = true then (bailiwicklaw04_PoolsOne.j0 k l0 a1 y471 t477 t478 t481 t482 ((t477.length : Int) != 1)) else (bailiwicklaw04_PoolsOne.j0 k l0 a1 y471 t477 t478 t481 t482 true)) else (if t491 = true then (bailiwicklaw04_PoolsOne.j0 k l0 a1 y471 t477 t478 t481 t482 true) else (bailiwicklaw04_PoolsOne.j0 k l0 a1 y471 t477 t478 t481 t482 ((t477.length : Int) != 1)))) else (bailiwicklaw04_PoolsOne.j0 k l0 a1 y471 t477 t478 t481 t482 true))) = some r := by rw [if_neg (show ¬ (false = true) by decide)] at H; exact H
    clear H
    have H := H1
    clear H1
    by_cases c50 : t493 = true
    · subst c50
      have H1 : (bailiwicklaw04_PoolsOne.j0 k l0 a1 y471 t477 t478 t481 t482 true) = some r := by rw [if_pos rfl] at H; exact H
      clear H
      have H := H1
      clear H1
      have H' := Aside0.mk H
      clear H
      go_wp2_with (first | ((with_reducible refine gate_callee (f := 26) rfl ?_); refine goesL_ (some 61) rfl rfl Try.func26 (by kernel_rfl) rfl #[.slice Ao19 y471.length co19] rfl (by (try simp only [List.map_toArray, List.map_cons, List.map_nil]); first | done | rfl) ?_; (with_reducible refine (pools_Right.calls k _ _ y471 false _ ?side1 ?side2 A28.out).mono ?_); (case side1 => repeat (first | exact (Kd.N_reads' HO473.out).2.2 | (with_reducible refine Kd.C_alloc ?_ _) | (with_reducible refine Kd.C_drewN ?_ _) | (with_reducible refine Kd.C_drew ?_))); (case side2 => exact (Kd.N_reads' HO473.out).2.1); rintro e w51 ⟨rfl, hb⟩; refine ⟨_, rfl, ?_⟩; have n0_ := Aside0.mk (Kd.V_below (by (with_reducible repeat (first | apply Kd.V_alloc | apply Kd.V_drewN | apply Kd.V_drew)); exact HO0.out) hb); have n1_ := Aside0.mk (Kd.N_below (by (with_reducible repeat (first | apply Kd.N_alloc | apply Kd.N_drewN | apply Kd.N_drew)); exact HO473.out) hb); have n2_ := Aside0.mk (Kd.R_below (by (with_reducible repeat (first | apply Kd.R_alloc | apply Kd.R_drewN | apply Kd.R_drew)); exact HO476.out) hb); have n3_ := Aside0.mk (Kd.N_below (by (with_reducible repeat (first | apply Kd.N_alloc | apply Kd.N_drewN | apply Kd.N_drew)); exact HO480.out) hb); have n4_ := Aside0.mk (Kd.R_below (by (with_reducible repeat (first | apply Kd.R_alloc | apply Kd.R_drewN | apply Kd.R_drew)); exact HO484.out) hb); have n5_ := Aside0.mk (Kd.R_below (by (with_reducible repeat (first | apply Kd.R_alloc | apply Kd.R_drewN | apply Kd.R_drew)); exact HO487.out) hb); have n6_ := Aside0.mk (below_step (by repeat (first | (with_reducible first | exact HB.out | apply below_alloc | apply pw_below_drewN | apply below_drew1) | exact HB.out)) hb); clear HO0; clear HO473; clear HO476; clear HO480; clear HO484; clear HO487; clear HB; have HO0 := n0_; have HO473 := n1_; have HO476 := n2_; have HO480 := n3_; have HO484 := n4_; have HO487 := n5_; have HB := n6_; clear n0_ n1_ n2_ n3_ n4_ n5_ n6_; (try clear hb); (try clear hb2); (try clear hk); (try clear hi)) | ((with_reducible refine gate_callee (f := 18) rfl ?_); refine goesL_ (some 63) rfl rfl Try.func18 (by kernel_rfl) rfl #[.slice A0 l0.length c0] rfl (by (try simp only [List.map_toArray, List.map_cons, List.map_nil]); first | done | rfl) ?_; (with_reducible refine (step_Right.calls k _ _ l0 true _ ?side1 ?side2 A29.out).mono ?_); (case side1 => repeat (first | exact (Kd.V_reads' HO0.out).2.2 | (with_reducible refine Kd.C_alloc ?_ _) | (with_reducible refine Kd.C_drewN ?_ _) | (with_reducible refine Kd.C_drew ?_))); (case side2 => exact (Kd.V_reads' HO0.out).2.1); rintro e w52 ⟨rfl, hb⟩; refine ⟨_, rfl, ?_⟩; have n0_ := Aside0.mk (Kd.V_below (by (with_reducible repeat (first | apply Kd.V_alloc | apply Kd.V_drewN | apply Kd.V_drew)); exact HO0.out) hb); have n1_ := Aside0.mk (Kd.N_below (by (with_reducible repeat (first | apply Kd.N_alloc | apply Kd.N_drewN | apply Kd.N_drew)); exact HO473.out) hb); have n2_ := Aside0.mk (Kd.R_below (by (with_reducible repeat (first | apply Kd.R_alloc | apply Kd.R_drewN | apply Kd.R_drew)); exact HO476.out) hb); have n3_ := Aside0.mk (Kd.N_below (by (with_reducible repeat (first | apply Kd.N_alloc | apply Kd.N_drewN | apply Kd.N_drew)); exact HO480.out) hb); have n4_ := Aside0.mk (Kd.R_below (by (with_reducible repeat (first | apply Kd.R_alloc | apply Kd.R_drewN | apply Kd.R_drew)); exact HO484.out) hb); have n5_ := Aside0.mk (Kd.R_below (by (with_reducible repeat (first | apply Kd.R_alloc | apply Kd.R_drewN | apply Kd.R_drew)); exact HO487.out) hb); have n6_ := Aside0.mk (below_step (by repeat (first | (with_reducible first | exact HB.out | apply below_alloc | apply pw_below_drewN | apply below_drew1) | exact HB.out)) hb); clear HO0; clear HO473; clear HO476; clear HO480; clear HO484; clear HO487; clear HB; have HO0 := n0_; have HO473 := n1_; have HO476 := n2_; have HO480 := n3_; have HO484 := n4_; have HO487 := n5_; have HB := n6_; clear n0_ n1_ n2_ n3_ n4_ n5_ n6_; (try clear hb); (try clear hb2); (try clear hk); (try clear hi)))
      go_meet
      case rel => exact ⟨_, (true), (by first | rfl | (simp; done) | (simp [*]; done)), H', ⟨by first | omega | exact Nat.le_refl _⟩, ⟨by (with_reducible repeat (first | apply Kd.V_alloc | apply Kd.V_drewN | apply Kd.V_drew)); exact Kd.V_mono HO0.out (fun _ hk => ⟨hk.1.1.1.1.1, ⟨hk.1.1.1.1.2, ⟨hk.1.1.2, hk.1.2⟩⟩⟩)⟩, ⟨by (with_reducible repeat (first | apply Kd.N_alloc | apply Kd.N_drewN | apply Kd.N_drew)); exact Kd.N_mono HO473.out (fun _ hk => ⟨hk.1.1.1.1, ⟨hk.1.1.2, hk.1.2⟩⟩)⟩, ⟨by (with_reducible repeat (first | apply Kd.N_alloc | apply Kd.N_drewN | apply Kd.N_drew)); exact Kd.N_mono HO480.out (fun _ hk => ⟨hk.1.1.1, ⟨hk.1.1.2.1, hk.1.2⟩⟩)⟩, ⟨by (with_reducible repeat (first | apply Kd.R_alloc | apply Kd.R_drewN | apply Kd.R_drew)); exact Kd.R_mono HO484.out (fun _ hk => hk.1)⟩, ⟨by repeat (first | (with_reducible first | exact HB.out | apply below_alloc | apply pw_below_drewN | apply below_drew1) | exact HB.out)⟩⟩
    replace c50 := Bool.eq_false_iff.mpr c50
    subst c50
    have H1 : (if t488 = t490 then (if t489 = true then (if t491 = true then (bailiwicklaw04_PoolsOne.j0 k l0 a1 y471 t477 t478 t481 t482 ((t477.length : Int) != 1)) else (bailiwicklaw04_PoolsOne.j0 k l0 a1 y471 t477 t478 t481 t482 true)) else (if t491 = true then (bailiwicklaw04_PoolsOne.j0 k l0 a1 y471 t477 t478 t481 t482 true) else (bailiwicklaw04_PoolsOne.j0 k l0 a1 y471 t477 t478 t481 t482 ((t477.length : Int) != 1)))) else (bailiwicklaw04_PoolsOne.j0 k l0 a1 y471 t477 t478 t481 t482 true)) = some r := by rw [if_neg (show ¬ (false = true) by decide)] at H; exact H
    clear H
    have H := H1
    clear H1
    by_cases c53 : t488 = t490
    rotate_left
    · rw [if_neg c53] at H
      have c53b0 : (t488 == t490) = false := beq_eq_false_iff_ne.mpr c53
      have c53b1 : (t488 != t490) = true := bne_iff_ne.mpr c53
      have H' := Aside0.mk H
      clear H
      go_wp2_with (first | ((with_reducible refine gate_callee (f := 26) rfl ?_); refine goesL_ (some 61) rfl rfl Try.func26 (by kernel_rfl) rfl #[.slice Ao19 y471.length co19] rfl (by (try simp only [List.map_toArray, List.map_cons, List.map_nil]); first | done | rfl) ?_; (with_reducible refine (pools_Right.calls k _ _ y471 false _ ?side1 ?side2 A28.out).mono ?_); (case side1 => repeat (first | exact (Kd.N_reads' HO473.out).2.2 | (with_reducible refine Kd.C_alloc ?_ _) | (with_reducible refine Kd.C_drewN ?_ _) | (with_reducible refine Kd.C_drew ?_))); (case side2 => exact (Kd.N_reads' HO473.out).2.1); rintro e w67 ⟨rfl, hb⟩; refine ⟨_, rfl, ?_⟩; have n0_ := Aside0.mk (Kd.V_below (by (with_reducible repeat (first | apply Kd.V_alloc | apply Kd.V_drewN | apply Kd.V_drew)); exact HO0.out) hb); have n1_ := Aside0.mk (Kd.N_below (by (with_reducible repeat (first | apply Kd.N_alloc | apply Kd.N_drewN | apply Kd.N_drew)); exact HO473.out) hb); have n2_ := Aside0.mk (Kd.R_below (by (with_reducible repeat (first | apply Kd.R_alloc | apply Kd.R_drewN | apply Kd.R_drew)); exact HO476.out) hb); have n3_ := Aside0.mk (Kd.N_below (by (with_reducible repeat (first | apply Kd.N_alloc | apply Kd.N_drewN | apply Kd.N_drew)); exact HO480.out) hb); have n4_ := Aside0.mk (Kd.R_below (by (with_reducible repeat (first | apply Kd.R_alloc | apply Kd.R_drewN | apply Kd.R_drew)); exact HO484.out) hb); have n5_ := Aside0.mk (Kd.R_below (by (with_reducible repeat (first | apply Kd.R_alloc | apply Kd.R_drewN | apply Kd.R_drew)); exact HO487.out) hb); have n6_ := Aside0.mk (below_step (by repeat (first | (with_reducible first | exact HB.out | apply below_alloc | apply pw_below_drewN | apply below_drew1) | exact HB.out)) hb); clear HO0; clear HO473; clear HO476; clear HO480; clear HO484; clear HO487; clear HB; have HO0 := n0_; have HO473 := n1_; have HO476 := n2_; have HO480 := n3_; have HO484 := n4_; have HO487 := n5_; have HB := n6_; clear n0_ n1_ n2_ n3_ n4_ n5_ n6_; (try clear hb); (try clear hb2); (try clear hk); (try clear hi)) | ((with_reducible refine gate_callee (f := 18) rfl ?_); refine goesL_ (some 63) rfl rfl Try.func18 (by kernel_rfl) rfl #[.slice A0 l0.length c0] rfl (by (try simp only [List.map_toArray, List.map_cons, List.map_nil]); first | done | rfl) ?_; (with_reducible refine (step_Right.calls k _ _ l0 false _ ?side1 ?side2 A29.out).mono ?_); (case side1 => repeat (first | exact (Kd.V_reads' HO0.out).2.2 | (with_reducible refine Kd.C_alloc ?_ _) | (with_reducible refine Kd.C_drewN ?_ _) | (with_reducible refine Kd.C_drew ?_))); (case side2 => exact (Kd.V_reads' HO0.out).2.1); rintro e w68 ⟨rfl, hb⟩; refine ⟨_, rfl, ?_⟩; have n0_ := Aside0.mk (Kd.V_below (by (with_reducible repeat (first | apply Kd.V_alloc | apply Kd.V_drewN | apply Kd.V_drew)); exact HO0.out) hb); have n1_ := Aside0.mk (Kd.N_below (by (with_reducible repeat (first | apply Kd.N_alloc | apply Kd.N_drewN | apply Kd.N_drew)); exact HO473.out) hb); have n2_ := Aside0.mk (Kd.R_below (by (with_reducible repeat (first | apply Kd.R_alloc | apply Kd.R_drewN | apply Kd.R_drew)); exact HO476.out) hb); have n3_ := Aside0.mk (Kd.N_below (by (with_reducible repeat (first | apply Kd.N_alloc | apply Kd.N_drewN | apply Kd.N_drew)); exact HO480.out) hb); have n4_ := Aside0.mk (Kd.R_below (by (with_reducible repeat (first | apply Kd.R_alloc | apply Kd.R_drewN | apply Kd.R_drew)); exact HO484.out) hb); have n5_ := Aside0.mk (Kd.R_below (by (with_reducible repeat (first | apply Kd.R_alloc | apply Kd.R_drewN | apply Kd.R_drew)); exact HO487.out) hb); have n6_ := Aside0.mk (below_step (by repeat (first | (with_reducible first | exact HB.out | apply below_alloc | apply pw_below_drewN | apply below_drew1) | exact HB.out)) hb); clear HO0; clear HO473; clear HO476; clear HO480; clear HO484; clear HO487; clear HB; have HO0 := n0_; have HO473 := n1_; have HO476 := n2_; have HO480 := n3_; have HO484 := n4_; have HO487 := n5_; have HB := n6_; clear n0_ n1_ n2_ n3_ n4_ n5_ n6_; (try clear hb); (try clear hb2); (try clear hk); (try clear hi)))
      go_meet
      case rel => exact ⟨_, (true), (by first | rfl | (simp; done) | (simp [*]; done)), H', ⟨by first | omega | exact Nat.le_refl _⟩, ⟨by (with_reducible repeat (first | apply Kd.V_alloc | apply Kd.V_drewN | apply Kd.V_drew)); exact Kd.V_mono HO0.out (fun _ hk => ⟨hk.1.1.1.1.1, ⟨hk.1.1.1.1.2, ⟨hk.1.1.2, hk.1.2⟩⟩⟩)⟩, ⟨by (with_reducible repeat (first | apply Kd.N_alloc | apply Kd.N_drewN | apply Kd.N_drew)); exact Kd.N_mono HO473.out (fun _ hk => ⟨hk.1.1.1.1, ⟨hk.1.1.2, hk.1.2⟩⟩)⟩, ⟨by (with_reducible repeat (first | apply Kd.N_alloc | apply Kd.N_drewN | apply Kd.N_drew)); exact Kd.N_mono HO480.out (fun _ hk => ⟨hk.1.1.1, ⟨hk.1.1.2.1, hk.1.2⟩⟩)⟩, ⟨by (with_reducible repeat (first | apply Kd.R_alloc | apply Kd.R_drewN | apply Kd.R_drew)); exact Kd.R_mono HO484.out (fun _ hk => hk.1)⟩, ⟨by repeat (first | (with_reducible first | exact HB.out | apply below_alloc | apply pw_below_drewN | apply below_drew1) | exact HB.out)⟩⟩
    rw [if_pos c53] at H
    have c53b0 : (t488 == t490) = true := beq_iff_eq.mpr c53
    have c53b1 : (t488 != t490) = false := bne_eq_false_iff_eq.mpr c53
    clear c53
    by_cases c54 : t489 = true
    · subst c54
      have H1 : (if t491 = true then (bailiwicklaw04_PoolsOne.j0 k l0 a1 y471 t477 t478 t481 t482 ((t477.length : Int) != 1)) else (bailiwicklaw04_PoolsOne.j0 k l0 a1 y471 t477 t478 t481 t482 true)) = some r := by rw [if_pos rfl] at H; exact H
      clear H
      have H := H1
      clear H1
      by_cases c55 : t491 = true
      · subst c55
        have H1 : (bailiwicklaw04_PoolsOne.j0 k l0 a1 y471 t477 t478 t481 t482 ((t477.length : Int) != 1)) = some r := by rw [if_pos rfl] at H; exact H
        clear H
        have H := H1
        clear H1
        have H' := Aside0.mk H
        clear H
        go_wp2_with (first | ((with_reducible refine gate_callee (f := 26) rfl ?_); refine goesL_ (some 61) rfl rfl Try.func26 (by kernel_rfl) rfl #[.slice Ao19 y471.length co19] rfl (by (try simp only [List.map_toArray, List.map_cons, List.map_nil]); first | done | rfl) ?_; (with_reducible refine (pools_Right.calls k _ _ y471 false _ ?side1 ?side2 A28.out).mono ?_); (case side1 => repeat (first | exact (Kd.N_reads' HO473.out).2.2 | (with_reducible refine Kd.C_alloc ?_ _) | (with_reducible refine Kd.C_drewN ?_ _) | (with_reducible refine Kd.C_drew ?_))); (case side2 => exact (Kd.N_reads' HO473.out).2.1); rintro e w56 ⟨rfl, hb⟩; refine ⟨_, rfl, ?_⟩; have n0_ := Aside0.mk (Kd.V_below (by (with_reducible repeat (first | apply Kd.V_alloc | apply Kd.V_drewN | apply Kd.V_drew)); exact HO0.out) hb); have n1_ := Aside0.mk (Kd.N_below (by (with_reducible repeat (first | apply Kd.N_alloc | apply Kd.N_drewN | apply Kd.N_drew)); exact HO473.out) hb); have n2_ := Aside0.mk (Kd.R_below (by (with_reducible repeat (first | apply Kd.R_alloc | apply Kd.R_drewN | apply Kd.R_drew)); exact HO476.out) hb); have n3_ := Aside0.mk (Kd.N_below (by (with_reducible repeat (first | apply Kd.N_alloc | apply Kd.N_drewN | apply Kd.N_drew)); exact HO480.out) hb); have n4_ := Aside0.mk (Kd.R_below (by (with_reducible repeat (first | apply Kd.R_alloc | apply Kd.R_drewN | apply Kd.R_drew)); exact HO484.out) hb); have n5_ := Aside0.mk (Kd.R_below (by (with_reducible repeat (first | apply Kd.R_alloc | apply Kd.R_drewN | apply Kd.R_drew)); exact HO487.out) hb); have n6_ := Aside0.mk (below_step (by repeat (first | (with_reducible first | exact HB.out | apply below_alloc | apply pw_below_drewN | apply below_drew1) | exact HB.out)) hb); clear HO0; clear HO473; clear HO476; clear HO480; clear HO484; clear HO487; clear HB; have HO0 := n0_; have HO473 := n1_; have HO476 := n2_; have HO480 := n3_; have HO484 := n4_; have HO487 := n5_; have HB := n6_; clear n0_ n1_ n2_ n3_ n4_ n5_ n6_; (try clear hb); (try clear hb2); (try clear hk); (try clear hi)) | ((with_reducible refine gate_callee (f := 18) rfl ?_); refine goesL_ (some 63) rfl rfl Try.func18 (by kernel_rfl) rfl #[.slice A0 l0.length c0] rfl (by (try simp only [List.map_toArray, List.map_cons, List.map_nil]); first | done | rfl) ?_; (with_reducible refine (step_Right.calls k _ _ l0 false _ ?side1 ?side2 A29.out).mono ?_); (case side1 => repeat (first | exact (Kd.V_reads' HO0.out).2.2 | (with_reducible refine Kd.C_alloc ?_ _) | (with_reducible refine Kd.C_drewN ?_ _) | (with_reducible refine Kd.C_drew ?_))); (case side2 => exact (Kd.V_reads' HO0.out).2.1); rintro e w57 ⟨rfl, hb⟩; refine ⟨_, rfl, ?_⟩; have n0_ := Aside0.mk (Kd.V_below (by (with_reducible repeat (first | apply Kd.V_alloc | apply Kd.V_drewN | apply Kd.V_drew)); exact HO0.out) hb); have n1_ := Aside0.mk (Kd.N_below (by (with_reducible repeat (first | apply Kd.N_alloc | apply Kd.N_drewN | apply Kd.N_drew)); exact HO473.out) hb); have n2_ := Aside0.mk (Kd.R_below (by (with_reducible repeat (first | apply Kd.R_alloc | apply Kd.R_drewN | apply Kd.R_drew)); exact HO476.out) hb); have n3_ := Aside0.mk (Kd.N_below (by (with_reducible repeat (first | apply Kd.N_alloc | apply Kd.N_drewN | apply Kd.N_drew)); exact HO480.out) hb); have n4_ := Aside0.mk (Kd.R_below (by (with_reducible repeat (first | apply Kd.R_alloc | apply Kd.R_drewN | apply Kd.R_drew)); exact HO484.out) hb); have n5_ := Aside0.mk (Kd.R_below (by (with_reducible repeat (first | apply Kd.R_alloc | apply Kd.R_drewN | apply Kd.R_drew)); exact HO487.out) hb); have n6_ := Aside0.mk (below_step (by repeat (first | (with_reducible first | exact HB.out | apply below_alloc | apply pw_below_drewN | apply below_drew1) | exact HB.out)) hb); clear HO0; clear HO473; clear HO476; clear HO480; clear HO484; clear HO487; clear HB; have HO0 := n0_; have HO473 := n1_; have HO476 := n2_; have HO480 := n3_; have HO484 := n4_; have HO487 := n5_; have HB := n6_; clear n0_ n1_ n2_ n3_ n4_ n5_ n6_; (try clear hb); (try clear hb2); (try clear hk); (try clear hi); obtain ⟨Ao58, co58, eo58⟩ := Kd.N_slice HO480.out; subst eo58))
        go_meet
        case rel => exact ⟨_, (((t477.length : Int) != 1)), (by first | rfl | (simp; done) | (simp [*]; done)), H', ⟨by first | omega | exact Nat.le_refl _⟩, ⟨by (with_reducible repeat (first | apply Kd.V_alloc | apply Kd.V_drewN | apply Kd.V_drew)); exact Kd.V_mono HO0.out (fun _ hk => ⟨hk.1.1.1.1.1, ⟨hk.1.1.1.1.2, ⟨hk.1.1.2, hk.1.2⟩⟩⟩)⟩, ⟨by (with_reducible repeat (first | apply Kd.N_alloc | apply Kd.N_drewN | apply Kd.N_drew)); exact Kd.N_mono HO473.out (fun _ hk => ⟨hk.1.1.1.1, ⟨hk.1.1.2, hk.1.2⟩⟩)⟩, ⟨by (with_reducible repeat (first | apply Kd.N_alloc | apply Kd.N_drewN | apply Kd.N_drew)); exact Kd.N_mono HO480.out (fun _ hk => ⟨hk.1.1.1, ⟨hk.1.1.2.1, hk.1.2⟩⟩)⟩, ⟨by (with_reducible repeat (first | apply Kd.R_alloc | apply Kd.R_drewN | apply Kd.R_drew)); exact Kd.R_mono HO484.out (fun _ hk => hk.1)⟩, ⟨by repeat (first | (with_reducible first | exact HB.out | apply below_alloc | apply pw_below_drewN | apply below_drew1) | exact HB.out)⟩⟩
      replace c55 := Bool.eq_false_iff.mpr c55
      subst c55
      have H1 : (bailiwicklaw04_PoolsOne.j0 k l0 a1 y471 t477 t478 t481 t482 true) = some r := by rw [if_neg (show ¬ (false = true) by decide)] at H; exact H
      clear H
      have H := H1
      clear H1
      have H' := Aside0.mk H
      clear H
      go_wp2_with (first | ((with_reducible refine gate_callee (f := 26) rfl ?_); refine goesL_ (some 61) rfl rfl Try.func26 (by kernel_rfl) rfl #[.slice Ao19 y471.length co19] rfl (by (try simp only [List.map_toArray, List.map_cons, List.map_nil]); first | done | rfl) ?_; (with_reducible refine (pools_Right.calls k _ _ y471 false _ ?side1 ?side2 A28.out).mono ?_); (case side1 => repeat (first | exact (Kd.N_reads' HO473.out).2.2 | (with_reducible refine Kd.C_alloc ?_ _) | (with_reducible refine Kd.C_drewN ?_ _) | (with_reducible refine Kd.C_drew ?_))); (case side2 => exact (Kd.N_reads' HO473.out).2.1); rintro e w59 ⟨rfl, hb⟩; refine ⟨_, rfl, ?_⟩; have n0_ := Aside0.mk (Kd.V_below (by (with_reducible repeat (first | apply Kd.V_alloc | apply Kd.V_drewN | apply Kd.V_drew)); exact HO0.out) hb); have n1_ := Aside0.mk (Kd.N_below (by (with_reducible repeat (first | apply Kd.N_alloc | apply Kd.N_drewN | apply Kd.N_drew)); exact HO473.out) hb); have n2_ := Aside0.mk (Kd.R_below (by (with_reducible repeat (first | apply Kd.R_alloc | apply Kd.R_drewN | apply Kd.R_drew)); exact HO476.out) hb); have n3_ := Aside0.mk (Kd.N_below (by (with_reducible repeat (first | apply Kd.N_alloc | apply Kd.N_drewN | apply Kd.N_drew)); exact HO480.out) hb); have n4_ := Aside0.mk (Kd.R_below (by (with_reducible repeat (first | apply Kd.R_alloc | apply Kd.R_drewN | apply Kd.R_drew)); exact HO484.out) hb); have n5_ := Aside0.mk (Kd.R_below (by (with_reducible repeat (first | apply Kd.R_alloc | apply Kd.R_drewN | apply Kd.R_drew)); exact HO487.out) hb); have n6_ := Aside0.mk (below_step (by repeat (first | (with_reducible first | exact HB.out | apply below_alloc | apply pw_below_drewN | apply below_drew1) | exact HB.out)) hb); clear HO0; clear HO473; clear HO476; clear HO480; clear HO484; clear HO487; clear HB; have HO0 := n0_; have HO473 := n1_; have HO476 := n2_; have HO480 := n3_; have HO484 := n4_; have HO487 := n5_; have HB := n6_; clear n0_ n1_ n2_ n3_ n4_ n5_ n6_; (try clear hb); (try clear hb2); (try clear hk); (try clear hi)) | ((with_reducible refine gate_callee (f := 18) rfl ?_); refine goesL_ (some 63) rfl rfl Try.func18 (by kernel_rfl) rfl #[.slice A0 l0.length c0] rfl (by (try simp only [List.map_toArray, List.map_cons, List.map_nil]); first | done | rfl) ?_; (with_reducible refine (step_Right.calls k _ _ l0 false _ ?side1 ?side2 A29.out).mono ?_); (case side1 => repeat (first | exact (Kd.V_reads' HO0.out).2.2 | (with_reducible refine Kd.C_alloc ?_ _) | (with_reducible refine Kd.C_drewN ?_ _) | (with_reducible refine Kd.C_drew ?_))); (case side2 => exact (Kd.V_reads' HO0.out).2.1); rintro e w60 ⟨rfl, hb⟩; refine ⟨_, rfl, ?_⟩; have n0_ := Aside0.mk (Kd.V_below (by (with_reducible repeat (first | apply Kd.V_alloc | apply Kd.V_drewN | apply Kd.V_drew)); exact HO0.out) hb); have n1_ := Aside0.mk (Kd.N_below (by (with_reducible repeat (first | apply Kd.N_alloc | apply Kd.N_drewN | apply Kd.N_drew)); exact HO473.out) hb); have n2_ := Aside0.mk (Kd.R_below (by (with_reducible repeat (first | apply Kd.R_alloc | apply Kd.R_drewN | apply Kd.R_drew)); exact HO476.out) hb); have n3_ := Aside0.mk (Kd.N_below (by (with_reducible repeat (first | apply Kd.N_alloc | apply Kd.N_drewN | apply Kd.N_drew)); exact HO480.out) hb); have n4_ := Aside0.mk (Kd.R_below (by (with_reducible repeat (first | apply Kd.R_alloc | apply Kd.R_drewN | apply Kd.R_drew)); exact HO484.out) hb); have n5_ := Aside0.mk (Kd.R_below (by (with_reducible repeat (first | apply Kd.R_alloc | apply Kd.R_drewN | apply Kd.R_drew)); exact HO487.out) hb); have n6_ := Aside0.mk (below_step (by repeat (first | (with_reducible first | exact HB.out | apply below_alloc | apply pw_below_drewN | apply below_drew1) | exact HB.out)) hb); clear HO0; clear HO473; clear HO476; clear HO480; clear HO484; clear HO487; clear HB; have HO0 := n0_; have HO473 := n1_; have HO476 := n2_; have HO480 := n3_; have HO484 := n4_; have HO487 := n5_; have HB := n6_; clear n0_ n1_ n2_ n3_ n4_ n5_ n6_; (try clear hb); (try clear hb2); (try clear hk); (try clear hi)))
      go_meet
      case rel => exact ⟨_, (true), (by first | rfl | (simp; done) | (simp [*]; done)), H', ⟨by first | omega | exact Nat.le_refl _⟩, ⟨by (with_reducible repeat (first | apply Kd.V_alloc | apply Kd.V_drewN | apply Kd.V_drew)); exact Kd.V_mono HO0.out (fun _ hk => ⟨hk.1.1.1.1.1, ⟨hk.1.1.1.1.2, ⟨hk.1.1.2, hk.1.2⟩⟩⟩)⟩, ⟨by (with_reducible repeat (first | apply Kd.N_alloc | apply Kd.N_drewN | apply Kd.N_drew)); exact Kd.N_mono HO473.out (fun _ hk => ⟨hk.1.1.1.1, ⟨hk.1.1.2, hk.1.2⟩⟩)⟩, ⟨by (with_reducible repeat (first | apply Kd.N_alloc | apply Kd.N_drewN | apply Kd.N_drew)); exact Kd.N_mono HO480.out (fun _ hk => ⟨hk.1.1.1, ⟨hk.1.1.2.1, hk.1.2⟩⟩)⟩, ⟨by (with_reducible repeat (first | apply Kd.R_alloc | apply Kd.R_drewN | apply Kd.R_drew)); exact Kd.R_mono HO484.out (fun _ hk => hk.1)⟩, ⟨by repeat (first | (with_reducible first | exact HB.out | apply below_alloc | apply pw_below_drewN | apply below_drew1) | exact HB.out)⟩⟩
    replace c54 := Bool.eq_false_iff.mpr c54
    subst c54
    have H1 : (if t491 = true then (bailiwicklaw04_PoolsOne.j0 k l0 a1 y471 t477 t478 t481 t482 true) else (bailiwicklaw04_PoolsOne.j0 k l0 a1 y471 t477 t478 t481 t482 ((t477.length : Int) != 1))) = some r := by rw [if_neg (show ¬ (false = true) by decide)] at H; exact H
    clear H
    have H := H1
    clear H1
    by_cases c61 : t491 = true
    · subst c61
      have H1 : (bailiwicklaw04_PoolsOne.j0 k l0 a1 y471 t477 t478 t481 t482 true) = some r := by rw [if_pos rfl] at H; exact H
      clear H
      have H := H1
      clear H1
      have H' := Aside0.mk H
      clear H
      go_wp2_with (first | ((with_reducible refine gate_callee (f := 26) rfl ?_); refine goesL_ (some 61) rfl rfl Try.func26 (by kernel_rfl) rfl #[.slice Ao19 y471.length co19] rfl (by (try simp only [List.map_toArray, List.map_cons, List.map_nil]); first | done | rfl) ?_; (with_reducible refine (pools_Right.calls k _ _ y471 false _ ?side1 ?side2 A28.out).mono ?_); (case side1 => repeat (first | exact (Kd.N_reads' HO473.out).2.2 | (with_reducible refine Kd.C_alloc ?_ _) | (with_reducible refine Kd.C_drewN ?_ _) | (with_reducible refine Kd.C_drew ?_))); (case side2 => exact (Kd.N_reads' HO473.out).2.1); rintro e w62 ⟨rfl, hb⟩; refine ⟨_, rfl, ?_⟩; have n0_ := Aside0.mk (Kd.V_below (by (with_reducible repeat (first | apply Kd.V_alloc | apply Kd.V_drewN | apply Kd.V_drew)); exact HO0.out) hb); have n1_ := Aside0.mk (Kd.N_below (by (with_reducible repeat (first | apply Kd.N_alloc | apply Kd.N_drewN | apply Kd.N_drew)); exact HO473.out) hb); have n2_ := Aside0.mk (Kd.R_below (by (with_reducible repeat (first | apply Kd.R_alloc | apply Kd.R_drewN | apply Kd.R_drew)); exact HO476.out) hb); have n3_ := Aside0.mk (Kd.N_below (by (with_reducible repeat (first | apply Kd.N_alloc | apply Kd.N_drewN | apply Kd.N_drew)); exact HO480.out) hb); have n4_ := Aside0.mk (Kd.R_below (by (with_reducible repeat (first | apply Kd.R_alloc | apply Kd.R_drewN | apply Kd.R_drew)); exact HO484.out) hb); have n5_ := Aside0.mk (Kd.R_below (by (with_reducible repeat (first | apply Kd.R_alloc | apply Kd.R_drewN | apply Kd.R_drew)); exact HO487.out) hb); have n6_ := Aside0.mk (below_step (by repeat (first | (with_reducible first | exact HB.out | apply below_alloc | apply pw_below_drewN | apply below_drew1) | exact HB.out)) hb); clear HO0; clear HO473; clear HO476; clear HO480; clear HO484; clear HO487; clear HB; have HO0 := n0_; have HO473 := n1_; have HO476 := n2_; have HO480 := n3_; have HO484 := n4_; have HO487 := n5_; have HB := n6_; clear n0_ n1_ n2_ n3_ n4_ n5_ n6_; (try clear hb); (try clear hb2); (try clear hk); (try clear hi)) | ((with_reducible refine gate_callee (f := 18) rfl ?_); refine goesL_ (some 63) rfl rfl Try.func18 (by kernel_rfl) rfl #[.slice A0 l0.length c0] rfl (by (try simp only [List.map_toArray, List.map_cons, List.map_nil]); first | done | rfl) ?_; (with_reducible refine (step_Right.calls k _ _ l0 false _ ?side1 ?side2 A29.out).mono ?_); (case side1 => repeat (first | exact (Kd.V_reads' HO0.out).2.2 | (with_reducible refine Kd.C_alloc ?_ _) | (with_reducible refine Kd.C_drewN ?_ _) | (with_reducible refine Kd.C_drew ?_))); (case side2 => exact (Kd.V_reads' HO0.out).2.1); rintro e w63 ⟨rfl, hb⟩; refine ⟨_, rfl, ?_⟩; have n0_ := Aside0.mk (Kd.V_below (by (with_reducible repeat (first | apply Kd.V_alloc | apply Kd.V_drewN | apply Kd.V_drew)); exact HO0.out) hb); have n1_ := Aside0.mk (Kd.N_below (by (with_reducible repeat (first | apply Kd.N_alloc | apply Kd.N_drewN | apply Kd.N_drew)); exact HO473.out) hb); have n2_ := Aside0.mk (Kd.R_below (by (with_reducible repeat (first | apply Kd.R_alloc | apply Kd.R_drewN | apply Kd.R_drew)); exact HO476.out) hb); have n3_ := Aside0.mk (Kd.N_below (by (with_reducible repeat (first | apply Kd.N_alloc | apply Kd.N_drewN | apply Kd.N_drew)); exact HO480.out) hb); have n4_ := Aside0.mk (Kd.R_below (by (with_reducible repeat (first | apply Kd.R_alloc | apply Kd.R_drewN | apply Kd.R_drew)); exact HO484.out) hb); have n5_ := Aside0.mk (Kd.R_below (by (with_reducible repeat (first | apply Kd.R_alloc | apply Kd.R_drewN | apply Kd.R_drew)); exact HO487.out) hb); have n6_ := Aside0.mk (below_step (by repeat (first | (with_reducible first | exact HB.out | apply below_alloc | apply pw_below_drewN | apply below_drew1) | exact HB.out)) hb); clear HO0; clear HO473; clear HO476; clear HO480; clear HO484; clear HO487; clear HB; have HO0 := n0_; have HO473 := n1_; have HO476 := n2_; have HO480 := n3_; have HO484 := n4_; have HO487 := n5_; have HB := n6_; clear n0_ n1_ n2_ n3_ n4_ n5_ n6_; (try clear hb); (try clear hb2); (try clear hk); (try clear hi)))
      go_meet
      case rel => exact ⟨_, (true), (by first | rfl | (simp; done) | (simp [*]; done)), H', ⟨by first | omega | exact Nat.le_refl _⟩, ⟨by (with_reducible repeat (first | apply Kd.V_alloc | apply Kd.V_drewN | apply Kd.V_drew)); exact Kd.V_mono HO0.out (fun _ hk => ⟨hk.1.1.1.1.1, ⟨hk.1.1.1.1.2, ⟨hk.1.1.2, hk.1.2⟩⟩⟩)⟩, ⟨by (with_reducible repeat (first | apply Kd.N_alloc | apply Kd.N_drewN | apply Kd.N_drew)); exact Kd.N_mono HO473.out (fun _ hk => ⟨hk.1.1.1.1, ⟨hk.1.1.2, hk.1.2⟩⟩)⟩, ⟨by (with_reducible repeat (first | apply Kd.N_alloc | apply Kd.N_drewN | apply Kd.N_drew)); exact Kd.N_mono HO480.out (fun _ hk => ⟨hk.1.1.1, ⟨hk.1.1.2.1, hk.1.2⟩⟩)⟩, ⟨by (with_reducible repeat (first | apply Kd.R_alloc | apply Kd.R_drewN | apply Kd.R_drew)); exact Kd.R_mono HO484.out (fun _ hk => hk.1)⟩, ⟨by repeat (first | (with_reducible first | exact HB.out | apply below_alloc | apply pw_below_drewN | apply below_drew1) | exact HB.out)⟩⟩
    replace c61 := Bool.eq_false_iff.mpr c61
    subst c61
    have H1 : (bailiwicklaw04_PoolsOne.j0 k l0 a1 y471 t477 t478 t481 t482 ((t477.length : Int) != 1)) = some r := by rw [if_neg (show ¬ (false = true) by decide)] at H; exact H
    clear H
    have H := H1
    clear H1
    have H' := Aside0.mk H
    clear H
    go_wp2_with (first | ((with_reducible refine gate_callee (f := 26) rfl ?_); refine goesL_ (some 61) rfl rfl Try.func26 (by kernel_rfl) rfl #[.slice Ao19 y471.length co19] rfl (by (try simp only [List.map_toArray, List.map_cons, List.map_nil]); first | done | rfl) ?_; (with_reducible refine (pools_Right.calls k _ _ y471 false _ ?side1 ?side2 A28.out).mono ?_); (case side1 => repeat (first | exact (Kd.N_reads' HO473.out).2.2 | (with_reducible refine Kd.C_alloc ?_ _) | (with_reducible refine Kd.C_drewN ?_ _) | (with_reducible refine Kd.C_drew ?_))); (case side2 => exact (Kd.N_reads' HO473.out).2.1); rintro e w64 ⟨rfl, hb⟩; refine ⟨_, rfl, ?_⟩; have n0_ := Aside0.mk (Kd.V_below (by (with_reducible repeat (first | apply Kd.V_alloc | apply Kd.V_drewN | apply Kd.V_drew)); exact HO0.out) hb); have n1_ := Aside0.mk (Kd.N_below (by (with_reducible repeat (first | apply Kd.N_alloc | apply Kd.N_drewN | apply Kd.N_drew)); exact HO473.out) hb); have n2_ := Aside0.mk (Kd.R_below (by (with_reducible repeat (first | apply Kd.R_alloc | apply Kd.R_drewN | apply Kd.R_drew)); exact HO476.out) hb); have n3_ := Aside0.mk (Kd.N_below (by (with_reducible repeat (first | apply Kd.N_alloc | apply Kd.N_drewN | apply Kd.N_drew)); exact HO480.out) hb); have n4_ := Aside0.mk (Kd.R_below (by (with_reducible repeat (first | apply Kd.R_alloc | apply Kd.R_drewN | apply Kd.R_drew)); exact HO484.out) hb); have n5_ := Aside0.mk (Kd.R_below (by (with_reducible repeat (first | apply Kd.R_alloc | apply Kd.R_drewN | apply Kd.R_drew)); exact HO487.out) hb); have n6_ := Aside0.mk (below_step (by repeat (first | (with_reducible first | exact HB.out | apply below_alloc | apply pw_below_drewN | apply below_drew1) | exact HB.out)) hb); clear HO0; clear HO473; clear HO476; clear HO480; clear HO484; clear HO487; clear HB; have HO0 := n0_; have HO473 := n1_; have HO476 := n2_; have HO480 := n3_; have HO484 := n4_; have HO487 := n5_; have HB := n6_; clear n0_ n1_ n2_ n3_ n4_ n5_ n6_; (try clear hb); (try clear hb2); (try clear hk); (try clear hi)) | ((with_reducible refine gate_callee (f := 18) rfl ?_); refine goesL_ (some 63) rfl rfl Try.func18 (by kernel_rfl) rfl #[.slice A0 l0.length c0] rfl (by (try simp only [List.map_toArray, List.map_cons, List.map_nil]); first | done | rfl) ?_; (with_reducible refine (step_Right.calls k _ _ l0 false _ ?side1 ?side2 A29.out).mono ?_); (case side1 => repeat (first | exact (Kd.V_reads' HO0.out).2.2 | (with_reducible refine Kd.C_alloc ?_ _) | (with_reducible refine Kd.C_drewN ?_ _) | (with_reducible refine Kd.C_drew ?_))); (case side2 => exact (Kd.V_reads' HO0.out).2.1); rintro e w65 ⟨rfl, hb⟩; refine ⟨_, rfl, ?_⟩; have n0_ := Aside0.mk (Kd.V_below (by (with_reducible repeat (first | apply Kd.V_alloc | apply Kd.V_drewN | apply Kd.V_drew)); exact HO0.out) hb); have n1_ := Aside0.mk (Kd.N_below (by (with_reducible repeat (first | apply Kd.N_alloc | apply Kd.N_drewN | apply Kd.N_drew)); exact HO473.out) hb); have n2_ := Aside0.mk (Kd.R_below (by (with_reducible repeat (first | apply Kd.R_alloc | apply Kd.R_drewN | apply Kd.R_drew)); exact HO476.out) hb); have n3_ := Aside0.mk (Kd.N_below (by (with_reducible repeat (first | apply Kd.N_alloc | apply Kd.N_drewN | apply Kd.N_drew)); exact HO480.out) hb); have n4_ := Aside0.mk (Kd.R_below (by (with_reducible repeat (first | apply Kd.R_alloc | apply Kd.R_drewN | apply Kd.R_drew)); exact HO484.out) hb); have n5_ := Aside0.mk (Kd.R_below (by (with_reducible repeat (first | apply Kd.R_alloc | apply Kd.R_drewN | apply Kd.R_drew)); exact HO487.out) hb); have n6_ := Aside0.mk (below_step (by repeat (first | (with_reducible first | exact HB.out | apply below_alloc | apply pw_below_drewN | apply below_drew1) | exact HB.out)) hb); clear HO0; clear HO473; clear HO476; clear HO480; clear HO484; clear HO487; clear HB; have HO0 := n0_; have HO473 := n1_; have HO476 := n2_; have HO480 := n3_; have HO484 := n4_; have HO487 := n5_; have HB := n6_; clear n0_ n1_ n2_ n3_ n4_ n5_ n6_; (try clear hb); (try clear hb2); (try clear hk); (try clear hi); obtain ⟨Ao66, co66, eo66⟩ := Kd.N_slice HO480.out; subst eo66))
    go_meet
    case rel => exact ⟨_, (((t477.length : Int) != 1)), (by first | rfl | (simp; done) | (simp [*]; done)), H', ⟨by first | omega | exact Nat.le_refl _⟩, ⟨by (with_reducible repeat (first | apply Kd.V_alloc | apply Kd.V_drewN | apply Kd.V_drew)); exact Kd.V_mono HO0.out (fun _ hk => ⟨hk.1.1.1.1.1, ⟨hk.1.1.1.1.2, ⟨hk.1.1.2, hk.1.2⟩⟩⟩)⟩, ⟨by (with_reducible repeat (first | apply Kd.N_alloc | apply Kd.N_drewN | apply Kd.N_drew)); exact Kd.N_mono HO473.out (fun _ hk => ⟨hk.1.1.1.1, ⟨hk.1.1.2, hk.1.2⟩⟩)⟩, ⟨by (with_reducible repeat (first | apply Kd.N_alloc | apply Kd.N_drewN | apply Kd.N_drew)); exact Kd.N_mono HO480.out (fun _ hk => ⟨hk.1.1.1, ⟨hk.1.1.2.1, hk.1.2⟩⟩)⟩, ⟨by (with_reducible repeat (first | apply Kd.R_alloc | apply Kd.R_drewN | apply Kd.R_drew)); exact Kd.R_mono HO484.out (fun _ hk => hk.1)⟩, ⟨by repeat (first | (with_reducible first | exact HB.out | apply below_alloc | apply pw_below_drewN | apply below_drew1) | exact HB.out)⟩⟩
  clear HC13
  try clear c1
  try clear c2
  try clear p2
  try clear c3
  try clear c4
  try clear c5
  try clear c6
  try clear c7
  try clear c7b0
  try clear c7b1
  try clear c8
  try clear c18
  try clear c22
  try clear c23
  try clear c24
  try clear c25
  try clear c26
  try clear c30
  try clear c31
  try clear c32
  try clear c32b0
  try clear c32b1
  try clear c33
  try clear c34
  try clear c40
  try clear c50
  try clear c53
  try clear c53b0
  try clear c53b1
  try clear c54
  try clear c55
  try clear c61
  obtain ⟨kq, x79_12, rfl, HA, HJ12, HO_0, HO_9, HO_10, HO_12, HB⟩ := hcut
  rcases kq with _ | kj12
  · exact absurd HA.out (by simp [bailiwicklaw04_PoolsOne.j0])
  have H := HA.out
  clear HA
  simp only [bailiwicklaw04_PoolsOne.j0] at H
  by_cases c69 : x79_12 = true
  · subst c69
    have H1 : (none) = some r := by rw [if_pos rfl] at H; exact H
    clear H
    have H := H1
    clear H1
    exact absurd H (by simp)
  replace c69 := Bool.eq_false_iff.mpr c69
  subst c69
  have H1 : ((step_Right.f kj12 l0).bind fun t494 => (if t494 = true then ((pools_At.f kj12 y471 a1).bind fun t495 => (if t478 = t482 then (if 0 < (t477.length : Int) then ((bailiwickref03_Same.f kj12 (rd_L2 t477 0) t481).bind fun t499 => (if t499 = true then (if (t495.length : Int) = 1 then (if 0 < (t495.length : Int) then ((step_At.f kj12 l0 a1).bind fun t501 => (some ((rd t495 0) == t501))) else (none)) else (none)) else (none))) else (none)) else (none))) else (if t478 = 1 then ((pools_At.f kj12 y471 a1).bind fun t502 => (some ((t502.length : Int) == 0))) else (none)))) = some r := by rw [if_neg (show ¬ (false = true) by decide)] at H; exact H
  clear H
  have H := H1
  clear H1
  replace H := Option.bind_eq_some_iff.mp H
  obtain ⟨t494, A700, H⟩ := H
  replace H : (if t494 = true then ((pools_At.f kj12 y471 a1).bind fun t495 => (if t478 = t482 then (if 0 < (t477.length : Int) then ((bailiwickref03_Same.f kj12 (rd_L2 t477 0) t481).bind fun t499 => (if t499 = true then (if (t495.length : Int) = 1 then (if 0 < (t495.length : Int) then ((step_At.f kj12 l0 a1).bind fun t501 => (some ((rd t495 0) == t501))) else (none)) else (none)) else (none))) else (none)) else (none))) else (if t478 = 1 then ((pools_At.f kj12 y471 a1).bind fun t502 => (some ((t502.length : Int) == 0))) else (none))) = some r := H
  have A70 := Aside0.mk A700
  clear A700
  by_cases c71 : t494 = true
  rotate_left
  · replace c71 := Bool.eq_false_iff.mpr c71
    subst c71
    have H1 : (if t478 = 1 then ((pools_At.f kj12 y471 a1).bind fun t502 => (some ((t502.length : Int) == 0))) else (none)) = some r := by rw [if_neg (show ¬ (false = true) by decide)] at H; exact H
    clear H
    have H := H1
    clear H1
    by_cases c87 : t478 = 1
    rotate_left
    · rw [if_neg c87] at H
      exact absurd H (by simp)
    rw [if_pos c87] at H
    have c87b0 : (t478 == 1) = true := beq_iff_eq.mpr c87
    have c87b1 : (t478 != 1) = false := bne_eq_false_iff_eq.mpr c87
    clear c87
    replace H := Option.bind_eq_some_iff.mp H
    obtain ⟨t502, A880, H⟩ := H
    replace H : (some ((t502.length : Int) == 0)) = some r := H
    have A88 := Aside0.mk A880
    clear A880
    obtain rfl := Option.some.inj H
    go_wp2_with (first | ((with_reducible refine gate_callee (f := 18) rfl ?_); refine goesL_ (some 81) rfl rfl Try.func18 (by kernel_rfl) rfl #[.slice A0 l0.length c0] rfl (by (try simp only [List.map_toArray, List.map_cons, List.map_nil]); first | done | rfl) ?_; (with_reducible refine (step_Right.calls kj12 _ _ l0 false _ ?side1 ?side2 A70.out).mono ?_); (case side1 => repeat (first | exact (Kd.V_reads' HO_0.out).2.2 | (with_reducible refine Kd.C_alloc ?_ _) | (with_reducible refine Kd.C_drewN ?_ _) | (with_reducible refine Kd.C_drew ?_))); (case side2 => exact (Kd.V_reads' HO_0.out).2.1); rintro e w89 ⟨rfl, hb⟩; refine ⟨_, rfl, ?_⟩; have n0_ := Aside0.mk (Kd.V_below (by (with_reducible repeat (first | apply Kd.V_alloc | apply Kd.V_drewN | apply Kd.V_drew)); exact HO_0.out) hb); have n1_ := Aside0.mk (Kd.N_below (by (with_reducible repeat (first | apply Kd.N_alloc | apply Kd.N_drewN | apply Kd.N_drew)); exact HO_9.out) hb); have n2_ := Aside0.mk (Kd.N_below (by (with_reducible repeat (first | apply Kd.N_alloc | apply Kd.N_drewN | apply Kd.N_drew)); exact HO_10.out) hb); have n3_ := Aside0.mk (Kd.R_below (by (with_reducible repeat (first | apply Kd.R_alloc | apply Kd.R_drewN | apply Kd.R_drew)); exact HO_12.out) hb); have n4_ := Aside0.mk (below_step (by repeat (first | (with_reducible first | exact HB.out | apply below_alloc | apply pw_below_drewN | apply below_drew1) | exact HB.out)) hb); clear HO_0; clear HO_9; clear HO_10; clear HO_12; clear HB; have HO_0 := n0_; have HO_9 := n1_; have HO_10 := n2_; have HO_12 := n3_; have HB := n4_; clear n0_ n1_ n2_ n3_ n4_; (try clear hb); (try clear hb2); (try clear hk); (try clear hi)) | (go_at_call 27; (with_reducible refine (pools_At.calls kj12 _ _ y471 a1 t502 _ ?side1 ?side2 A88.out).mono ?_); (case side1 => repeat (first | exact (Kd.N_reads' HO_9.out).2.2 | (with_reducible refine Kd.C_alloc ?_ _) | (with_reducible refine Kd.C_drewN ?_ _) | (with_reducible refine Kd.C_drew ?_))); (case side2 => exact (Kd.N_reads' HO_9.out).2.1); rintro e w90 ⟨v503, rfl, ho0, hb⟩; have n0_ := Aside0.mk (Kd.V_elder' (by (with_reducible repeat (first | apply Kd.V_alloc | apply Kd.V_drewN | apply Kd.V_drew)); exact HO_0.out) (Kd.R_base ho0) hb); have n1_ := Aside0.mk (Kd.N_elder' (by (with_reducible repeat (first | apply Kd.N_alloc | apply Kd.N_drewN | apply Kd.N_drew)); exact HO_9.out) (Kd.R_base ho0) hb); have n2_ := Aside0.mk (Kd.N_elder' (by (with_reducible repeat (first | apply Kd.N_alloc | apply Kd.N_drewN | apply Kd.N_drew)); exact HO_10.out) (Kd.R_base ho0) hb); have n3_ := Aside0.mk (Kd.R_below (by (with_reducible repeat (first | apply Kd.R_alloc | apply Kd.R_drewN | apply Kd.R_drew)); exact HO_12.out) hb); have n4_ := Aside0.mk (Kd.R_lower (Kd.R_newM (M := fun k_ => (w.heap.size ≤ k_)) ho0 (below_size (by repeat (first | (with_reducible first | exact HB.out | apply below_alloc | apply pw_below_drewN | apply below_drew1) | exact HB.out))) (fun k_ h_ => h_)) (below_size (by repeat (first | (with_reducible first | exact HB.out | apply below_alloc | apply pw_below_drewN | apply below_drew1) | exact HB.out)))); have n5_ := Aside0.mk (below_step (by repeat (first | (with_reducible first | exact HB.out | apply below_alloc | apply pw_below_drewN | apply below_drew1) | exact HB.out)) hb); clear HO_0; clear HO_9; clear HO_10; clear HO_12; clear HB; have HO_0 := n0_; have HO_9 := n1_; have HO_10 := n2_; have HO_12 := n3_; have HO504 := n4_; have HB := n5_; clear n0_ n1_ n2_ n3_ n4_ n5_; (try clear hb); (try clear hb2); (try clear hk); (try clear hi); (try clear ho0); obtain ⟨Ao91, co91, eo91⟩ := Kd.R_slice HO504.out; subst eo91))
    go_ret
    exact ⟨by first | rfl | (simp [errW_none, errW_some] <;> rfl) | (simp [*, errW_none, errW_some] <;> rfl), by repeat (first | (with_reducible first | exact HB.out | apply below_alloc | apply pw_below_drewN | apply below_drew1) | exact HB.out)⟩
  subst c71
  have H1 : ((pools_At.f kj12 y471 a1).bind fun t495 => (if t478 = t482 then (if 0 < (t477.length : Int) then ((bailiwickref03_Same.f kj12 (rd_L2 t477 0) t481).bind fun t499 => (if t499 = true then (if (t495.length : Int) = 1 then (if 0 < (t495.length : Int) then ((step_At.f kj12 l0 a1).bind fun t501 => (some ((rd t495 0) == t501))) else (none)) else (none)) else (none))) else (none)) else (none))) = some r := by rw [if_pos rfl] at H; exact H
  clear H
  have H := H1
  clear H1
  replace H := Option.bind_eq_some_iff.mp H
  obtain ⟨t495, A720, H⟩ := H
  replace H : (if t478 = t482 then (if 0 < (t477.length : Int) then ((bailiwickref03_Same.f kj12 (rd_L2 t477 0) t481).bind fun t499 => (if t499 = true then (if (t495.length : Int) = 1 then (if 0 < (t495.length : Int) then ((step_At.f kj12 l0 a1).bind fun t501 => (some ((rd t495 0) == t501))) else (none)) else (none)) else (none))) else (none)) else (none)) = some r := H
  have A72 := Aside0.mk A720
  clear A720
  by_cases c73 : t478 = t482
  rotate_left
  · rw [if_neg c73] at H
    have c73b0 : (t478 == t482) = false := beq_eq_false_iff_ne.mpr c73
    have c73b1 : (t478 != t482) = true := bne_iff_ne.mpr c73
    exact absurd H (by simp)
  rw [if_pos c73] at H
  have c73b0 : (t478 == t482) = true := beq_iff_eq.mpr c73
  have c73b1 : (t478 != t482) = false := bne_eq_false_iff_eq.mpr c73
  clear c73
  by_cases c74 : 0 < (t477.length : Int)
  rotate_left
  · rw [if_neg c74] at H
    exact absurd H (by simp)
  rw [if_pos c74] at H
  have c74b0 : decide (0 < (t477.length : Int)) = true := decide_eq_true c74
  have c74b1 : decide (0 < t477.length) = true := decide_eq_true (by omega)
  clear c74
  replace H := Option.bind_eq_some_iff.mp H
  obtain ⟨t499, A750, H⟩ := H
  replace H : (if t499 = true then (if (t495.length : Int) = 1 then (if 0 < (t495.length : Int) then ((step_At.f kj12 l0 a1).bind fun t501 => (some ((rd t495 0) == t501))) else (none)) else (none)) else (none)) = some r := H
  have A75 := Aside0.mk A750
  clear A750
  by_cases c76 : t499 = true
  rotate_left
  · replace c76 := Bool.eq_false_iff.mpr c76
    subst c76
    have H1 : (none) = some r := by rw [if_neg (show ¬ (false = true) by decide)] at H; exact H
    clear H
    have H := H1
    clear H1
    exact absurd H (by simp)
  subst c76
  have H1 : (if (t495.length : Int) = 1 then (if 0 < (t495.length : Int) then ((step_At.f kj12 l0 a1).bind fun t501 => (some ((rd t495 0) == t501))) else (none)) else (none)) = some r := by rw [if_pos rfl] at H; exact H
  clear H
  have H := H1
  clear H1
  by_cases c77 : (t495.length : Int) = 1
  rotate_left
  · rw [if_neg c77] at H
    have c77b0 : ((t495.length : Int) == 1) = false := beq_eq_false_iff_ne.mpr c77
    have c77b1 : ((t495.length : Int) != 1) = true := bne_iff_ne.mpr c77
    exact absurd H (by simp)
  rw [if_pos c77] at H
  have c77b0 : ((t495.length : Int) == 1) = true := beq_iff_eq.mpr c77
  have c77b1 : ((t495.length : Int) != 1) = false := bne_eq_false_iff_eq.mpr c77
  clear c77
  by_cases c78 : 0 < (t495.length : Int)
  rotate_left
  · rw [if_neg c78] at H
    exact absurd H (by simp)
  rw [if_pos c78] at H
  have c78b0 : decide (0 < (t495.length : Int)) = true := decide_eq_true c78
  have c78b1 : decide (0 < t495.length) = true := decide_eq_true (by omega)
  clear c78
  replace H := Option.bind_eq_some_iff.mp H
  obtain ⟨t501, A790, H⟩ := H
  replace H : (some ((rd t495 0) == t501)) = some r := H
  have A79 := Aside0.mk A790
  clear A790
  obtain rfl := Option.some.inj H
  try go_wp2_with (first | ((with_reducible refine gate_callee (f := 18) rfl ?_); refine goesL_ (some 81) rfl rfl Try.func18 (by kernel_rfl) rfl #[.slice A0 l0.length c0] rfl (by (try simp only [List.map_toArray, List.map_cons, List.map_nil]); first | done | rfl) ?_; (with_reducible refine (step_Right.calls kj12 _ _ l0 true _ ?side1 ?side2 A70.out).mono ?_); (case side1 => repeat (first | exact (Kd.V_reads' HO_0.out).2.2 | (with_reducible refine Kd.C_alloc ?_ _) | (with_reducible refine Kd.C_drewN ?_ _) | (with_reducible refine Kd.C_drew ?_))); (case side2 => exact (Kd.V_reads' HO_0.out).2.1); rintro e w80 ⟨rfl, hb⟩; refine ⟨_, rfl, ?_⟩; have n0_ := Aside0.mk (Kd.V_below (by (with_reducible repeat (first | apply Kd.V_alloc | apply Kd.V_drewN | apply Kd.V_drew)); exact HO_0.out) hb); have n1_ := Aside0.mk (Kd.N_below (by (with_reducible repeat (first | apply Kd.N_alloc | apply Kd.N_drewN | apply Kd.N_drew)); exact HO_9.out) hb); have n2_ := Aside0.mk (Kd.N_below (by (with_reducible repeat (first | apply Kd.N_alloc | apply Kd.N_drewN | apply Kd.N_drew)); exact HO_10.out) hb); have n3_ := Aside0.mk (Kd.R_below (by (with_reducible repeat (first | apply Kd.R_alloc | apply Kd.R_drewN | apply Kd.R_drew)); exact HO_12.out) hb); have n4_ := Aside0.mk (below_step (by repeat (first | (with_reducible first | exact HB.out | apply below_alloc | apply pw_below_drewN | apply below_drew1) | exact HB.out)) hb); clear HO_0; clear HO_9; clear HO_10; clear HO_12; clear HB; have HO_0 := n0_; have HO_9 := n1_; have HO_10 := n2_; have HO_12 := n3_; have HB := n4_; clear n0_ n1_ n2_ n3_ n4_; (try clear hb); (try clear hb2); (try clear hk); (try clear hi)) | ((with_reducible refine gate_callee (f := 27) rfl ?_); refine goesL_ (some 94) rfl rfl Try.func27 (by kernel_rfl) rfl #[.slice Ao19 y471.length co19, .int .i64 a1] rfl (by (try simp only [List.map_toArray, List.map_cons, List.map_nil]); first | done | rfl) ?_; (with_reducible refine (pools_At.calls kj12 _ _ y471 a1 t495 _ ?side1 ?side2 A72.out).mono ?_); (case side1 => repeat (first | exact (Kd.N_reads' HO_9.out).2.2 | (with_reducible refine Kd.C_alloc ?_ _) | (with_reducible refine Kd.C_drewN ?_ _) | (with_reducible refine Kd.C_drew ?_))); (case side2 => exact (Kd.N_reads' HO_9.out).2.1); rintro e w81 ⟨v496, rfl, ho0, hb⟩; refine ⟨_, rfl, ?_⟩; have n0_ := Aside0.mk (Kd.V_elder' (by (with_reducible repeat (first | apply Kd.V_alloc | apply Kd.V_drewN | apply Kd.V_drew)); exact HO_0.out) (Kd.R_base ho0) hb); have n1_ := Aside0.mk (Kd.N_elder' (by (with_reducible repeat (first | apply Kd.N_alloc | apply Kd.N_drewN | apply Kd.N_drew)); exact HO_9.out) (Kd.R_base ho0) hb); have n2_ := Aside0.mk (Kd.N_elder' (by (with_reducible repeat (first | apply Kd.N_alloc | apply Kd.N_drewN | apply Kd.N_drew)); exact HO_10.out) (Kd.R_base ho0) hb); have n3_ := Aside0.mk (Kd.R_below (by (with_reducible repeat (first | apply Kd.R_alloc | apply Kd.R_drewN | apply Kd.R_drew)); exact HO_12.out) hb); have n4_ := Aside0.mk (Kd.R_lower (Kd.R_newM (M := fun k_ => (w.heap.size ≤ k_)) ho0 (below_size (by repeat (first | (with_reducible first | exact HB.out | apply below_alloc | apply pw_below_drewN | apply below_drew1) | exact HB.out))) (fun k_ h_ => h_)) (below_size (by repeat (first | (with_reducible first | exact HB.out | apply below_alloc | apply pw_below_drewN | apply below_drew1) | exact HB.out)))); have n5_ := Aside0.mk (below_step (by repeat (first | (with_reducible first | exact HB.out | apply below_alloc | apply pw_below_drewN | apply below_drew1) | exact HB.out)) hb); clear HO_0; clear HO_9; clear HO_10; clear HO_12; clear HB; have HO_0 := n0_; have HO_9 := n1_; have HO_10 := n2_; have HO_12 := n3_; have HO497 := n4_; have HB := n5_; clear n0_ n1_ n2_ n3_ n4_ n5_; (try clear hb); (try clear hb2); (try clear hk); (try clear hi); (try clear ho0)))
  have n0_ := Aside0.mk (Kd.V_drew HO_0.out)
  have n1_ := Aside0.mk (Kd.N_drew HO_9.out)
  have n2_ := Aside0.mk (Kd.N_drew HO_10.out)
  have n3_ := Aside0.mk (Kd.R_drew HO_12.out)
  have n4_ := Aside0.mk (Kd.R_drew HO497.out)
  have n5_ := Aside0.mk (below_drew1 HB.out)
  clear HO_0
  clear HO_9
  clear HO_10
  clear HO_12
  clear HO497
  clear HB
  have HO_0 := n0_
  have HO_9 := n1_
  have HO_10 := n2_
  have HO_12 := n3_
  have HO497 := n4_
  have HB := n5_
  clear n0_ n1_ n2_ n3_ n4_ n5_
  obtain ⟨Ao83, co83, eo83⟩ := Kd.N_slice HO_10.out
  (first | subst eo83 | (injection eo83 with f1_ f2_ f3_; have f4_ := f1_.symm; have f5_ := f3_.symm; clear f1_ f2_ f3_; subst f4_; subst f5_))
  have p498 : 0 ≤ (0 : Int) := (by omega)
  have q498 : 0 < (t477.length : Int) := of_decide_eq_true (by first | (with_reducible assumption) | assumption)
  obtain ⟨ad498, A498_0, c498_0, e498, hx498_0, hl498_0, hi498_0⟩ := at_L2 (Kd.N_reads' HO_10.out).2.2 0 p498 q498
  cases e498
  obtain ⟨ce498, hce498, hMe498, hcc498⟩ := Kd.N_get HO_10.out [] 0 p498 (by first | exact q498 | exact of_decide_eq_true (by first | (with_reducible assumption) | assumption) | (have e_ := (Kd.N_reads' HO_10.out).1; omega))
  obtain ⟨ua498_0, uc498_0, rfl, ul498_0, ge498_0⟩ := Kd.FK_slice_open hMe498
  have hv498_0 := hcc498 0 _ rfl
  rw [Nat.add_zero, show ((Kd.slice 38 k38)).sz = 1 from rfl, Nat.mul_one] at hv498_0
  replace hv498_0 := Option.some.inj (hv498_0.symm.trans hx498_0)
  injection hv498_0 with hva_ hvn_ hvc_
  rw [hva_] at ge498_0
  rw [hvc_] at ul498_0
  have HL498_0 := Aside0.mk (show Kd.V k38 38 _ w.heap.size _ _ (rd_L2 t477 0) from Kd.V_mk ul498_0 ge498_0)
  clear hva_ hvn_ hvc_ ge498_0 ul498_0
  clear hcc498 hce498
  have qi498 : (0 < t477.length) = True := eq_true (by omega)
  (try rw [show ((0 : Int)).toNat = 0 from rfl] at hx498_0)
  (try rw [Addr.add_zero'] at hx498_0)
  have HR498_0 := Aside0.mk hi498_0
  have HC498_0 := Aside0.mk hl498_0
  clear hi498_0 hl498_0
  replace p498 := eq_true p498
  replace q498 := eq_true q498
  obtain ⟨Ao84, co84, eo84⟩ := Kd.R_slice HO_12.out
  (first | subst eo84 | (injection eo84 with f1_ f2_ f3_; have f4_ := f1_.symm; have f5_ := f3_.symm; clear f1_ f2_ f3_; subst f4_; subst f5_))
  have p500 : 0 ≤ (0 : Int) := (by omega)
  have q500 : 0 < (t495.length : Int) := of_decide_eq_true (by first | (with_reducible assumption) | assumption)
  obtain ⟨Ao85, co85, eo85⟩ := Kd.R_slice HO497.out
  (first | subst eo85 | (injection eo85 with f1_ f2_ f3_; have f4_ := f1_.symm; have f5_ := f3_.symm; clear f1_ f2_ f3_; subst f4_; subst f5_))
  obtain ⟨ad500, e500, hx500_0⟩ := Kd.at_int (Kd.R_reads' HO497.out).2.2 0 p500 q500
  cases e500
  have qi500 : (0 < t495.length) = True := eq_true (by omega)
  (try rw [show ((0 : Int)).toNat = 0 from rfl] at hx500_0)
  (try rw [Addr.add_zero'] at hx500_0)
  replace p500 := eq_true p500
  replace q500 := eq_true q500
  refine start_ (n := 25) (S := fun w' => w'.cell? ad498 = some (.slice A498_0 (rd_L2 t477 0).length c498_0) ∧ w'.cell? ad500 = some (.int .i64 (rd t495 0))) (ds := []) #[false, false, false, false, false, false, false, false, false, false, false, false, false, false, false, false, false, false, false, false, false, false, false, false, false] (by kernel_rfl) rfl rfl ⟨hx498_0, hx500_0⟩ (fun hHeld => ?_); refine with_tabW bailiwicklaw04_PoolsOne.tab15 bailiwicklaw04_PoolsOne.bits15 (fun HT_ HW_ => ?_)
  generalize w81.drew = w82 at HO_0 HO_9 HO_10 HO_12 HO497 HB HL498_0 HR498_0 hx498_0 hx500_0 hHeld ⊢
  refine pure_ (i := 0) (N := some 95) (v := ?_) (a' := ?_) #[true, false, false, false, false, false, false, false, false, false, false, false, false, false, false, false, false, false, false, false, false, false, false, false, false] rfl rfl (any_of HT_.out (by kernel_rfl)) (fun _ _ _ h => h) (Or.inl ⟨by rfl, ?_⟩) ?_ ?_
  rotate_left
  · intro w'
    go_simp
    with_reducible rfl
  rotate_left
  · simp only [Act.put, List.setIfInBounds_toArray, List.set_cons_zero, List.set_cons_succ, i64_w, i32_w]
    rfl
  refine pure_ (i := 1) (N := some 96) (v := ?_) (a' := ?_) #[true, true, false, false, false, false, false, false, false, false, false, false, false, false, false, false, false, false, false, false, false, false, false, false, false] rfl rfl (any_of HT_.out (by kernel_rfl)) (fun _ _ _ h => h) (Or.inl ⟨by rfl, ?_⟩) ?_ ?_
  rotate_left
  · intro w'
    go_simp
    with_reducible rfl
  rotate_left
  · simp only [Act.put, List.setIfInBounds_toArray, List.set_cons_zero, List.set_cons_succ, i64_w, i32_w]
    rfl
  refine pure_ (i := 2) (N := some 97) (v := ?_) (a' := ?_) #[true, true, true, false, false, false, false, false, false, false, false, false, false, false, false, false, false, false, false, false, false, false, false, false, false] rfl rfl (any_of HT_.out (by kernel_rfl)) (fun _ _ _ h => h) (Or.inl ⟨by rfl, ?_⟩) ?_ ?_
  rotate_left
  · intro w'
    go_simp
    with_reducible rfl
  rotate_left
  · simp only [Act.put, List.setIfInBounds_toArray, List.set_cons_zero, List.set_cons_succ, i64_w, i32_w]
    rfl
  refine pure_ (i := 3) (N := some 98) (v := ?_) (a' := ?_) #[true, true, true, true, false, false, false, false, false, false, false, false, false, false, false, false, false, false, false, false, false, false, false, false, false] rfl rfl (any_of HT_.out (by kernel_rfl)) (fun _ _ _ h => h) (Or.inl ⟨by rfl, ?_⟩) ?_ ?_
  rotate_left
  · intro w'
    go_simp
    with_reducible rfl
  rotate_left
  · simp only [Act.put, List.setIfInBounds_toArray, List.set_cons_zero, List.set_cons_succ, i64_w, i32_w]
    rfl
  refine pure_ (i := 4) (N := some 99) (v := ?_) (a' := ?_) #[true, true, true, true, true, false, false, false, false, false, false, false, false, false, false, false, false, false, false, false, false, false, false, false, false] rfl rfl (any_of HT_.out (by kernel_rfl)) (fun _ _ _ h => h) (Or.inl ⟨by rfl, ?_⟩) ?_ ?_
  rotate_left
  · intro w'
    go_simp
    with_reducible rfl
  rotate_left
  · simp only [Act.put, List.setIfInBounds_toArray, List.set_cons_zero, List.set_cons_succ, i64_w, i32_w]
    rfl
  refine pure_ (i := 5) (N := some 100) (v := ?_) (a' := ?_) #[true, true, true, true, true, true, false, false, false, false, false, false, false, false, false, false, false, false, false, false, false, false, false, false, false] rfl rfl (any_of HT_.out (by kernel_rfl)) (fun _ _ _ h => h) (Or.inl ⟨by rfl, ?_⟩) ?_ ?_
  rotate_left
  · intro w'
    go_simp
    with_reducible rfl
  rotate_left
  · simp only [Act.put, List.setIfInBounds_toArray, List.set_cons_zero, List.set_cons_succ, i64_w, i32_w]
    rfl
  refine pure_ (i := 7) (N := some 102) (v := ?_) (a' := ?_) #[true, true, true, true, true, true, false, true, false, false, false, false, false, false, false, false, false, false, false, false, false, false, false, false, false] rfl rfl (any_of HT_.out (by kernel_rfl)) (fun _ _ _ h => h) (Or.inl ⟨by rfl, ?_⟩) ?_ ?_
  rotate_left
  · intro w'
    go_simp
    with_reducible rfl
  rotate_left
  · simp only [Act.put, List.setIfInBounds_toArray, List.set_cons_zero, List.set_cons_succ, i64_w, i32_w]
    rfl
  refine take_ (i := 6) (N := some 101) (v := ?_) (a' := ?_) #[true, true, true, true, true, true, true, true, false, false, false, false, false, false, false, false, false, false, false, false, false, false, false, false, false] rfl rfl (take_ofW HT_.out HW_.out (by kernel_rfl)) (fun _ _ _ h => h) (Or.inl ⟨by rfl, ?_⟩) hHeld ?_ ?_
  rotate_left
  · rintro w' ⟨s0, s1⟩
    go_simp
    with_reducible rfl
  rotate_left
  · simp only [Act.put, List.setIfInBounds_toArray, List.set_cons_zero, List.set_cons_succ, i64_w, i32_w]
    rfl
  refine one_ (i := 8) (N := some 103) #[true, true, true, true, true, true, true, true, true, false, false, false, false, false, false, false, false, false, false, false, false, false, false, false, false] rfl rfl (one_of HT_.out (by kernel_rfl)) (by decide) (fun K hK => ?_)
  refine goes_ Try.func9 (by kernel_rfl) rfl #[.slice A498_0 (rd_L2 t477 0).length c498_0, .slice Ao84 t481.length co84] (by rfl) rfl rfl (by (try simp only [List.map_toArray, List.map_cons, List.map_nil]); first | done | rfl) ?_
  with_reducible refine (bailiwickref03_Same.calls kj12 _ _ (rd_L2 t477 0) _ _ t481 true _ ?side1 ?side2 ?side3 ?side4 A75.out).mono ?_
  (case side1 => repeat (first | exact (by repeat (first | (with_reducible exact HR498_0.out) | (with_reducible refine Kd.C_alloc ?_ _) | (with_reducible refine Kd.C_drewN ?_ _) | (with_reducible refine Kd.C_drew ?_) | exact HR498_0.out)) | (with_reducible refine Kd.C_alloc ?_ _) | (with_reducible refine Kd.C_drewN ?_ _) | (with_reducible refine Kd.C_drew ?_)))
  (case side2 => exact HC498_0.out)
  (case side3 => repeat (first | exact (Kd.R_reads' HO_12.out).2.2 | (with_reducible refine Kd.C_alloc ?_ _) | (with_reducible refine Kd.C_drewN ?_ _) | (with_reducible refine Kd.C_drew ?_)))
  (case side4 => exact (Kd.R_reads' HO_12.out).2.1)
  rintro e w' ⟨rfl, ⟨nd, rfl⟩⟩
  refine ⟨_, rfl, ?_⟩
  refine hK.out _ _ ⟨hHeld.1, hHeld.2⟩ (fun hHeld => ?_)
  clear hK K
  refine norm_ (a' := ?_) ?_ ?_
  rotate_left
  · show Act.put _ (some 103) _ = _
    simp only [Act.put, List.setIfInBounds_toArray, List.set_cons_zero, List.set_cons_succ, i64_w, i32_w]
    rfl
  refine pure_ (i := 9) (N := some 104) (v := ?_) (a' := ?_) #[true, true, true, true, true, true, true, true, true, true, false, false, false, false, false, false, false, false, false, false, false, false, false, false, false] rfl rfl (any_of HT_.out (by kernel_rfl)) (fun _ _ _ h => h) (Or.inl ⟨by rfl, ?_⟩) ?_ ?_
  rotate_left
  · intro w'
    go_simp
    with_reducible rfl
  rotate_left
  · simp only [Act.put, List.setIfInBounds_toArray, List.set_cons_zero, List.set_cons_succ, i64_w, i32_w]
    rfl
  refine pure_ (i := 10) (N := some 105) (v := ?_) (a' := ?_) #[true, true, true, true, true, true, true, true, true, true, true, false, false, false, false, false, false, false, false, false, false, false, false, false, false] rfl rfl (any_of HT_.out (by kernel_rfl)) (fun _ _ _ h => h) (Or.inl ⟨by rfl, ?_⟩) ?_ ?_
  rotate_left
  · intro w'
    go_simp
    with_reducible rfl
  rotate_left
  · simp only [Act.put, List.setIfInBounds_toArray, List.set_cons_zero, List.set_cons_succ, i64_w, i32_w]
    rfl
  refine pure_ (i := 11) (N := some 106) (v := ?_) (a' := ?_) #[true, true, true, true, true, true, true, true, true, true, true, true, false, false, false, false, false, false, false, false, false, false, false, false, false] rfl rfl (any_of HT_.out (by kernel_rfl)) (fun _ _ _ h => h) (Or.inl ⟨by rfl, ?_⟩) ?_ ?_
  rotate_left
  · intro w'
    go_simp
    with_reducible rfl
  rotate_left
  · simp only [Act.put, List.setIfInBounds_toArray, List.set_cons_zero, List.set_cons_succ, i64_w, i32_w]
    rfl
  refine pure_ (i := 12) (N := some 107) (v := ?_) (a' := ?_) #[true, true, true, true, true, true, true, true, true, true, true, true, true, false, false, false, false, false, false, false, false, false, false, false, false] rfl rfl (any_of HT_.out (by kernel_rfl)) (fun _ _ _ h => h) (Or.inl ⟨by rfl, ?_⟩) ?_ ?_
  rotate_left
  · intro w'
    go_simp
    with_reducible rfl
  rotate_left
  · simp only [Act.put, List.setIfInBounds_toArray, List.set_cons_zero, List.set_cons_succ, i64_w, i32_w]
    rfl
  refine pure_ (i := 13) (N := some 108) (v := ?_) (a' := ?_) #[true, true, true, true, true, true, true, true, true, true, true, true, true, true, false, false, false, false, false, false, false, false, false, false, false] rfl rfl (any_of HT_.out (by kernel_rfl)) (fun _ _ _ h => h) (Or.inl ⟨by rfl, ?_⟩) ?_ ?_
  rotate_left
  · intro w'
    go_simp
    with_reducible rfl
  rotate_left
  · simp only [Act.put, List.setIfInBounds_toArray, List.set_cons_zero, List.set_cons_succ, i64_w, i32_w]
    rfl
  refine pure_ (i := 14) (N := some 109) (v := ?_) (a' := ?_) #[true, true, true, true, true, true, true, true, true, true, true, true, true, true, true, false, false, false, false, false, false, false, false, false, false] rfl rfl (any_of HT_.out (by kernel_rfl)) (fun _ _ _ h => h) (Or.inl ⟨by rfl, ?_⟩) ?_ ?_
  rotate_left
  · intro w'
    go_simp
    with_reducible rfl
  rotate_left
  · simp only [Act.put, List.setIfInBounds_toArray, List.set_cons_zero, List.set_cons_succ, i64_w, i32_w]
    rfl
  refine pure_ (i := 15) (N := some 110) (v := ?_) (a' := ?_) #[true, true, true, true, true, true, true, true, true, true, true, true, true, true, true, true, false, false, false, false, false, false, false, false, false] rfl rfl (any_of HT_.out (by kernel_rfl)) (fun _ _ _ h => h) (Or.inl ⟨by rfl, ?_⟩) ?_ ?_
  rotate_left
  · intro w'
    go_simp
    with_reducible rfl
  rotate_left
  · simp only [Act.put, List.setIfInBounds_toArray, List.set_cons_zero, List.set_cons_succ, i64_w, i32_w]
    rfl
  refine pure_ (i := 16) (N := some 111) (v := ?_) (a' := ?_) #[true, true, true, true, true, true, true, true, true, true, true, true, true, true, true, true, true, false, false, false, false, false, false, false, false] rfl rfl (any_of HT_.out (by kernel_rfl)) (fun _ _ _ h => h) (Or.inl ⟨by rfl, ?_⟩) ?_ ?_
  rotate_left
  · intro w'
    go_simp
    with_reducible rfl
  rotate_left
  · simp only [Act.put, List.setIfInBounds_toArray, List.set_cons_zero, List.set_cons_succ, i64_w, i32_w]
    rfl
  refine pure_ (i := 17) (N := some 112) (v := ?_) (a' := ?_) #[true, true, true, true, true, true, true, true, true, true, true, true, true, true, true, true, true, true, false, false, false, false, false, false, false] rfl rfl (any_of HT_.out (by kernel_rfl)) (fun _ _ _ h => h) (Or.inl ⟨by rfl, ?_⟩) ?_ ?_
  rotate_left
  · intro w'
    go_simp
    with_reducible rfl
  rotate_left
  · simp only [Act.put, List.setIfInBounds_toArray, List.set_cons_zero, List.set_cons_succ, i64_w, i32_w]
    rfl
  refine pure_ (i := 19) (N := some 114) (v := ?_) (a' := ?_) #[true, true, true, true, true, true, true, true, true, true, true, true, true, true, true, true, true, true, false, true, false, false, false, false, false] rfl rfl (any_of HT_.out (by kernel_rfl)) (fun _ _ _ h => h) (Or.inl ⟨by rfl, ?_⟩) ?_ ?_
  rotate_left
  · intro w'
    go_simp
    with_reducible rfl
  rotate_left
  · simp only [Act.put, List.setIfInBounds_toArray, List.set_cons_zero, List.set_cons_succ, i64_w, i32_w]
    rfl
  refine pure_ (i := 20) (N := some 115) (v := ?_) (a' := ?_) #[true, true, true, true, true, true, true, true, true, true, true, true, true, true, true, true, true, true, false, true, true, false, false, false, false] rfl rfl (any_of HT_.out (by kernel_rfl)) (fun _ _ _ h => h) (Or.inl ⟨by rfl, ?_⟩) ?_ ?_
  rotate_left
  · intro w'
    go_simp
    with_reducible rfl
  rotate_left
  · simp only [Act.put, List.setIfInBounds_toArray, List.set_cons_zero, List.set_cons_succ, i64_w, i32_w]
    rfl
  refine take_ (i := 18) (N := some 113) (v := ?_) (a' := ?_) #[true, true, true, true, true, true, true, true, true, true, true, true, true, true, true, true, true, true, true, true, true, false, false, false, false] rfl rfl (take_ofW HT_.out HW_.out (by kernel_rfl)) (fun _ _ _ h => h) (Or.inl ⟨by rfl, ?_⟩) hHeld ?_ ?_
  rotate_left
  · rintro w' ⟨s0, s1⟩
    go_simp
    with_reducible rfl
  rotate_left
  · simp only [Act.put, List.setIfInBounds_toArray, List.set_cons_zero, List.set_cons_succ, i64_w, i32_w]
    rfl
  refine one_ (i := 21) (N := some 116) #[true, true, true, true, true, true, true, true, true, true, true, true, true, true, true, true, true, true, true, true, true, true, false, false, false] rfl rfl (one_of HT_.out (by kernel_rfl)) (by decide) (fun K hK => ?_)
  refine goes_ Try.func20 (by kernel_rfl) rfl #[.slice A0 l0.length c0, .int .i64 a1] (by rfl) rfl rfl (by (try simp only [List.map_toArray, List.map_cons, List.map_nil]); first | done | rfl) ?_
  with_reducible refine (step_At.calls kj12 _ _ l0 a1 t501 _ ?side1 ?side2 A79.out).mono ?_
  (case side1 => repeat (first | exact (Kd.V_reads' HO_0.out).2.2 | (with_reducible refine Kd.C_alloc ?_ _) | (with_reducible refine Kd.C_drewN ?_ _) | (with_reducible refine Kd.C_drew ?_)))
  (case side2 => exact (Kd.V_reads' HO_0.out).2.1)
  rintro e w86 ⟨rfl, hb⟩
  have HS0_ := (hb.cell (World.block_lt_of_cell? _ _ (hHeld.1))).trans (hHeld.1)
  have HS1_ := (hb.cell (World.block_lt_of_cell? _ _ (hHeld.2))).trans (hHeld.2)
  refine ⟨_, rfl, ?_⟩
  have n0_ := Aside0.mk (Kd.V_below (by (with_reducible repeat (first | apply Kd.V_alloc | apply Kd.V_drewN | apply Kd.V_drew)); exact HO_0.out) hb)
  have n1_ := Aside0.mk (Kd.N_below (by (with_reducible repeat (first | apply Kd.N_alloc | apply Kd.N_drewN | apply Kd.N_drew)); exact HO_9.out) hb)
  have n2_ := Aside0.mk (Kd.N_below (by (with_reducible repeat (first | apply Kd.N_alloc | apply Kd.N_drewN | apply Kd.N_drew)); exact HO_10.out) hb)
  have n3_ := Aside0.mk (Kd.R_below (by (with_reducible repeat (first | apply Kd.R_alloc | apply Kd.R_drewN | apply Kd.R_drew)); exact HO_12.out) hb)
  have n4_ := Aside0.mk (Kd.R_below (by (with_reducible repeat (first | apply Kd.R_alloc | apply Kd.R_drewN | apply Kd.R_drew)); exact HO497.out) hb)
  have n5_ := Aside0.mk (Kd.V_below (by (with_reducible repeat (first | apply Kd.V_alloc | apply Kd.V_drewN | apply Kd.V_drew)); exact HL498_0.out) hb)
  have n6_ := Aside0.mk (Kd.C_below (by repeat (first | (with_reducible exact HR498_0.out) | (with_reducible refine Kd.C_alloc ?_ _) | (with_reducible refine Kd.C_drewN ?_ _) | (with_reducible refine Kd.C_drew ?_) | exact HR498_0.out)) hb)
  have n7_ := Aside0.mk (below_step (by repeat (first | (with_reducible first | exact HB.out | apply below_alloc | apply pw_below_drewN | apply below_drew1) | exact HB.out)) hb)
  clear HO_0
  clear HO_9
  clear HO_10
  clear HO_12
  clear HO497
  clear HL498_0
  clear HR498_0
  clear HB
  have HO_0 := n0_
  have HO_9 := n1_
  have HO_10 := n2_
  have HO_12 := n3_
  have HO497 := n4_
  have HL498_0 := n5_
  have HR498_0 := n6_
  have HB := n7_
  clear n0_ n1_ n2_ n3_ n4_ n5_ n6_ n7_
  (try clear hb)
  (try clear hb2)
  (try clear hk)
  (try clear hi)
  refine hK.out _ _ ⟨HS0_, HS1_⟩ (fun hHeld => ?_)
  clear hK K
  refine norm_ (a' := ?_) ?_ ?_
  rotate_left
  · show Act.put _ (some 116) _ = _
    simp only [Act.put, List.setIfInBounds_toArray, List.set_cons_zero, List.set_cons_succ, i64_w, i32_w]
    rfl
  refine pure_ (i := 22) (N := some 117) (v := ?_) (a' := ?_) #[true, true, true, true, true, true, true, true, true, true, true, true, true, true, true, true, true, true, true, true, true, true, true, false, false] rfl rfl (any_of HT_.out (by kernel_rfl)) (fun _ _ _ h => h) (Or.inl ⟨by rfl, ?_⟩) ?_ ?_
  rotate_left
  · intro w'
    go_simp
    with_reducible rfl
  rotate_left
  · simp only [Act.put, List.setIfInBounds_toArray, List.set_cons_zero, List.set_cons_succ, i64_w, i32_w]
    rfl
  refine pure_ (i := 23) (N := some 118) (v := ?_) (a' := ?_) #[true, true, true, true, true, true, true, true, true, true, true, true, true, true, true, true, true, true, true, true, true, true, true, true, false] rfl rfl (any_of HT_.out (by kernel_rfl)) (fun _ _ _ h => h) (Or.inl ⟨by rfl, ?_⟩) ?_ ?_
  rotate_left
  · intro w'
    go_simp
    with_reducible rfl
  rotate_left
  · simp only [Act.put, List.setIfInBounds_toArray, List.set_cons_zero, List.set_cons_succ, i64_w, i32_w]
    rfl
  refine pure_ (i := 24) (N := some 8) (v := ?_) (a' := ?_) #[true, true, true, true, true, true, true, true, true, true, true, true, true, true, true, true, true, true, true, true, true, true, true, true, true] rfl rfl (any_of HT_.out (by kernel_rfl)) (fun _ _ _ h => h) (Or.inl ⟨by rfl, ?_⟩) ?_ ?_
  rotate_left
  · intro w'
    go_simp
    with_reducible rfl
  rotate_left
  · simp only [Act.put, List.setIfInBounds_toArray, List.set_cons_zero, List.set_cons_succ, i64_w, i32_w]
    rfl
  refine done_ (done_of HT_.out (by kernel_rfl)) ?_
  try go_wp2
  go_ret
  exact ⟨by first | rfl | (simp [errW_none, errW_some] <;> rfl) | (simp [*, errW_none, errW_some] <;> rfl), by repeat (first | (with_reducible first | exact HB.out | apply below_alloc | apply pw_below_drewN | apply below_drew1) | exact HB.out)⟩

end Go.Proofs.Ytpekjfmlpogfaaa.PAll
