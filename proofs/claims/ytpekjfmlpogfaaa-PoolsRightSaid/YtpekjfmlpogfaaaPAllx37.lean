-- Written by wip/tools/hprint.py of this claim's session (a driver over the kit's print, with contracts proved by hand among them).
import Derived.Test.YtpekjfmlpogfaaaPAllx0
import Derived.Test.YtpekjfmlpogfaaaPAllx22
import Derived.Test.YtpekjfmlpogfaaaPAllx24
import Derived.Test.YtpekjfmlpogfaaaPAllx28
import Derived.Test.YtpekjfmlpogfaaaPAllx30
import Derived.Test.YtpekjfmlpogfaaaPAllx32
import Derived.Test.YtpekjfmlpogfaaaPAllx34
import Derived.Test.YtpekjfmlpogfaaaPAllx35
import Derived.Test.YtpekjfmlpogfaaaPAllx36
namespace Go.Proofs.Ytpekjfmlpogfaaa.PAll
open Go.RowKit Go.Proofs.YtpekjfmlpogfaaaW.PrintWords Go.Proofs.YtpekjfmlpogfaaaW.PrintLast Go.Proofs.YtpekjfmlpogfaaaW.PrintMore
attribute [local go_sem] max2_int min2_int max_two min_two max_three min_three max_four min_four   -- for this text's walks alone
set_option linter.unusedVariables false
set_option linter.unusedSimpArgs false

/-! ### bailiwicklaw04_PoolsRight: function 6 -/
mutual
def bailiwicklaw04_PoolsRight.j0 : Nat → List (List (S38)) → Int → Int → List Int → Bool → Option (Bool)
  | 0, _, _, _, _, _ => none
  | k + 1, x0, x1, x2, x3, x30 => if x30 = true then (some true) else (bailiwicklaw04_PoolsRight.l0 k x0 x1 x2 x3 ([] : List (List (S38))) 0)
def bailiwicklaw04_PoolsRight.l0 : Nat → List (List (S38)) → Int → Int → List Int → List (List (S38)) → Int → Option (Bool)
  | 0, _, _, _, _, _, _ => none
  | k + 1, x0, x1, x2, x3, x9, x10 => if x10 < (x0.length : Int) then ((some (([] : List (S38)) : List (S38))).bind fun y536 => (if 0 ≤ x10 then (if y536.length + (rd_L2 x0 x10).length < 8796093022208 then (if x9.length < 5864062014805 then (bailiwicklaw04_PoolsRight.l0 k x0 x1 x2 x3 (x9 ++ [(y536 ++ (rd_L2 x0 x10))]) (wrap64 (x10 + 1))) else (none)) else (none)) else (none))) else ((pools_Take.f k x9 x1 x2 x3).bind fun bt546 => ((bailiwickref04_Change.f k x0 x1 x2 x3 false).bind fun bt550 => ((pools_Give.f k x9 x1 x2 x3).bind fun bt554 => ((bailiwickref04_Change.f k x0 x1 x2 x3 true).bind fun bt558 => ((pools_Right.f k x9).bind fun t562 => ((bailiwickref04_Right.f k x0).bind fun t563 => (if t562 = true then (if t563 = true then ((bailiwickref04_Same.f k bt546.1 bt550.1).bind fun t564 => (if t564 = true then (if bt546.2 = bt550.2 then ((bailiwickref04_Same.f k bt554.1 bt558.1).bind fun t565 => (if t565 = true then (if bt554.2 = bt558.2 then ((bailiwickref04_Same.f k x9 x0).bind fun t566 => (bailiwicklaw04_PoolsRight.j2 k x0 x1 x9 (!t566))) else (bailiwicklaw04_PoolsRight.j2 k x0 x1 x9 true)) else (bailiwicklaw04_PoolsRight.j2 k x0 x1 x9 true))) else (bailiwicklaw04_PoolsRight.j2 k x0 x1 x9 true)) else (bailiwicklaw04_PoolsRight.j2 k x0 x1 x9 true))) else (bailiwicklaw04_PoolsRight.j2 k x0 x1 x9 true)) else (if t563 = true then (bailiwicklaw04_PoolsRight.j2 k x0 x1 x9 true) else ((bailiwickref04_Same.f k bt546.1 bt550.1).bind fun t567 => (if t567 = true then (if bt546.2 = bt550.2 then ((bailiwickref04_Same.f k bt554.1 bt558.1).bind fun t568 => (if t568 = true then (if bt554.2 = bt558.2 then ((bailiwickref04_Same.f k x9 x0).bind fun t569 => (bailiwicklaw04_PoolsRight.j2 k x0 x1 x9 (!t569))) else (bailiwicklaw04_PoolsRight.j2 k x0 x1 x9 true)) else (bailiwicklaw04_PoolsRight.j2 k x0 x1 x9 true))) else (bailiwicklaw04_PoolsRight.j2 k x0 x1 x9 true)) else (bailiwicklaw04_PoolsRight.j2 k x0 x1 x9 true)))))))))))
def bailiwicklaw04_PoolsRight.j2 : Nat → List (List (S38)) → Int → List (List (S38)) → Bool → Option (Bool)
  | 0, _, _, _, _ => none
  | k + 1, x0, x1, x9, x110 => if x110 = true then (none) else (bailiwicklaw04_PoolsRight.l1 k x0 x1 x9 ([] : List Int) 0)
def bailiwicklaw04_PoolsRight.l1 : Nat → List (List (S38)) → Int → List (List (S38)) → List Int → Int → Option (Bool)
  | 0, _, _, _, _, _ => none
  | k + 1, x0, x1, x9, x19, x20 => if x20 < (x0.length : Int) then ((bailiwickref04_Right.f k x0).bind fun t570 => (if t570 = true then (if 0 ≤ x20 then ((bailiwickref03_At.f k (rd_L2 x0 x20) x1).bind fun t572 => (if x19.length < 17592186044416 then (bailiwicklaw04_PoolsRight.l1 k x0 x1 x9 (x19 ++ [t572]) (wrap64 (x20 + 1))) else (none))) else (none)) else ((pools_At.f k x9 x1).bind fun t576 => ((bailiwickref01_Same.f k t576 x19).bind fun t579 => (some t579))))) else ((pools_At.f k x9 x1).bind fun t580 => ((bailiwickref01_Same.f k t580 x19).bind fun t583 => (some t583)))
end
def bailiwicklaw04_PoolsRight.f (k : Nat) (l0 : List (List (S38))) (a1 : Int) (a2 : Int) (l3 : List Int) : Option (Bool) := (bailiwicklaw04_awake.f k).bind fun t534 => (if t534 = true then ((bailiwicklaw04_short.f k l0).bind fun t535 => (if t535 = true then (bailiwicklaw04_PoolsRight.j0 k l0 a1 a2 l3 (decide ((l3.length : Int) > 10))) else (bailiwicklaw04_PoolsRight.j0 k l0 a1 a2 l3 true))) else (none))
theorem bailiwicklaw04_PoolsRight.mono_l : ∀ k, (∀ y0 y1 y2 y3 y4, LeO (bailiwicklaw04_PoolsRight.j0 k y0 y1 y2 y3 y4) (bailiwicklaw04_PoolsRight.j0 (k + 1) y0 y1 y2 y3 y4)) ∧ (∀ y0 y1 y2 y3 y4 y5, LeO (bailiwicklaw04_PoolsRight.l0 k y0 y1 y2 y3 y4 y5) (bailiwicklaw04_PoolsRight.l0 (k + 1) y0 y1 y2 y3 y4 y5)) ∧ (∀ y0 y1 y2 y3, LeO (bailiwicklaw04_PoolsRight.j2 k y0 y1 y2 y3) (bailiwicklaw04_PoolsRight.j2 (k + 1) y0 y1 y2 y3)) ∧ (∀ y0 y1 y2 y3 y4, LeO (bailiwicklaw04_PoolsRight.l1 k y0 y1 y2 y3 y4) (bailiwicklaw04_PoolsRight.l1 (k + 1) y0 y1 y2 y3 y4))
  | 0 => ⟨fun _ _ _ _ _ r h => by simp [bailiwicklaw04_PoolsRight.j0] at h, fun _ _ _ _ _ _ r h => by simp [bailiwicklaw04_PoolsRight.l0] at h, fun _ _ _ _ r h => by simp [bailiwicklaw04_PoolsRight.j2] at h, fun _ _ _ _ _ r h => by simp [bailiwicklaw04_PoolsRight.l1] at h⟩
  | k + 1 => by
    obtain ⟨ih0, ih1, ih2, ih3⟩ := bailiwicklaw04_PoolsRight.mono_l k
    refine ⟨?_, ?_, ?_, ?_⟩
    · intro y0 y1 y2 y3 y4
      unfold bailiwicklaw04_PoolsRight.j0
      repeat' first
      | (with_reducible exact ih0 _ _ _ _ _)
      | (with_reducible exact ih1 _ _ _ _ _ _)
      | (with_reducible exact ih2 _ _ _ _)
      | (with_reducible exact ih3 _ _ _ _ _)
      | (with_reducible exact bailiwicklaw04_awake.mono _)
      | (with_reducible exact bailiwicklaw04_short.mono _ _)
      | (with_reducible exact bailiwickref01_Same.mono _ _ _)
      | (with_reducible exact bailiwickref03_At.mono _ _ _)
      | (with_reducible exact bailiwickref04_Change.mono _ _ _ _ _ _)
      | (with_reducible exact bailiwickref04_Right.mono _ _)
      | (with_reducible exact bailiwickref04_Same.mono _ _ _)
      | (with_reducible exact pools_At.mono _ _ _)
      | (with_reducible exact pools_Give.mono _ _ _ _ _)
      | (with_reducible exact pools_Right.mono _ _)
      | (with_reducible exact pools_Take.mono _ _ _ _ _)
      | (with_reducible exact LeO.refl _)
      | (with_reducible exact LeO.none _)
      | (with_reducible refine LeO.ite ?_ ?_)
      | (with_reducible refine LeO.bind ?_ (fun _ => ?_))
      | exact ih0 _ _ _ _ _
      | exact ih1 _ _ _ _ _ _
      | exact ih2 _ _ _ _
      | exact ih3 _ _ _ _ _
      | exact bailiwicklaw04_awake.mono _
      | exact bailiwicklaw04_short.mono _ _
      | exact bailiwickref01_Same.mono _ _ _
      | exact bailiwickref03_At.mono _ _ _
      | exact bailiwickref04_Change.mono _ _ _ _ _ _
      | exact bailiwickref04_Right.mono _ _
      | exact bailiwickref04_Same.mono _ _ _
      | exact pools_At.mono _ _ _
      | exact pools_Give.mono _ _ _ _ _
      | exact pools_Right.mono _ _
      | exact pools_Take.mono _ _ _ _ _
      | exact LeO.none _
      | refine LeO.ite ?_ ?_
      | refine LeO.bind ?_ (fun _ => ?_)
    · intro y0 y1 y2 y3 y4 y5
      unfold bailiwicklaw04_PoolsRight.l0
      repeat' first
      | (with_reducible exact ih0 _ _ _ _ _)
      | (with_reducible exact ih1 _ _ _ _ _ _)
      | (with_reducible exact ih2 _ _ _ _)
      | (with_reducible exact ih3 _ _ _ _ _)
      | (with_reducible exact bailiwicklaw04_awake.mono _)
      | (with_reducible exact bailiwicklaw04_short.mono _ _)
      | (with_reducible exact bailiwickref01_Same.mono _ _ _)
      | (with_reducible exact bailiwickref03_At.mono _ _ _)
      | (with_reducible exact bailiwickref04_Change.mono _ _ _ _ _ _)
      | (with_reducible exact bailiwickref04_Right.mono _ _)
      | (with_reducible exact bailiwickref04_Same.mono _ _ _)
      | (with_reducible exact pools_At.mono _ _ _)
      | (with_reducible exact pools_Give.mono _ _ _ _ _)
      | (with_reducible exact pools_Right.mono _ _)
      | (with_reducible exact pools_Take.mono _ _ _ _ _)
      | (with_reducible exact LeO.refl _)
      | (with_reducible exact LeO.none _)
      | (with_reducible refine LeO.ite ?_ ?_)
      | (with_reducible refine LeO.bind ?_ (fun _ => ?_))
      | exact ih0 _ _ _ _ _
      | exact ih1 _ _ _ _ _ _
      | exact ih2 _ _ _ _
      | exact ih3 _ _ _ _ _
      | exact bailiwicklaw04_awake.mono _
      | exact bailiwicklaw04_short.mono _ _
      | exact bailiwickref01_Same.mono _ _ _
      | exact bailiwickref03_At.mono _ _ _
      | exact bailiwickref04_Change.mono _ _ _ _ _ _
      | exact bailiwickref04_Right.mono _ _
      | exact bailiwickref04_Same.mono _ _ _
      | exact pools_At.mono _ _ _
      | exact pools_Give.mono _ _ _ _ _
      | exact pools_Right.mono _ _
      | exact pools_Take.mono _ _ _ _ _
      | exact LeO.none _
      | refine LeO.ite ?_ ?_
      | refine LeO.bind ?_ (fun _ => ?_)
    · intro y0 y1 y2 y3
      unfold bailiwicklaw04_PoolsRight.j2
      repeat' first
      | (with_reducible exact ih0 _ _ _ _ _)
      | (with_reducible exact ih1 _ _ _ _ _ _)
      | (with_reducible exact ih2 _ _ _ _)
      | (with_reducible exact ih3 _ _ _ _ _)
      | (with_reducible exact bailiwicklaw04_awake.mono _)
      | (with_reducible exact bailiwicklaw04_short.mono _ _)
      | (with_reducible exact bailiwickref01_Same.mono _ _ _)
      | (with_reducible exact bailiwickref03_At.mono _ _ _)
      | (with_reducible exact bailiwickref04_Change.mono _ _ _ _ _ _)
      | (with_reducible exact bailiwickref04_Right.mono _ _)
      | (with_reducible exact bailiwickref04_Same.mono _ _ _)
      | (with_reducible exact pools_At.mono _ _ _)
      | (with_reducible exact pools_Give.mono _ _ _ _ _)
      | (with_reducible exact pools_Right.mono _ _)
      | (with_reducible exact pools_Take.mono _ _ _ _ _)
      | (with_reducible exact LeO.refl _)
      | (with_reducible exact LeO.none _)
      | (with_reducible refine LeO.ite ?_ ?_)
      | (with_reducible refine LeO.bind ?_ (fun _ => ?_))
      | exact ih0 _ _ _ _ _
      | exact ih1 _ _ _ _ _ _
      | exact ih2 _ _ _ _
      | exact ih3 _ _ _ _ _
      | exact bailiwicklaw04_awake.mono _
      | exact bailiwicklaw04_short.mono _ _
      | exact bailiwickref01_Same.mono _ _ _
      | exact bailiwickref03_At.mono _ _ _
      | exact bailiwickref04_Change.mono _ _ _ _ _ _
      | exact bailiwickref04_Right.mono _ _
      | exact bailiwickref04_Same.mono _ _ _
      | exact pools_At.mono _ _ _
      | exact pools_Give.mono _ _ _ _ _
      | exact pools_Right.mono _ _
      | exact pools_Take.mono _ _ _ _ _
      | exact LeO.none _
      | refine LeO.ite ?_ ?_
      | refine LeO.bind ?_ (fun _ => ?_)
    intro y0 y1 y2 y3 y4
    unfold bailiwicklaw04_PoolsRight.l1
    repeat' first
    | (with_reducible exact ih0 _ _ _ _ _)
    | (with_reducible exact ih1 _ _ _ _ _ _)
    | (with_reducible exact ih2 _ _ _ _)
    | (with_reducible exact ih3 _ _ _ _ _)
    | (with_reducible exact bailiwicklaw04_awake.mono _)
    | (with_reducible exact bailiwicklaw04_short.mono _ _)
    | (with_reducible exact bailiwickref01_Same.mono _ _ _)
    | (with_reducible exact bailiwickref03_At.mono _ _ _)
    | (with_reducible exact bailiwickref04_Change.mono _ _ _ _ _ _)
    | (with_reducible exact bailiwickref04_Right.mono _ _)
    | (with_reducible exact bailiwickref04_Same.mono _ _ _)
    | (with_reducible exact pools_At.mono _ _ _)
    | (with_reducible exact pools_Give.mono _ _ _ _ _)
    | (with_reducible exact pools_Right.mono _ _)
    | (with_reducible exact pools_Take.mono _ _ _ _ _)
    | (with_reducible exact LeO.refl _)
    | (with_reducible exact LeO.none _)
    | (with_reducible refine LeO.ite ?_ ?_)
    | (with_reducible refine LeO.bind ?_ (fun _ => ?_))
    | exact ih0 _ _ _ _ _
    | exact ih1 _ _ _ _ _ _
    | exact ih2 _ _ _ _
    | exact ih3 _ _ _ _ _
    | exact bailiwicklaw04_awake.mono _
    | exact bailiwicklaw04_short.mono _ _
    | exact bailiwickref01_Same.mono _ _ _
    | exact bailiwickref03_At.mono _ _ _
    | exact bailiwickref04_Change.mono _ _ _ _ _ _
    | exact bailiwickref04_Right.mono _ _
    | exact bailiwickref04_Same.mono _ _ _
    | exact pools_At.mono _ _ _
    | exact pools_Give.mono _ _ _ _ _
    | exact pools_Right.mono _ _
    | exact pools_Take.mono _ _ _ _ _
    | exact LeO.none _
    | refine LeO.ite ?_ ?_
    | refine LeO.bind ?_ (fun _ => ?_)
theorem bailiwicklaw04_PoolsRight.mono : ∀ a0 a1 a2 a3 k, LeO (bailiwicklaw04_PoolsRight.f k a0 a1 a2 a3) (bailiwicklaw04_PoolsRight.f (k + 1) a0 a1 a2 a3) := by
  intro a0 a1 a2 a3 k
  obtain ⟨ih0, ih1, ih2, ih3⟩ := bailiwicklaw04_PoolsRight.mono_l k
  unfold bailiwicklaw04_PoolsRight.f
  repeat' first
      | (with_reducible exact ih0 _ _ _ _ _)
      | (with_reducible exact ih1 _ _ _ _ _ _)
      | (with_reducible exact ih2 _ _ _ _)
      | (with_reducible exact ih3 _ _ _ _ _)
      | (with_reducible exact bailiwicklaw04_awake.mono _)
      | (with_reducible exact bailiwicklaw04_short.mono _ _)
      | (with_reducible exact bailiwickref01_Same.mono _ _ _)
      | (with_reducible exact bailiwickref03_At.mono _ _ _)
      | (with_reducible exact bailiwickref04_Change.mono _ _ _ _ _ _)
      | (with_reducible exact bailiwickref04_Right.mono _ _)
      | (with_reducible exact bailiwickref04_Same.mono _ _ _)
      | (with_reducible exact pools_At.mono _ _ _)
      | (with_reducible exact pools_Give.mono _ _ _ _ _)
      | (with_reducible exact pools_Right.mono _ _)
      | (with_reducible exact pools_Take.mono _ _ _ _ _)
      | (with_reducible exact LeO.refl _)
      | (with_reducible exact LeO.none _)
      | (with_reducible refine LeO.ite ?_ ?_)
      | (with_reducible refine LeO.bind ?_ (fun _ => ?_))
      | exact ih0 _ _ _ _ _
      | exact ih1 _ _ _ _ _ _
      | exact ih2 _ _ _ _
      | exact ih3 _ _ _ _ _
      | exact bailiwicklaw04_awake.mono _
      | exact bailiwicklaw04_short.mono _ _
      | exact bailiwickref01_Same.mono _ _ _
      | exact bailiwickref03_At.mono _ _ _
      | exact bailiwickref04_Change.mono _ _ _ _ _ _
      | exact bailiwickref04_Right.mono _ _
      | exact bailiwickref04_Same.mono _ _ _
      | exact pools_At.mono _ _ _
      | exact pools_Give.mono _ _ _ _ _
      | exact pools_Right.mono _ _
      | exact pools_Take.mono _ _ _ _ _
      | exact LeO.none _
      | refine LeO.ite ?_ ?_
      | refine LeO.bind ?_ (fun _ => ?_)
set_option maxHeartbeats 8000000 in
set_option maxRecDepth 100000 in
theorem bailiwicklaw04_PoolsRight.calls (k : Nat) (A0 : Option Addr) (c0 : Nat) (l0 : List (List (S38))) (a1 : Int) (a2 : Int) (A3 : Option Addr) (c3 : Nat) (l3 : List Int) (r : Bool) (w : World) (hr0 : Kd.C (Kd.slice 38 k38) w A0 l0.length l0) (hc0 : l0.length ≤ c0) (hr3 : Kd.C (Kd.int .i64) w A3 l3.length l3) (hc3 : l3.length ≤ c3) (h : bailiwicklaw04_PoolsRight.f k l0 a1 a2 l3 = some r) :
    Calls Try.prog 6 #[.slice A0 l0.length c0, .int .i64 a1, .int .i64 a2, .slice A3 l3.length c3] w fun e w' => e = .returned (.bool r) ∧ Below w.heap.size w w' := by
  have HR0 := Aside0.mk hr0
  have HC0 := Aside0.mk hc0
  clear hr0 hc0
  have HR3 := Aside0.mk hr3
  have HC3 := Aside0.mk hc3
  clear hr3 hc3
  have HB := Aside0.mk (Below.refl w.heap.size w)
  have H : ((bailiwicklaw04_awake.f k).bind fun t534 => (if t534 = true then ((bailiwicklaw04_short.f k l0).bind fun t535 => (if t535 = true then (bailiwicklaw04_PoolsRight.j0 k l0 a1 a2 l3 (decide ((l3.length : Int) > 10))) else (bailiwicklaw04_PoolsRight.j0 k l0 a1 a2 l3 true))) else (none))) = some r := h
  clear h
  replace H := Option.bind_eq_some_iff.mp H
  obtain ⟨t534, A50, H⟩ := H
  replace H : (if t534 = true then ((bailiwicklaw04_short.f k l0).bind fun t535 => (if t535 = true then (bailiwicklaw04_PoolsRight.j0 k l0 a1 a2 l3 (decide ((l3.length : Int) > 10))) else (bailiwicklaw04_PoolsRight.j0 k l0 a1 a2 l3 true))) else (none)) = some r := H
  have A5 := Aside0.mk A50
  clear A50
  by_cases c6 : t534 = true
  rotate_left
  · replace c6 := Bool.eq_false_iff.mpr c6
    subst c6
    have H1 : (none) = some r := by rw [if_neg (show ¬ (false = true) by decide)] at H; exact H
    clear H
    have H := H1
    clear H1
    exact absurd H (by simp)
  subst c6
  have H1 : ((bailiwicklaw04_short.f k l0).bind fun t535 => (if t535 = true then (bailiwicklaw04_PoolsRight.j0 k l0 a1 a2 l3 (decide ((l3.length : Int) > 10))) else (bailiwicklaw04_PoolsRight.j0 k l0 a1 a2 l3 true))) = some r := by rw [if_pos rfl] at H; exact H
  clear H
  have H := H1
  clear H1
  have HC7 := Aside0.mk H
  clear H
  go_enter Try.func6, Try.ntmps6
  go_upto_region 3 with (first | ((with_reducible refine gate_callee (f := 22) rfl ?_); refine goesL_ (some 21) rfl rfl Try.func22 (by kernel_rfl) rfl #[] rfl (by (try simp only [List.map_toArray, List.map_cons, List.map_nil]); first | done | rfl) ?_; (with_reducible refine (bailiwicklaw04_awake.calls k  true _ A5.out).mono ?_); rintro e w8 ⟨rfl, hb⟩; refine ⟨_, rfl, ?_⟩; have n0_ := Aside0.mk (below_step (by repeat (first | (with_reducible first | exact HB.out | apply below_alloc | apply pw_below_drewN | apply below_drew1) | exact HB.out)) hb); clear HB; have HB := n0_; clear n0_; (try clear hb); (try clear hb2); (try clear hk); (try clear hi)))
  (try simp only [Act.put, List.setIfInBounds_toArray, List.set_cons_zero, List.set_cons_succ])
  go_cut [30] (fun v30 wc => ∃ (kq : Nat) (x30_6 : Bool), v30 = .bool x30_6 ∧ Aside0 (bailiwicklaw04_PoolsRight.j0 kq l0 a1 a2 l3 x30_6 = some r) ∧ Aside0 (kq ≤ k) ∧ Aside0 (Below w.heap.size w wc))
  case first =>
    have H := HC7.out
    clear HC7
    replace H := Option.bind_eq_some_iff.mp H
    obtain ⟨t535, A90, H⟩ := H
    replace H : (if t535 = true then (bailiwicklaw04_PoolsRight.j0 k l0 a1 a2 l3 (decide ((l3.length : Int) > 10))) else (bailiwicklaw04_PoolsRight.j0 k l0 a1 a2 l3 true)) = some r := H
    have A9 := Aside0.mk A90
    clear A90
    by_cases c10 : t535 = true
    · subst c10
      have H1 : (bailiwicklaw04_PoolsRight.j0 k l0 a1 a2 l3 (decide ((l3.length : Int) > 10))) = some r := by rw [if_pos rfl] at H; exact H
      clear H
      have H := H1
      clear H1
      have H' := Aside0.mk H
      clear H
      go_wp2_with (first | ((with_reducible refine gate_callee (f := 28) rfl ?_); refine goesL_ (some 24) rfl rfl Try.func28 (by kernel_rfl) rfl #[.slice A0 l0.length c0] rfl (by (try simp only [List.map_toArray, List.map_cons, List.map_nil]); first | done | rfl) ?_; (with_reducible refine (bailiwicklaw04_short.calls k _ _ l0 true _ ?side1 ?side2 A9.out).mono ?_); (case side1 => repeat (first | exact (Kd.C_below HR0.out HB.out) | (with_reducible refine Kd.C_alloc ?_ _) | (with_reducible refine Kd.C_drewN ?_ _) | (with_reducible refine Kd.C_drew ?_))); (case side2 => exact HC0.out); rintro e w' ⟨rfl, ⟨nd, rfl⟩⟩; refine ⟨_, rfl, ?_⟩))
      go_meet
      case rel => exact ⟨_, (decide ((l3.length : Int) > 10)), (by first | rfl | (simp; done) | (simp [*]; done)), H', ⟨by first | omega | exact Nat.le_refl _⟩, ⟨by repeat (first | (with_reducible first | exact HB.out | apply below_alloc | apply pw_below_drewN | apply below_drew1) | exact HB.out)⟩⟩
    replace c10 := Bool.eq_false_iff.mpr c10
    subst c10
    have H1 : (bailiwicklaw04_PoolsRight.j0 k l0 a1 a2 l3 true) = some r := by rw [if_neg (show ¬ (false = true) by decide)] at H; exact H
    clear H
    have H := H1
    clear H1
    have H' := Aside0.mk H
    clear H
    go_wp2_with (first | ((with_reducible refine gate_callee (f := 28) rfl ?_); refine goesL_ (some 24) rfl rfl Try.func28 (by kernel_rfl) rfl #[.slice A0 l0.length c0] rfl (by (try simp only [List.map_toArray, List.map_cons, List.map_nil]); first | done | rfl) ?_; (with_reducible refine (bailiwicklaw04_short.calls k _ _ l0 false _ ?side1 ?side2 A9.out).mono ?_); (case side1 => repeat (first | exact (Kd.C_below HR0.out HB.out) | (with_reducible refine Kd.C_alloc ?_ _) | (with_reducible refine Kd.C_drewN ?_ _) | (with_reducible refine Kd.C_drew ?_))); (case side2 => exact HC0.out); rintro e w' ⟨rfl, ⟨nd, rfl⟩⟩; refine ⟨_, rfl, ?_⟩))
    go_meet
    case rel => exact ⟨_, (true), (by first | rfl | (simp; done) | (simp [*]; done)), H', ⟨by first | omega | exact Nat.le_refl _⟩, ⟨by repeat (first | (with_reducible first | exact HB.out | apply below_alloc | apply pw_below_drewN | apply below_drew1) | exact HB.out)⟩⟩
  clear HC7
  try clear c1
  try clear c2
  try clear p2
  try clear c3
  try clear c6
  try clear c10
  obtain ⟨kq, x30_6, rfl, HA, HJ6, HB⟩ := hcut
  rcases kq with _ | kj6
  · exact absurd HA.out (by simp [bailiwicklaw04_PoolsRight.j0])
  have H := HA.out
  clear HA
  simp only [bailiwicklaw04_PoolsRight.j0] at H
  by_cases c11 : x30_6 = true
  · subst c11
    have H1 : (some true) = some r := by rw [if_pos rfl] at H; exact H
    clear H
    have H := H1
    clear H1
    obtain rfl := Option.some.inj H
    go_wp2
    go_ret
    exact ⟨by first | rfl | (simp [errW_none, errW_some] <;> rfl) | (simp [*, errW_none, errW_some] <;> rfl), by repeat (first | (with_reducible first | exact HB.out | apply below_alloc | apply pw_below_drewN | apply below_drew1) | exact HB.out)⟩
  replace c11 := Bool.eq_false_iff.mpr c11
  subst c11
  have H1 : (bailiwicklaw04_PoolsRight.l0 kj6 l0 a1 a2 l3 ([] : List (List (S38))) 0) = some r := by rw [if_neg (show ¬ (false = true) by decide)] at H; exact H
  clear H
  have H := H1
  clear H1
  have H' := Aside0.mk H
  clear H
  go_wp2
  go_loopg [9, 10] kj6 (fun kq v9 v10 w' => ∃ (x9_2 : List (List (S38))) (x10_2 : Int), v10 = .int .i64 x10_2 ∧ Aside0 (bailiwicklaw04_PoolsRight.l0 kq l0 a1 a2 l3 x9_2 x10_2 = some r) ∧ Aside0 (kq ≤ kj6) ∧ Aside0 (Kd.S (Kd.slice 38 k38) 22 w' w.heap.size (fun _ => True) v9 x9_2) ∧ Aside0 (Below w.heap.size w w'))
  case atStart => exact ⟨(([] : List (List (S38)))), (0), (by first | rfl | (simp; done) | (simp [*]; done)), H', ⟨Nat.le_refl _⟩, ⟨by first | exact Kd.S_nil _ _ _ _ _ | exact Kd.N_nil _ _ _ _ _ | exact Kd.V_nil _ _ _ _ _ | exact Kd.Q_nil _ _ _ _ _ | exact Kd.R_nil _ _ _ _ _⟩, ⟨by repeat (first | (with_reducible first | exact HB.out | apply below_alloc | apply pw_below_drewN | apply below_drew1) | exact HB.out)⟩⟩
  clear H'
  try clear c1
  try clear c2
  try clear p2
  try clear c3
  try clear c6
  try clear c10
  try clear c11
  try clear p2
  obtain ⟨x9_2, x10_2, rfl, HA, HK2, HO_9, HB⟩ := hrel
  rcases gk with _ | k2
  · exact absurd HA.out (by simp [bailiwicklaw04_PoolsRight.l0])
  have H := HA.out
  clear HA
  simp only [bailiwicklaw04_PoolsRight.l0] at H
  by_cases c12 : x10_2 < (l0.length : Int)
  · rw [if_pos c12] at H
    have c12b0 : decide (x10_2 < (l0.length : Int)) = true := decide_eq_true c12
    clear c12
    obtain ⟨y536, hy536⟩ : ∃ y_ : List (S38), y_ = (([] : List (S38))) := ⟨_, rfl⟩
    replace H : (if 0 ≤ x10_2 then (if y536.length + (rd_L2 l0 x10_2).length < 8796093022208 then (if x9_2.length < 5864062014805 then (bailiwicklaw04_PoolsRight.l0 k2 l0 a1 a2 l3 (x9_2 ++ [(y536 ++ (rd_L2 l0 x10_2))]) (wrap64 (x10_2 + 1))) else (none)) else (none)) else (none)) = some r := by first | (rw [hy536]; with_reducible exact H) | (have H2_ := (Option.bind_some _ _).symm.trans H; rw [hy536]; with_reducible exact H2_) | (have H2_ := (Option.bind_some _ _).symm.trans H; with_reducible exact H2_) | with_reducible exact H | (rw [hy536]; exact H) | exact H
    have Ny536 := Aside0.mk hy536
    clear hy536
    by_cases c13 : 0 ≤ x10_2
    rotate_left
    · rw [if_neg c13] at H
      exact absurd H (by simp)
    rw [if_pos c13] at H
    have c13b0 : decide (0 ≤ x10_2) = true := decide_eq_true c13
    clear c13
    by_cases c14 : y536.length + (rd_L2 l0 x10_2).length < 8796093022208
    rotate_left
    · rw [if_neg c14] at H
      exact absurd H (by simp)
    rw [if_pos c14] at H
    have LMc14 := Aside0.mk c14
    clear c14
    obtain ⟨y540, hy540⟩ : ∃ y_ : List (S38), y_ = (y536 ++ (rd_L2 l0 x10_2)) := ⟨_, rfl⟩
    replace H : (if x9_2.length < 5864062014805 then (bailiwicklaw04_PoolsRight.l0 k2 l0 a1 a2 l3 (x9_2 ++ [y540]) (wrap64 (x10_2 + 1))) else (none)) = some r := by first | (rw [hy540]; with_reducible exact H) | (have H2_ := (Option.bind_some _ _).symm.trans H; rw [hy540]; with_reducible exact H2_) | (have H2_ := (Option.bind_some _ _).symm.trans H; with_reducible exact H2_) | with_reducible exact H | (rw [hy540]; exact H) | exact H
    have Ny540 := Aside0.mk hy540
    clear hy540
    by_cases c15 : x9_2.length < 5864062014805
    rotate_left
    · rw [if_neg c15] at H
      exact absurd H (by simp)
    rw [if_pos c15] at H
    have LMc15 := Aside0.mk c15
    clear c15
    obtain ⟨y543, hy543⟩ : ∃ y_ : List (List (S38)), y_ = (x9_2 ++ [y540]) := ⟨_, rfl⟩
    replace H : (bailiwicklaw04_PoolsRight.l0 k2 l0 a1 a2 l3 y543 (wrap64 (x10_2 + 1))) = some r := by first | (rw [hy543]; with_reducible exact H) | (have H2_ := (Option.bind_some _ _).symm.trans H; rw [hy543]; with_reducible exact H2_) | (have H2_ := (Option.bind_some _ _).symm.trans H; with_reducible exact H2_) | with_reducible exact H | (rw [hy543]; exact H) | exact H
    have Ny543 := Aside0.mk hy543
    clear hy543
    have H' := Aside0.mk H
    clear H
    go_wp2_with (first | ((with_reducible refine gate_dst (N := 38) rfl ?_); (try (refine gate_guard (by rfl) ?_; dsimp only)); refine Kd.R_lit k38 _ 38 ?hg (N := 38) ?hd (xs := ([] : List (S38))) (inner := []) (ok := fun _ => True) (okp := fun _ => True) ?hr ?hp (fun _ hk => hk) trivial (Below.refl _ _) (Nat.le_refl _) (by simp) ?_; (case hd => rfl); (case hg => rfl); (case hr => first | (go_simp; done) | (go_simp; rfl)); (case hp => exact (Reps.none _ _)); intro v537 w16 ho17 hb hg_ hnew_; clear hg_ hnew_; (first | rw [← Ny536.out] at ho17 | (simp only [Int.reduceToNat] at ho17; rw [← Ny536.out] at ho17)); have n0_ := Aside0.mk (Kd.S_elder' (by (with_reducible repeat (first | apply Kd.S_alloc | apply Kd.S_drewN | apply Kd.S_drew)); exact HO_9.out) (Kd.R_base ho17) hb); have n1_ := Aside0.mk (Kd.R_lower ho17 (below_size (by repeat (first | (with_reducible first | exact HB.out | apply below_alloc | apply pw_below_drewN | apply below_drew1) | exact HB.out)))); have n2_ := Aside0.mk (below_step (by repeat (first | (with_reducible first | exact HB.out | apply below_alloc | apply pw_below_drewN | apply below_drew1) | exact HB.out)) hb); clear HO_9; clear HB; have HO_9 := n0_; have HO538 := n1_; have HB := n2_; clear n0_ n1_ n2_; clear hb ho17; have p539 : 0 ≤ (x10_2 : Int) := of_decide_eq_true (by first | (with_reducible assumption) | assumption); have q539 : x10_2 < (l0.length : Int) := of_decide_eq_true (by first | (with_reducible assumption) | assumption); obtain ⟨ad539, A539_0, c539_0, e539, hx539_0, hl539_0, hi539_0⟩ := at_L2 HR0.out x10_2 p539 q539; cases e539; replace hx539_0 := (HB.out.cell (World.block_lt_of_cell? w _ hx539_0)).trans hx539_0; have HR539_0 := Aside0.mk hi539_0; have HC539_0 := Aside0.mk hl539_0; clear hi539_0 hl539_0; replace p539 := eq_true p539; replace q539 := eq_true q539) | ((with_reducible refine gate_builtin (b := .append) (xs := #[.tmp 38, .tmp 42]) rfl ?_); (try (refine gate_guard (by rfl) ?_; dsimp only)); at_builtin; refine Kd.R_append_rows k38 (w0 := w) w.heap.size rfl (.tmp 38) (.tmp 42) 22 38 (.agg #[(.int .i64 0), (.int .i64 0)]) 16 rfl Try.underlying22 info38 rfl (by decide) (by omega) v537 y536 (rd_L2 l0 x10_2) _ _ _ (fun _ => True) (fun _ => False) rfl rfl ?aO ?aR (fun _ _ h => h) (fun _ h => h.elim) ?aF ?aB ?aS ?aL ?_; (case aR => repeat (first | exact (Kd.C_below HR539_0.out HB.out) | (with_reducible refine Kd.C_alloc ?_ _) | (with_reducible refine Kd.C_drewN ?_ _) | (with_reducible refine Kd.C_drew ?_))); (case aB => exact (by repeat (first | (with_reducible first | exact HB.out | apply below_alloc | apply pw_below_drewN | apply below_drew1) | exact HB.out))); (case aF => exact (fun _ _ => trivial)); (case aO => exact (by (with_reducible repeat (first | apply Kd.R_alloc | apply Kd.R_drewN | apply Kd.R_drew)); exact HO538.out)); (case aS => exact (below_size (by repeat (first | (with_reducible first | exact HB.out | apply below_alloc | apply pw_below_drewN | apply below_drew1) | exact HB.out)))); (case aL => have := LMc14.out; omega); intro v541 w18 ho hb hg hat; rw [← Ny540.out] at ho; have n0_ := Aside0.mk (Kd.S_after (ok := (fun _ => True)) (by (with_reducible repeat (first | apply Kd.S_alloc | apply Kd.S_drewN | apply Kd.S_drew)); exact HO_9.out) hg hat); have n1_ := Aside0.mk (hb); have n2_ := Aside0.mk (ho); clear HO_9; clear HB; clear HO538; have HO_9 := n0_; have HB := n1_; have HO542 := n2_; clear n0_ n1_ n2_; clear ho hb hg hat; obtain ⟨Ao20, co20, eo20⟩ := Kd.R_slice HO542.out; subst eo20) | ((with_reducible refine gate_builtin (b := .append) (xs := #[.tmp 37, .tmp 44]) rfl ?_); (try (refine gate_guard (by rfl) ?_; dsimp only)); at_builtin; refine Kd.S_append (Kd.slice 38 k38) (w0 := w) w.heap.size rfl (.tmp 37) (.tmp 44) 42 22 (.slice none 0 0) 24 rfl Try.underlying42 info22 rfl (by decide) (by omega) u9 x9_2 y540 [.slice Ao20 y540.length co20] (fun _ => True) (fun k_ => some k_ = (.slice Ao20 y540.length co20 : Value).ownBlock) rfl rfl ?aP (fun k_ hk_ => ((Kd.R_mono (ok' := fun k_ => ((fun _ => True)) k_ ∧ some k_ ≠ (u9 : Value).ownBlock) (Kd.R_apart' (HO542.out) (Kd.S_typed HO_9.out) (by decide)) (fun k_ hk => ⟨trivial, hk.2⟩))).1 k_ hk_.symm) ?aF ?aO ?aB ?aS ?aL ?_; (case aP => exact Kd.M_row (Kd.R_mono (Kd.R_tight rfl (Kd.R_mono (ok' := fun k_ => ((fun _ => True)) k_ ∧ some k_ ≠ (u9 : Value).ownBlock) (Kd.R_apart' (HO542.out) (Kd.S_typed HO_9.out) (by decide)) (fun k_ hk => ⟨trivial, hk.2⟩))) (fun _ h_ => h_))); (case aB => exact (by repeat (first | (with_reducible first | exact HB.out | apply below_alloc | apply pw_below_drewN | apply below_drew1) | exact HB.out))); (case aF => exact (fun _ _ => trivial)); (case aO => exact (by (with_reducible repeat (first | apply Kd.S_alloc | apply Kd.S_drewN | apply Kd.S_drew)); exact Kd.S_mono HO_9.out (fun k_ hk => ⟨trivial, fun e_ => hk.2 e_⟩))); (case aS => exact (below_size (by repeat (first | (with_reducible first | exact HB.out | apply below_alloc | apply pw_below_drewN | apply below_drew1) | exact HB.out)))); (case aL => have := LMc15.out; omega); intro v544 w19 ho hb hg hat; rw [← Ny543.out] at ho; have n0_ := Aside0.mk (hb); have n1_ := Aside0.mk (ho); clear HB; clear HO_9; clear HO542; have HB := n0_; have HO545 := n1_; clear n0_ n1_; clear ho hb hg hat))
    go_roundg k2
    case measure => have := HJ6.out; have := HK2.out; omega
    case rel => exact ⟨(y543), (wrap64 (x10_2 + 1)), (by first | rfl | (simp; done) | (simp [*]; done)), H', ⟨by have := HJ6.out; have := HK2.out; omega⟩, ⟨by (with_reducible repeat (first | apply Kd.S_alloc | apply Kd.S_drewN | apply Kd.S_drew)); exact HO545.out⟩, ⟨by repeat (first | (with_reducible first | exact HB.out | apply below_alloc | apply pw_below_drewN | apply below_drew1) | exact HB.out)⟩⟩
  rw [if_neg c12] at H
  have c12b0 : decide (x10_2 < (l0.length : Int)) = false := decide_eq_false c12
  clear c12
  replace H := Option.bind_eq_some_iff.mp H
  obtain ⟨⟨t546, t547⟩, A210, H⟩ := H
  replace H : ((bailiwickref04_Change.f k2 l0 a1 a2 l3 false).bind fun bt550 => ((pools_Give.f k2 x9_2 a1 a2 l3).bind fun bt554 => ((bailiwickref04_Change.f k2 l0 a1 a2 l3 true).bind fun bt558 => ((pools_Right.f k2 x9_2).bind fun t562 => ((bailiwickref04_Right.f k2 l0).bind fun t563 => (if t562 = true then (if t563 = true then ((bailiwickref04_Same.f k2 t546 bt550.1).bind fun t564 => (if t564 = true then (if t547 = bt550.2 then ((bailiwickref04_Same.f k2 bt554.1 bt558.1).bind fun t565 => (if t565 = true then (if bt554.2 = bt558.2 then ((bailiwickref04_Same.f k2 x9_2 l0).bind fun t566 => (bailiwicklaw04_PoolsRight.j2 k2 l0 a1 x9_2 (!t566))) else (bailiwicklaw04_PoolsRight.j2 k2 l0 a1 x9_2 true)) else (bailiwicklaw04_PoolsRight.j2 k2 l0 a1 x9_2 true))) else (bailiwicklaw04_PoolsRight.j2 k2 l0 a1 x9_2 true)) else (bailiwicklaw04_PoolsRight.j2 k2 l0 a1 x9_2 true))) else (bailiwicklaw04_PoolsRight.j2 k2 l0 a1 x9_2 true)) else (if t563 = true then (bailiwicklaw04_PoolsRight.j2 k2 l0 a1 x9_2 true) else ((bailiwickref04_Same.f k2 t546 bt550.1).bind fun t567 => (if t567 = true then (if t547 = bt550.2 then ((bailiwickref04_Same.f k2 bt554.1 bt558.1).bind fun t568 => (if t568 = true then (if bt554.2 = bt558.2 then ((bailiwickref04_Same.f k2 x9_2 l0).bind fun t569 => (bailiwicklaw04_PoolsRight.j2 k2 l0 a1 x9_2 (!t569))) else (bailiwicklaw04_PoolsRight.j2 k2 l0 a1 x9_2 true)) else (bailiwicklaw04_PoolsRight.j2 k2 l0 a1 x9_2 true))) else (bailiwicklaw04_PoolsRight.j2 k2 l0 a1 x9_2 true)) else (bailiwicklaw04_PoolsRight.j2 k2 l0 a1 x9_2 true)))))))))) = some r := H
  have A21 := Aside0.mk A210
  clear A210
  replace H := Option.bind_eq_some_iff.mp H
  obtain ⟨⟨t550, t553⟩, A220, H⟩ := H
  replace H : ((pools_Give.f k2 x9_2 a1 a2 l3).bind fun bt554 => ((bailiwickref04_Change.f k2 l0 a1 a2 l3 true).bind fun bt558 => ((pools_Right.f k2 x9_2).bind fun t562 => ((bailiwickref04_Right.f k2 l0).bind fun t563 => (if t562 = true then (if t563 = true then ((bailiwickref04_Same.f k2 t546 t550).bind fun t564 => (if t564 = true then (if t547 = t553 then ((bailiwickref04_Same.f k2 bt554.1 bt558.1).bind fun t565 => (if t565 = true then (if bt554.2 = bt558.2 then ((bailiwickref04_Same.f k2 x9_2 l0).bind fun t566 => (bailiwicklaw04_PoolsRight.j2 k2 l0 a1 x9_2 (!t566))) else (bailiwicklaw04_PoolsRight.j2 k2 l0 a1 x9_2 true)) else (bailiwicklaw04_PoolsRight.j2 k2 l0 a1 x9_2 true))) else (bailiwicklaw04_PoolsRight.j2 k2 l0 a1 x9_2 true)) else (bailiwicklaw04_PoolsRight.j2 k2 l0 a1 x9_2 true))) else (bailiwicklaw04_PoolsRight.j2 k2 l0 a1 x9_2 true)) else (if t563 = true then (bailiwicklaw04_PoolsRight.j2 k2 l0 a1 x9_2 true) else ((bailiwickref04_Same.f k2 t546 t550).bind fun t567 => (if t567 = true then (if t547 = t553 then ((bailiwickref04_Same.f k2 bt554.1 bt558.1).bind fun t568 => (if t568 = true then (if bt554.2 = bt558.2 then ((bailiwickref04_Same.f k2 x9_2 l0).bind fun t569 => (bailiwicklaw04_PoolsRight.j2 k2 l0 a1 x9_2 (!t569))) else (bailiwicklaw04_PoolsRight.j2 k2 l0 a1 x9_2 true)) else (bailiwicklaw04_PoolsRight.j2 k2 l0 a1 x9_2 true))) else (bailiwicklaw04_PoolsRight.j2 k2 l0 a1 x9_2 true)) else (bailiwicklaw04_PoolsRight.j2 k2 l0 a1 x9_2 true))))))))) = some r := H
  have A22 := Aside0.mk A220
  clear A220
  replace H := Option.bind_eq_some_iff.mp H
  obtain ⟨⟨t554, t555⟩, A230, H⟩ := H
  replace H : ((bailiwickref04_Change.f k2 l0 a1 a2 l3 true).bind fun bt558 => ((pools_Right.f k2 x9_2).bind fun t562 => ((bailiwickref04_Right.f k2 l0).bind fun t563 => (if t562 = true then (if t563 = true then ((bailiwickref04_Same.f k2 t546 t550).bind fun t564 => (if t564 = true then (if t547 = t553 then ((bailiwickref04_Same.f k2 t554 bt558.1).bind fun t565 => (if t565 = true then (if t555 = bt558.2 then ((bailiwickref04_Same.f k2 x9_2 l0).bind fun t566 => (bailiwicklaw04_PoolsRight.j2 k2 l0 a1 x9_2 (!t566))) else (bailiwicklaw04_PoolsRight.j2 k2 l0 a1 x9_2 true)) else (bailiwicklaw04_PoolsRight.j2 k2 l0 a1 x9_2 true))) else (bailiwicklaw04_PoolsRight.j2 k2 l0 a1 x9_2 true)) else (bailiwicklaw04_PoolsRight.j2 k2 l0 a1 x9_2 true))) else (bailiwicklaw04_PoolsRight.j2 k2 l0 a1 x9_2 true)) else (if t563 = true then (bailiwicklaw04_PoolsRight.j2 k2 l0 a1 x9_2 true) else ((bailiwickref04_Same.f k2 t546 t550).bind fun t567 => (if t567 = true then (if t547 = t553 then ((bailiwickref04_Same.f k2 t554 bt558.1).bind fun t568 => (if t568 = true then (if t555 = bt558.2 then ((bailiwickref04_Same.f k2 x9_2 l0).bind fun t569 => (bailiwicklaw04_PoolsRight.j2 k2 l0 a1 x9_2 (!t569))) else (bailiwicklaw04_PoolsRight.j2 k2 l0 a1 x9_2 true)) else (bailiwicklaw04_PoolsRight.j2 k2 l0 a1 x9_2 true))) else (bailiwicklaw04_PoolsRight.j2 k2 l0 a1 x9_2 true)) else (bailiwicklaw04_PoolsRight.j2 k2 l0 a1 x9_2 true)))))))) = some r := H
  have A23 := Aside0.mk A230
  clear A230
  replace H := Option.bind_eq_some_iff.mp H
  obtain ⟨⟨t558, t561⟩, A240, H⟩ := H
  replace H : ((pools_Right.f k2 x9_2).bind fun t562 => ((bailiwickref04_Right.f k2 l0).bind fun t563 => (if t562 = true then (if t563 = true then ((bailiwickref04_Same.f k2 t546 t550).bind fun t564 => (if t564 = true then (if t547 = t553 then ((bailiwickref04_Same.f k2 t554 t558).bind fun t565 => (if t565 = true then (if t555 = t561 then ((bailiwickref04_Same.f k2 x9_2 l0).bind fun t566 => (bailiwicklaw04_PoolsRight.j2 k2 l0 a1 x9_2 (!t566))) else (bailiwicklaw04_PoolsRight.j2 k2 l0 a1 x9_2 true)) else (bailiwicklaw04_PoolsRight.j2 k2 l0 a1 x9_2 true))) else (bailiwicklaw04_PoolsRight.j2 k2 l0 a1 x9_2 true)) else (bailiwicklaw04_PoolsRight.j2 k2 l0 a1 x9_2 true))) else (bailiwicklaw04_PoolsRight.j2 k2 l0 a1 x9_2 true)) else (if t563 = true then (bailiwicklaw04_PoolsRight.j2 k2 l0 a1 x9_2 true) else ((bailiwickref04_Same.f k2 t546 t550).bind fun t567 => (if t567 = true then (if t547 = t553 then ((bailiwickref04_Same.f k2 t554 t558).bind fun t568 => (if t568 = true then (if t555 = t561 then ((bailiwickref04_Same.f k2 x9_2 l0).bind fun t569 => (bailiwicklaw04_PoolsRight.j2 k2 l0 a1 x9_2 (!t569))) else (bailiwicklaw04_PoolsRight.j2 k2 l0 a1 x9_2 true)) else (bailiwicklaw04_PoolsRight.j2 k2 l0 a1 x9_2 true))) else (bailiwicklaw04_PoolsRight.j2 k2 l0 a1 x9_2 true)) else (bailiwicklaw04_PoolsRight.j2 k2 l0 a1 x9_2 true))))))) = some r := H
  have A24 := Aside0.mk A240
  clear A240
  have HC25 := Aside0.mk H
  clear H
  obtain ⟨Ao26, co26, eo26⟩ := Kd.S_slice HO_9.out
  subst eo26
  go_upto_region 14 with (first | ((with_reducible refine gate_callee (f := 23) rfl ?_); refine goesL_ (some 51) rfl rfl Try.func23 (by kernel_rfl) rfl #[.slice Ao26 x9_2.length co26, .int .i64 a1, .int .i64 a2, .slice A3 l3.length c3] rfl (by (try simp only [List.map_toArray, List.map_cons, List.map_nil]); first | done | rfl) ?_; (with_reducible refine (pools_Take.calls k2 _ _ x9_2 a1 a2 _ _ l3 t546 t547 _ ?side1 ?side2 ?side3 ?side4 A21.out).mono ?_); (case side1 => repeat (first | exact (Kd.S_reads' HO_9.out).2.2 | (with_reducible refine Kd.C_alloc ?_ _) | (with_reducible refine Kd.C_drewN ?_ _) | (with_reducible refine Kd.C_drew ?_))); (case side2 => exact (Kd.S_reads' HO_9.out).2.1); (case side3 => repeat (first | exact (Kd.C_below HR3.out HB.out) | (with_reducible refine Kd.C_alloc ?_ _) | (with_reducible refine Kd.C_drewN ?_ _) | (with_reducible refine Kd.C_drew ?_))); (case side4 => exact HC3.out); rintro e w27 ⟨v548, rfl, ho0, hb⟩; refine ⟨_, rfl, ?_⟩; have n0_ := Aside0.mk (Kd.S_elder' (by (with_reducible repeat (first | apply Kd.S_alloc | apply Kd.S_drewN | apply Kd.S_drew)); exact HO_9.out) (Kd.S_base ho0) hb); have n1_ := Aside0.mk (Kd.S_lower (Kd.S_new' ho0 (Kd.S_lt (by (with_reducible repeat (first | apply Kd.S_alloc | apply Kd.S_drewN | apply Kd.S_drew)); exact HO_9.out))) (below_size (by repeat (first | (with_reducible first | exact HB.out | apply below_alloc | apply pw_below_drewN | apply below_drew1) | exact HB.out)))); have n2_ := Aside0.mk (below_step (by repeat (first | (with_reducible first | exact HB.out | apply below_alloc | apply pw_below_drewN | apply below_drew1) | exact HB.out)) hb); clear HO_9; clear HB; have HO_9 := n0_; have HO549 := n1_; have HB := n2_; clear n0_ n1_ n2_; (try clear hb); (try clear hb2); (try clear hk); (try clear hi); (try clear ho0)) | ((with_reducible refine gate_callee (f := 29) rfl ?_); refine goesL_ (some 59) rfl rfl Try.func29 (by kernel_rfl) rfl #[.slice A0 l0.length c0, .int .i64 a1, .int .i64 a2, .slice A3 l3.length c3, .bool false] rfl (by (try simp only [List.map_toArray, List.map_cons, List.map_nil]); first | done | rfl) ?_; (with_reducible refine (bailiwickref04_Change.calls k2 (fun k_ => k_ < w.heap.size) _ _ l0 a1 a2 _ _ l3 false t550 t553 _ ?side1 ?side2 ?side3 A22.out).mono ?_); (case side1 => exact Kd.V_mk HC0.out (Kd.F_below (Kd.C_F (Kd.heap_slice 38 k38_heap) HR0.out) (by repeat (first | (with_reducible first | exact HB.out | apply below_alloc | apply pw_below_drewN | apply below_drew1) | exact HB.out)))); (case side2 => repeat (first | exact (Kd.C_below HR3.out HB.out) | (with_reducible refine Kd.C_alloc ?_ _) | (with_reducible refine Kd.C_drewN ?_ _) | (with_reducible refine Kd.C_drew ?_))); (case side3 => exact HC3.out); rintro e w28 ⟨v551, rfl, ho0, hb⟩; refine ⟨_, rfl, ?_⟩; have n0_ := Aside0.mk (Kd.S_below (by (with_reducible repeat (first | apply Kd.S_alloc | apply Kd.S_drewN | apply Kd.S_drew)); exact HO_9.out) hb); have n1_ := Aside0.mk (Kd.S_below (by (with_reducible repeat (first | apply Kd.S_alloc | apply Kd.S_drewN | apply Kd.S_drew)); exact HO549.out) hb); have n2_ := Aside0.mk (Kd.V_lower (Kd.V_mono (ok' := fun k_ => some k_ ≠ (.slice Ao26 x9_2.length co26 : Value).ownBlock ∧ some k_ ≠ (v548 : Value).ownBlock) ho0 (fun k_ hk_ => ⟨Or.elim hk_ (fun hs_ => fun e_ => Nat.not_le.2 hs_ (Kd.S_base HO_9.out k_ e_.symm)) (fun hn_ => (Kd.fresh' (Kd.S_lt (by (with_reducible repeat (first | apply Kd.S_alloc | apply Kd.S_drewN | apply Kd.S_drew)); exact HO_9.out)) k_ hn_)), Or.elim hk_ (fun hs_ => fun e_ => Nat.not_le.2 hs_ (Kd.S_base HO549.out k_ e_.symm)) (fun hn_ => (Kd.fresh' (Kd.S_lt (by (with_reducible repeat (first | apply Kd.S_alloc | apply Kd.S_drewN | apply Kd.S_drew)); exact HO549.out)) k_ hn_))⟩)) (below_size (by repeat (first | (with_reducible first | exact HB.out | apply below_alloc | apply pw_below_drewN | apply below_drew1) | exact HB.out)))); have n3_ := Aside0.mk (below_step (by repeat (first | (with_reducible first | exact HB.out | apply below_alloc | apply pw_below_drewN | apply below_drew1) | exact HB.out)) hb); clear HO_9; clear HO549; clear HB; have HO_9 := n0_; have HO549 := n1_; have HO552 := n2_; have HB := n3_; clear n0_ n1_ n2_ n3_; (try clear hb); (try clear hb2); (try clear hk); (try clear hi); (try clear ho0)) | ((with_reducible refine gate_callee (f := 30) rfl ?_); refine goesL_ (some 67) rfl rfl Try.func30 (by kernel_rfl) rfl #[.slice Ao26 x9_2.length co26, .int .i64 a1, .int .i64 a2, .slice A3 l3.length c3] rfl (by (try simp only [List.map_toArray, List.map_cons, List.map_nil]); first | done | rfl) ?_; (with_reducible refine (pools_Give.calls k2 _ _ x9_2 a1 a2 _ _ l3 t554 t555 _ ?side1 ?side2 ?side3 ?side4 A23.out).mono ?_); (case side1 => repeat (first | exact (Kd.S_reads' HO_9.out).2.2 | (with_reducible refine Kd.C_alloc ?_ _) | (with_reducible refine Kd.C_drewN ?_ _) | (with_reducible refine Kd.C_drew ?_))); (case side2 => exact (Kd.S_reads' HO_9.out).2.1); (case side3 => repeat (first | exact (Kd.C_below HR3.out HB.out) | (with_reducible refine Kd.C_alloc ?_ _) | (with_reducible refine Kd.C_drewN ?_ _) | (with_reducible refine Kd.C_drew ?_))); (case side4 => exact HC3.out); rintro e w29 ⟨v556, rfl, ho0, hb⟩; refine ⟨_, rfl, ?_⟩; have n0_ := Aside0.mk (Kd.S_elder' (by (with_reducible repeat (first | apply Kd.S_alloc | apply Kd.S_drewN | apply Kd.S_drew)); exact HO_9.out) (Kd.S_base ho0) hb); have n1_ := Aside0.mk (Kd.S_elder' (by (with_reducible repeat (first | apply Kd.S_alloc | apply Kd.S_drewN | apply Kd.S_drew)); exact HO549.out) (Kd.S_base ho0) hb); have n2_ := Aside0.mk (Kd.V_elder' (by (with_reducible repeat (first | apply Kd.V_alloc | apply Kd.V_drewN | apply Kd.V_drew)); exact HO552.out) (Kd.S_base ho0) hb); have n3_ := Aside0.mk (Kd.S_lower (Kd.S_new' (Kd.S_new' ho0 (Kd.S_lt (by (with_reducible repeat (first | apply Kd.S_alloc | apply Kd.S_drewN | apply Kd.S_drew)); exact HO_9.out))) (Kd.S_lt (by (with_reducible repeat (first | apply Kd.S_alloc | apply Kd.S_drewN | apply Kd.S_drew)); exact HO549.out))) (below_size (by repeat (first | (with_reducible first | exact HB.out | apply below_alloc | apply pw_below_drewN | apply below_drew1) | exact HB.out)))); have n4_ := Aside0.mk (below_step (by repeat (first | (with_reducible first | exact HB.out | apply below_alloc | apply pw_below_drewN | apply below_drew1) | exact HB.out)) hb); clear HO_9; clear HO549; clear HO552; clear HB; have HO_9 := n0_; have HO549 := n1_; have HO552 := n2_; have HO557 := n3_; have HB := n4_; clear n0_ n1_ n2_ n3_ n4_; (try clear hb); (try clear hb2); (try clear hk); (try clear hi); (try clear ho0)) | ((with_reducible refine gate_callee (f := 29) rfl ?_); refine goesL_ (some 75) rfl rfl Try.func29 (by kernel_rfl) rfl #[.slice A0 l0.length c0, .int .i64 a1, .int .i64 a2, .slice A3 l3.length c3, .bool true] rfl (by (try simp only [List.map_toArray, List.map_cons, List.map_nil]); first | done | rfl) ?_; (with_reducible refine (bailiwickref04_Change.calls k2 (fun k_ => k_ < w.heap.size) _ _ l0 a1 a2 _ _ l3 true t558 t561 _ ?side1 ?side2 ?side3 A24.out).mono ?_); (case side1 => exact Kd.V_mk HC0.out (Kd.F_below (Kd.C_F (Kd.heap_slice 38 k38_heap) HR0.out) (by repeat (first | (with_reducible first | exact HB.out | apply below_alloc | apply pw_below_drewN | apply below_drew1) | exact HB.out)))); (case side2 => repeat (first | exact (Kd.C_below HR3.out HB.out) | (with_reducible refine Kd.C_alloc ?_ _) | (with_reducible refine Kd.C_drewN ?_ _) | (with_reducible refine Kd.C_drew ?_))); (case side3 => exact HC3.out); rintro e w30 ⟨v559, rfl, ho0, hb⟩; refine ⟨_, rfl, ?_⟩; have n0_ := Aside0.mk (Kd.S_below (by (with_reducible repeat (first | apply Kd.S_alloc | apply Kd.S_drewN | apply Kd.S_drew)); exact HO_9.out) hb); have n1_ := Aside0.mk (Kd.S_below (by (with_reducible repeat (first | apply Kd.S_alloc | apply Kd.S_drewN | apply Kd.S_drew)); exact HO549.out) hb); have n2_ := Aside0.mk (Kd.V_below (by (with_reducible repeat (first | apply Kd.V_alloc | apply Kd.V_drewN | apply Kd.V_drew)); exact HO552.out) hb); have n3_ := Aside0.mk (Kd.S_below (by (with_reducible repeat (first | apply Kd.S_alloc | apply Kd.S_drewN | apply Kd.S_drew)); exact HO557.out) hb); have n4_ := Aside0.mk (Kd.V_lower (Kd.V_mono (ok' := fun k_ => some k_ ≠ (.slice Ao26 x9_2.length co26 : Value).ownBlock ∧ some k_ ≠ (v548 : Value).ownBlock ∧ some k_ ≠ (v556 : Value).ownBlock) ho0 (fun k_ hk_ => ⟨Or.elim hk_ (fun hs_ => fun e_ => Nat.not_le.2 hs_ (Kd.S_base HO_9.out k_ e_.symm)) (fun hn_ => (Kd.fresh' (Kd.S_lt (by (with_reducible repeat (first | apply Kd.S_alloc | apply Kd.S_drewN | apply Kd.S_drew)); exact HO_9.out)) k_ hn_)), Or.elim hk_ (fun hs_ => fun e_ => Nat.not_le.2 hs_ (Kd.S_base HO549.out k_ e_.symm)) (fun hn_ => (Kd.fresh' (Kd.S_lt (by (with_reducible repeat (first | apply Kd.S_alloc | apply Kd.S_drewN | apply Kd.S_drew)); exact HO549.out)) k_ hn_)), Or.elim hk_ (fun hs_ => fun e_ => Nat.not_le.2 hs_ (Kd.S_base HO557.out k_ e_.symm)) (fun hn_ => (Kd.fresh' (Kd.S_lt (by (with_reducible repeat (first | apply Kd.S_alloc | apply Kd.S_drewN | apply Kd.S_drew)); exact HO557.out)) k_ hn_))⟩)) (below_size (by repeat (first | (with_reducible first | exact HB.out | apply below_alloc | apply pw_below_drewN | apply below_drew1) | exact HB.out)))); have n5_ := Aside0.mk (below_step (by repeat (first | (with_reducible first | exact HB.out | apply below_alloc | apply pw_below_drewN | apply below_drew1) | exact HB.out)) hb); clear HO_9; clear HO549; clear HO552; clear HO557; clear HB; have HO_9 := n0_; have HO549 := n1_; have HO552 := n2_; have HO557 := n3_; have HO560 := n4_; have HB := n5_; clear n0_ n1_ n2_ n3_ n4_ n5_; (try clear hb); (try clear hb2); (try clear hk); (try clear hi); (try clear ho0)))
  (try simp only [Act.put, List.setIfInBounds_toArray, List.set_cons_zero, List.set_cons_succ])
  go_cut [110] (fun v110 wc => ∃ (kq : Nat) (x110_24 : Bool), v110 = .bool x110_24 ∧ Aside0 (bailiwicklaw04_PoolsRight.j2 kq l0 a1 x9_2 x110_24 = some r) ∧ Aside0 (kq ≤ k2) ∧ Aside0 (Kd.S (Kd.slice 38 k38) 22 wc w.heap.size (fun _ => True) (.slice Ao26 x9_2.length co26) x9_2) ∧ Aside0 (Below w.heap.size w wc))
  case first =>
    have H := HC25.out
    clear HC25
    replace H := Option.bind_eq_some_iff.mp H
    obtain ⟨t562, A310, H⟩ := H
    replace H : ((bailiwickref04_Right.f k2 l0).bind fun t563 => (if t562 = true then (if t563 = true then ((bailiwickref04_Same.f k2 t546 t550).bind fun t564 => (if t564 = true then (if t547 = t553 then ((bailiwickref04_Same.f k2 t554 t558).bind fun t565 => (if t565 = true then (if t555 = t561 then ((bailiwickref04_Same.f k2 x9_2 l0).bind fun t566 => (bailiwicklaw04_PoolsRight.j2 k2 l0 a1 x9_2 (!t566))) else (bailiwicklaw04_PoolsRight.j2 k2 l0 a1 x9_2 true)) else (bailiwicklaw04_PoolsRight.j2 k2 l0 a1 x9_2 true))) else (bailiwicklaw04_PoolsRight.j2 k2 l0 a1 x9_2 true)) else (bailiwicklaw04_PoolsRight.j2 k2 l0 a1 x9_2 true))) else (bailiwicklaw04_PoolsRight.j2 k2 l0 a1 x9_2 true)) else (if t563 = true then (bailiwicklaw04_PoolsRight.j2 k2 l0 a1 x9_2 true) else ((bailiwickref04_Same.f k2 t546 t550).bind fun t567 => (if t567 = true then (if t547 = t553 then ((bailiwickref04_Same.f k2 t554 t558).bind fun t568 => (if t568 = true then (if t555 = t561 then ((bailiwickref04_Same.f k2 x9_2 l0).bind fun t569 => (bailiwicklaw04_PoolsRight.j2 k2 l0 a1 x9_2 (!t569))) else (bailiwicklaw04_PoolsRight.j2 k2 l0 a1 x9_2 true)) else (bailiwicklaw04_PoolsRight.j2 k2 l0 a1 x9_2 true))) else (bailiwicklaw04_PoolsRight.j2 k2 l0 a1 x9_2 true)) else (bailiwicklaw04_PoolsRight.j2 k2 l0 a1 x9_2 true)))))) = some r := H
    have A31 := Aside0.mk A310
    clear A310
    replace H := Option.bind_eq_some_iff.mp H
    obtain ⟨t563, A320, H⟩ := H
    replace H : (if t562 = true then (if t563 = true then ((bailiwickref04_Same.f k2 t546 t550).bind fun t564 => (if t564 = true then (if t547 = t553 then ((bailiwickref04_Same.f k2 t554 t558).bind fun t565 => (if t565 = true then (if t555 = t561 then ((bailiwickref04_Same.f k2 x9_2 l0).bind fun t566 => (bailiwicklaw04_PoolsRight.j2 k2 l0 a1 x9_2 (!t566))) else (bailiwicklaw04_PoolsRight.j2 k2 l0 a1 x9_2 true)) else (bailiwicklaw04_PoolsRight.j2 k2 l0 a1 x9_2 true))) else (bailiwicklaw04_PoolsRight.j2 k2 l0 a1 x9_2 true)) else (bailiwicklaw04_PoolsRight.j2 k2 l0 a1 x9_2 true))) else (bailiwicklaw04_PoolsRight.j2 k2 l0 a1 x9_2 true)) else (if t563 = true then (bailiwicklaw04_PoolsRight.j2 k2 l0 a1 x9_2 true) else ((bailiwickref04_Same.f k2 t546 t550).bind fun t567 => (if t567 = true then (if t547 = t553 then ((bailiwickref04_Same.f k2 t554 t558).bind fun t568 => (if t568 = true then (if t555 = t561 then ((bailiwickref04_Same.f k2 x9_2 l0).bind fun t569 => (bailiwicklaw04_PoolsRight.j2 k2 l0 a1 x9_2 (!t569))) else (bailiwicklaw04_PoolsRight.j2 k2 l0 a1 x9_2 true)) else (bailiwicklaw04_PoolsRight.j2 k2 l0 a1 x9_2 true))) else (bailiwicklaw04_PoolsRight.j2 k2 l0 a1 x9_2 true)) else (bailiwicklaw04_PoolsRight.j2 k2 l0 a1 x9_2 true))))) = some r := H
    have A32 := Aside0.mk A320
    clear A320
    by_cases c33 : t562 = true
    · subst c33
      have H1 : (if t563 = true then ((bailiwickref04_Same.f k2 t546 t550).bind fun t564 => (if t564 = true then (if t547 = t553 then ((bailiwickref04_Same.f k2 t554 t558).bind fun t565 => (if t565 = true then (if t555 = t561 then ((bailiwickref04_Same.f k2 x9_2 l0).bind fun t566 => (bailiwicklaw04_PoolsRight.j2 k2 l0 a1 x9_2 (!t566))) else (bailiwicklaw04_PoolsRight.j2 k2 l0 a1 x9_2 true)) else (bailiwicklaw04_PoolsRight.j2 k2 l0 a1 x9_2 true))) else (bailiwicklaw04_PoolsRight.j2 k2 l0 a1 x9_2 true)) else (bailiwicklaw04_PoolsRight.j2 k2 l0 a1 x9_2 true))) else (bailiwicklaw04_PoolsRight.j2 k2 l0 a1 x9_2 true)) = some r := by rw [if_pos rfl] at H; exact H
      clear H
      have H := H1
      clear H1
      by_cases c34 : t563 = true
      rotate_left
      · replace c34 := Bool.eq_false_iff.mpr c34
        subst c34
        have H1 : (bailiwicklaw04_PoolsRight.j2 k2 l0 a1 x9_2 true) = some r := by rw [if_neg (show ¬ (false = true) by decide)] at H; exact H
        clear H
        have H := H1
        clear H1
        have H' := Aside0.mk H
        clear H
        go_wp2_with (first | ((with_reducible refine gate_callee (f := 26) rfl ?_); refine goesL_ (some 79) rfl rfl Try.func26 (by kernel_rfl) rfl #[.slice Ao26 x9_2.length co26] rfl (by (try simp only [List.map_toArray, List.map_cons, List.map_nil]); first | done | rfl) ?_; (with_reducible refine (pools_Right.calls k2 _ _ x9_2 true _ ?side1 ?side2 A31.out).mono ?_); (case side1 => repeat (first | exact (Kd.S_reads' HO_9.out).2.2 | (with_reducible refine Kd.C_alloc ?_ _) | (with_reducible refine Kd.C_drewN ?_ _) | (with_reducible refine Kd.C_drew ?_))); (case side2 => exact (Kd.S_reads' HO_9.out).2.1); rintro e w63 ⟨rfl, hb⟩; refine ⟨_, rfl, ?_⟩; have n0_ := Aside0.mk (Kd.S_below (by (with_reducible repeat (first | apply Kd.S_alloc | apply Kd.S_drewN | apply Kd.S_drew)); exact HO_9.out) hb); have n1_ := Aside0.mk (Kd.S_below (by (with_reducible repeat (first | apply Kd.S_alloc | apply Kd.S_drewN | apply Kd.S_drew)); exact HO549.out) hb); have n2_ := Aside0.mk (Kd.V_below (by (with_reducible repeat (first | apply Kd.V_alloc | apply Kd.V_drewN | apply Kd.V_drew)); exact HO552.out) hb); have n3_ := Aside0.mk (Kd.S_below (by (with_reducible repeat (first | apply Kd.S_alloc | apply Kd.S_drewN | apply Kd.S_drew)); exact HO557.out) hb); have n4_ := Aside0.mk (Kd.V_below (by (with_reducible repeat (first | apply Kd.V_alloc | apply Kd.V_drewN | apply Kd.V_drew)); exact HO560.out) hb); have n5_ := Aside0.mk (below_step (by repeat (first | (with_reducible first | exact HB.out | apply below_alloc | apply pw_below_drewN | apply below_drew1) | exact HB.out)) hb); clear HO_9; clear HO549; clear HO552; clear HO557; clear HO560; clear HB; have HO_9 := n0_; have HO549 := n1_; have HO552 := n2_; have HO557 := n3_; have HO560 := n4_; have HB := n5_; clear n0_ n1_ n2_ n3_ n4_ n5_; (try clear hb); (try clear hb2); (try clear hk); (try clear hi)) | ((with_reducible refine gate_callee (f := 31) rfl ?_); refine goesL_ (some 81) rfl rfl Try.func31 (by kernel_rfl) rfl #[.slice A0 l0.length c0] rfl (by (try simp only [List.map_toArray, List.map_cons, List.map_nil]); first | done | rfl) ?_; (with_reducible refine (bailiwickref04_Right.calls k2 _ _ l0 false _ ?side1 ?side2 A32.out).mono ?_); (case side1 => repeat (first | exact (Kd.C_below HR0.out HB.out) | (with_reducible refine Kd.C_alloc ?_ _) | (with_reducible refine Kd.C_drewN ?_ _) | (with_reducible refine Kd.C_drew ?_))); (case side2 => exact HC0.out); rintro e w' ⟨rfl, ⟨nd, rfl⟩⟩; refine ⟨_, rfl, ?_⟩))
        go_meet
        case rel => exact ⟨_, (true), (by first | rfl | (simp; done) | (simp [*]; done)), H', ⟨by have := HJ6.out; have := HK2.out; first | omega | exact Nat.le_refl _⟩, ⟨by (with_reducible repeat (first | apply Kd.S_alloc | apply Kd.S_drewN | apply Kd.S_drew)); exact Kd.S_mono HO_9.out (fun _ hk => trivial)⟩, ⟨by repeat (first | (with_reducible first | exact HB.out | apply below_alloc | apply pw_below_drewN | apply below_drew1) | exact HB.out)⟩⟩
      subst c34
      have H1 : ((bailiwickref04_Same.f k2 t546 t550).bind fun t564 => (if t564 = true then (if t547 = t553 then ((bailiwickref04_Same.f k2 t554 t558).bind fun t565 => (if t565 = true then (if t555 = t561 then ((bailiwickref04_Same.f k2 x9_2 l0).bind fun t566 => (bailiwicklaw04_PoolsRight.j2 k2 l0 a1 x9_2 (!t566))) else (bailiwicklaw04_PoolsRight.j2 k2 l0 a1 x9_2 true)) else (bailiwicklaw04_PoolsRight.j2 k2 l0 a1 x9_2 true))) else (bailiwicklaw04_PoolsRight.j2 k2 l0 a1 x9_2 true)) else (bailiwicklaw04_PoolsRight.j2 k2 l0 a1 x9_2 true))) = some r := by rw [if_pos rfl] at H; exact H
      clear H
      have H := H1
      clear H1
      replace H := Option.bind_eq_some_iff.mp H
      obtain ⟨t564, A350, H⟩ := H
      replace H : (if t564 = true then (if t547 = t553 then ((bailiwickref04_Same.f k2 t554 t558).bind fun t565 => (if t565 = true then (if t555 = t561 then ((bailiwickref04_Same.f k2 x9_2 l0).bind fun t566 => (bailiwicklaw04_PoolsRight.j2 k2 l0 a1 x9_2 (!t566))) else (bailiwicklaw04_PoolsRight.j2 k2 l0 a1 x9_2 true)) else (bailiwicklaw04_PoolsRight.j2 k2 l0 a1 x9_2 true))) else (bailiwicklaw04_PoolsRight.j2 k2 l0 a1 x9_2 true)) else (bailiwicklaw04_PoolsRight.j2 k2 l0 a1 x9_2 true)) = some r := H
      have A35 := Aside0.mk A350
      clear A350
      by_cases c36 : t564 = true
      rotate_left
      · replace c36 := Bool.eq_false_iff.mpr c36
        subst c36
        have H1 : (bailiwicklaw04_PoolsRight.j2 k2 l0 a1 x9_2 true) = some r := by rw [if_neg (show ¬ (false = true) by decide)] at H; exact H
        clear H
        have H := H1
        clear H1
        have H' := Aside0.mk H
        clear H
        go_wp2_with (first | ((with_reducible refine gate_callee (f := 26) rfl ?_); refine goesL_ (some 79) rfl rfl Try.func26 (by kernel_rfl) rfl #[.slice Ao26 x9_2.length co26] rfl (by (try simp only [List.map_toArray, List.map_cons, List.map_nil]); first | done | rfl) ?_; (with_reducible refine (pools_Right.calls k2 _ _ x9_2 true _ ?side1 ?side2 A31.out).mono ?_); (case side1 => repeat (first | exact (Kd.S_reads' HO_9.out).2.2 | (with_reducible refine Kd.C_alloc ?_ _) | (with_reducible refine Kd.C_drewN ?_ _) | (with_reducible refine Kd.C_drew ?_))); (case side2 => exact (Kd.S_reads' HO_9.out).2.1); rintro e w60 ⟨rfl, hb⟩; refine ⟨_, rfl, ?_⟩; have n0_ := Aside0.mk (Kd.S_below (by (with_reducible repeat (first | apply Kd.S_alloc | apply Kd.S_drewN | apply Kd.S_drew)); exact HO_9.out) hb); have n1_ := Aside0.mk (Kd.S_below (by (with_reducible repeat (first | apply Kd.S_alloc | apply Kd.S_drewN | apply Kd.S_drew)); exact HO549.out) hb); have n2_ := Aside0.mk (Kd.V_below (by (with_reducible repeat (first | apply Kd.V_alloc | apply Kd.V_drewN | apply Kd.V_drew)); exact HO552.out) hb); have n3_ := Aside0.mk (Kd.S_below (by (with_reducible repeat (first | apply Kd.S_alloc | apply Kd.S_drewN | apply Kd.S_drew)); exact HO557.out) hb); have n4_ := Aside0.mk (Kd.V_below (by (with_reducible repeat (first | apply Kd.V_alloc | apply Kd.V_drewN | apply Kd.V_drew)); exact HO560.out) hb); have n5_ := Aside0.mk (below_step (by repeat (first | (with_reducible first | exact HB.out | apply below_alloc | apply pw_below_drewN | apply below_drew1) | exact HB.out)) hb); clear HO_9; clear HO549; clear HO552; clear HO557; clear HO560; clear HB; have HO_9 := n0_; have HO549 := n1_; have HO552 := n2_; have HO557 := n3_; have HO560 := n4_; have HB := n5_; clear n0_ n1_ n2_ n3_ n4_ n5_; (try clear hb); (try clear hb2); (try clear hk); (try clear hi)) | ((with_reducible refine gate_callee (f := 31) rfl ?_); refine goesL_ (some 81) rfl rfl Try.func31 (by kernel_rfl) rfl #[.slice A0 l0.length c0] rfl (by (try simp only [List.map_toArray, List.map_cons, List.map_nil]); first | done | rfl) ?_; (with_reducible refine (bailiwickref04_Right.calls k2 _ _ l0 true _ ?side1 ?side2 A32.out).mono ?_); (case side1 => repeat (first | exact (Kd.C_below HR0.out HB.out) | (with_reducible refine Kd.C_alloc ?_ _) | (with_reducible refine Kd.C_drewN ?_ _) | (with_reducible refine Kd.C_drew ?_))); (case side2 => exact HC0.out); rintro e w' ⟨rfl, ⟨nd, rfl⟩⟩; refine ⟨_, rfl, ?_⟩; obtain ⟨Ao61, co61, eo61⟩ := Kd.S_slice HO549.out; subst eo61; obtain ⟨Ao62, co62, eo62⟩ := Kd.V_slice HO552.out; subst eo62) | (go_at_call 32; (with_reducible refine (bailiwickref04_Same.calls k2 _ _ t546 _ _ t550 false _ ?side1 ?side2 ?side3 ?side4 A35.out).mono ?_); (case side1 => repeat (first | exact (Kd.S_reads' HO549.out).2.2 | (with_reducible refine Kd.C_alloc ?_ _) | (with_reducible refine Kd.C_drewN ?_ _) | (with_reducible refine Kd.C_drew ?_))); (case side2 => exact (Kd.S_reads' HO549.out).2.1); (case side3 => repeat (first | exact (Kd.V_reads' HO552.out).2.2 | (with_reducible refine Kd.C_alloc ?_ _) | (with_reducible refine Kd.C_drewN ?_ _) | (with_reducible refine Kd.C_drew ?_))); (case side4 => exact (Kd.V_reads' HO552.out).2.1); rintro e w' ⟨rfl, ⟨nd, rfl⟩⟩))
        go_meet
        case rel => exact ⟨_, (true), (by first | rfl | (simp; done) | (simp [*]; done)), H', ⟨by have := HJ6.out; have := HK2.out; first | omega | exact Nat.le_refl _⟩, ⟨by (with_reducible repeat (first | apply Kd.S_alloc | apply Kd.S_drewN | apply Kd.S_drew)); exact Kd.S_mono HO_9.out (fun _ hk => trivial)⟩, ⟨by repeat (first | (with_reducible first | exact HB.out | apply below_alloc | apply pw_below_drewN | apply below_drew1) | exact HB.out)⟩⟩
      subst c36
      have H1 : (if t547 = t553 then ((bailiwickref04_Same.f k2 t554 t558).bind fun t565 => (if t565 = true then (if t555 = t561 then ((bailiwickref04_Same.f k2 x9_2 l0).bind fun t566 => (bailiwicklaw04_PoolsRight.j2 k2 l0 a1 x9_2 (!t566))) else (bailiwicklaw04_PoolsRight.j2 k2 l0 a1 x9_2 true)) else (bailiwicklaw04_PoolsRight.j2 k2 l0 a1 x9_2 true))) else (bailiwicklaw04_PoolsRight.j2 k2 l0 a1 x9_2 true)) = some r := by rw [if_pos rfl] at H; exact H
      clear H
      have H := H1
      clear H1
      by_cases c37 : t547 = t553
      rotate_left
      · rw [if_neg c37] at H
        have c37b0 : (t547 == t553) = false := beq_eq_false_iff_ne.mpr c37
        have c37b1 : (t547 != t553) = true := bne_iff_ne.mpr c37
        (first | rw [c37b0] | (simp only [i64_w, i32_w]; rw [c37b0]) | skip)
        have H' := Aside0.mk H
        clear H
        go_wp2_with (first | ((with_reducible refine gate_callee (f := 26) rfl ?_); refine goesL_ (some 79) rfl rfl Try.func26 (by kernel_rfl) rfl #[.slice Ao26 x9_2.length co26] rfl (by (try simp only [List.map_toArray, List.map_cons, List.map_nil]); first | done | rfl) ?_; (with_reducible refine (pools_Right.calls k2 _ _ x9_2 true _ ?side1 ?side2 A31.out).mono ?_); (case side1 => repeat (first | exact (Kd.S_reads' HO_9.out).2.2 | (with_reducible refine Kd.C_alloc ?_ _) | (with_reducible refine Kd.C_drewN ?_ _) | (with_reducible refine Kd.C_drew ?_))); (case side2 => exact (Kd.S_reads' HO_9.out).2.1); rintro e w57 ⟨rfl, hb⟩; refine ⟨_, rfl, ?_⟩; have n0_ := Aside0.mk (Kd.S_below (by (with_reducible repeat (first | apply Kd.S_alloc | apply Kd.S_drewN | apply Kd.S_drew)); exact HO_9.out) hb); have n1_ := Aside0.mk (Kd.S_below (by (with_reducible repeat (first | apply Kd.S_alloc | apply Kd.S_drewN | apply Kd.S_drew)); exact HO549.out) hb); have n2_ := Aside0.mk (Kd.V_below (by (with_reducible repeat (first | apply Kd.V_alloc | apply Kd.V_drewN | apply Kd.V_drew)); exact HO552.out) hb); have n3_ := Aside0.mk (Kd.S_below (by (with_reducible repeat (first | apply Kd.S_alloc | apply Kd.S_drewN | apply Kd.S_drew)); exact HO557.out) hb); have n4_ := Aside0.mk (Kd.V_below (by (with_reducible repeat (first | apply Kd.V_alloc | apply Kd.V_drewN | apply Kd.V_drew)); exact HO560.out) hb); have n5_ := Aside0.mk (below_step (by repeat (first | (with_reducible first | exact HB.out | apply below_alloc | apply pw_below_drewN | apply below_drew1) | exact HB.out)) hb); clear HO_9; clear HO549; clear HO552; clear HO557; clear HO560; clear HB; have HO_9 := n0_; have HO549 := n1_; have HO552 := n2_; have HO557 := n3_; have HO560 := n4_; have HB := n5_; clear n0_ n1_ n2_ n3_ n4_ n5_; (try clear hb); (try clear hb2); (try clear hk); (try clear hi)) | ((with_reducible refine gate_callee (f := 31) rfl ?_); refine goesL_ (some 81) rfl rfl Try.func31 (by kernel_rfl) rfl #[.slice A0 l0.length c0] rfl (by (try simp only [List.map_toArray, List.map_cons, List.map_nil]); first | done | rfl) ?_; (with_reducible refine (bailiwickref04_Right.calls k2 _ _ l0 true _ ?side1 ?side2 A32.out).mono ?_); (case side1 => repeat (first | exact (Kd.C_below HR0.out HB.out) | (with_reducible refine Kd.C_alloc ?_ _) | (with_reducible refine Kd.C_drewN ?_ _) | (with_reducible refine Kd.C_drew ?_))); (case side2 => exact HC0.out); rintro e w' ⟨rfl, ⟨nd, rfl⟩⟩; refine ⟨_, rfl, ?_⟩; obtain ⟨Ao58, co58, eo58⟩ := Kd.S_slice HO549.out; subst eo58; obtain ⟨Ao59, co59, eo59⟩ := Kd.V_slice HO552.out; subst eo59) | (go_at_call 32; (with_reducible refine (bailiwickref04_Same.calls k2 _ _ t546 _ _ t550 true _ ?side1 ?side2 ?side3 ?side4 A35.out).mono ?_); (case side1 => repeat (first | exact (Kd.S_reads' HO549.out).2.2 | (with_reducible refine Kd.C_alloc ?_ _) | (with_reducible refine Kd.C_drewN ?_ _) | (with_reducible refine Kd.C_drew ?_))); (case side2 => exact (Kd.S_reads' HO549.out).2.1); (case side3 => repeat (first | exact (Kd.V_reads' HO552.out).2.2 | (with_reducible refine Kd.C_alloc ?_ _) | (with_reducible refine Kd.C_drewN ?_ _) | (with_reducible refine Kd.C_drew ?_))); (case side4 => exact (Kd.V_reads' HO552.out).2.1); rintro e w' ⟨rfl, ⟨nd, rfl⟩⟩))
        go_meet
        case rel => exact ⟨_, (true), (by first | rfl | (simp; done) | (simp [*]; done)), H', ⟨by have := HJ6.out; have := HK2.out; first | omega | exact Nat.le_refl _⟩, ⟨by (with_reducible repeat (first | apply Kd.S_alloc | apply Kd.S_drewN | apply Kd.S_drew)); exact Kd.S_mono HO_9.out (fun _ hk => trivial)⟩, ⟨by repeat (first | (with_reducible first | exact HB.out | apply below_alloc | apply pw_below_drewN | apply below_drew1) | exact HB.out)⟩⟩
      rw [if_pos c37] at H
      have c37b0 : (t547 == t553) = true := beq_iff_eq.mpr c37
      have c37b1 : (t547 != t553) = false := bne_eq_false_iff_eq.mpr c37
      clear c37
      (first | rw [c37b0] | (simp only [i64_w, i32_w]; rw [c37b0]) | skip)
      replace H := Option.bind_eq_some_iff.mp H
      obtain ⟨t565, A380, H⟩ := H
      replace H : (if t565 = true then (if t555 = t561 then ((bailiwickref04_Same.f k2 x9_2 l0).bind fun t566 => (bailiwicklaw04_PoolsRight.j2 k2 l0 a1 x9_2 (!t566))) else (bailiwicklaw04_PoolsRight.j2 k2 l0 a1 x9_2 true)) else (bailiwicklaw04_PoolsRight.j2 k2 l0 a1 x9_2 true)) = some r := H
      have A38 := Aside0.mk A380
      clear A380
      by_cases c39 : t565 = true
      rotate_left
      · replace c39 := Bool.eq_false_iff.mpr c39
        subst c39
        have H1 : (bailiwicklaw04_PoolsRight.j2 k2 l0 a1 x9_2 true) = some r := by rw [if_neg (show ¬ (false = true) by decide)] at H; exact H
        clear H
        have H := H1
        clear H1
        have H' := Aside0.mk H
        clear H
        go_wp2_with (first | ((with_reducible refine gate_callee (f := 26) rfl ?_); refine goesL_ (some 79) rfl rfl Try.func26 (by kernel_rfl) rfl #[.slice Ao26 x9_2.length co26] rfl (by (try simp only [List.map_toArray, List.map_cons, List.map_nil]); first | done | rfl) ?_; (with_reducible refine (pools_Right.calls k2 _ _ x9_2 true _ ?side1 ?side2 A31.out).mono ?_); (case side1 => repeat (first | exact (Kd.S_reads' HO_9.out).2.2 | (with_reducible refine Kd.C_alloc ?_ _) | (with_reducible refine Kd.C_drewN ?_ _) | (with_reducible refine Kd.C_drew ?_))); (case side2 => exact (Kd.S_reads' HO_9.out).2.1); rintro e w52 ⟨rfl, hb⟩; refine ⟨_, rfl, ?_⟩; have n0_ := Aside0.mk (Kd.S_below (by (with_reducible repeat (first | apply Kd.S_alloc | apply Kd.S_drewN | apply Kd.S_drew)); exact HO_9.out) hb); have n1_ := Aside0.mk (Kd.S_below (by (with_reducible repeat (first | apply Kd.S_alloc | apply Kd.S_drewN | apply Kd.S_drew)); exact HO549.out) hb); have n2_ := Aside0.mk (Kd.V_below (by (with_reducible repeat (first | apply Kd.V_alloc | apply Kd.V_drewN | apply Kd.V_drew)); exact HO552.out) hb); have n3_ := Aside0.mk (Kd.S_below (by (with_reducible repeat (first | apply Kd.S_alloc | apply Kd.S_drewN | apply Kd.S_drew)); exact HO557.out) hb); have n4_ := Aside0.mk (Kd.V_below (by (with_reducible repeat (first | apply Kd.V_alloc | apply Kd.V_drewN | apply Kd.V_drew)); exact HO560.out) hb); have n5_ := Aside0.mk (below_step (by repeat (first | (with_reducible first | exact HB.out | apply below_alloc | apply pw_below_drewN | apply below_drew1) | exact HB.out)) hb); clear HO_9; clear HO549; clear HO552; clear HO557; clear HO560; clear HB; have HO_9 := n0_; have HO549 := n1_; have HO552 := n2_; have HO557 := n3_; have HO560 := n4_; have HB := n5_; clear n0_ n1_ n2_ n3_ n4_ n5_; (try clear hb); (try clear hb2); (try clear hk); (try clear hi)) | ((with_reducible refine gate_callee (f := 31) rfl ?_); refine goesL_ (some 81) rfl rfl Try.func31 (by kernel_rfl) rfl #[.slice A0 l0.length c0] rfl (by (try simp only [List.map_toArray, List.map_cons, List.map_nil]); first | done | rfl) ?_; (with_reducible refine (bailiwickref04_Right.calls k2 _ _ l0 true _ ?side1 ?side2 A32.out).mono ?_); (case side1 => repeat (first | exact (Kd.C_below HR0.out HB.out) | (with_reducible refine Kd.C_alloc ?_ _) | (with_reducible refine Kd.C_drewN ?_ _) | (with_reducible refine Kd.C_drew ?_))); (case side2 => exact HC0.out); rintro e w' ⟨rfl, ⟨nd, rfl⟩⟩; refine ⟨_, rfl, ?_⟩; obtain ⟨Ao53, co53, eo53⟩ := Kd.S_slice HO549.out; subst eo53; obtain ⟨Ao54, co54, eo54⟩ := Kd.V_slice HO552.out; subst eo54) | (go_at_call 32; (with_reducible refine (bailiwickref04_Same.calls k2 _ _ t546 _ _ t550 true _ ?side1 ?side2 ?side3 ?side4 A35.out).mono ?_); (case side1 => repeat (first | exact (Kd.S_reads' HO549.out).2.2 | (with_reducible refine Kd.C_alloc ?_ _) | (with_reducible refine Kd.C_drewN ?_ _) | (with_reducible refine Kd.C_drew ?_))); (case side2 => exact (Kd.S_reads' HO549.out).2.1); (case side3 => repeat (first | exact (Kd.V_reads' HO552.out).2.2 | (with_reducible refine Kd.C_alloc ?_ _) | (with_reducible refine Kd.C_drewN ?_ _) | (with_reducible refine Kd.C_drew ?_))); (case side4 => exact (Kd.V_reads' HO552.out).2.1); rintro e w' ⟨rfl, ⟨nd, rfl⟩⟩; obtain ⟨Ao55, co55, eo55⟩ := Kd.S_slice HO557.out; subst eo55; obtain ⟨Ao56, co56, eo56⟩ := Kd.V_slice HO560.out; subst eo56) | (go_at_call 32; (with_reducible refine (bailiwickref04_Same.calls k2 _ _ t554 _ _ t558 false _ ?side1 ?side2 ?side3 ?side4 A38.out).mono ?_); (case side1 => repeat (first | exact (Kd.S_reads' HO557.out).2.2 | (with_reducible refine Kd.C_alloc ?_ _) | (with_reducible refine Kd.C_drewN ?_ _) | (with_reducible refine Kd.C_drew ?_))); (case side2 => exact (Kd.S_reads' HO557.out).2.1); (case side3 => repeat (first | exact (Kd.V_reads' HO560.out).2.2 | (with_reducible refine Kd.C_alloc ?_ _) | (with_reducible refine Kd.C_drewN ?_ _) | (with_reducible refine Kd.C_drew ?_))); (case side4 => exact (Kd.V_reads' HO560.out).2.1); rintro e w' ⟨rfl, ⟨nd, rfl⟩⟩))
        go_meet
        case rel => exact ⟨_, (true), (by first | rfl | (simp; done) | (simp [*]; done)), H', ⟨by have := HJ6.out; have := HK2.out; first | omega | exact Nat.le_refl _⟩, ⟨by (with_reducible repeat (first | apply Kd.S_alloc | apply Kd.S_drewN | apply Kd.S_drew)); exact Kd.S_mono HO_9.out (fun _ hk => trivial)⟩, ⟨by repeat (first | (with_reducible first | exact HB.out | apply below_alloc | apply pw_below_drewN | apply below_drew1) | exact HB.out)⟩⟩
      subst c39
      have H1 : (if t555 = t561 then ((bailiwickref04_Same.f k2 x9_2 l0).bind fun t566 => (bailiwicklaw04_PoolsRight.j2 k2 l0 a1 x9_2 (!t566))) else (bailiwicklaw04_PoolsRight.j2 k2 l0 a1 x9_2 true)) = some r := by rw [if_pos rfl] at H; exact H
      clear H
      have H := H1
      clear H1
      by_cases c40 : t555 = t561
      rotate_left
      · rw [if_neg c40] at H
        have c40b0 : (t555 == t561) = false := beq_eq_false_iff_ne.mpr c40
        have c40b1 : (t555 != t561) = true := bne_iff_ne.mpr c40
        have H' := Aside0.mk H
        clear H
        go_wp2_with (first | ((with_reducible refine gate_callee (f := 26) rfl ?_); refine goesL_ (some 79) rfl rfl Try.func26 (by kernel_rfl) rfl #[.slice Ao26 x9_2.length co26] rfl (by (try simp only [List.map_toArray, List.map_cons, List.map_nil]); first | done | rfl) ?_; (with_reducible refine (pools_Right.calls k2 _ _ x9_2 true _ ?side1 ?side2 A31.out).mono ?_); (case side1 => repeat (first | exact (Kd.S_reads' HO_9.out).2.2 | (with_reducible refine Kd.C_alloc ?_ _) | (with_reducible refine Kd.C_drewN ?_ _) | (with_reducible refine Kd.C_drew ?_))); (case side2 => exact (Kd.S_reads' HO_9.out).2.1); rintro e w47 ⟨rfl, hb⟩; refine ⟨_, rfl, ?_⟩; have n0_ := Aside0.mk (Kd.S_below (by (with_reducible repeat (first | apply Kd.S_alloc | apply Kd.S_drewN | apply Kd.S_drew)); exact HO_9.out) hb); have n1_ := Aside0.mk (Kd.S_below (by (with_reducible repeat (first | apply Kd.S_alloc | apply Kd.S_drewN | apply Kd.S_drew)); exact HO549.out) hb); have n2_ := Aside0.mk (Kd.V_below (by (with_reducible repeat (first | apply Kd.V_alloc | apply Kd.V_drewN | apply Kd.V_drew)); exact HO552.out) hb); have n3_ := Aside0.mk (Kd.S_below (by (with_reducible repeat (first | apply Kd.S_alloc | apply Kd.S_drewN | apply Kd.S_drew)); exact HO557.out) hb); have n4_ := Aside0.mk (Kd.V_below (by (with_reducible repeat (first | apply Kd.V_alloc | apply Kd.V_drewN | apply Kd.V_drew)); exact HO560.out) hb); have n5_ := Aside0.mk (below_step (by repeat (first | (with_reducible first | exact HB.out | apply below_alloc | apply pw_below_drewN | apply below_drew1) | exact HB.out)) hb); clear HO_9; clear HO549; clear HO552; clear HO557; clear HO560; clear HB; have HO_9 := n0_; have HO549 := n1_; have HO552 := n2_; have HO557 := n3_; have HO560 := n4_; have HB := n5_; clear n0_ n1_ n2_ n3_ n4_ n5_; (try clear hb); (try clear hb2); (try clear hk); (try clear hi)) | ((with_reducible refine gate_callee (f := 31) rfl ?_); refine goesL_ (some 81) rfl rfl Try.func31 (by kernel_rfl) rfl #[.slice A0 l0.length c0] rfl (by (try simp only [List.map_toArray, List.map_cons, List.map_nil]); first | done | rfl) ?_; (with_reducible refine (bailiwickref04_Right.calls k2 _ _ l0 true _ ?side1 ?side2 A32.out).mono ?_); (case side1 => repeat (first | exact (Kd.C_below HR0.out HB.out) | (with_reducible refine Kd.C_alloc ?_ _) | (with_reducible refine Kd.C_drewN ?_ _) | (with_reducible refine Kd.C_drew ?_))); (case side2 => exact HC0.out); rintro e w' ⟨rfl, ⟨nd, rfl⟩⟩; refine ⟨_, rfl, ?_⟩; obtain ⟨Ao48, co48, eo48⟩ := Kd.S_slice HO549.out; subst eo48; obtain ⟨Ao49, co49, eo49⟩ := Kd.V_slice HO552.out; subst eo49) | (go_at_call 32; (with_reducible refine (bailiwickref04_Same.calls k2 _ _ t546 _ _ t550 true _ ?side1 ?side2 ?side3 ?side4 A35.out).mono ?_); (case side1 => repeat (first | exact (Kd.S_reads' HO549.out).2.2 | (with_reducible refine Kd.C_alloc ?_ _) | (with_reducible refine Kd.C_drewN ?_ _) | (with_reducible refine Kd.C_drew ?_))); (case side2 => exact (Kd.S_reads' HO549.out).2.1); (case side3 => repeat (first | exact (Kd.V_reads' HO552.out).2.2 | (with_reducible refine Kd.C_alloc ?_ _) | (with_reducible refine Kd.C_drewN ?_ _) | (with_reducible refine Kd.C_drew ?_))); (case side4 => exact (Kd.V_reads' HO552.out).2.1); rintro e w' ⟨rfl, ⟨nd, rfl⟩⟩; obtain ⟨Ao50, co50, eo50⟩ := Kd.S_slice HO557.out; subst eo50; obtain ⟨Ao51, co51, eo51⟩ := Kd.V_slice HO560.out; subst eo51) | (go_at_call 32; (with_reducible refine (bailiwickref04_Same.calls k2 _ _ t554 _ _ t558 true _ ?side1 ?side2 ?side3 ?side4 A38.out).mono ?_); (case side1 => repeat (first | exact (Kd.S_reads' HO557.out).2.2 | (with_reducible refine Kd.C_alloc ?_ _) | (with_reducible refine Kd.C_drewN ?_ _) | (with_reducible refine Kd.C_drew ?_))); (case side2 => exact (Kd.S_reads' HO557.out).2.1); (case side3 => repeat (first | exact (Kd.V_reads' HO560.out).2.2 | (with_reducible refine Kd.C_alloc ?_ _) | (with_reducible refine Kd.C_drewN ?_ _) | (with_reducible refine Kd.C_drew ?_))); (case side4 => exact (Kd.V_reads' HO560.out).2.1); rintro e w' ⟨rfl, ⟨nd, rfl⟩⟩))
        go_meet
        case rel => exact ⟨_, (true), (by first | rfl | (simp; done) | (simp [*]; done)), H', ⟨by have := HJ6.out; have := HK2.out; first | omega | exact Nat.le_refl _⟩, ⟨by (with_reducible repeat (first | apply Kd.S_alloc | apply Kd.S_drewN | apply Kd.S_drew)); exact Kd.S_mono HO_9.out (fun _ hk => trivial)⟩, ⟨by repeat (first | (with_reducible first | exact HB.out | apply below_alloc | apply pw_below_drewN | apply below_drew1) | exact HB.out)⟩⟩
      rw [if_pos c40] at H
      have c40b0 : (t555 == t561) = true := beq_iff_eq.mpr c40
      have c40b1 : (t555 != t561) = false := bne_eq_false_iff_eq.mpr c40
      clear c40
      replace H := Option.bind_eq_some_iff.mp H
      obtain ⟨t566, A410, H⟩ := H
      replace H : (bailiwicklaw04_PoolsRight.j2 k2 l0 a1 x9_2 (!t566)) = some r := H
      have A41 := Aside0.mk A410
      clear A410
      have H' := Aside0.mk H
      clear H
      go_wp2_with (first | ((with_reducible refine gate_callee (f := 26) rfl ?_); refine goesL_ (some 79) rfl rfl Try.func26 (by kernel_rfl) rfl #[.slice Ao26 x9_2.length co26] rfl (by (try simp only [List.map_toArray, List.map_cons, List.map_nil]); first | done | rfl) ?_; (with_reducible refine (pools_Right.calls k2 _ _ x9_2 true _ ?side1 ?side2 A31.out).mono ?_); (case side1 => repeat (first | exact (Kd.S_reads' HO_9.out).2.2 | (with_reducible refine Kd.C_alloc ?_ _) | (with_reducible refine Kd.C_drewN ?_ _) | (with_reducible refine Kd.C_drew ?_))); (case side2 => exact (Kd.S_reads' HO_9.out).2.1); rintro e w42 ⟨rfl, hb⟩; refine ⟨_, rfl, ?_⟩; have n0_ := Aside0.mk (Kd.S_below (by (with_reducible repeat (first | apply Kd.S_alloc | apply Kd.S_drewN | apply Kd.S_drew)); exact HO_9.out) hb); have n1_ := Aside0.mk (Kd.S_below (by (with_reducible repeat (first | apply Kd.S_alloc | apply Kd.S_drewN | apply Kd.S_drew)); exact HO549.out) hb); have n2_ := Aside0.mk (Kd.V_below (by (with_reducible repeat (first | apply Kd.V_alloc | apply Kd.V_drewN | apply Kd.V_drew)); exact HO552.out) hb); have n3_ := Aside0.mk (Kd.S_below (by (with_reducible repeat (first | apply Kd.S_alloc | apply Kd.S_drewN | apply Kd.S_drew)); exact HO557.out) hb); have n4_ := Aside0.mk (Kd.V_below (by (with_reducible repeat (first | apply Kd.V_alloc | apply Kd.V_drewN | apply Kd.V_drew)); exact HO560.out) hb); have n5_ := Aside0.mk (below_step (by repeat (first | (with_reducible first | exact HB.out | apply below_alloc | apply pw_below_drewN | apply below_drew1) | exact HB.out)) hb); clear HO_9; clear HO549; clear HO552; clear HO557; clear HO560; clear HB; have HO_9 := n0_; have HO549 := n1_; have HO552 := n2_; have HO557 := n3_; have HO560 := n4_; have HB := n5_; clear n0_ n1_ n2_ n3_ n4_ n5_; (try clear hb); (try clear hb2); (try clear hk); (try clear hi)) | ((with_reducible refine gate_callee (f := 31) rfl ?_); refine goesL_ (some 81) rfl rfl Try.func31 (by kernel_rfl) rfl #[.slice A0 l0.length c0] rfl (by (try simp only [List.map_toArray, List.map_cons, List.map_nil]); first | done | rfl) ?_; (with_reducible refine (bailiwickref04_Right.calls k2 _ _ l0 true _ ?side1 ?side2 A32.out).mono ?_); (case side1 => repeat (first | exact (Kd.C_below HR0.out HB.out) | (with_reducible refine Kd.C_alloc ?_ _) | (with_reducible refine Kd.C_drewN ?_ _) | (with_reducible refine Kd.C_drew ?_))); (case side2 => exact HC0.out); rintro e w' ⟨rfl, ⟨nd, rfl⟩⟩; refine ⟨_, rfl, ?_⟩; obtain ⟨Ao43, co43, eo43⟩ := Kd.S_slice HO549.out; subst eo43; obtain ⟨Ao44, co44, eo44⟩ := Kd.V_slice HO552.out; subst eo44) | (go_at_call 32; (with_reducible refine (bailiwickref04_Same.calls k2 _ _ t546 _ _ t550 true _ ?side1 ?side2 ?side3 ?side4 A35.out).mono ?_); (case side1 => repeat (first | exact (Kd.S_reads' HO549.out).2.2 | (with_reducible refine Kd.C_alloc ?_ _) | (with_reducible refine Kd.C_drewN ?_ _) | (with_reducible refine Kd.C_drew ?_))); (case side2 => exact (Kd.S_reads' HO549.out).2.1); (case side3 => repeat (first | exact (Kd.V_reads' HO552.out).2.2 | (with_reducible refine Kd.C_alloc ?_ _) | (with_reducible refine Kd.C_drewN ?_ _) | (with_reducible refine Kd.C_drew ?_))); (case side4 => exact (Kd.V_reads' HO552.out).2.1); rintro e w' ⟨rfl, ⟨nd, rfl⟩⟩; obtain ⟨Ao45, co45, eo45⟩ := Kd.S_slice HO557.out; subst eo45; obtain ⟨Ao46, co46, eo46⟩ := Kd.V_slice HO560.out; subst eo46) | (go_at_call 32; (with_reducible refine (bailiwickref04_Same.calls k2 _ _ t554 _ _ t558 true _ ?side1 ?side2 ?side3 ?side4 A38.out).mono ?_); (case side1 => repeat (first | exact (Kd.S_reads' HO557.out).2.2 | (with_reducible refine Kd.C_alloc ?_ _) | (with_reducible refine Kd.C_drewN ?_ _) | (with_reducible refine Kd.C_drew ?_))); (case side2 => exact (Kd.S_reads' HO557.out).2.1); (case side3 => repeat (first | exact (Kd.V_reads' HO560.out).2.2 | (with_reducible refine Kd.C_alloc ?_ _) | (with_reducible refine Kd.C_drewN ?_ _) | (with_reducible refine Kd.C_drew ?_))); (case side4 => exact (Kd.V_reads' HO560.out).2.1); rintro e w' ⟨rfl, ⟨nd, rfl⟩⟩) | (go_at_call 32; (with_reducible refine (bailiwickref04_Same.calls k2 _ _ x9_2 _ _ l0 t566 _ ?side1 ?side2 ?side3 ?side4 A41.out).mono ?_); (case side1 => repeat (first | exact (Kd.S_reads' HO_9.out).2.2 | (with_reducible refine Kd.C_alloc ?_ _) | (with_reducible refine Kd.C_drewN ?_ _) | (with_reducible refine Kd.C_drew ?_))); (case side2 => exact (Kd.S_reads' HO_9.out).2.1); (case side3 => repeat (first | exact (Kd.C_below HR0.out (by repeat (first | (with_reducible first | exact HB.out | apply below_alloc | apply pw_below_drewN | apply below_drew1) | exact HB.out))) | (with_reducible refine Kd.C_alloc ?_ _) | (with_reducible refine Kd.C_drewN ?_ _) | (with_reducible refine Kd.C_drew ?_))); (case side4 => exact HC0.out); rintro e w' ⟨rfl, ⟨nd, rfl⟩⟩))
      go_meet
      case rel => exact ⟨_, (!t566), (by first | rfl | (simp; done) | (simp [*]; done)), H', ⟨by have := HJ6.out; have := HK2.out; first | omega | exact Nat.le_refl _⟩, ⟨by (with_reducible repeat (first | apply Kd.S_alloc | apply Kd.S_drewN | apply Kd.S_drew)); exact Kd.S_mono HO_9.out (fun _ hk => trivial)⟩, ⟨by repeat (first | (with_reducible first | exact HB.out | apply below_alloc | apply pw_below_drewN | apply below_drew1) | exact HB.out)⟩⟩
    replace c33 := Bool.eq_false_iff.mpr c33
    subst c33
    have H1 : (if t563 = true then (bailiwicklaw04_PoolsRight.j2 k2 l0 a1 x9_2 true) else ((bailiwickref04_Same.f k2 t546 t550).bind fun t567 => (if t567 = true then (if t547 = t553 then ((bailiwickref04_Same.f k2 t554 t558).bind fun t568 => (if t568 = true then (if t555 = t561 then ((bailiwickref04_Same.f k2 x9_2 l0).bind fun t569 => (bailiwicklaw04_PoolsRight.j2 k2 l0 a1 x9_2 (!t569))) else (bailiwicklaw04_PoolsRight.j2 k2 l0 a1 x9_2 true)) else (bailiwicklaw04_PoolsRight.j2 k2 l0 a1 x9_2 true))) else (bailiwicklaw04_PoolsRight.j2 k2 l0 a1 x9_2 true)) else (bailiwicklaw04_PoolsRight.j2 k2 l0 a1 x9_2 true)))) = some r := by rw [if_neg (show ¬ (false = true) by decide)] at H; exact H
    clear H
    have H := H1
    clear H1
    by_cases c64 : t563 = true
    · subst c64
      have H1 : (bailiwicklaw04_PoolsRight.j2 k2 l0 a1 x9_2 true) = some r := by rw [if_pos rfl] at H; exact H
      clear H
      have H := H1
      clear H1
      have H' := Aside0.mk H
      clear H
      go_wp2_with (first | ((with_reducible refine gate_callee (f := 26) rfl ?_); refine goesL_ (some 79) rfl rfl Try.func26 (by kernel_rfl) rfl #[.slice Ao26 x9_2.length co26] rfl (by (try simp only [List.map_toArray, List.map_cons, List.map_nil]); first | done | rfl) ?_; (with_reducible refine (pools_Right.calls k2 _ _ x9_2 false _ ?side1 ?side2 A31.out).mono ?_); (case side1 => repeat (first | exact (Kd.S_reads' HO_9.out).2.2 | (with_reducible refine Kd.C_alloc ?_ _) | (with_reducible refine Kd.C_drewN ?_ _) | (with_reducible refine Kd.C_drew ?_))); (case side2 => exact (Kd.S_reads' HO_9.out).2.1); rintro e w65 ⟨rfl, hb⟩; refine ⟨_, rfl, ?_⟩; have n0_ := Aside0.mk (Kd.S_below (by (with_reducible repeat (first | apply Kd.S_alloc | apply Kd.S_drewN | apply Kd.S_drew)); exact HO_9.out) hb); have n1_ := Aside0.mk (Kd.S_below (by (with_reducible repeat (first | apply Kd.S_alloc | apply Kd.S_drewN | apply Kd.S_drew)); exact HO549.out) hb); have n2_ := Aside0.mk (Kd.V_below (by (with_reducible repeat (first | apply Kd.V_alloc | apply Kd.V_drewN | apply Kd.V_drew)); exact HO552.out) hb); have n3_ := Aside0.mk (Kd.S_below (by (with_reducible repeat (first | apply Kd.S_alloc | apply Kd.S_drewN | apply Kd.S_drew)); exact HO557.out) hb); have n4_ := Aside0.mk (Kd.V_below (by (with_reducible repeat (first | apply Kd.V_alloc | apply Kd.V_drewN | apply Kd.V_drew)); exact HO560.out) hb); have n5_ := Aside0.mk (below_step (by repeat (first | (with_reducible first | exact HB.out | apply below_alloc | apply pw_below_drewN | apply below_drew1) | exact HB.out)) hb); clear HO_9; clear HO549; clear HO552; clear HO557; clear HO560; clear HB; have HO_9 := n0_; have HO549 := n1_; have HO552 := n2_; have HO557 := n3_; have HO560 := n4_; have HB := n5_; clear n0_ n1_ n2_ n3_ n4_ n5_; (try clear hb); (try clear hb2); (try clear hk); (try clear hi)) | ((with_reducible refine gate_callee (f := 31) rfl ?_); refine goesL_ (some 81) rfl rfl Try.func31 (by kernel_rfl) rfl #[.slice A0 l0.length c0] rfl (by (try simp only [List.map_toArray, List.map_cons, List.map_nil]); first | done | rfl) ?_; (with_reducible refine (bailiwickref04_Right.calls k2 _ _ l0 true _ ?side1 ?side2 A32.out).mono ?_); (case side1 => repeat (first | exact (Kd.C_below HR0.out HB.out) | (with_reducible refine Kd.C_alloc ?_ _) | (with_reducible refine Kd.C_drewN ?_ _) | (with_reducible refine Kd.C_drew ?_))); (case side2 => exact HC0.out); rintro e w' ⟨rfl, ⟨nd, rfl⟩⟩; refine ⟨_, rfl, ?_⟩))
      go_meet
      case rel => exact ⟨_, (true), (by first | rfl | (simp; done) | (simp [*]; done)), H', ⟨by have := HJ6.out; have := HK2.out; first | omega | exact Nat.le_refl _⟩, ⟨by (with_reducible repeat (first | apply Kd.S_alloc | apply Kd.S_drewN | apply Kd.S_drew)); exact Kd.S_mono HO_9.out (fun _ hk => trivial)⟩, ⟨by repeat (first | (with_reducible first | exact HB.out | apply below_alloc | apply pw_below_drewN | apply below_drew1) | exact HB.out)⟩⟩
    replace c64 := Bool.eq_false_iff.mpr c64
    subst c64
    have H1 : ((bailiwickref04_Same.f k2 t546 t550).bind fun t567 => (if t567 = true then (if t547 = t553 then ((bailiwickref04_Same.f k2 t554 t558).bind fun t568 => (if t568 = true then (if t555 = t561 then ((bailiwickref04_Same.f k2 x9_2 l0).bind fun t569 => (bailiwicklaw04_PoolsRight.j2 k2 l0 a1 x9_2 (!t569))) else (bailiwicklaw04_PoolsRight.j2 k2 l0 a1 x9_2 true)) else (bailiwicklaw04_PoolsRight.j2 k2 l0 a1 x9_2 true))) else (bailiwicklaw04_PoolsRight.j2 k2 l0 a1 x9_2 true)) else (bailiwicklaw04_PoolsRight.j2 k2 l0 a1 x9_2 true))) = some r := by rw [if_neg (show ¬ (false = true) by decide)] at H; exact H
    clear H
    have H := H1
    clear H1
    replace H := Option.bind_eq_some_iff.mp H
    obtain ⟨t567, A660, H⟩ := H
    replace H : (if t567 = true then (if t547 = t553 then ((bailiwickref04_Same.f k2 t554 t558).bind fun t568 => (if t568 = true then (if t555 = t561 then ((bailiwickref04_Same.f k2 x9_2 l0).bind fun t569 => (bailiwicklaw04_PoolsRight.j2 k2 l0 a1 x9_2 (!t569))) else (bailiwicklaw04_PoolsRight.j2 k2 l0 a1 x9_2 true)) else (bailiwicklaw04_PoolsRight.j2 k2 l0 a1 x9_2 true))) else (bailiwicklaw04_PoolsRight.j2 k2 l0 a1 x9_2 true)) else (bailiwicklaw04_PoolsRight.j2 k2 l0 a1 x9_2 true)) = some r := H
    have A66 := Aside0.mk A660
    clear A660
    by_cases c67 : t567 = true
    rotate_left
    · replace c67 := Bool.eq_false_iff.mpr c67
      subst c67
      have H1 : (bailiwicklaw04_PoolsRight.j2 k2 l0 a1 x9_2 true) = some r := by rw [if_neg (show ¬ (false = true) by decide)] at H; exact H
      clear H
      have H := H1
      clear H1
      have H' := Aside0.mk H
      clear H
      go_wp2_with (first | ((with_reducible refine gate_callee (f := 26) rfl ?_); refine goesL_ (some 79) rfl rfl Try.func26 (by kernel_rfl) rfl #[.slice Ao26 x9_2.length co26] rfl (by (try simp only [List.map_toArray, List.map_cons, List.map_nil]); first | done | rfl) ?_; (with_reducible refine (pools_Right.calls k2 _ _ x9_2 false _ ?side1 ?side2 A31.out).mono ?_); (case side1 => repeat (first | exact (Kd.S_reads' HO_9.out).2.2 | (with_reducible refine Kd.C_alloc ?_ _) | (with_reducible refine Kd.C_drewN ?_ _) | (with_reducible refine Kd.C_drew ?_))); (case side2 => exact (Kd.S_reads' HO_9.out).2.1); rintro e w91 ⟨rfl, hb⟩; refine ⟨_, rfl, ?_⟩; have n0_ := Aside0.mk (Kd.S_below (by (with_reducible repeat (first | apply Kd.S_alloc | apply Kd.S_drewN | apply Kd.S_drew)); exact HO_9.out) hb); have n1_ := Aside0.mk (Kd.S_below (by (with_reducible repeat (first | apply Kd.S_alloc | apply Kd.S_drewN | apply Kd.S_drew)); exact HO549.out) hb); have n2_ := Aside0.mk (Kd.V_below (by (with_reducible repeat (first | apply Kd.V_alloc | apply Kd.V_drewN | apply Kd.V_drew)); exact HO552.out) hb); have n3_ := Aside0.mk (Kd.S_below (by (with_reducible repeat (first | apply Kd.S_alloc | apply Kd.S_drewN | apply Kd.S_drew)); exact HO557.out) hb); have n4_ := Aside0.mk (Kd.V_below (by (with_reducible repeat (first | apply Kd.V_alloc | apply Kd.V_drewN | apply Kd.V_drew)); exact HO560.out) hb); have n5_ := Aside0.mk (below_step (by repeat (first | (with_reducible first | exact HB.out | apply below_alloc | apply pw_below_drewN | apply below_drew1) | exact HB.out)) hb); clear HO_9; clear HO549; clear HO552; clear HO557; clear HO560; clear HB; have HO_9 := n0_; have HO549 := n1_; have HO552 := n2_; have HO557 := n3_; have HO560 := n4_; have HB := n5_; clear n0_ n1_ n2_ n3_ n4_ n5_; (try clear hb); (try clear hb2); (try clear hk); (try clear hi)) | ((with_reducible refine gate_callee (f := 31) rfl ?_); refine goesL_ (some 81) rfl rfl Try.func31 (by kernel_rfl) rfl #[.slice A0 l0.length c0] rfl (by (try simp only [List.map_toArray, List.map_cons, List.map_nil]); first | done | rfl) ?_; (with_reducible refine (bailiwickref04_Right.calls k2 _ _ l0 false _ ?side1 ?side2 A32.out).mono ?_); (case side1 => repeat (first | exact (Kd.C_below HR0.out HB.out) | (with_reducible refine Kd.C_alloc ?_ _) | (with_reducible refine Kd.C_drewN ?_ _) | (with_reducible refine Kd.C_drew ?_))); (case side2 => exact HC0.out); rintro e w' ⟨rfl, ⟨nd, rfl⟩⟩; refine ⟨_, rfl, ?_⟩; obtain ⟨Ao92, co92, eo92⟩ := Kd.S_slice HO549.out; subst eo92; obtain ⟨Ao93, co93, eo93⟩ := Kd.V_slice HO552.out; subst eo93) | (go_at_call 32; (with_reducible refine (bailiwickref04_Same.calls k2 _ _ t546 _ _ t550 false _ ?side1 ?side2 ?side3 ?side4 A66.out).mono ?_); (case side1 => repeat (first | exact (Kd.S_reads' HO549.out).2.2 | (with_reducible refine Kd.C_alloc ?_ _) | (with_reducible refine Kd.C_drewN ?_ _) | (with_reducible refine Kd.C_drew ?_))); (case side2 => exact (Kd.S_reads' HO549.out).2.1); (case side3 => repeat (first | exact (Kd.V_reads' HO552.out).2.2 | (with_reducible refine Kd.C_alloc ?_ _) | (with_reducible refine Kd.C_drewN ?_ _) | (with_reducible refine Kd.C_drew ?_))); (case side4 => exact (Kd.V_reads' HO552.out).2.1); rintro e w' ⟨rfl, ⟨nd, rfl⟩⟩))
      go_meet
      case rel => exact ⟨_, (true), (by first | rfl | (simp; done) | (simp [*]; done)), H', ⟨by have := HJ6.out; have := HK2.out; first | omega | exact Nat.le_refl _⟩, ⟨by (with_reducible repeat (first | apply Kd.S_alloc | apply Kd.S_drewN | apply Kd.S_drew)); exact Kd.S_mono HO_9.out (fun _ hk => trivial)⟩, ⟨by repeat (first | (with_reducible first | exact HB.out | apply below_alloc | apply pw_below_drewN | apply below_drew1) | exact HB.out)⟩⟩
    subst c67
    have H1 : (if t547 = t553 then ((bailiwickref04_Same.f k2 t554 t558).bind fun t568 => (if t568 = true then (if t555 = t561 then ((bailiwickref04_Same.f k2 x9_2 l0).bind fun t569 => (bailiwicklaw04_PoolsRight.j2 k2 l0 a1 x9_2 (!t569))) else (bailiwicklaw04_PoolsRight.j2 k2 l0 a1 x9_2 true)) else (bailiwicklaw04_PoolsRight.j2 k2 l0 a1 x9_2 true))) else (bailiwicklaw04_PoolsRight.j2 k2 l0 a1 x9_2 true)) = some r := by rw [if_pos rfl] at H; exact H
    clear H
    have H := H1
    clear H1
    by_cases c68 : t547 = t553
    rotate_left
    · rw [if_neg c68] at H
      have c68b0 : (t547 == t553) = false := beq_eq_false_iff_ne.mpr c68
      have c68b1 : (t547 != t553) = true := bne_iff_ne.mpr c68
      have H' := Aside0.mk H
      clear H
      go_wp2_with (first | ((with_reducible refine gate_callee (f := 26) rfl ?_); refine goesL_ (some 79) rfl rfl Try.func26 (by kernel_rfl) rfl #[.slice Ao26 x9_2.length co26] rfl (by (try simp only [List.map_toArray, List.map_cons, List.map_nil]); first | done | rfl) ?_; (with_reducible refine (pools_Right.calls k2 _ _ x9_2 false _ ?side1 ?side2 A31.out).mono ?_); (case side1 => repeat (first | exact (Kd.S_reads' HO_9.out).2.2 | (with_reducible refine Kd.C_alloc ?_ _) | (with_reducible refine Kd.C_drewN ?_ _) | (with_reducible refine Kd.C_drew ?_))); (case side2 => exact (Kd.S_reads' HO_9.out).2.1); rintro e w88 ⟨rfl, hb⟩; refine ⟨_, rfl, ?_⟩; have n0_ := Aside0.mk (Kd.S_below (by (with_reducible repeat (first | apply Kd.S_alloc | apply Kd.S_drewN | apply Kd.S_drew)); exact HO_9.out) hb); have n1_ := Aside0.mk (Kd.S_below (by (with_reducible repeat (first | apply Kd.S_alloc | apply Kd.S_drewN | apply Kd.S_drew)); exact HO549.out) hb); have n2_ := Aside0.mk (Kd.V_below (by (with_reducible repeat (first | apply Kd.V_alloc | apply Kd.V_drewN | apply Kd.V_drew)); exact HO552.out) hb); have n3_ := Aside0.mk (Kd.S_below (by (with_reducible repeat (first | apply Kd.S_alloc | apply Kd.S_drewN | apply Kd.S_drew)); exact HO557.out) hb); have n4_ := Aside0.mk (Kd.V_below (by (with_reducible repeat (first | apply Kd.V_alloc | apply Kd.V_drewN | apply Kd.V_drew)); exact HO560.out) hb); have n5_ := Aside0.mk (below_step (by repeat (first | (with_reducible first | exact HB.out | apply below_alloc | apply pw_below_drewN | apply below_drew1) | exact HB.out)) hb); clear HO_9; clear HO549; clear HO552; clear HO557; clear HO560; clear HB; have HO_9 := n0_; have HO549 := n1_; have HO552 := n2_; have HO557 := n3_; have HO560 := n4_; have HB := n5_; clear n0_ n1_ n2_ n3_ n4_ n5_; (try clear hb); (try clear hb2); (try clear hk); (try clear hi)) | ((with_reducible refine gate_callee (f := 31) rfl ?_); refine goesL_ (some 81) rfl rfl Try.func31 (by kernel_rfl) rfl #[.slice A0 l0.length c0] rfl (by (try simp only [List.map_toArray, List.map_cons, List.map_nil]); first | done | rfl) ?_; (with_reducible refine (bailiwickref04_Right.calls k2 _ _ l0 false _ ?side1 ?side2 A32.out).mono ?_); (case side1 => repeat (first | exact (Kd.C_below HR0.out HB.out) | (with_reducible refine Kd.C_alloc ?_ _) | (with_reducible refine Kd.C_drewN ?_ _) | (with_reducible refine Kd.C_drew ?_))); (case side2 => exact HC0.out); rintro e w' ⟨rfl, ⟨nd, rfl⟩⟩; refine ⟨_, rfl, ?_⟩; obtain ⟨Ao89, co89, eo89⟩ := Kd.S_slice HO549.out; subst eo89; obtain ⟨Ao90, co90, eo90⟩ := Kd.V_slice HO552.out; subst eo90) | (go_at_call 32; (with_reducible refine (bailiwickref04_Same.calls k2 _ _ t546 _ _ t550 true _ ?side1 ?side2 ?side3 ?side4 A66.out).mono ?_); (case side1 => repeat (first | exact (Kd.S_reads' HO549.out).2.2 | (with_reducible refine Kd.C_alloc ?_ _) | (with_reducible refine Kd.C_drewN ?_ _) | (with_reducible refine Kd.C_drew ?_))); (case side2 => exact (Kd.S_reads' HO549.out).2.1); (case side3 => repeat (first | exact (Kd.V_reads' HO552.out).2.2 | (with_reducible refine Kd.C_alloc ?_ _) | (with_reducible refine Kd.C_drewN ?_ _) | (with_reducible refine Kd.C_drew ?_))); (case side4 => exact (Kd.V_reads' HO552.out).2.1); rintro e w' ⟨rfl, ⟨nd, rfl⟩⟩))
      go_meet
      case rel => exact ⟨_, (true), (by first | rfl | (simp; done) | (simp [*]; done)), H', ⟨by have := HJ6.out; have := HK2.out; first | omega | exact Nat.le_refl _⟩, ⟨by (with_reducible repeat (first | apply Kd.S_alloc | apply Kd.S_drewN | apply Kd.S_drew)); exact Kd.S_mono HO_9.out (fun _ hk => trivial)⟩, ⟨by repeat (first | (with_reducible first | exact HB.out | apply below_alloc | apply pw_below_drewN | apply below_drew1) | exact HB.out)⟩⟩
    rw [if_pos c68] at H
    have c68b0 : (t547 == t553) = true := beq_iff_eq.mpr c68
    have c68b1 : (t547 != t553) = false := bne_eq_false_iff_eq.mpr c68
    clear c68
    replace H := Option.bind_eq_some_iff.mp H
    obtain ⟨t568, A690, H⟩ := H
    replace H : (if t568 = true then (if t555 = t561 then ((bailiwickref04_Same.f k2 x9_2 l0).bind fun t569 => (bailiwicklaw04_PoolsRight.j2 k2 l0 a1 x9_2 (!t569))) else (bailiwicklaw04_PoolsRight.j2 k2 l0 a1 x9_2 true)) else (bailiwicklaw04_PoolsRight.j2 k2 l0 a1 x9_2 true)) = some r := H
    have A69 := Aside0.mk A690
    clear A690
    by_cases c70 : t568 = true
    rotate_left
    · replace c70 := Bool.eq_false_iff.mpr c70
      subst c70
      have H1 : (bailiwicklaw04_PoolsRight.j2 k2 l0 a1 x9_2 true) = some r := by rw [if_neg (show ¬ (false = true) by decide)] at H; exact H
      clear H
      have H := H1
      clear H1
      have H' := Aside0.mk H
      clear H
      go_wp2_with (first | ((with_reducible refine gate_callee (f := 26) rfl ?_); refine goesL_ (some 79) rfl rfl Try.func26 (by kernel_rfl) rfl #[.slice Ao26 x9_2.length co26] rfl (by (try simp only [List.map_toArray, List.map_cons, List.map_nil]); first | done | rfl) ?_; (with_reducible refine (pools_Right.calls k2 _ _ x9_2 false _ ?side1 ?side2 A31.out).mono ?_); (case side1 => repeat (first | exact (Kd.S_reads' HO_9.out).2.2 | (with_reducible refine Kd.C_alloc ?_ _) | (with_reducible refine Kd.C_drewN ?_ _) | (with_reducible refine Kd.C_drew ?_))); (case side2 => exact (Kd.S_reads' HO_9.out).2.1); rintro e w83 ⟨rfl, hb⟩; refine ⟨_, rfl, ?_⟩; have n0_ := Aside0.mk (Kd.S_below (by (with_reducible repeat (first | apply Kd.S_alloc | apply Kd.S_drewN | apply Kd.S_drew)); exact HO_9.out) hb); have n1_ := Aside0.mk (Kd.S_below (by (with_reducible repeat (first | apply Kd.S_alloc | apply Kd.S_drewN | apply Kd.S_drew)); exact HO549.out) hb); have n2_ := Aside0.mk (Kd.V_below (by (with_reducible repeat (first | apply Kd.V_alloc | apply Kd.V_drewN | apply Kd.V_drew)); exact HO552.out) hb); have n3_ := Aside0.mk (Kd.S_below (by (with_reducible repeat (first | apply Kd.S_alloc | apply Kd.S_drewN | apply Kd.S_drew)); exact HO557.out) hb); have n4_ := Aside0.mk (Kd.V_below (by (with_reducible repeat (first | apply Kd.V_alloc | apply Kd.V_drewN | apply Kd.V_drew)); exact HO560.out) hb); have n5_ := Aside0.mk (below_step (by repeat (first | (with_reducible first | exact HB.out | apply below_alloc | apply pw_below_drewN | apply below_drew1) | exact HB.out)) hb); clear HO_9; clear HO549; clear HO552; clear HO557; clear HO560; clear HB; have HO_9 := n0_; have HO549 := n1_; have HO552 := n2_; have HO557 := n3_; have HO560 := n4_; have HB := n5_; clear n0_ n1_ n2_ n3_ n4_ n5_; (try clear hb); (try clear hb2); (try clear hk); (try clear hi)) | ((with_reducible refine gate_callee (f := 31) rfl ?_); refine goesL_ (some 81) rfl rfl Try.func31 (by kernel_rfl) rfl #[.slice A0 l0.length c0] rfl (by (try simp only [List.map_toArray, List.map_cons, List.map_nil]); first | done | rfl) ?_; (with_reducible refine (bailiwickref04_Right.calls k2 _ _ l0 false _ ?side1 ?side2 A32.out).mono ?_); (case side1 => repeat (first | exact (Kd.C_below HR0.out HB.out) | (with_reducible refine Kd.C_alloc ?_ _) | (with_reducible refine Kd.C_drewN ?_ _) | (with_reducible refine Kd.C_drew ?_))); (case side2 => exact HC0.out); rintro e w' ⟨rfl, ⟨nd, rfl⟩⟩; refine ⟨_, rfl, ?_⟩; obtain ⟨Ao84, co84, eo84⟩ := Kd.S_slice HO549.out; subst eo84; obtain ⟨Ao85, co85, eo85⟩ := Kd.V_slice HO552.out; subst eo85) | (go_at_call 32; (with_reducible refine (bailiwickref04_Same.calls k2 _ _ t546 _ _ t550 true _ ?side1 ?side2 ?side3 ?side4 A66.out).mono ?_); (case side1 => repeat (first | exact (Kd.S_reads' HO549.out).2.2 | (with_reducible refine Kd.C_alloc ?_ _) | (with_reducible refine Kd.C_drewN ?_ _) | (with_reducible refine Kd.C_drew ?_))); (case side2 => exact (Kd.S_reads' HO549.out).2.1); (case side3 => repeat (first | exact (Kd.V_reads' HO552.out).2.2 | (with_reducible refine Kd.C_alloc ?_ _) | (with_reducible refine Kd.C_drewN ?_ _) | (with_reducible refine Kd.C_drew ?_))); (case side4 => exact (Kd.V_reads' HO552.out).2.1); rintro e w' ⟨rfl, ⟨nd, rfl⟩⟩; obtain ⟨Ao86, co86, eo86⟩ := Kd.S_slice HO557.out; subst eo86; obtain ⟨Ao87, co87, eo87⟩ := Kd.V_slice HO560.out; subst eo87) | (go_at_call 32; (with_reducible refine (bailiwickref04_Same.calls k2 _ _ t554 _ _ t558 false _ ?side1 ?side2 ?side3 ?side4 A69.out).mono ?_); (case side1 => repeat (first | exact (Kd.S_reads' HO557.out).2.2 | (with_reducible refine Kd.C_alloc ?_ _) | (with_reducible refine Kd.C_drewN ?_ _) | (with_reducible refine Kd.C_drew ?_))); (case side2 => exact (Kd.S_reads' HO557.out).2.1); (case side3 => repeat (first | exact (Kd.V_reads' HO560.out).2.2 | (with_reducible refine Kd.C_alloc ?_ _) | (with_reducible refine Kd.C_drewN ?_ _) | (with_reducible refine Kd.C_drew ?_))); (case side4 => exact (Kd.V_reads' HO560.out).2.1); rintro e w' ⟨rfl, ⟨nd, rfl⟩⟩))
      go_meet
      case rel => exact ⟨_, (true), (by first | rfl | (simp; done) | (simp [*]; done)), H', ⟨by have := HJ6.out; have := HK2.out; first | omega | exact Nat.le_refl _⟩, ⟨by (with_reducible repeat (first | apply Kd.S_alloc | apply Kd.S_drewN | apply Kd.S_drew)); exact Kd.S_mono HO_9.out (fun _ hk => trivial)⟩, ⟨by repeat (first | (with_reducible first | exact HB.out | apply below_alloc | apply pw_below_drewN | apply below_drew1) | exact HB.out)⟩⟩
    subst c70
    have H1 : (if t555 = t561 then ((bailiwickref04_Same.f k2 x9_2 l0).bind fun t569 => (bailiwicklaw04_PoolsRight.j2 k2 l0 a1 x9_2 (!t569))) else (bailiwicklaw04_PoolsRight.j2 k2 l0 a1 x9_2 true)) = some r := by rw [if_pos rfl] at H; exact H
    clear H
    have H := H1
    clear H1
    by_cases c71 : t555 = t561
    rotate_left
    · rw [if_neg c71] at H
      have c71b0 : (t555 == t561) = false := beq_eq_false_iff_ne.mpr c71
      have c71b1 : (t555 != t561) = true := bne_iff_ne.mpr c71
      have H' := Aside0.mk H
      clear H
      go_wp2_with (first | ((with_reducible refine gate_callee (f := 26) rfl ?_); refine goesL_ (some 79) rfl rfl Try.func26 (by kernel_rfl) rfl #[.slice Ao26 x9_2.length co26] rfl (by (try simp only [List.map_toArray, List.map_cons, List.map_nil]); first | done | rfl) ?_; (with_reducible refine (pools_Right.calls k2 _ _ x9_2 false _ ?side1 ?side2 A31.out).mono ?_); (case side1 => repeat (first | exact (Kd.S_reads' HO_9.out).2.2 | (with_reducible refine Kd.C_alloc ?_ _) | (with_reducible refine Kd.C_drewN ?_ _) | (with_reducible refine Kd.C_drew ?_))); (case side2 => exact (Kd.S_reads' HO_9.out).2.1); rintro e w78 ⟨rfl, hb⟩; refine ⟨_, rfl, ?_⟩; have n0_ := Aside0.mk (Kd.S_below (by (with_reducible repeat (first | apply Kd.S_alloc | apply Kd.S_drewN | apply Kd.S_drew)); exact HO_9.out) hb); have n1_ := Aside0.mk (Kd.S_below (by (with_reducible repeat (first | apply Kd.S_alloc | apply Kd.S_drewN | apply Kd.S_drew)); exact HO549.out) hb); have n2_ := Aside0.mk (Kd.V_below (by (with_reducible repeat (first | apply Kd.V_alloc | apply Kd.V_drewN | apply Kd.V_drew)); exact HO552.out) hb); have n3_ := Aside0.mk (Kd.S_below (by (with_reducible repeat (first | apply Kd.S_alloc | apply Kd.S_drewN | apply Kd.S_drew)); exact HO557.out) hb); have n4_ := Aside0.mk (Kd.V_below (by (with_reducible repeat (first | apply Kd.V_alloc | apply Kd.V_drewN | apply Kd.V_drew)); exact HO560.out) hb); have n5_ := Aside0.mk (below_step (by repeat (first | (with_reducible first | exact HB.out | apply below_alloc | apply pw_below_drewN | apply below_drew1) | exact HB.out)) hb); clear HO_9; clear HO549; clear HO552; clear HO557; clear HO560; clear HB; have HO_9 := n0_; have HO549 := n1_; have HO552 := n2_; have HO557 := n3_; have HO560 := n4_; have HB := n5_; clear n0_ n1_ n2_ n3_ n4_ n5_; (try clear hb); (try clear hb2); (try clear hk); (try clear hi)) | ((with_reducible refine gate_callee (f := 31) rfl ?_); refine goesL_ (some 81) rfl rfl Try.func31 (by kernel_rfl) rfl #[.slice A0 l0.length c0] rfl (by (try simp only [List.map_toArray, List.map_cons, List.map_nil]); first | done | rfl) ?_; (with_reducible refine (bailiwickref04_Right.calls k2 _ _ l0 false _ ?side1 ?side2 A32.out).mono ?_); (case side1 => repeat (first | exact (Kd.C_below HR0.out HB.out) | (with_reducible refine Kd.C_alloc ?_ _) | (with_reducible refine Kd.C_drewN ?_ _) | (with_reducible refine Kd.C_drew ?_))); (case side2 => exact HC0.out); rintro e w' ⟨rfl, ⟨nd, rfl⟩⟩; refine ⟨_, rfl, ?_⟩; obtain ⟨Ao79, co79, eo79⟩ := Kd.S_slice HO549.out; subst eo79; obtain ⟨Ao80, co80, eo80⟩ := Kd.V_slice HO552.out; subst eo80) | (go_at_call 32; (with_reducible refine (bailiwickref04_Same.calls k2 _ _ t546 _ _ t550 true _ ?side1 ?side2 ?side3 ?side4 A66.out).mono ?_); (case side1 => repeat (first | exact (Kd.S_reads' HO549.out).2.2 | (with_reducible refine Kd.C_alloc ?_ _) | (with_reducible refine Kd.C_drewN ?_ _) | (with_reducible refine Kd.C_drew ?_))); (case side2 => exact (Kd.S_reads' HO549.out).2.1); (case side3 => repeat (first | exact (Kd.V_reads' HO552.out).2.2 | (with_reducible refine Kd.C_alloc ?_ _) | (with_reducible refine Kd.C_drewN ?_ _) | (with_reducible refine Kd.C_drew ?_))); (case side4 => exact (Kd.V_reads' HO552.out).2.1); rintro e w' ⟨rfl, ⟨nd, rfl⟩⟩; obtain ⟨Ao81, co81, eo81⟩ := Kd.S_slice HO557.out; subst eo81; obtain ⟨Ao82, co82, eo82⟩ := Kd.V_slice HO560.out; subst eo82) | (go_at_call 32; (with_reducible refine (bailiwickref04_Same.calls k2 _ _ t554 _ _ t558 true _ ?side1 ?side2 ?side3 ?side4 A69.out).mono ?_); (case side1 => repeat (first | exact (Kd.S_reads' HO557.out).2.2 | (with_reducible refine Kd.C_alloc ?_ _) | (with_reducible refine Kd.C_drewN ?_ _) | (with_reducible refine Kd.C_drew ?_))); (case side2 => exact (Kd.S_reads' HO557.out).2.1); (case side3 => repeat (first | exact (Kd.V_reads' HO560.out).2.2 | (with_reducible refine Kd.C_alloc ?_ _) | (with_reducible refine Kd.C_drewN ?_ _) | (with_reducible refine Kd.C_drew ?_))); (case side4 => exact (Kd.V_reads' HO560.out).2.1); rintro e w' ⟨rfl, ⟨nd, rfl⟩⟩))
      go_meet
      case rel => exact ⟨_, (true), (by first | rfl | (simp; done) | (simp [*]; done)), H', ⟨by have := HJ6.out; have := HK2.out; first | omega | exact Nat.le_refl _⟩, ⟨by (with_reducible repeat (first | apply Kd.S_alloc | apply Kd.S_drewN | apply Kd.S_drew)); exact Kd.S_mono HO_9.out (fun _ hk => trivial)⟩, ⟨by repeat (first | (with_reducible first | exact HB.out | apply below_alloc | apply pw_below_drewN | apply below_drew1) | exact HB.out)⟩⟩
    rw [if_pos c71] at H
    have c71b0 : (t555 == t561) = true := beq_iff_eq.mpr c71
    have c71b1 : (t555 != t561) = false := bne_eq_false_iff_eq.mpr c71
    clear c71
    replace H := Option.bind_eq_some_iff.mp H
    obtain ⟨t569, A720, H⟩ := H
    replace H : (bailiwicklaw04_PoolsRight.j2 k2 l0 a1 x9_2 (!t569)) = some r := H
    have A72 := Aside0.mk A720
    clear A720
    have H' := Aside0.mk H
    clear H
    go_wp2_with (first | ((with_reducible refine gate_callee (f := 26) rfl ?_); refine goesL_ (some 79) rfl rfl Try.func26 (by kernel_rfl) rfl #[.slice Ao26 x9_2.length co26] rfl (by (try simp only [List.map_toArray, List.map_cons, List.map_nil]); first | done | rfl) ?_; (with_reducible refine (pools_Right.calls k2 _ _ x9_2 false _ ?side1 ?side2 A31.out).mono ?_); (case side1 => repeat (first | exact (Kd.S_reads' HO_9.out).2.2 | (with_reducible refine Kd.C_alloc ?_ _) | (with_reducible refine Kd.C_drewN ?_ _) | (with_reducible refine Kd.C_drew ?_))); (case side2 => exact (Kd.S_reads' HO_9.out).2.1); rintro e w73 ⟨rfl, hb⟩; refine ⟨_, rfl, ?_⟩; have n0_ := Aside0.mk (Kd.S_below (by (with_reducible repeat (first | apply Kd.S_alloc | apply Kd.S_drewN | apply Kd.S_drew)); exact HO_9.out) hb); have n1_ := Aside0.mk (Kd.S_below (by (with_reducible repeat (first | apply Kd.S_alloc | apply Kd.S_drewN | apply Kd.S_drew)); exact HO549.out) hb); have n2_ := Aside0.mk (Kd.V_below (by (with_reducible repeat (first | apply Kd.V_alloc | apply Kd.V_drewN | apply Kd.V_drew)); exact HO552.out) hb); have n3_ := Aside0.mk (Kd.S_below (by (with_reducible repeat (first | apply Kd.S_alloc | apply Kd.S_drewN | apply Kd.S_drew)); exact HO557.out) hb); have n4_ := Aside0.mk (Kd.V_below (by (with_reducible repeat (first | apply Kd.V_alloc | apply Kd.V_drewN | apply Kd.V_drew)); exact HO560.out) hb); have n5_ := Aside0.mk (below_step (by repeat (first | (with_reducible first | exact HB.out | apply below_alloc | apply pw_below_drewN | apply below_drew1) | exact HB.out)) hb); clear HO_9; clear HO549; clear HO552; clear HO557; clear HO560; clear HB; have HO_9 := n0_; have HO549 := n1_; have HO552 := n2_; have HO557 := n3_; have HO560 := n4_; have HB := n5_; clear n0_ n1_ n2_ n3_ n4_ n5_; (try clear hb); (try clear hb2); (try clear hk); (try clear hi)) | ((with_reducible refine gate_callee (f := 31) rfl ?_); refine goesL_ (some 81) rfl rfl Try.func31 (by kernel_rfl) rfl #[.slice A0 l0.length c0] rfl (by (try simp only [List.map_toArray, List.map_cons, List.map_nil]); first | done | rfl) ?_; (with_reducible refine (bailiwickref04_Right.calls k2 _ _ l0 false _ ?side1 ?side2 A32.out).mono ?_); (case side1 => repeat (first | exact (Kd.C_below HR0.out HB.out) | (with_reducible refine Kd.C_alloc ?_ _) | (with_reducible refine Kd.C_drewN ?_ _) | (with_reducible refine Kd.C_drew ?_))); (case side2 => exact HC0.out); rintro e w' ⟨rfl, ⟨nd, rfl⟩⟩; refine ⟨_, rfl, ?_⟩; obtain ⟨Ao74, co74, eo74⟩ := Kd.S_slice HO549.out; subst eo74; obtain ⟨Ao75, co75, eo75⟩ := Kd.V_slice HO552.out; subst eo75) | (go_at_call 32; (with_reducible refine (bailiwickref04_Same.calls k2 _ _ t546 _ _ t550 true _ ?side1 ?side2 ?side3 ?side4 A66.out).mono ?_); (case side1 => repeat (first | exact (Kd.S_reads' HO549.out).2.2 | (with_reducible refine Kd.C_alloc ?_ _) | (with_reducible refine Kd.C_drewN ?_ _) | (with_reducible refine Kd.C_drew ?_))); (case side2 => exact (Kd.S_reads' HO549.out).2.1); (case side3 => repeat (first | exact (Kd.V_reads' HO552.out).2.2 | (with_reducible refine Kd.C_alloc ?_ _) | (with_reducible refine Kd.C_drewN ?_ _) | (with_reducible refine Kd.C_drew ?_))); (case side4 => exact (Kd.V_reads' HO552.out).2.1); rintro e w' ⟨rfl, ⟨nd, rfl⟩⟩; obtain ⟨Ao76, co76, eo76⟩ := Kd.S_slice HO557.out; subst eo76; obtain ⟨Ao77, co77, eo77⟩ := Kd.V_slice HO560.out; subst eo77) | (go_at_call 32; (with_reducible refine (bailiwickref04_Same.calls k2 _ _ t554 _ _ t558 true _ ?side1 ?side2 ?side3 ?side4 A69.out).mono ?_); (case side1 => repeat (first | exact (Kd.S_reads' HO557.out).2.2 | (with_reducible refine Kd.C_alloc ?_ _) | (with_reducible refine Kd.C_drewN ?_ _) | (with_reducible refine Kd.C_drew ?_))); (case side2 => exact (Kd.S_reads' HO557.out).2.1); (case side3 => repeat (first | exact (Kd.V_reads' HO560.out).2.2 | (with_reducible refine Kd.C_alloc ?_ _) | (with_reducible refine Kd.C_drewN ?_ _) | (with_reducible refine Kd.C_drew ?_))); (case side4 => exact (Kd.V_reads' HO560.out).2.1); rintro e w' ⟨rfl, ⟨nd, rfl⟩⟩) | (go_at_call 32; (with_reducible refine (bailiwickref04_Same.calls k2 _ _ x9_2 _ _ l0 t569 _ ?side1 ?side2 ?side3 ?side4 A72.out).mono ?_); (case side1 => repeat (first | exact (Kd.S_reads' HO_9.out).2.2 | (with_reducible refine Kd.C_alloc ?_ _) | (with_reducible refine Kd.C_drewN ?_ _) | (with_reducible refine Kd.C_drew ?_))); (case side2 => exact (Kd.S_reads' HO_9.out).2.1); (case side3 => repeat (first | exact (Kd.C_below HR0.out (by repeat (first | (with_reducible first | exact HB.out | apply below_alloc | apply pw_below_drewN | apply below_drew1) | exact HB.out))) | (with_reducible refine Kd.C_alloc ?_ _) | (with_reducible refine Kd.C_drewN ?_ _) | (with_reducible refine Kd.C_drew ?_))); (case side4 => exact HC0.out); rintro e w' ⟨rfl, ⟨nd, rfl⟩⟩))
    go_meet
    case rel => exact ⟨_, (!t569), (by first | rfl | (simp; done) | (simp [*]; done)), H', ⟨by have := HJ6.out; have := HK2.out; first | omega | exact Nat.le_refl _⟩, ⟨by (with_reducible repeat (first | apply Kd.S_alloc | apply Kd.S_drewN | apply Kd.S_drew)); exact Kd.S_mono HO_9.out (fun _ hk => trivial)⟩, ⟨by repeat (first | (with_reducible first | exact HB.out | apply below_alloc | apply pw_below_drewN | apply below_drew1) | exact HB.out)⟩⟩
  clear HC25
  try clear c1
  try clear c2
  try clear p2
  try clear c3
  try clear c4
  try clear c5
  try clear p5
  try clear q5
  try clear hx5
  try clear c6
  try clear p6
  try clear c7
  try clear c10
  try clear c11
  try clear c12
  try clear c12b0
  try clear c13
  try clear c13b0
  try clear c14
  try clear c15
  try clear c22
  try clear c23
  try clear c26
  try clear c28
  try clear c29
  try clear c30
  try clear c31
  try clear c33
  try clear c34
  try clear c36
  try clear c37
  try clear c37b0
  try clear c37b1
  try clear c39
  try clear c40
  try clear c40b0
  try clear c40b1
  try clear c53
  try clear p53
  try clear q53
  try clear hx53
  try clear c64
  try clear p64
  try clear c67
  try clear c68
  try clear c68b0
  try clear c68b1
  try clear c70
  try clear c71
  try clear c71b0
  try clear c71b1
  try clear hx539_0
  try clear p2
  try clear p539
  try clear q539
  obtain ⟨kq, x110_24, rfl, HA, HJ24, HO_9, HB⟩ := hcut
  rcases kq with _ | kj24
  · exact absurd HA.out (by simp [bailiwicklaw04_PoolsRight.j2])
  have H := HA.out
  clear HA
  simp only [bailiwicklaw04_PoolsRight.j2] at H
  by_cases c94 : x110_24 = true
  · subst c94
    have H1 : (none) = some r := by rw [if_pos rfl] at H; exact H
    clear H
    have H := H1
    clear H1
    exact absurd H (by simp)
  replace c94 := Bool.eq_false_iff.mpr c94
  subst c94
  have H1 : (bailiwicklaw04_PoolsRight.l1 kj24 l0 a1 x9_2 ([] : List Int) 0) = some r := by rw [if_neg (show ¬ (false = true) by decide)] at H; exact H
  clear H
  have H := H1
  clear H1
  have H' := Aside0.mk H
  clear H
  go_wp2
  go_loopg [19, 20] kj24 (fun kq v19 v20 w' => ∃ (x19_4 : List Int) (x20_4 : Int), v20 = .int .i64 x20_4 ∧ Aside0 (bailiwicklaw04_PoolsRight.l1 kq l0 a1 x9_2 x19_4 x20_4 = some r) ∧ Aside0 (kq ≤ kj24) ∧ Aside0 (Kd.S (Kd.slice 38 k38) 22 w' w.heap.size (fun _ => True) (.slice Ao26 x9_2.length co26) x9_2) ∧ Aside0 (Kd.R (Kd.int .i64) 3 w' w.heap.size (fun _ => True) v19 x19_4) ∧ Aside0 (Below w.heap.size w w'))
  case atStart => exact ⟨(([] : List Int)), (0), (by first | rfl | (simp; done) | (simp [*]; done)), H', ⟨Nat.le_refl _⟩, ⟨by (with_reducible repeat (first | apply Kd.S_alloc | apply Kd.S_drewN | apply Kd.S_drew)); exact HO_9.out⟩, ⟨by first | exact Kd.R_nil _ _ _ _ _ | exact Kd.N_nil _ _ _ _ _ | exact Kd.V_nil _ _ _ _ _ | exact Kd.Q_nil _ _ _ _ _ | exact Kd.S_nil _ _ _ _ _⟩, ⟨by repeat (first | (with_reducible first | exact HB.out | apply below_alloc | apply pw_below_drewN | apply below_drew1) | exact HB.out)⟩⟩
  clear H'
  try clear c1
  try clear c2
  try clear p2
  try clear c3
  try clear c4
  try clear c5
  try clear p5
  try clear q5
  try clear hx5
  try clear c6
  try clear p6
  try clear c7
  try clear c9
  try clear c10
  try clear c11
  try clear c12
  try clear c12b0
  try clear c13
  try clear c13b0
  try clear c14
  try clear c15
  try clear c22
  try clear c23
  try clear c26
  try clear c28
  try clear c29
  try clear c30
  try clear c31
  try clear c33
  try clear c34
  try clear c36
  try clear c37
  try clear c37b0
  try clear c37b1
  try clear c39
  try clear c40
  try clear c40b0
  try clear c40b1
  try clear c53
  try clear p53
  try clear q53
  try clear hx53
  try clear c64
  try clear p64
  try clear c67
  try clear c68
  try clear c68b0
  try clear c68b1
  try clear c70
  try clear c71
  try clear c71b0
  try clear c71b1
  try clear c94
  try clear hx539_0
  try clear p2
  try clear p5
  try clear p53
  try clear p539
  try clear p6
  try clear p64
  try clear q5
  try clear q53
  try clear q539
  obtain ⟨x19_4, x20_4, rfl, HA, HK4, HO_9, HO_19, HB⟩ := hrel
  rcases gk with _ | k4
  · exact absurd HA.out (by simp [bailiwicklaw04_PoolsRight.l1])
  have H := HA.out
  clear HA
  simp only [bailiwicklaw04_PoolsRight.l1] at H
  by_cases c95 : x20_4 < (l0.length : Int)
  rotate_left
  · rw [if_neg c95] at H
    have c95b0 : decide (x20_4 < (l0.length : Int)) = false := decide_eq_false c95
    clear c95
    replace H := Option.bind_eq_some_iff.mp H
    obtain ⟨t580, A1070, H⟩ := H
    replace H : ((bailiwickref01_Same.f k4 t580 x19_4).bind fun t583 => (some t583)) = some r := H
    have A107 := Aside0.mk A1070
    clear A1070
    replace H := Option.bind_eq_some_iff.mp H
    obtain ⟨t583, A1080, H⟩ := H
    replace H : (some t583) = some r := H
    have A108 := Aside0.mk A1080
    clear A1080
    obtain rfl := Option.some.inj H
    go_wp2_with (first | ((with_reducible refine gate_callee (f := 27) rfl ?_); refine goesL_ (some 132) rfl rfl Try.func27 (by kernel_rfl) rfl #[.slice Ao26 x9_2.length co26, .int .i64 a1] rfl (by (try simp only [List.map_toArray, List.map_cons, List.map_nil]); first | done | rfl) ?_; (with_reducible refine (pools_At.calls k4 _ _ x9_2 a1 t580 _ ?side1 ?side2 A107.out).mono ?_); (case side1 => repeat (first | exact (Kd.S_reads' HO_9.out).2.2 | (with_reducible refine Kd.C_alloc ?_ _) | (with_reducible refine Kd.C_drewN ?_ _) | (with_reducible refine Kd.C_drew ?_))); (case side2 => exact (Kd.S_reads' HO_9.out).2.1); rintro e w109 ⟨v581, rfl, ho0, hb⟩; refine ⟨_, rfl, ?_⟩; have n0_ := Aside0.mk (Kd.S_below (by (with_reducible repeat (first | apply Kd.S_alloc | apply Kd.S_drewN | apply Kd.S_drew)); exact HO_9.out) hb); have n1_ := Aside0.mk (Kd.R_elder' (by (with_reducible repeat (first | apply Kd.R_alloc | apply Kd.R_drewN | apply Kd.R_drew)); exact HO_19.out) (Kd.R_base ho0) hb); have n2_ := Aside0.mk (Kd.R_lower (Kd.R_new' ho0 (Kd.R_lt (by (with_reducible repeat (first | apply Kd.R_alloc | apply Kd.R_drewN | apply Kd.R_drew)); exact HO_19.out))) (below_size (by repeat (first | (with_reducible first | exact HB.out | apply below_alloc | apply pw_below_drewN | apply below_drew1) | exact HB.out)))); have n3_ := Aside0.mk (below_step (by repeat (first | (with_reducible first | exact HB.out | apply below_alloc | apply pw_below_drewN | apply below_drew1) | exact HB.out)) hb); clear HO_9; clear HO_19; clear HB; have HO_9 := n0_; have HO_19 := n1_; have HO582 := n2_; have HB := n3_; clear n0_ n1_ n2_ n3_; (try clear hb); (try clear hb2); (try clear hk); (try clear hi); (try clear ho0); obtain ⟨Ao110, co110, eo110⟩ := Kd.R_slice HO582.out; subst eo110; obtain ⟨Ao111, co111, eo111⟩ := Kd.R_slice HO_19.out; subst eo111) | ((with_reducible refine gate_callee (f := 33) rfl ?_); refine goesL_ (some 134) rfl rfl Try.func33 (by kernel_rfl) rfl #[.slice Ao110 t580.length co110, .slice Ao111 x19_4.length co111] rfl (by (try simp only [List.map_toArray, List.map_cons, List.map_nil]); first | done | rfl) ?_; (with_reducible refine (bailiwickref01_Same.calls k4 _ _ t580 _ _ x19_4 t583 _ ?side1 ?side2 ?side3 ?side4 A108.out).mono ?_); (case side1 => repeat (first | exact (Kd.R_reads' HO582.out).2.2 | (with_reducible refine Kd.C_alloc ?_ _) | (with_reducible refine Kd.C_drewN ?_ _) | (with_reducible refine Kd.C_drew ?_))); (case side2 => exact (Kd.R_reads' HO582.out).2.1); (case side3 => repeat (first | exact (Kd.R_reads' HO_19.out).2.2 | (with_reducible refine Kd.C_alloc ?_ _) | (with_reducible refine Kd.C_drewN ?_ _) | (with_reducible refine Kd.C_drew ?_))); (case side4 => exact (Kd.R_reads' HO_19.out).2.1); rintro e w' ⟨rfl, ⟨nd, rfl⟩⟩; refine ⟨_, rfl, ?_⟩))
    go_ret
    exact ⟨by first | rfl | (simp [errW_none, errW_some] <;> rfl) | (simp [*, errW_none, errW_some] <;> rfl), by repeat (first | (with_reducible first | exact HB.out | apply below_alloc | apply pw_below_drewN | apply below_drew1) | exact HB.out)⟩
  rw [if_pos c95] at H
  have c95b0 : decide (x20_4 < (l0.length : Int)) = true := decide_eq_true c95
  clear c95
  replace H := Option.bind_eq_some_iff.mp H
  obtain ⟨t570, A960, H⟩ := H
  replace H : (if t570 = true then (if 0 ≤ x20_4 then ((bailiwickref03_At.f k4 (rd_L2 l0 x20_4) a1).bind fun t572 => (if x19_4.length < 17592186044416 then (bailiwicklaw04_PoolsRight.l1 k4 l0 a1 x9_2 (x19_4 ++ [t572]) (wrap64 (x20_4 + 1))) else (none))) else (none)) else ((pools_At.f k4 x9_2 a1).bind fun t576 => ((bailiwickref01_Same.f k4 t576 x19_4).bind fun t579 => (some t579)))) = some r := H
  have A96 := Aside0.mk A960
  clear A960
  by_cases c97 : t570 = true
  rotate_left
  · replace c97 := Bool.eq_false_iff.mpr c97
    subst c97
    have H1 : ((pools_At.f k4 x9_2 a1).bind fun t576 => ((bailiwickref01_Same.f k4 t576 x19_4).bind fun t579 => (some t579))) = some r := by rw [if_neg (show ¬ (false = true) by decide)] at H; exact H
    clear H
    have H := H1
    clear H1
    replace H := Option.bind_eq_some_iff.mp H
    obtain ⟨t576, A1020, H⟩ := H
    replace H : ((bailiwickref01_Same.f k4 t576 x19_4).bind fun t579 => (some t579)) = some r := H
    have A102 := Aside0.mk A1020
    clear A1020
    replace H := Option.bind_eq_some_iff.mp H
    obtain ⟨t579, A1030, H⟩ := H
    replace H : (some t579) = some r := H
    have A103 := Aside0.mk A1030
    clear A1030
    obtain rfl := Option.some.inj H
    go_wp2_with (first | (go_at_call 31; (with_reducible refine (bailiwickref04_Right.calls k4 _ _ l0 false _ ?side1 ?side2 A96.out).mono ?_); (case side1 => repeat (first | exact (Kd.C_below HR0.out HB.out) | (with_reducible refine Kd.C_alloc ?_ _) | (with_reducible refine Kd.C_drewN ?_ _) | (with_reducible refine Kd.C_drew ?_))); (case side2 => exact HC0.out); rintro e w' ⟨rfl, ⟨nd, rfl⟩⟩) | ((with_reducible refine gate_callee (f := 27) rfl ?_); refine goesL_ (some 132) rfl rfl Try.func27 (by kernel_rfl) rfl #[.slice Ao26 x9_2.length co26, .int .i64 a1] rfl (by (try simp only [List.map_toArray, List.map_cons, List.map_nil]); first | done | rfl) ?_; (with_reducible refine (pools_At.calls k4 _ _ x9_2 a1 t576 _ ?side1 ?side2 A102.out).mono ?_); (case side1 => repeat (first | exact (Kd.S_reads' HO_9.out).2.2 | (with_reducible refine Kd.C_alloc ?_ _) | (with_reducible refine Kd.C_drewN ?_ _) | (with_reducible refine Kd.C_drew ?_))); (case side2 => exact (Kd.S_reads' HO_9.out).2.1); rintro e w104 ⟨v577, rfl, ho0, hb⟩; refine ⟨_, rfl, ?_⟩; have n0_ := Aside0.mk (Kd.S_below (by (with_reducible repeat (first | apply Kd.S_alloc | apply Kd.S_drewN | apply Kd.S_drew)); exact HO_9.out) hb); have n1_ := Aside0.mk (Kd.R_elder' (by (with_reducible repeat (first | apply Kd.R_alloc | apply Kd.R_drewN | apply Kd.R_drew)); exact HO_19.out) (Kd.R_base ho0) hb); have n2_ := Aside0.mk (Kd.R_lower (Kd.R_new' ho0 (Kd.R_lt (by (with_reducible repeat (first | apply Kd.R_alloc | apply Kd.R_drewN | apply Kd.R_drew)); exact HO_19.out))) (below_size (by repeat (first | (with_reducible first | exact HB.out | apply below_alloc | apply pw_below_drewN | apply below_drew1) | exact HB.out)))); have n3_ := Aside0.mk (below_step (by repeat (first | (with_reducible first | exact HB.out | apply below_alloc | apply pw_below_drewN | apply below_drew1) | exact HB.out)) hb); clear HO_9; clear HO_19; clear HB; have HO_9 := n0_; have HO_19 := n1_; have HO578 := n2_; have HB := n3_; clear n0_ n1_ n2_ n3_; (try clear hb); (try clear hb2); (try clear hk); (try clear hi); (try clear ho0); obtain ⟨Ao105, co105, eo105⟩ := Kd.R_slice HO578.out; subst eo105; obtain ⟨Ao106, co106, eo106⟩ := Kd.R_slice HO_19.out; subst eo106) | ((with_reducible refine gate_callee (f := 33) rfl ?_); refine goesL_ (some 134) rfl rfl Try.func33 (by kernel_rfl) rfl #[.slice Ao105 t576.length co105, .slice Ao106 x19_4.length co106] rfl (by (try simp only [List.map_toArray, List.map_cons, List.map_nil]); first | done | rfl) ?_; (with_reducible refine (bailiwickref01_Same.calls k4 _ _ t576 _ _ x19_4 t579 _ ?side1 ?side2 ?side3 ?side4 A103.out).mono ?_); (case side1 => repeat (first | exact (Kd.R_reads' HO578.out).2.2 | (with_reducible refine Kd.C_alloc ?_ _) | (with_reducible refine Kd.C_drewN ?_ _) | (with_reducible refine Kd.C_drew ?_))); (case side2 => exact (Kd.R_reads' HO578.out).2.1); (case side3 => repeat (first | exact (Kd.R_reads' HO_19.out).2.2 | (with_reducible refine Kd.C_alloc ?_ _) | (with_reducible refine Kd.C_drewN ?_ _) | (with_reducible refine Kd.C_drew ?_))); (case side4 => exact (Kd.R_reads' HO_19.out).2.1); rintro e w' ⟨rfl, ⟨nd, rfl⟩⟩; refine ⟨_, rfl, ?_⟩))
    go_ret
    exact ⟨by first | rfl | (simp [errW_none, errW_some] <;> rfl) | (simp [*, errW_none, errW_some] <;> rfl), by repeat (first | (with_reducible first | exact HB.out | apply below_alloc | apply pw_below_drewN | apply below_drew1) | exact HB.out)⟩
  subst c97
  have H1 : (if 0 ≤ x20_4 then ((bailiwickref03_At.f k4 (rd_L2 l0 x20_4) a1).bind fun t572 => (if x19_4.length < 17592186044416 then (bailiwicklaw04_PoolsRight.l1 k4 l0 a1 x9_2 (x19_4 ++ [t572]) (wrap64 (x20_4 + 1))) else (none))) else (none)) = some r := by rw [if_pos rfl] at H; exact H
  clear H
  have H := H1
  clear H1
  by_cases c98 : 0 ≤ x20_4
  rotate_left
  · rw [if_neg c98] at H
    exact absurd H (by simp)
  rw [if_pos c98] at H
  have c98b0 : decide (0 ≤ x20_4) = true := decide_eq_true c98
  clear c98
  replace H := Option.bind_eq_some_iff.mp H
  obtain ⟨t572, A990, H⟩ := H
  replace H : (if x19_4.length < 17592186044416 then (bailiwicklaw04_PoolsRight.l1 k4 l0 a1 x9_2 (x19_4 ++ [t572]) (wrap64 (x20_4 + 1))) else (none)) = some r := H
  have A99 := Aside0.mk A990
  clear A990
  by_cases c100 : x19_4.length < 17592186044416
  rotate_left
  · rw [if_neg c100] at H
    exact absurd H (by simp)
  rw [if_pos c100] at H
  have LMc100 := Aside0.mk c100
  clear c100
  obtain ⟨y573, hy573⟩ : ∃ y_ : List Int, y_ = (x19_4 ++ [t572]) := ⟨_, rfl⟩
  replace H : (bailiwicklaw04_PoolsRight.l1 k4 l0 a1 x9_2 y573 (wrap64 (x20_4 + 1))) = some r := by first | (rw [hy573]; with_reducible exact H) | (have H2_ := (Option.bind_some _ _).symm.trans H; rw [hy573]; with_reducible exact H2_) | (have H2_ := (Option.bind_some _ _).symm.trans H; with_reducible exact H2_) | with_reducible exact H | (rw [hy573]; exact H) | exact H
  have Ny573 := Aside0.mk hy573
  clear hy573
  have H' := Aside0.mk H
  clear H
  go_wp2_with (first | (go_at_call 31; (with_reducible refine (bailiwickref04_Right.calls k4 _ _ l0 true _ ?side1 ?side2 A96.out).mono ?_); (case side1 => repeat (first | exact (Kd.C_below HR0.out HB.out) | (with_reducible refine Kd.C_alloc ?_ _) | (with_reducible refine Kd.C_drewN ?_ _) | (with_reducible refine Kd.C_drew ?_))); (case side2 => exact HC0.out); rintro e w' ⟨rfl, ⟨nd, rfl⟩⟩; have p571 : 0 ≤ (x20_4 : Int) := of_decide_eq_true (by first | (with_reducible assumption) | assumption); have q571 : x20_4 < (l0.length : Int) := of_decide_eq_true (by first | (with_reducible assumption) | assumption); obtain ⟨ad571, A571_0, c571_0, e571, hx571_0, hl571_0, hi571_0⟩ := at_L2 HR0.out x20_4 p571 q571; cases e571; replace hx571_0 := (HB.out.cell (World.block_lt_of_cell? w _ hx571_0)).trans hx571_0; have HR571_0 := Aside0.mk hi571_0; have HC571_0 := Aside0.mk hl571_0; clear hi571_0 hl571_0; replace p571 := eq_true p571; replace q571 := eq_true q571) | ((with_reducible refine gate_callee (f := 21) rfl ?_); refine goesL_ (some 127) rfl rfl Try.func21 (by kernel_rfl) rfl #[.slice A571_0 (rd_L2 l0 x20_4).length c571_0, .int .i64 a1] rfl (by (try simp only [List.map_toArray, List.map_cons, List.map_nil]); first | done | rfl) ?_; (with_reducible refine (bailiwickref03_At.calls k4 _ _ (rd_L2 l0 x20_4) a1 t572 _ ?side1 ?side2 A99.out).mono ?_); (case side1 => repeat (first | exact (Kd.C_below HR571_0.out (by repeat (first | (with_reducible first | exact HB.out | apply below_alloc | apply pw_below_drewN | apply below_drew1) | exact HB.out))) | (with_reducible refine Kd.C_alloc ?_ _) | (with_reducible refine Kd.C_drewN ?_ _) | (with_reducible refine Kd.C_drew ?_))); (case side2 => exact HC571_0.out); rintro e w' ⟨rfl, ⟨nd, rfl⟩⟩; refine ⟨_, rfl, ?_⟩) | ((with_reducible refine gate_builtin (b := .append) (xs := #[.tmp 121, .tmp 128]) rfl ?_); (try (refine gate_guard (by rfl) ?_; dsimp only)); at_builtin; refine Kd.R_append (Kd.int .i64) (w0 := w) w.heap.size rfl (.tmp 121) (.tmp 128) 45 3 (.int .i64 0) 8 rfl Try.underlying45 info3 rfl (by decide) (by omega) u19 x19_4 t572 [.int .i64 t572] (fun _ => True) (fun _ => False) rfl rfl ?aP (fun _ hk => hk.elim) ?aF ?aO ?aB ?aS ?aL ?_; (case aP => exact rfl); (case aB => exact (by repeat (first | (with_reducible first | exact HB.out | apply below_alloc | apply pw_below_drewN | apply below_drew1) | exact HB.out))); (case aF => exact (fun _ _ => trivial)); (case aO => exact (by (with_reducible repeat (first | apply Kd.R_alloc | apply Kd.R_drewN | apply Kd.R_drew)); exact HO_19.out)); (case aS => exact (below_size (by repeat (first | (with_reducible first | exact HB.out | apply below_alloc | apply pw_below_drewN | apply below_drew1) | exact HB.out)))); (case aL => have := LMc100.out; omega); intro v574 w101 ho hb hg hat; rw [← Ny573.out] at ho; have n0_ := Aside0.mk (Kd.S_over' (by (with_reducible repeat (first | apply Kd.S_alloc | apply Kd.S_drewN | apply Kd.S_drew)); exact HO_9.out) (Kd.R_typed (by (with_reducible repeat (first | apply Kd.R_alloc | apply Kd.R_drewN | apply Kd.R_drew)); exact HO_19.out)) (by decide) hg); have n1_ := Aside0.mk (hb); have n2_ := Aside0.mk (ho); clear HO_9; clear HB; clear HO_19; have HO_9 := n0_; have HB := n1_; have HO575 := n2_; clear n0_ n1_ n2_; clear ho hb hg hat))
  go_roundg k4
  case measure => have := HJ6.out; have := HK2.out; have := HJ24.out; have := HK4.out; omega
  case rel => exact ⟨(y573), (wrap64 (x20_4 + 1)), (by first | rfl | (simp; done) | (simp [*]; done)), H', ⟨by have := HJ6.out; have := HK2.out; have := HJ24.out; have := HK4.out; omega⟩, ⟨by (with_reducible repeat (first | apply Kd.S_alloc | apply Kd.S_drewN | apply Kd.S_drew)); exact HO_9.out⟩, ⟨by (with_reducible repeat (first | apply Kd.R_alloc | apply Kd.R_drewN | apply Kd.R_drew)); exact HO575.out⟩, ⟨by repeat (first | (with_reducible first | exact HB.out | apply below_alloc | apply pw_below_drewN | apply below_drew1) | exact HB.out)⟩⟩

end Go.Proofs.Ytpekjfmlpogfaaa.PAll
