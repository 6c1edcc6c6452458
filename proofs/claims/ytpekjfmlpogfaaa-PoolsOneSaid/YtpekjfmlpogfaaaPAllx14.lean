-- Written by wip/tools/hprint.py of this claim's session (a driver over the kit's print, with contracts proved by hand among them).
import Derived.Test.YtpekjfmlpogfaaaPAllx0
namespace Go.Proofs.Ytpekjfmlpogfaaa.PAll
open Go.RowKit Go.Proofs.YtpekjfmlpogfaaaW.PrintWords Go.Proofs.YtpekjfmlpogfaaaW.PrintLast Go.Proofs.YtpekjfmlpogfaaaW.PrintMore
attribute [local go_sem] max2_int min2_int max_two min_two max_three min_three max_four min_four   -- for this text's walks alone
set_option linter.unusedVariables false
set_option linter.unusedSimpArgs false

/-! ### bailiwickref03_Right: function 19 -/
mutual
def bailiwickref03_Right.j0 : Nat → List (S38) → Bool → Option (Bool)
  | 0, _, _ => none
  | k + 1, x0, x18 => if x18 = true then (some false) else (bailiwickref03_Right.l0 k x0 0)
def bailiwickref03_Right.l0 : Nat → List (S38) → Int → Option (Bool)
  | 0, _, _ => none
  | k + 1, x0, x3 => if x3 < (x0.length : Int) then (if 0 ≤ x3 then (if ((rd_T38 x0 x3).f1) < 0 then (bailiwickref03_Right.j2 k x0 x3 true) else (if ((rd_T38 x0 x3).f1) > 1048576 then (bailiwickref03_Right.j2 k x0 x3 true) else (if ((rd_T38 x0 x3).f0) < 0 then (bailiwickref03_Right.j2 k x0 x3 true) else (bailiwickref03_Right.j2 k x0 x3 (decide (((rd_T38 x0 x3).f0) > 4611686018427387904)))))) else (none)) else (some true)
def bailiwickref03_Right.j2 : Nat → List (S38) → Int → Bool → Option (Bool)
  | 0, _, _, _ => none
  | k + 1, x0, x3, x54 => if x54 = true then (some false) else (if x3 > 0 then (if 0 ≤ x3 then (if x3 < (x0.length : Int) then (if 0 ≤ (wrap64 (x3 - 1)) then (if (wrap64 (x3 - 1)) < (x0.length : Int) then (if ((rd_T38 x0 x3).f0) ≤ ((rd_T38 x0 (wrap64 (x3 - 1))).f0) then (some false) else (if ((rd_T38 x0 x3).f1) = ((rd_T38 x0 (wrap64 (x3 - 1))).f1) then (some false) else (bailiwickref03_Right.l0 k x0 (wrap64 (x3 + 1))))) else (none)) else (none)) else (none)) else (none)) else (bailiwickref03_Right.l0 k x0 (wrap64 (x3 + 1))))
end
def bailiwickref03_Right.f (k : Nat) (l0 : List (S38)) : Option (Bool) := if (l0.length : Int) = 0 then (bailiwickref03_Right.j0 k l0 true) else (if (l0.length : Int) > 1024 then (bailiwickref03_Right.j0 k l0 true) else (if 0 < (l0.length : Int) then (bailiwickref03_Right.j0 k l0 (((rd_T38 l0 0).f0) != 0)) else (none)))
theorem bailiwickref03_Right.mono_l : ∀ k, (∀ y0 y1, LeO (bailiwickref03_Right.j0 k y0 y1) (bailiwickref03_Right.j0 (k + 1) y0 y1)) ∧ (∀ y0 y1, LeO (bailiwickref03_Right.l0 k y0 y1) (bailiwickref03_Right.l0 (k + 1) y0 y1)) ∧ (∀ y0 y1 y2, LeO (bailiwickref03_Right.j2 k y0 y1 y2) (bailiwickref03_Right.j2 (k + 1) y0 y1 y2))
  | 0 => ⟨fun _ _ r h => by simp [bailiwickref03_Right.j0] at h, fun _ _ r h => by simp [bailiwickref03_Right.l0] at h, fun _ _ _ r h => by simp [bailiwickref03_Right.j2] at h⟩
  | k + 1 => by
    obtain ⟨ih0, ih1, ih2⟩ := bailiwickref03_Right.mono_l k
    refine ⟨?_, ?_, ?_⟩
    · intro y0 y1
      unfold bailiwickref03_Right.j0
      repeat' first
      | (with_reducible exact ih0 _ _)
      | (with_reducible exact ih1 _ _)
      | (with_reducible exact ih2 _ _ _)
      | (with_reducible exact LeO.refl _)
      | (with_reducible exact LeO.none _)
      | (with_reducible refine LeO.ite ?_ ?_)
      | (with_reducible refine LeO.bind ?_ (fun _ => ?_))
      | exact ih0 _ _
      | exact ih1 _ _
      | exact ih2 _ _ _
      | exact LeO.none _
      | refine LeO.ite ?_ ?_
      | refine LeO.bind ?_ (fun _ => ?_)
    · intro y0 y1
      unfold bailiwickref03_Right.l0
      repeat' first
      | (with_reducible exact ih0 _ _)
      | (with_reducible exact ih1 _ _)
      | (with_reducible exact ih2 _ _ _)
      | (with_reducible exact LeO.refl _)
      | (with_reducible exact LeO.none _)
      | (with_reducible refine LeO.ite ?_ ?_)
      | (with_reducible refine LeO.bind ?_ (fun _ => ?_))
      | exact ih0 _ _
      | exact ih1 _ _
      | exact ih2 _ _ _
      | exact LeO.none _
      | refine LeO.ite ?_ ?_
      | refine LeO.bind ?_ (fun _ => ?_)
    intro y0 y1 y2
    unfold bailiwickref03_Right.j2
    repeat' first
    | (with_reducible exact ih0 _ _)
    | (with_reducible exact ih1 _ _)
    | (with_reducible exact ih2 _ _ _)
    | (with_reducible exact LeO.refl _)
    | (with_reducible exact LeO.none _)
    | (with_reducible refine LeO.ite ?_ ?_)
    | (with_reducible refine LeO.bind ?_ (fun _ => ?_))
    | exact ih0 _ _
    | exact ih1 _ _
    | exact ih2 _ _ _
    | exact LeO.none _
    | refine LeO.ite ?_ ?_
    | refine LeO.bind ?_ (fun _ => ?_)
theorem bailiwickref03_Right.mono : ∀ a0 k, LeO (bailiwickref03_Right.f k a0) (bailiwickref03_Right.f (k + 1) a0) := by
  intro a0 k
  obtain ⟨ih0, ih1, ih2⟩ := bailiwickref03_Right.mono_l k
  unfold bailiwickref03_Right.f
  repeat' first
      | (with_reducible exact ih0 _ _)
      | (with_reducible exact ih1 _ _)
      | (with_reducible exact ih2 _ _ _)
      | (with_reducible exact LeO.refl _)
      | (with_reducible exact LeO.none _)
      | (with_reducible refine LeO.ite ?_ ?_)
      | (with_reducible refine LeO.bind ?_ (fun _ => ?_))
      | exact ih0 _ _
      | exact ih1 _ _
      | exact ih2 _ _ _
      | exact LeO.none _
      | refine LeO.ite ?_ ?_
      | refine LeO.bind ?_ (fun _ => ?_)
set_option maxHeartbeats 8000000 in
set_option maxRecDepth 100000 in
theorem bailiwickref03_Right.calls (k : Nat) (A0 : Option Addr) (c0 : Nat) (l0 : List (S38)) (r : Bool) (w : World) (hr0 : Kd.C k38 w A0 l0.length l0) (hc0 : l0.length ≤ c0) (h : bailiwickref03_Right.f k l0 = some r) :
    Calls Try.prog 19 #[.slice A0 l0.length c0] w fun e w' => e = .returned (.bool r) ∧ Drawn0 w w' := by
  have HR0 := Aside0.mk hr0
  have HC0 := Aside0.mk hc0
  clear hr0 hc0
  have H : (if (l0.length : Int) = 0 then (bailiwickref03_Right.j0 k l0 true) else (if (l0.length : Int) > 1024 then (bailiwickref03_Right.j0 k l0 true) else (if 0 < (l0.length : Int) then (bailiwickref03_Right.j0 k l0 (((rd_T38 l0 0).f0) != 0)) else (none)))) = some r := h
  clear h
  have HC2 := Aside0.mk H
  clear H
  go_enter Try.func19, Try.ntmps19
  go_upto_region 1 with (fail)
  repeat (go_quiet (fail); go_upto_region 1 with (fail))
  go_cut [18] (fun v18 wc => ∃ (kq : Nat) (x18_1 : Bool), v18 = .bool x18_1 ∧ Aside0 (bailiwickref03_Right.j0 kq l0 x18_1 = some r) ∧ Aside0 (kq ≤ k) ∧ Drawn0 w wc)
  case first =>
    have H := HC2.out
    clear HC2
    by_cases c3 : (l0.length : Int) = 0
    · rw [if_pos c3] at H
      have c3b0 : ((l0.length : Int) == 0) = true := beq_iff_eq.mpr c3
      have c3b1 : ((l0.length : Int) != 0) = false := bne_eq_false_iff_eq.mpr c3
      clear c3
      (first | rw [c3b0] | (simp only [i64_w, i32_w]; rw [c3b0]) | skip)
      have H' := Aside0.mk H
      clear H
      go_wp2
      repeat (go_quiet (fail); try go_wp2)
      go_meet
      case rel => exact ⟨_, (true), (by first | rfl | (simp; done) | (simp [*]; done)), H', ⟨by first | omega | exact Nat.le_refl _⟩, by repeat (first | exact Drawn0.refl _ | apply Drawn0.step)⟩
    rw [if_neg c3] at H
    have c3b0 : ((l0.length : Int) == 0) = false := beq_eq_false_iff_ne.mpr c3
    have c3b1 : ((l0.length : Int) != 0) = true := bne_iff_ne.mpr c3
    have c3b2 : ¬ (l0 = []) := fun h_ => c3 (by rw [h_]; rfl)
    (first | rw [c3b0] | (simp only [i64_w, i32_w]; rw [c3b0]) | skip)
    by_cases c4 : (l0.length : Int) > 1024
    · rw [if_pos c4] at H
      have c4b0 : decide (1024 < (l0.length : Int)) = true := decide_eq_true c4
      have c4b1 : decide (1024 < l0.length) = true := decide_eq_true (by omega)
      clear c4
      have H' := Aside0.mk H
      clear H
      go_wp2
      repeat (go_quiet (fail); try go_wp2)
      go_meet
      case rel => exact ⟨_, (true), (by first | rfl | (simp; done) | (simp [*]; done)), H', ⟨by first | omega | exact Nat.le_refl _⟩, by repeat (first | exact Drawn0.refl _ | apply Drawn0.step)⟩
    rw [if_neg c4] at H
    have c4b0 : decide (1024 < (l0.length : Int)) = false := decide_eq_false c4
    have c4b1 : decide (1024 < l0.length) = false := decide_eq_false (by omega)
    clear c4
    by_cases c5 : 0 < (l0.length : Int)
    rotate_left
    · rw [if_neg c5] at H
      exact absurd H (by simp)
    rw [if_pos c5] at H
    have c5b0 : decide (0 < (l0.length : Int)) = true := decide_eq_true c5
    have c5b1 : decide (0 < l0.length) = true := decide_eq_true (by omega)
    clear c5
    have H' := Aside0.mk H
    clear H
    have p206 : 0 ≤ (0 : Int) := (by omega)
    have q206 : 0 < (l0.length : Int) := of_decide_eq_true (by first | (with_reducible assumption) | assumption)
    obtain ⟨ad206, e206, hx206_0, hx206_1⟩ := at_T38 HR0.out 0 p206 q206
    cases e206
    have qi206 : (0 < l0.length) = True := eq_true (by omega)
    (try rw [show ((0 : Int)).toNat = 0 from rfl] at hx206_0)
    (try rw [show 0 * 2 = 0 from rfl] at hx206_0)
    (try rw [Addr.add_zero'] at hx206_0)
    (try rw [show ((0 : Int)).toNat = 0 from rfl] at hx206_1)
    (try rw [show 0 * 2 = 0 from rfl] at hx206_1)
    (try rw [Addr.add_zero'] at hx206_1)
    replace p206 := eq_true p206
    replace q206 := eq_true q206
    go_wp2
    repeat (go_quiet (fail); try go_wp2)
    go_meet
    case rel => exact ⟨_, ((((rd_T38 l0 0).f0) != 0)), (by first | rfl | (simp; done) | (simp [*]; done)), H', ⟨by first | omega | exact Nat.le_refl _⟩, by repeat (first | exact Drawn0.refl _ | apply Drawn0.step)⟩
  clear HC2
  try clear c1
  try clear p2
  try clear q2
  try clear hx2
  try clear qi2
  try clear c3
  try clear c3b0
  try clear c3b1
  try clear c3b2
  try clear c4
  try clear c4b0
  try clear c4b1
  try clear c5
  try clear c5b0
  try clear c5b1
  try clear hx206_0
  try clear hx206_1
  try clear p206
  try clear q206
  obtain ⟨kq, x18_1, rfl, HA, HJ1, ⟨mc1, rfl⟩⟩ := hcut
  rcases kq with _ | kj1
  · exact absurd HA.out (by simp [bailiwickref03_Right.j0])
  have H := HA.out
  clear HA
  simp only [bailiwickref03_Right.j0] at H
  by_cases c6 : x18_1 = true
  · subst c6
    have H1 : (some false) = some r := by rw [if_pos rfl] at H; exact H
    clear H
    have H := H1
    clear H1
    obtain rfl := Option.some.inj H
    go_wp2
    repeat (go_quiet (fail); try go_wp2)
    go_ret
    exact ⟨by first | rfl | (simp; done) | (simp [*]; done), by repeat (first | exact Drawn0.refl _ | apply Drawn0.step)⟩
  replace c6 := Bool.eq_false_iff.mpr c6
  subst c6
  have H1 : (bailiwickref03_Right.l0 kj1 l0 0) = some r := by rw [if_neg (show ¬ (false = true) by decide)] at H; exact H
  clear H
  have H := H1
  clear H1
  have H' := Aside0.mk H
  clear H
  go_wp2
  repeat (go_quiet (fail); try go_wp2)
  go_loopg [3] kj1 (fun kq v3 w' => ∃ (x3_2 : Int), v3 = .int .i64 x3_2 ∧ Aside0 (bailiwickref03_Right.l0 kq l0 x3_2 = some r) ∧ Aside0 (kq ≤ kj1) ∧ Drawn0 w w')
  case atStart => exact ⟨(0), (by first | rfl | (simp; done) | (simp [*]; done)), H', ⟨Nat.le_refl _⟩, by repeat (first | exact Drawn0.refl _ | apply Drawn0.step)⟩
  clear H'
  try clear c1
  try clear p2
  try clear q2
  try clear hx2
  try clear qi2
  try clear c3
  try clear c3b0
  try clear c3b1
  try clear c3b2
  try clear c4
  try clear c4b0
  try clear c4b1
  try clear c5
  try clear c5b0
  try clear c5b1
  try clear c6
  try clear hx206_0
  try clear hx206_1
  try clear p2
  try clear p206
  try clear q2
  try clear q206
  obtain ⟨x3_2, rfl, HA, HK2, ⟨m2, rfl⟩⟩ := hrel
  rcases gk with _ | k2
  · exact absurd HA.out (by simp [bailiwickref03_Right.l0])
  have H := HA.out
  clear HA
  simp only [bailiwickref03_Right.l0] at H
  by_cases c7 : x3_2 < (l0.length : Int)
  rotate_left
  · rw [if_neg c7] at H
    have c7b0 : decide (x3_2 < (l0.length : Int)) = false := decide_eq_false c7
    clear c7
    obtain rfl := Option.some.inj H
    go_wp2
    repeat (go_quiet (fail); try go_wp2)
    go_ret
    exact ⟨by first | rfl | (simp; done) | (simp [*]; done), by repeat (first | exact Drawn0.refl _ | apply Drawn0.step)⟩
  rw [if_pos c7] at H
  have c7b0 : decide (x3_2 < (l0.length : Int)) = true := decide_eq_true c7
  clear c7
  have HC8 := Aside0.mk H
  clear H
  go_upto_region 6 with (fail)
  repeat (go_quiet (fail); go_upto_region 6 with (fail))
  go_cut [54] (fun v54 wc => ∃ (kq : Nat) (x54_7 : Bool), v54 = .bool x54_7 ∧ Aside0 (bailiwickref03_Right.j2 kq l0 x3_2 x54_7 = some r) ∧ Aside0 (kq ≤ k2) ∧ Drawn0 w wc)
  case first =>
    have H := HC8.out
    clear HC8
    by_cases c9 : 0 ≤ x3_2
    rotate_left
    · rw [if_neg c9] at H
      exact absurd H (by simp)
    rw [if_pos c9] at H
    have c9b0 : decide (0 ≤ x3_2) = true := decide_eq_true c9
    clear c9
    (first | rw [c9b0] | (simp only [i64_w, i32_w]; rw [c9b0]) | skip)
    by_cases c10 : ((rd_T38 l0 x3_2).f1) < 0
    · rw [if_pos c10] at H
      have c10b0 : decide (((rd_T38 l0 x3_2).f1) < 0) = true := decide_eq_true c10
      clear c10
      have H' := Aside0.mk H
      clear H
      have p207 : 0 ≤ (x3_2 : Int) := of_decide_eq_true (by first | (with_reducible assumption) | assumption)
      have q207 : x3_2 < (l0.length : Int) := of_decide_eq_true (by first | (with_reducible assumption) | assumption)
      obtain ⟨ad207, e207, hx207_0, hx207_1⟩ := at_T38 HR0.out x3_2 p207 q207
      cases e207
      replace p207 := eq_true p207
      replace q207 := eq_true q207
      go_wp2
      repeat (go_quiet (fail); try go_wp2)
      go_meet
      case rel => exact ⟨_, (true), (by first | rfl | (simp; done) | (simp [*]; done)), H', ⟨by have := HJ1.out; have := HK2.out; first | omega | exact Nat.le_refl _⟩, by repeat (first | exact Drawn0.refl _ | apply Drawn0.step)⟩
    rw [if_neg c10] at H
    have c10b0 : decide (((rd_T38 l0 x3_2).f1) < 0) = false := decide_eq_false c10
    clear c10
    by_cases c11 : ((rd_T38 l0 x3_2).f1) > 1048576
    · rw [if_pos c11] at H
      have c11b0 : decide (1048576 < ((rd_T38 l0 x3_2).f1)) = true := decide_eq_true c11
      clear c11
      have H' := Aside0.mk H
      clear H
      have p207 : 0 ≤ (x3_2 : Int) := of_decide_eq_true (by first | (with_reducible assumption) | assumption)
      have q207 : x3_2 < (l0.length : Int) := of_decide_eq_true (by first | (with_reducible assumption) | assumption)
      obtain ⟨ad207, e207, hx207_0, hx207_1⟩ := at_T38 HR0.out x3_2 p207 q207
      cases e207
      replace p207 := eq_true p207
      replace q207 := eq_true q207
      have p208 : 0 ≤ (x3_2 : Int) := of_decide_eq_true (by first | (with_reducible assumption) | assumption)
      have q208 : x3_2 < (l0.length : Int) := of_decide_eq_true (by first | (with_reducible assumption) | assumption)
      obtain ⟨ad208, e208, hx208_0, hx208_1⟩ := at_T38 HR0.out x3_2 p208 q208
      obtain rfl : ad207 = ad208 := (by injection e208)
      replace p208 := eq_true p208
      replace q208 := eq_true q208
      go_wp2
      repeat (go_quiet (fail); try go_wp2)
      go_meet
      case rel => exact ⟨_, (true), (by first | rfl | (simp; done) | (simp [*]; done)), H', ⟨by have := HJ1.out; have := HK2.out; first | omega | exact Nat.le_refl _⟩, by repeat (first | exact Drawn0.refl _ | apply Drawn0.step)⟩
    rw [if_neg c11] at H
    have c11b0 : decide (1048576 < ((rd_T38 l0 x3_2).f1)) = false := decide_eq_false c11
    clear c11
    by_cases c12 : ((rd_T38 l0 x3_2).f0) < 0
    · rw [if_pos c12] at H
      have c12b0 : decide (((rd_T38 l0 x3_2).f0) < 0) = true := decide_eq_true c12
      clear c12
      have H' := Aside0.mk H
      clear H
      have p207 : 0 ≤ (x3_2 : Int) := of_decide_eq_true (by first | (with_reducible assumption) | assumption)
      have q207 : x3_2 < (l0.length : Int) := of_decide_eq_true (by first | (with_reducible assumption) | assumption)
      obtain ⟨ad207, e207, hx207_0, hx207_1⟩ := at_T38 HR0.out x3_2 p207 q207
      cases e207
      replace p207 := eq_true p207
      replace q207 := eq_true q207
      have p208 : 0 ≤ (x3_2 : Int) := of_decide_eq_true (by first | (with_reducible assumption) | assumption)
      have q208 : x3_2 < (l0.length : Int) := of_decide_eq_true (by first | (with_reducible assumption) | assumption)
      obtain ⟨ad208, e208, hx208_0, hx208_1⟩ := at_T38 HR0.out x3_2 p208 q208
      obtain rfl : ad207 = ad208 := (by injection e208)
      replace p208 := eq_true p208
      replace q208 := eq_true q208
      have p209 : 0 ≤ (x3_2 : Int) := of_decide_eq_true (by first | (with_reducible assumption) | assumption)
      have q209 : x3_2 < (l0.length : Int) := of_decide_eq_true (by first | (with_reducible assumption) | assumption)
      obtain ⟨ad209, e209, hx209_0, hx209_1⟩ := at_T38 HR0.out x3_2 p209 q209
      obtain rfl : ad207 = ad209 := (by injection e209)
      replace p209 := eq_true p209
      replace q209 := eq_true q209
      go_wp2
      repeat (go_quiet (fail); try go_wp2)
      go_meet
      case rel => exact ⟨_, (true), (by first | rfl | (simp; done) | (simp [*]; done)), H', ⟨by have := HJ1.out; have := HK2.out; first | omega | exact Nat.le_refl _⟩, by repeat (first | exact Drawn0.refl _ | apply Drawn0.step)⟩
    rw [if_neg c12] at H
    have c12b0 : decide (((rd_T38 l0 x3_2).f0) < 0) = false := decide_eq_false c12
    clear c12
    have H' := Aside0.mk H
    clear H
    have p207 : 0 ≤ (x3_2 : Int) := of_decide_eq_true (by first | (with_reducible assumption) | assumption)
    have q207 : x3_2 < (l0.length : Int) := of_decide_eq_true (by first | (with_reducible assumption) | assumption)
    obtain ⟨ad207, e207, hx207_0, hx207_1⟩ := at_T38 HR0.out x3_2 p207 q207
    cases e207
    replace p207 := eq_true p207
    replace q207 := eq_true q207
    have p208 : 0 ≤ (x3_2 : Int) := of_decide_eq_true (by first | (with_reducible assumption) | assumption)
    have q208 : x3_2 < (l0.length : Int) := of_decide_eq_true (by first | (with_reducible assumption) | assumption)
    obtain ⟨ad208, e208, hx208_0, hx208_1⟩ := at_T38 HR0.out x3_2 p208 q208
    obtain rfl : ad207 = ad208 := (by injection e208)
    replace p208 := eq_true p208
    replace q208 := eq_true q208
    have p209 : 0 ≤ (x3_2 : Int) := of_decide_eq_true (by first | (with_reducible assumption) | assumption)
    have q209 : x3_2 < (l0.length : Int) := of_decide_eq_true (by first | (with_reducible assumption) | assumption)
    obtain ⟨ad209, e209, hx209_0, hx209_1⟩ := at_T38 HR0.out x3_2 p209 q209
    obtain rfl : ad207 = ad209 := (by injection e209)
    replace p209 := eq_true p209
    replace q209 := eq_true q209
    have p210 : 0 ≤ (x3_2 : Int) := of_decide_eq_true (by first | (with_reducible assumption) | assumption)
    have q210 : x3_2 < (l0.length : Int) := of_decide_eq_true (by first | (with_reducible assumption) | assumption)
    obtain ⟨ad210, e210, hx210_0, hx210_1⟩ := at_T38 HR0.out x3_2 p210 q210
    obtain rfl : ad207 = ad210 := (by injection e210)
    replace p210 := eq_true p210
    replace q210 := eq_true q210
    go_wp2
    repeat (go_quiet (fail); try go_wp2)
    go_meet
    case rel => exact ⟨_, (decide (((rd_T38 l0 x3_2).f0) > 4611686018427387904)), (by first | rfl | (simp; done) | (simp [*]; done)), H', ⟨by have := HJ1.out; have := HK2.out; first | omega | exact Nat.le_refl _⟩, by repeat (first | exact Drawn0.refl _ | apply Drawn0.step)⟩
  clear HC8
  try clear c1
  try clear p2
  try clear q2
  try clear hx2
  try clear qi2
  try clear c3
  try clear c3b0
  try clear c3b1
  try clear c3b2
  try clear c4
  try clear c4b0
  try clear c4b1
  try clear c5
  try clear c5b0
  try clear c5b1
  try clear c6
  try clear c7
  try clear c7b0
  try clear c9
  try clear c9b0
  try clear c10
  try clear c10b0
  try clear c11
  try clear c11b0
  try clear c12
  try clear c12b0
  try clear hx206_0
  try clear hx206_1
  try clear hx207_0
  try clear hx207_1
  try clear hx208_0
  try clear hx208_1
  try clear hx209_0
  try clear hx209_1
  try clear hx210_0
  try clear hx210_1
  try clear p2
  try clear p206
  try clear p207
  try clear p208
  try clear p209
  try clear p210
  try clear q2
  try clear q206
  try clear q207
  try clear q208
  try clear q209
  try clear q210
  obtain ⟨kq, x54_7, rfl, HA, HJ7, ⟨mc7, rfl⟩⟩ := hcut
  rcases kq with _ | kj7
  · exact absurd HA.out (by simp [bailiwickref03_Right.j2])
  have H := HA.out
  clear HA
  simp only [bailiwickref03_Right.j2] at H
  by_cases c13 : x54_7 = true
  · subst c13
    have H1 : (some false) = some r := by rw [if_pos rfl] at H; exact H
    clear H
    have H := H1
    clear H1
    obtain rfl := Option.some.inj H
    go_wp2
    repeat (go_quiet (fail); try go_wp2)
    go_ret
    exact ⟨by first | rfl | (simp; done) | (simp [*]; done), by repeat (first | exact Drawn0.refl _ | apply Drawn0.step)⟩
  replace c13 := Bool.eq_false_iff.mpr c13
  subst c13
  have H1 : (if x3_2 > 0 then (if 0 ≤ x3_2 then (if x3_2 < (l0.length : Int) then (if 0 ≤ (wrap64 (x3_2 - 1)) then (if (wrap64 (x3_2 - 1)) < (l0.length : Int) then (if ((rd_T38 l0 x3_2).f0) ≤ ((rd_T38 l0 (wrap64 (x3_2 - 1))).f0) then (some false) else (if ((rd_T38 l0 x3_2).f1) = ((rd_T38 l0 (wrap64 (x3_2 - 1))).f1) then (some false) else (bailiwickref03_Right.l0 kj7 l0 (wrap64 (x3_2 + 1))))) else (none)) else (none)) else (none)) else (none)) else (bailiwickref03_Right.l0 kj7 l0 (wrap64 (x3_2 + 1)))) = some r := by rw [if_neg (show ¬ (false = true) by decide)] at H; exact H
  clear H
  have H := H1
  clear H1
  by_cases c14 : x3_2 > 0
  rotate_left
  · rw [if_neg c14] at H
    have c14b0 : decide (0 < x3_2) = false := decide_eq_false c14
    clear c14
    have H' := Aside0.mk H
    clear H
    go_wp2
    repeat (go_quiet (fail); try go_wp2)
    go_roundg kj7
    case measure => have := HJ1.out; have := HK2.out; have := HJ7.out; omega
    case rel => exact ⟨(wrap64 (x3_2 + 1)), (by first | rfl | (simp; done) | (simp [*]; done)), H', ⟨by have := HJ1.out; have := HK2.out; have := HJ7.out; omega⟩, by repeat (first | exact Drawn0.refl _ | apply Drawn0.step)⟩
  rw [if_pos c14] at H
  have c14b0 : decide (0 < x3_2) = true := decide_eq_true c14
  clear c14
  by_cases c15 : 0 ≤ x3_2
  rotate_left
  · rw [if_neg c15] at H
    exact absurd H (by simp)
  rw [if_pos c15] at H
  have c15b0 : decide (0 ≤ x3_2) = true := decide_eq_true c15
  clear c15
  by_cases c16 : x3_2 < (l0.length : Int)
  rotate_left
  · rw [if_neg c16] at H
    exact absurd H (by simp)
  rw [if_pos c16] at H
  have c16b0 : decide (x3_2 < (l0.length : Int)) = true := decide_eq_true c16
  clear c16
  obtain ⟨ji17, hji17⟩ : ∃ j_ : Int, (wrap64 (x3_2 - 1)) = j_ := ⟨_, rfl⟩
  replace H : (if 0 ≤ (ji17) then (if (ji17) < (l0.length : Int) then (if ((rd_T38 l0 x3_2).f0) ≤ ((rd_T38 l0 (ji17)).f0) then (some false) else (if ((rd_T38 l0 x3_2).f1) = ((rd_T38 l0 (ji17)).f1) then (some false) else (bailiwickref03_Right.l0 kj7 l0 (wrap64 (x3_2 + 1))))) else (none)) else (none)) = some r := by first | (rw [hji17] at H; exact H) | (simp only [hji17] at H ⊢; exact H)
  have hji17w : (IntKind.i64.wrap (x3_2 - 1)) = ji17 := (i64_w _).trans hji17
  by_cases c18 : 0 ≤ (ji17)
  rotate_left
  · rw [if_neg c18] at H
    exact absurd H (by simp)
  rw [if_pos c18] at H
  have c18b0 : decide (0 ≤ (ji17)) = true := decide_eq_true c18
  clear c18
  by_cases c19 : (ji17) < (l0.length : Int)
  rotate_left
  · rw [if_neg c19] at H
    exact absurd H (by simp)
  rw [if_pos c19] at H
  have c19b0 : decide ((ji17) < (l0.length : Int)) = true := decide_eq_true c19
  clear c19
  by_cases c20 : ((rd_T38 l0 x3_2).f0) ≤ ((rd_T38 l0 (ji17)).f0)
  · rw [if_pos c20] at H
    have c20b0 : decide (((rd_T38 l0 x3_2).f0) ≤ ((rd_T38 l0 (ji17)).f0)) = true := decide_eq_true c20
    clear c20
    obtain rfl := Option.some.inj H
    have p211 : 0 ≤ (x3_2 : Int) := of_decide_eq_true (by first | (with_reducible assumption) | assumption)
    have q211 : x3_2 < (l0.length : Int) := of_decide_eq_true (by first | (with_reducible assumption) | assumption)
    obtain ⟨ad211, e211, hx211_0, hx211_1⟩ := at_T38 HR0.out x3_2 p211 q211
    cases e211
    replace p211 := eq_true p211
    replace q211 := eq_true q211
    have p212 : 0 ≤ ((ji17) : Int) := of_decide_eq_true (by first | (with_reducible assumption) | assumption)
    have q212 : (ji17) < (l0.length : Int) := of_decide_eq_true (by first | (with_reducible assumption) | assumption)
    obtain ⟨ad212, e212, hx212_0, hx212_1⟩ := at_T38 HR0.out (ji17) p212 q212
    obtain rfl : ad211 = ad212 := (by injection e212)
    replace p212 := eq_true p212
    replace q212 := eq_true q212
    go_wp2
    repeat (go_quiet (fail); try go_wp2)
    go_ret
    exact ⟨by first | rfl | (simp; done) | (simp only [← hji17] <;> (first | rfl | simp)) | (simp [*]; done), by repeat (first | exact Drawn0.refl _ | apply Drawn0.step)⟩
  rw [if_neg c20] at H
  have c20b0 : decide (((rd_T38 l0 x3_2).f0) ≤ ((rd_T38 l0 (ji17)).f0)) = false := decide_eq_false c20
  clear c20
  by_cases c21 : ((rd_T38 l0 x3_2).f1) = ((rd_T38 l0 (ji17)).f1)
  · rw [if_pos c21] at H
    have c21b0 : (((rd_T38 l0 x3_2).f1) == ((rd_T38 l0 (ji17)).f1)) = true := beq_iff_eq.mpr c21
    have c21b1 : (((rd_T38 l0 x3_2).f1) != ((rd_T38 l0 (ji17)).f1)) = false := bne_eq_false_iff_eq.mpr c21
    clear c21
    obtain rfl := Option.some.inj H
    have p211 : 0 ≤ (x3_2 : Int) := of_decide_eq_true (by first | (with_reducible assumption) | assumption)
    have q211 : x3_2 < (l0.length : Int) := of_decide_eq_true (by first | (with_reducible assumption) | assumption)
    obtain ⟨ad211, e211, hx211_0, hx211_1⟩ := at_T38 HR0.out x3_2 p211 q211
    cases e211
    replace p211 := eq_true p211
    replace q211 := eq_true q211
    have p212 : 0 ≤ ((ji17) : Int) := of_decide_eq_true (by first | (with_reducible assumption) | assumption)
    have q212 : (ji17) < (l0.length : Int) := of_decide_eq_true (by first | (with_reducible assumption) | assumption)
    obtain ⟨ad212, e212, hx212_0, hx212_1⟩ := at_T38 HR0.out (ji17) p212 q212
    obtain rfl : ad211 = ad212 := (by injection e212)
    replace p212 := eq_true p212
    replace q212 := eq_true q212
    have p213 : 0 ≤ (x3_2 : Int) := of_decide_eq_true (by first | (with_reducible assumption) | assumption)
    have q213 : x3_2 < (l0.length : Int) := of_decide_eq_true (by first | (with_reducible assumption) | assumption)
    obtain ⟨ad213, e213, hx213_0, hx213_1⟩ := at_T38 HR0.out x3_2 p213 q213
    obtain rfl : ad211 = ad213 := (by injection e213)
    replace p213 := eq_true p213
    replace q213 := eq_true q213
    have p214 : 0 ≤ ((ji17) : Int) := of_decide_eq_true (by first | (with_reducible assumption) | assumption)
    have q214 : (ji17) < (l0.length : Int) := of_decide_eq_true (by first | (with_reducible assumption) | assumption)
    obtain ⟨ad214, e214, hx214_0, hx214_1⟩ := at_T38 HR0.out (ji17) p214 q214
    obtain rfl : ad211 = ad214 := (by injection e214)
    replace p214 := eq_true p214
    replace q214 := eq_true q214
    go_wp2
    repeat (go_quiet (fail); try go_wp2)
    go_ret
    exact ⟨by first | rfl | (simp; done) | (simp only [← hji17] <;> (first | rfl | simp)) | (simp [*]; done), by repeat (first | exact Drawn0.refl _ | apply Drawn0.step)⟩
  rw [if_neg c21] at H
  have c21b0 : (((rd_T38 l0 x3_2).f1) == ((rd_T38 l0 (ji17)).f1)) = false := beq_eq_false_iff_ne.mpr c21
  have c21b1 : (((rd_T38 l0 x3_2).f1) != ((rd_T38 l0 (ji17)).f1)) = true := bne_iff_ne.mpr c21
  have H' := Aside0.mk H
  clear H
  have p211 : 0 ≤ (x3_2 : Int) := of_decide_eq_true (by first | (with_reducible assumption) | assumption)
  have q211 : x3_2 < (l0.length : Int) := of_decide_eq_true (by first | (with_reducible assumption) | assumption)
  obtain ⟨ad211, e211, hx211_0, hx211_1⟩ := at_T38 HR0.out x3_2 p211 q211
  cases e211
  replace p211 := eq_true p211
  replace q211 := eq_true q211
  have p212 : 0 ≤ ((ji17) : Int) := of_decide_eq_true (by first | (with_reducible assumption) | assumption)
  have q212 : (ji17) < (l0.length : Int) := of_decide_eq_true (by first | (with_reducible assumption) | assumption)
  obtain ⟨ad212, e212, hx212_0, hx212_1⟩ := at_T38 HR0.out (ji17) p212 q212
  obtain rfl : ad211 = ad212 := (by injection e212)
  replace p212 := eq_true p212
  replace q212 := eq_true q212
  have p213 : 0 ≤ (x3_2 : Int) := of_decide_eq_true (by first | (with_reducible assumption) | assumption)
  have q213 : x3_2 < (l0.length : Int) := of_decide_eq_true (by first | (with_reducible assumption) | assumption)
  obtain ⟨ad213, e213, hx213_0, hx213_1⟩ := at_T38 HR0.out x3_2 p213 q213
  obtain rfl : ad211 = ad213 := (by injection e213)
  replace p213 := eq_true p213
  replace q213 := eq_true q213
  have p214 : 0 ≤ ((ji17) : Int) := of_decide_eq_true (by first | (with_reducible assumption) | assumption)
  have q214 : (ji17) < (l0.length : Int) := of_decide_eq_true (by first | (with_reducible assumption) | assumption)
  obtain ⟨ad214, e214, hx214_0, hx214_1⟩ := at_T38 HR0.out (ji17) p214 q214
  obtain rfl : ad211 = ad214 := (by injection e214)
  replace p214 := eq_true p214
  replace q214 := eq_true q214
  go_wp2
  repeat (go_quiet (fail); try go_wp2)
  go_roundg kj7
  case measure => have := HJ1.out; have := HK2.out; have := HJ7.out; omega
  case rel => exact ⟨(wrap64 (x3_2 + 1)), (by first | rfl | (simp; done) | (simp [*]; done)), H', ⟨by have := HJ1.out; have := HK2.out; have := HJ7.out; omega⟩, by repeat (first | exact Drawn0.refl _ | apply Drawn0.step)⟩

end Go.Proofs.Ytpekjfmlpogfaaa.PAll
