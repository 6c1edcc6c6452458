-- Written by wip/tools/hprint.py of this claim's session (a driver over the kit's print, with contracts proved by hand among them).
import Derived.Test.YtpekjfmlpogfaaaPAllx0
import Derived.Test.YtpekjfmlpogfaaaPAllx14
namespace Go.Proofs.Ytpekjfmlpogfaaa.PAll
open Go.RowKit Go.Proofs.YtpekjfmlpogfaaaW.PrintWords Go.Proofs.YtpekjfmlpogfaaaW.PrintLast Go.Proofs.YtpekjfmlpogfaaaW.PrintMore
attribute [local go_sem] max2_int min2_int max_two min_two max_three min_three max_four min_four   -- for this text's walks alone
set_option linter.unusedVariables false
set_option linter.unusedSimpArgs false

/-! ### bailiwicklaw04_short: function 28 -/
def bailiwicklaw04_short.l0 : Nat → List (List (S38)) → Int → Option (Bool)
  | 0, _, _ => none
  | k + 1, x0, x3 => if x3 < (x0.length : Int) then (if 0 ≤ x3 then (if ((rd_L2 x0 x3).length : Int) > 100 then (some false) else (bailiwicklaw04_short.l0 k x0 (wrap64 (x3 + 1)))) else (none)) else (some true)
def bailiwicklaw04_short.f (k : Nat) (l0 : List (List (S38))) : Option (Bool) := if (l0.length : Int) > 6 then (some false) else (bailiwicklaw04_short.l0 k l0 0)
theorem bailiwicklaw04_short.mono_l : ∀ k, (∀ y0 y1, LeO (bailiwicklaw04_short.l0 k y0 y1) (bailiwicklaw04_short.l0 (k + 1) y0 y1))
  | 0 => fun _ _ r h => by simp [bailiwicklaw04_short.l0] at h
  | k + 1 => by
    have ih0 := bailiwicklaw04_short.mono_l k
    · intro y0 y1
      unfold bailiwicklaw04_short.l0
      repeat' first
      | (with_reducible exact ih0 _ _)
      | (with_reducible exact LeO.refl _)
      | (with_reducible exact LeO.none _)
      | (with_reducible refine LeO.ite ?_ ?_)
      | (with_reducible refine LeO.bind ?_ (fun _ => ?_))
      | exact ih0 _ _
      | exact LeO.none _
      | refine LeO.ite ?_ ?_
      | refine LeO.bind ?_ (fun _ => ?_)
theorem bailiwicklaw04_short.mono : ∀ a0 k, LeO (bailiwicklaw04_short.f k a0) (bailiwicklaw04_short.f (k + 1) a0) := by
  intro a0 k
  have ih0 := bailiwicklaw04_short.mono_l k
  unfold bailiwicklaw04_short.f
  repeat' first
      | (with_reducible exact ih0 _ _)
      | (with_reducible exact LeO.refl _)
      | (with_reducible exact LeO.none _)
      | (with_reducible refine LeO.ite ?_ ?_)
      | (with_reducible refine LeO.bind ?_ (fun _ => ?_))
      | exact ih0 _ _
      | exact LeO.none _
      | refine LeO.ite ?_ ?_
      | refine LeO.bind ?_ (fun _ => ?_)
set_option maxHeartbeats 8000000 in
set_option maxRecDepth 100000 in
theorem bailiwicklaw04_short.calls (k : Nat) (A0 : Option Addr) (c0 : Nat) (l0 : List (List (S38))) (r : Bool) (w : World) (hr0 : Kd.C (Kd.slice 38 k38) w A0 l0.length l0) (hc0 : l0.length ≤ c0) (h : bailiwicklaw04_short.f k l0 = some r) :
    Calls Try.prog 28 #[.slice A0 l0.length c0] w fun e w' => e = .returned (.bool r) ∧ Drawn0 w w' := by
  have HR0 := Aside0.mk hr0
  have HC0 := Aside0.mk hc0
  clear hr0 hc0
  have H : (if (l0.length : Int) > 6 then (some false) else (bailiwicklaw04_short.l0 k l0 0)) = some r := h
  clear h
  by_cases c2 : (l0.length : Int) > 6
  · rw [if_pos c2] at H
    have c2b0 : decide (6 < (l0.length : Int)) = true := decide_eq_true c2
    have c2b1 : decide (6 < l0.length) = true := decide_eq_true (by omega)
    clear c2
    obtain rfl := Option.some.inj H
    go_enter Try.func28, Try.ntmps28
    go_wp2
    go_ret
    exact ⟨by first | rfl | (simp; done) | (simp [*]; done), by repeat (first | exact Drawn0.refl _ | apply Drawn0.step)⟩
  rw [if_neg c2] at H
  have c2b0 : decide (6 < (l0.length : Int)) = false := decide_eq_false c2
  have c2b1 : decide (6 < l0.length) = false := decide_eq_false (by omega)
  clear c2
  have H' := Aside0.mk H
  clear H
  go_enter Try.func28, Try.ntmps28
  go_wp2
  go_loopg [3] k (fun kq v3 w' => ∃ (x3_1 : Int), v3 = .int .i64 x3_1 ∧ Aside0 (bailiwicklaw04_short.l0 kq l0 x3_1 = some r) ∧ Aside0 (kq ≤ k) ∧ Drawn0 w w')
  case atStart => exact ⟨(0), (by first | rfl | (simp; done) | (simp [*]; done)), H', ⟨Nat.le_refl _⟩, by repeat (first | exact Drawn0.refl _ | apply Drawn0.step)⟩
  clear H'
  try clear c2
  try clear c2b0
  try clear c2b1
  try clear p2
  obtain ⟨x3_1, rfl, HA, HK1, ⟨m1, rfl⟩⟩ := hrel
  rcases gk with _ | k1
  · exact absurd HA.out (by simp [bailiwicklaw04_short.l0])
  have H := HA.out
  clear HA
  simp only [bailiwicklaw04_short.l0] at H
  by_cases c3 : x3_1 < (l0.length : Int)
  rotate_left
  · rw [if_neg c3] at H
    have c3b0 : decide (x3_1 < (l0.length : Int)) = false := decide_eq_false c3
    clear c3
    obtain rfl := Option.some.inj H
    go_wp2
    go_ret
    exact ⟨by first | rfl | (simp; done) | (simp [*]; done), by repeat (first | exact Drawn0.refl _ | apply Drawn0.step)⟩
  rw [if_pos c3] at H
  have c3b0 : decide (x3_1 < (l0.length : Int)) = true := decide_eq_true c3
  clear c3
  by_cases c4 : 0 ≤ x3_1
  rotate_left
  · rw [if_neg c4] at H
    exact absurd H (by simp)
  rw [if_pos c4] at H
  have c4b0 : decide (0 ≤ x3_1) = true := decide_eq_true c4
  clear c4
  by_cases c5 : ((rd_L2 l0 x3_1).length : Int) > 100
  · rw [if_pos c5] at H
    have c5b0 : decide (100 < ((rd_L2 l0 x3_1).length : Int)) = true := decide_eq_true c5
    have c5b1 : decide (100 < (rd_L2 l0 x3_1).length) = true := decide_eq_true (by omega)
    clear c5
    obtain rfl := Option.some.inj H
    have p505 : 0 ≤ (x3_1 : Int) := of_decide_eq_true (by first | (with_reducible assumption) | assumption)
    have q505 : x3_1 < (l0.length : Int) := of_decide_eq_true (by first | (with_reducible assumption) | assumption)
    obtain ⟨ad505, A505_0, c505_0, e505, hx505_0, hl505_0, hi505_0⟩ := at_L2 HR0.out x3_1 p505 q505
    cases e505
    have HR505_0 := Aside0.mk hi505_0
    have HC505_0 := Aside0.mk hl505_0
    clear hi505_0 hl505_0
    replace p505 := eq_true p505
    replace q505 := eq_true q505
    go_wp2
    go_ret
    exact ⟨by first | rfl | (simp; done) | (simp [*]; done), by repeat (first | exact Drawn0.refl _ | apply Drawn0.step)⟩
  rw [if_neg c5] at H
  have c5b0 : decide (100 < ((rd_L2 l0 x3_1).length : Int)) = false := decide_eq_false c5
  have c5b1 : decide (100 < (rd_L2 l0 x3_1).length) = false := decide_eq_false (by omega)
  clear c5
  have H' := Aside0.mk H
  clear H
  have p505 : 0 ≤ (x3_1 : Int) := of_decide_eq_true (by first | (with_reducible assumption) | assumption)
  have q505 : x3_1 < (l0.length : Int) := of_decide_eq_true (by first | (with_reducible assumption) | assumption)
  obtain ⟨ad505, A505_0, c505_0, e505, hx505_0, hl505_0, hi505_0⟩ := at_L2 HR0.out x3_1 p505 q505
  cases e505
  have HR505_0 := Aside0.mk hi505_0
  have HC505_0 := Aside0.mk hl505_0
  clear hi505_0 hl505_0
  replace p505 := eq_true p505
  replace q505 := eq_true q505
  go_wp2
  go_roundg k1
  case measure => have := HK1.out; omega
  case rel => exact ⟨(wrap64 (x3_1 + 1)), (by first | rfl | (simp; done) | (simp [*]; done)), H', ⟨by have := HK1.out; omega⟩, by repeat (first | exact Drawn0.refl _ | apply Drawn0.step)⟩

/-! ### bailiwickref04_Right: function 31 -/
def bailiwickref04_Right.l0 : Nat → List (List (S38)) → Int → Option (Bool)
  | 0, _, _ => none
  | k + 1, x0, x3 => if x3 < (x0.length : Int) then (if x3 > 3 then (some false) else (if 0 ≤ x3 then ((bailiwickref03_Right.f k (rd_L2 x0 x3)).bind fun t507 => (if t507 = true then (bailiwickref04_Right.l0 k x0 (wrap64 (x3 + 1))) else (some false))) else (none))) else (some (decide ((x0.length : Int) > 0)))
def bailiwickref04_Right.f (k : Nat) (l0 : List (List (S38))) : Option (Bool) := bailiwickref04_Right.l0 k l0 0
theorem bailiwickref04_Right.mono_l : ∀ k, (∀ y0 y1, LeO (bailiwickref04_Right.l0 k y0 y1) (bailiwickref04_Right.l0 (k + 1) y0 y1))
  | 0 => fun _ _ r h => by simp [bailiwickref04_Right.l0] at h
  | k + 1 => by
    have ih0 := bailiwickref04_Right.mono_l k
    · intro y0 y1
      unfold bailiwickref04_Right.l0
      repeat' first
      | (with_reducible exact ih0 _ _)
      | (with_reducible exact bailiwickref03_Right.mono _ _)
      | (with_reducible exact LeO.refl _)
      | (with_reducible exact LeO.none _)
      | (with_reducible refine LeO.ite ?_ ?_)
      | (with_reducible refine LeO.bind ?_ (fun _ => ?_))
      | exact ih0 _ _
      | exact bailiwickref03_Right.mono _ _
      | exact LeO.none _
      | refine LeO.ite ?_ ?_
      | refine LeO.bind ?_ (fun _ => ?_)
theorem bailiwickref04_Right.mono : ∀ a0 k, LeO (bailiwickref04_Right.f k a0) (bailiwickref04_Right.f (k + 1) a0) := by
  intro a0 k
  have ih0 := bailiwickref04_Right.mono_l k
  unfold bailiwickref04_Right.f
  repeat' first
      | (with_reducible exact ih0 _ _)
      | (with_reducible exact bailiwickref03_Right.mono _ _)
      | (with_reducible exact LeO.refl _)
      | (with_reducible exact LeO.none _)
      | (with_reducible refine LeO.ite ?_ ?_)
      | (with_reducible refine LeO.bind ?_ (fun _ => ?_))
      | exact ih0 _ _
      | exact bailiwickref03_Right.mono _ _
      | exact LeO.none _
      | refine LeO.ite ?_ ?_
      | refine LeO.bind ?_ (fun _ => ?_)
set_option maxHeartbeats 8000000 in
set_option maxRecDepth 100000 in
theorem bailiwickref04_Right.calls (k : Nat) (A0 : Option Addr) (c0 : Nat) (l0 : List (List (S38))) (r : Bool) (w : World) (hr0 : Kd.C (Kd.slice 38 k38) w A0 l0.length l0) (hc0 : l0.length ≤ c0) (h : bailiwickref04_Right.f k l0 = some r) :
    Calls Try.prog 31 #[.slice A0 l0.length c0] w fun e w' => e = .returned (.bool r) ∧ Drawn0 w w' := by
  have HR0 := Aside0.mk hr0
  have HC0 := Aside0.mk hc0
  clear hr0 hc0
  have H : (bailiwickref04_Right.l0 k l0 0) = some r := h
  clear h
  have H' := Aside0.mk H
  clear H
  go_enter Try.func31, Try.ntmps31
  go_wp2
  go_loopg [3] k (fun kq v3 w' => ∃ (x3_1 : Int), v3 = .int .i64 x3_1 ∧ Aside0 (bailiwickref04_Right.l0 kq l0 x3_1 = some r) ∧ Aside0 (kq ≤ k) ∧ Drawn0 w w')
  case atStart => exact ⟨(0), (by first | rfl | (simp; done) | (simp [*]; done)), H', ⟨Nat.le_refl _⟩, by repeat (first | exact Drawn0.refl _ | apply Drawn0.step)⟩
  clear H'
  obtain ⟨x3_1, rfl, HA, HK1, ⟨m1, rfl⟩⟩ := hrel
  rcases gk with _ | k1
  · exact absurd HA.out (by simp [bailiwickref04_Right.l0])
  have H := HA.out
  clear HA
  simp only [bailiwickref04_Right.l0] at H
  by_cases c2 : x3_1 < (l0.length : Int)
  rotate_left
  · rw [if_neg c2] at H
    have c2b0 : decide (x3_1 < (l0.length : Int)) = false := decide_eq_false c2
    clear c2
    obtain rfl := Option.some.inj H
    go_wp2
    go_ret
    exact ⟨by first | rfl | (simp; done) | (simp [*]; done), by repeat (first | exact Drawn0.refl _ | apply Drawn0.step)⟩
  rw [if_pos c2] at H
  have c2b0 : decide (x3_1 < (l0.length : Int)) = true := decide_eq_true c2
  clear c2
  by_cases c3 : x3_1 > 3
  · rw [if_pos c3] at H
    have c3b0 : decide (3 < x3_1) = true := decide_eq_true c3
    clear c3
    obtain rfl := Option.some.inj H
    go_wp2
    go_ret
    exact ⟨by first | rfl | (simp; done) | (simp [*]; done), by repeat (first | exact Drawn0.refl _ | apply Drawn0.step)⟩
  rw [if_neg c3] at H
  have c3b0 : decide (3 < x3_1) = false := decide_eq_false c3
  clear c3
  by_cases c4 : 0 ≤ x3_1
  rotate_left
  · rw [if_neg c4] at H
    exact absurd H (by simp)
  rw [if_pos c4] at H
  have c4b0 : decide (0 ≤ x3_1) = true := decide_eq_true c4
  clear c4
  replace H := Option.bind_eq_some_iff.mp H
  obtain ⟨t507, A50, H⟩ := H
  replace H : (if t507 = true then (bailiwickref04_Right.l0 k1 l0 (wrap64 (x3_1 + 1))) else (some false)) = some r := H
  have A5 := Aside0.mk A50
  clear A50
  by_cases c6 : t507 = true
  · subst c6
    have H1 : (bailiwickref04_Right.l0 k1 l0 (wrap64 (x3_1 + 1))) = some r := by rw [if_pos rfl] at H; exact H
    clear H
    have H := H1
    clear H1
    have H' := Aside0.mk H
    clear H
    have p506 : 0 ≤ (x3_1 : Int) := of_decide_eq_true (by first | (with_reducible assumption) | assumption)
    have q506 : x3_1 < (l0.length : Int) := of_decide_eq_true (by first | (with_reducible assumption) | assumption)
    obtain ⟨ad506, A506_0, c506_0, e506, hx506_0, hl506_0, hi506_0⟩ := at_L2 HR0.out x3_1 p506 q506
    cases e506
    have HR506_0 := Aside0.mk hi506_0
    have HC506_0 := Aside0.mk hl506_0
    clear hi506_0 hl506_0
    replace p506 := eq_true p506
    replace q506 := eq_true q506
    go_wp2_with (first | (go_at_call 19; (with_reducible refine (bailiwickref03_Right.calls k1 _ _ (rd_L2 l0 x3_1) true _ ?side1 ?side2 A5.out).mono ?_); (case side1 => repeat (first | exact HR506_0.out | (with_reducible refine Kd.C_alloc ?_ _) | (with_reducible refine Kd.C_drewN ?_ _) | (with_reducible refine Kd.C_drew ?_))); (case side2 => exact HC506_0.out); rintro e w' ⟨rfl, ⟨nd, rfl⟩⟩))
    go_roundg k1
    case measure => have := HK1.out; omega
    case rel => exact ⟨(wrap64 (x3_1 + 1)), (by first | rfl | (simp; done) | (simp [*]; done)), H', ⟨by have := HK1.out; omega⟩, by repeat (first | exact Drawn0.refl _ | apply Drawn0.step)⟩
  replace c6 := Bool.eq_false_iff.mpr c6
  subst c6
  have H1 : (some false) = some r := by rw [if_neg (show ¬ (false = true) by decide)] at H; exact H
  clear H
  have H := H1
  clear H1
  obtain rfl := Option.some.inj H
  have p506 : 0 ≤ (x3_1 : Int) := of_decide_eq_true (by first | (with_reducible assumption) | assumption)
  have q506 : x3_1 < (l0.length : Int) := of_decide_eq_true (by first | (with_reducible assumption) | assumption)
  obtain ⟨ad506, A506_0, c506_0, e506, hx506_0, hl506_0, hi506_0⟩ := at_L2 HR0.out x3_1 p506 q506
  cases e506
  have HR506_0 := Aside0.mk hi506_0
  have HC506_0 := Aside0.mk hl506_0
  clear hi506_0 hl506_0
  replace p506 := eq_true p506
  replace q506 := eq_true q506
  go_wp2_with (first | (go_at_call 19; (with_reducible refine (bailiwickref03_Right.calls k1 _ _ (rd_L2 l0 x3_1) false _ ?side1 ?side2 A5.out).mono ?_); (case side1 => repeat (first | exact HR506_0.out | (with_reducible refine Kd.C_alloc ?_ _) | (with_reducible refine Kd.C_drewN ?_ _) | (with_reducible refine Kd.C_drew ?_))); (case side2 => exact HC506_0.out); rintro e w' ⟨rfl, ⟨nd, rfl⟩⟩))
  go_ret
  exact ⟨by first | rfl | (simp; done) | (simp [*]; done), by repeat (first | exact Drawn0.refl _ | apply Drawn0.step)⟩

end Go.Proofs.Ytpekjfmlpogfaaa.PAll
