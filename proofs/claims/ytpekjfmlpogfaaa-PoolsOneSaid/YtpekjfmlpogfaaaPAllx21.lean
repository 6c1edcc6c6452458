-- Written by wip/tools/hprint.py of this claim's session (a driver over the kit's print, with contracts proved by hand among them).
import Derived.Test.YtpekjfmlpogfaaaPAllx0
import Derived.Test.YtpekjfmlpogfaaaPAllx15
namespace Go.Proofs.Ytpekjfmlpogfaaa.PAll
open Go.RowKit Go.Proofs.YtpekjfmlpogfaaaW.PrintWords Go.Proofs.YtpekjfmlpogfaaaW.PrintLast Go.Proofs.YtpekjfmlpogfaaaW.PrintMore
attribute [local go_sem] max2_int min2_int max_two min_two max_three min_three max_four min_four   -- for this text's walks alone
set_option linter.unusedVariables false
set_option linter.unusedSimpArgs false

/-! ### bailiwickref03_Most: function 41 -/
def bailiwickref03_Most.l0 : Nat → List (S38) → Int → Int → Int → Int → Option (Int)
  | 0, _, _, _, _, _ => none
  | k + 1, x0, x1, x2, x7, x8 => if x8 < (x0.length : Int) then (if 0 ≤ x8 then (if ((rd_T38 x0 x8).f0) > x1 then (if ((rd_T38 x0 x8).f0) < x2 then (if ((rd_T38 x0 x8).f1) > x7 then (bailiwickref03_Most.l0 k x0 x1 x2 ((rd_T38 x0 x8).f1) (wrap64 (x8 + 1))) else (bailiwickref03_Most.l0 k x0 x1 x2 x7 (wrap64 (x8 + 1)))) else (bailiwickref03_Most.l0 k x0 x1 x2 x7 (wrap64 (x8 + 1)))) else (bailiwickref03_Most.l0 k x0 x1 x2 x7 (wrap64 (x8 + 1)))) else (none)) else (some x7)
def bailiwickref03_Most.f (k : Nat) (l0 : List (S38)) (a1 : Int) (a2 : Int) : Option (Int) := (bailiwickref03_at.f k l0 a1).bind fun t311 => (bailiwickref03_Most.l0 k l0 a1 a2 t311 0)
theorem bailiwickref03_Most.mono_l : ∀ k, (∀ y0 y1 y2 y3 y4, LeO (bailiwickref03_Most.l0 k y0 y1 y2 y3 y4) (bailiwickref03_Most.l0 (k + 1) y0 y1 y2 y3 y4))
  | 0 => fun _ _ _ _ _ r h => by simp [bailiwickref03_Most.l0] at h
  | k + 1 => by
    have ih0 := bailiwickref03_Most.mono_l k
    · intro y0 y1 y2 y3 y4
      unfold bailiwickref03_Most.l0
      repeat' first
      | (with_reducible exact ih0 _ _ _ _ _)
      | (with_reducible exact bailiwickref03_at.mono _ _ _)
      | (with_reducible exact LeO.refl _)
      | (with_reducible exact LeO.none _)
      | (with_reducible refine LeO.ite ?_ ?_)
      | (with_reducible refine LeO.bind ?_ (fun _ => ?_))
      | exact ih0 _ _ _ _ _
      | exact bailiwickref03_at.mono _ _ _
      | exact LeO.none _
      | refine LeO.ite ?_ ?_
      | refine LeO.bind ?_ (fun _ => ?_)
theorem bailiwickref03_Most.mono : ∀ a0 a1 a2 k, LeO (bailiwickref03_Most.f k a0 a1 a2) (bailiwickref03_Most.f (k + 1) a0 a1 a2) := by
  intro a0 a1 a2 k
  have ih0 := bailiwickref03_Most.mono_l k
  unfold bailiwickref03_Most.f
  repeat' first
      | (with_reducible exact ih0 _ _ _ _ _)
      | (with_reducible exact bailiwickref03_at.mono _ _ _)
      | (with_reducible exact LeO.refl _)
      | (with_reducible exact LeO.none _)
      | (with_reducible refine LeO.ite ?_ ?_)
      | (with_reducible refine LeO.bind ?_ (fun _ => ?_))
      | exact ih0 _ _ _ _ _
      | exact bailiwickref03_at.mono _ _ _
      | exact LeO.none _
      | refine LeO.ite ?_ ?_
      | refine LeO.bind ?_ (fun _ => ?_)
set_option maxHeartbeats 8000000 in
set_option maxRecDepth 100000 in
theorem bailiwickref03_Most.calls (k : Nat) (A0 : Option Addr) (c0 : Nat) (l0 : List (S38)) (a1 : Int) (a2 : Int) (r : Int) (w : World) (hr0 : Kd.C k38 w A0 l0.length l0) (hc0 : l0.length ≤ c0) (h : bailiwickref03_Most.f k l0 a1 a2 = some r) :
    Calls Try.prog 41 #[.slice A0 l0.length c0, .int .i64 a1, .int .i64 a2] w fun e w' => e = .returned (.int .i64 r) ∧ Drawn0 w w' := by
  have HR0 := Aside0.mk hr0
  have HC0 := Aside0.mk hc0
  clear hr0 hc0
  have H : ((bailiwickref03_at.f k l0 a1).bind fun t311 => (bailiwickref03_Most.l0 k l0 a1 a2 t311 0)) = some r := h
  clear h
  replace H := Option.bind_eq_some_iff.mp H
  obtain ⟨t311, A40, H⟩ := H
  replace H : (bailiwickref03_Most.l0 k l0 a1 a2 t311 0) = some r := H
  have A4 := Aside0.mk A40
  clear A40
  have H' := Aside0.mk H
  clear H
  go_enter Try.func41, Try.ntmps41
  go_wp2_with (first | ((with_reducible refine gate_callee (f := 42) rfl ?_); refine goesL_ (some 11) rfl rfl Try.func42 (by kernel_rfl) rfl #[.slice A0 l0.length c0, .int .i64 a1] rfl (by (try simp only [List.map_toArray, List.map_cons, List.map_nil]); first | done | rfl) ?_; (with_reducible refine (bailiwickref03_at.calls k _ _ l0 a1 t311 _ ?side1 ?side2 A4.out).mono ?_); (case side1 => repeat (first | exact HR0.out | (with_reducible refine Kd.C_alloc ?_ _) | (with_reducible refine Kd.C_drewN ?_ _) | (with_reducible refine Kd.C_drew ?_))); (case side2 => exact HC0.out); rintro e w' ⟨rfl, ⟨nd, rfl⟩⟩; refine ⟨_, rfl, ?_⟩))
  go_loopg [7, 8] k (fun kq v7 v8 w' => ∃ (x7_1 : Int) (x8_1 : Int), v7 = .int .i64 x7_1 ∧ v8 = .int .i64 x8_1 ∧ Aside0 (bailiwickref03_Most.l0 kq l0 a1 a2 x7_1 x8_1 = some r) ∧ Aside0 (kq ≤ k) ∧ Drawn0 w w')
  case atStart => exact ⟨(t311), (0), (by first | rfl | (simp; done) | (simp [*]; done)), (by first | rfl | (simp; done) | (simp [*]; done)), H', ⟨Nat.le_refl _⟩, by repeat (first | exact Drawn0.refl _ | apply Drawn0.step)⟩
  clear H'
  try clear p2
  try clear c4
  obtain ⟨x7_1, x8_1, rfl, rfl, HA, HK1, ⟨m1, rfl⟩⟩ := hrel
  rcases gk with _ | k1
  · exact absurd HA.out (by simp [bailiwickref03_Most.l0])
  have H := HA.out
  clear HA
  simp only [bailiwickref03_Most.l0] at H
  by_cases c5 : x8_1 < (l0.length : Int)
  rotate_left
  · rw [if_neg c5] at H
    have c5b0 : decide (x8_1 < (l0.length : Int)) = false := decide_eq_false c5
    clear c5
    obtain rfl := Option.some.inj H
    go_wp2
    go_ret
    exact ⟨by first | rfl | (simp; done) | (simp [*]; done), by repeat (first | exact Drawn0.refl _ | apply Drawn0.step)⟩
  rw [if_pos c5] at H
  have c5b0 : decide (x8_1 < (l0.length : Int)) = true := decide_eq_true c5
  clear c5
  by_cases c6 : 0 ≤ x8_1
  rotate_left
  · rw [if_neg c6] at H
    exact absurd H (by simp)
  rw [if_pos c6] at H
  have c6b0 : decide (0 ≤ x8_1) = true := decide_eq_true c6
  clear c6
  by_cases c7 : ((rd_T38 l0 x8_1).f0) > a1
  rotate_left
  · rw [if_neg c7] at H
    have c7b0 : decide (a1 < ((rd_T38 l0 x8_1).f0)) = false := decide_eq_false c7
    clear c7
    have H' := Aside0.mk H
    clear H
    have p312 : 0 ≤ (x8_1 : Int) := of_decide_eq_true (by first | (with_reducible assumption) | assumption)
    have q312 : x8_1 < (l0.length : Int) := of_decide_eq_true (by first | (with_reducible assumption) | assumption)
    obtain ⟨ad312, e312, hx312_0, hx312_1⟩ := at_T38 HR0.out x8_1 p312 q312
    cases e312
    replace p312 := eq_true p312
    replace q312 := eq_true q312
    go_wp2
    go_roundg k1
    case measure => have := HK1.out; omega
    case rel => exact ⟨(x7_1), (wrap64 (x8_1 + 1)), (by first | rfl | (simp; done) | (simp [*]; done)), (by first | rfl | (simp; done) | (simp [*]; done)), H', ⟨by have := HK1.out; omega⟩, by repeat (first | exact Drawn0.refl _ | apply Drawn0.step)⟩
  rw [if_pos c7] at H
  have c7b0 : decide (a1 < ((rd_T38 l0 x8_1).f0)) = true := decide_eq_true c7
  clear c7
  by_cases c8 : ((rd_T38 l0 x8_1).f0) < a2
  rotate_left
  · rw [if_neg c8] at H
    have c8b0 : decide (((rd_T38 l0 x8_1).f0) < a2) = false := decide_eq_false c8
    clear c8
    have H' := Aside0.mk H
    clear H
    have p312 : 0 ≤ (x8_1 : Int) := of_decide_eq_true (by first | (with_reducible assumption) | assumption)
    have q312 : x8_1 < (l0.length : Int) := of_decide_eq_true (by first | (with_reducible assumption) | assumption)
    obtain ⟨ad312, e312, hx312_0, hx312_1⟩ := at_T38 HR0.out x8_1 p312 q312
    cases e312
    replace p312 := eq_true p312
    replace q312 := eq_true q312
    have p313 : 0 ≤ (x8_1 : Int) := of_decide_eq_true (by first | (with_reducible assumption) | assumption)
    have q313 : x8_1 < (l0.length : Int) := of_decide_eq_true (by first | (with_reducible assumption) | assumption)
    obtain ⟨ad313, e313, hx313_0, hx313_1⟩ := at_T38 HR0.out x8_1 p313 q313
    obtain rfl : ad312 = ad313 := (by injection e313)
    replace p313 := eq_true p313
    replace q313 := eq_true q313
    go_wp2
    go_roundg k1
    case measure => have := HK1.out; omega
    case rel => exact ⟨(x7_1), (wrap64 (x8_1 + 1)), (by first | rfl | (simp; done) | (simp [*]; done)), (by first | rfl | (simp; done) | (simp [*]; done)), H', ⟨by have := HK1.out; omega⟩, by repeat (first | exact Drawn0.refl _ | apply Drawn0.step)⟩
  rw [if_pos c8] at H
  have c8b0 : decide (((rd_T38 l0 x8_1).f0) < a2) = true := decide_eq_true c8
  clear c8
  by_cases c9 : ((rd_T38 l0 x8_1).f1) > x7_1
  rotate_left
  · rw [if_neg c9] at H
    have c9b0 : decide (x7_1 < ((rd_T38 l0 x8_1).f1)) = false := decide_eq_false c9
    clear c9
    have H' := Aside0.mk H
    clear H
    have p312 : 0 ≤ (x8_1 : Int) := of_decide_eq_true (by first | (with_reducible assumption) | assumption)
    have q312 : x8_1 < (l0.length : Int) := of_decide_eq_true (by first | (with_reducible assumption) | assumption)
    obtain ⟨ad312, e312, hx312_0, hx312_1⟩ := at_T38 HR0.out x8_1 p312 q312
    cases e312
    replace p312 := eq_true p312
    replace q312 := eq_true q312
    have p313 : 0 ≤ (x8_1 : Int) := of_decide_eq_true (by first | (with_reducible assumption) | assumption)
    have q313 : x8_1 < (l0.length : Int) := of_decide_eq_true (by first | (with_reducible assumption) | assumption)
    obtain ⟨ad313, e313, hx313_0, hx313_1⟩ := at_T38 HR0.out x8_1 p313 q313
    obtain rfl : ad312 = ad313 := (by injection e313)
    replace p313 := eq_true p313
    replace q313 := eq_true q313
    have p314 : 0 ≤ (x8_1 : Int) := of_decide_eq_true (by first | (with_reducible assumption) | assumption)
    have q314 : x8_1 < (l0.length : Int) := of_decide_eq_true (by first | (with_reducible assumption) | assumption)
    obtain ⟨ad314, e314, hx314_0, hx314_1⟩ := at_T38 HR0.out x8_1 p314 q314
    obtain rfl : ad312 = ad314 := (by injection e314)
    replace p314 := eq_true p314
    replace q314 := eq_true q314
    go_wp2
    go_roundg k1
    case measure => have := HK1.out; omega
    case rel => exact ⟨(x7_1), (wrap64 (x8_1 + 1)), (by first | rfl | (simp; done) | (simp [*]; done)), (by first | rfl | (simp; done) | (simp [*]; done)), H', ⟨by have := HK1.out; omega⟩, by repeat (first | exact Drawn0.refl _ | apply Drawn0.step)⟩
  rw [if_pos c9] at H
  have c9b0 : decide (x7_1 < ((rd_T38 l0 x8_1).f1)) = true := decide_eq_true c9
  clear c9
  have H' := Aside0.mk H
  clear H
  have p312 : 0 ≤ (x8_1 : Int) := of_decide_eq_true (by first | (with_reducible assumption) | assumption)
  have q312 : x8_1 < (l0.length : Int) := of_decide_eq_true (by first | (with_reducible assumption) | assumption)
  obtain ⟨ad312, e312, hx312_0, hx312_1⟩ := at_T38 HR0.out x8_1 p312 q312
  cases e312
  replace p312 := eq_true p312
  replace q312 := eq_true q312
  have p313 : 0 ≤ (x8_1 : Int) := of_decide_eq_true (by first | (with_reducible assumption) | assumption)
  have q313 : x8_1 < (l0.length : Int) := of_decide_eq_true (by first | (with_reducible assumption) | assumption)
  obtain ⟨ad313, e313, hx313_0, hx313_1⟩ := at_T38 HR0.out x8_1 p313 q313
  obtain rfl : ad312 = ad313 := (by injection e313)
  replace p313 := eq_true p313
  replace q313 := eq_true q313
  have p314 : 0 ≤ (x8_1 : Int) := of_decide_eq_true (by first | (with_reducible assumption) | assumption)
  have q314 : x8_1 < (l0.length : Int) := of_decide_eq_true (by first | (with_reducible assumption) | assumption)
  obtain ⟨ad314, e314, hx314_0, hx314_1⟩ := at_T38 HR0.out x8_1 p314 q314
  obtain rfl : ad312 = ad314 := (by injection e314)
  replace p314 := eq_true p314
  replace q314 := eq_true q314
  have p315 : 0 ≤ (x8_1 : Int) := of_decide_eq_true (by first | (with_reducible assumption) | assumption)
  have q315 : x8_1 < (l0.length : Int) := of_decide_eq_true (by first | (with_reducible assumption) | assumption)
  obtain ⟨ad315, e315, hx315_0, hx315_1⟩ := at_T38 HR0.out x8_1 p315 q315
  obtain rfl : ad312 = ad315 := (by injection e315)
  replace p315 := eq_true p315
  replace q315 := eq_true q315
  go_wp2
  go_roundg k1
  case measure => have := HK1.out; omega
  case rel => exact ⟨((rd_T38 l0 x8_1).f1), (wrap64 (x8_1 + 1)), (by first | rfl | (simp; done) | (simp [*]; done)), (by first | rfl | (simp; done) | (simp [*]; done)), H', ⟨by have := HK1.out; omega⟩, by repeat (first | exact Drawn0.refl _ | apply Drawn0.step)⟩

end Go.Proofs.Ytpekjfmlpogfaaa.PAll
