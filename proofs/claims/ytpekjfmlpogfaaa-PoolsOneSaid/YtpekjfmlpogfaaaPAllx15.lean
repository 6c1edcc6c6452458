-- Written by wip/tools/hprint.py of this claim's session (a driver over the kit's print, with contracts proved by hand among them).
import Derived.Test.YtpekjfmlpogfaaaPAllx0
import Derived.Test.YtpekjfmlpogfaaaPAllx14
namespace Go.Proofs.Ytpekjfmlpogfaaa.PAll
open Go.RowKit Go.Proofs.YtpekjfmlpogfaaaW.PrintWords Go.Proofs.YtpekjfmlpogfaaaW.PrintLast Go.Proofs.YtpekjfmlpogfaaaW.PrintMore
attribute [local go_sem] max2_int min2_int max_two min_two max_three min_three max_four min_four   -- for this text's walks alone
set_option linter.unusedVariables false
set_option linter.unusedSimpArgs false

/-! ### bailiwickref03_May: function 15 -/
def bailiwickref03_May.f (k : Nat) (l0 : List (S38)) (a1 : Int) (a2 : Int) : Option (Bool) := (bailiwickref03_Right.f k l0).bind fun t215 => (if t215 = true then (if a1 ≥ 0 then (if a1 < a2 then (some (decide (a2 ≤ 4611686018427387904))) else (some false)) else (some false)) else (some false))
theorem bailiwickref03_May.mono : ∀ a0 a1 a2 k, LeO (bailiwickref03_May.f k a0 a1 a2) (bailiwickref03_May.f (k + 1) a0 a1 a2) := by
  intro a0 a1 a2 k
  unfold bailiwickref03_May.f
  repeat' first
      | (with_reducible exact bailiwickref03_Right.mono _ _)
      | (with_reducible exact LeO.refl _)
      | (with_reducible exact LeO.none _)
      | (with_reducible refine LeO.ite ?_ ?_)
      | (with_reducible refine LeO.bind ?_ (fun _ => ?_))
      | exact bailiwickref03_Right.mono _ _
      | exact LeO.none _
      | refine LeO.ite ?_ ?_
      | refine LeO.bind ?_ (fun _ => ?_)
set_option maxHeartbeats 8000000 in
set_option maxRecDepth 100000 in
theorem bailiwickref03_May.calls (k : Nat) (A0 : Option Addr) (c0 : Nat) (l0 : List (S38)) (a1 : Int) (a2 : Int) (r : Bool) (w : World) (hr0 : Kd.C k38 w A0 l0.length l0) (hc0 : l0.length ≤ c0) (h : bailiwickref03_May.f k l0 a1 a2 = some r) :
    Calls Try.prog 15 #[.slice A0 l0.length c0, .int .i64 a1, .int .i64 a2] w fun e w' => e = .returned (.bool r) ∧ Drawn0 w w' := by
  have HR0 := Aside0.mk hr0
  have HC0 := Aside0.mk hc0
  clear hr0 hc0
  have H : ((bailiwickref03_Right.f k l0).bind fun t215 => (if t215 = true then (if a1 ≥ 0 then (if a1 < a2 then (some (decide (a2 ≤ 4611686018427387904))) else (some false)) else (some false)) else (some false))) = some r := h
  clear h
  replace H := Option.bind_eq_some_iff.mp H
  obtain ⟨t215, A40, H⟩ := H
  replace H : (if t215 = true then (if a1 ≥ 0 then (if a1 < a2 then (some (decide (a2 ≤ 4611686018427387904))) else (some false)) else (some false)) else (some false)) = some r := H
  have A4 := Aside0.mk A40
  clear A40
  by_cases c5 : t215 = true
  rotate_left
  · replace c5 := Bool.eq_false_iff.mpr c5
    subst c5
    have H1 : (some false) = some r := by rw [if_neg (show ¬ (false = true) by decide)] at H; exact H
    clear H
    have H := H1
    clear H1
    obtain rfl := Option.some.inj H
    go_enter Try.func15, Try.ntmps15
    go_wp2_with (first | ((with_reducible refine gate_callee (f := 19) rfl ?_); refine goesL_ (some 8) rfl rfl Try.func19 (by kernel_rfl) rfl #[.slice A0 l0.length c0] rfl (by (try simp only [List.map_toArray, List.map_cons, List.map_nil]); first | done | rfl) ?_; (with_reducible refine (bailiwickref03_Right.calls k _ _ l0 false _ ?side1 ?side2 A4.out).mono ?_); (case side1 => repeat (first | exact HR0.out | (with_reducible refine Kd.C_alloc ?_ _) | (with_reducible refine Kd.C_drewN ?_ _) | (with_reducible refine Kd.C_drew ?_))); (case side2 => exact HC0.out); rintro e w' ⟨rfl, ⟨nd, rfl⟩⟩; refine ⟨_, rfl, ?_⟩))
    go_ret
    exact ⟨by first | rfl | (simp; done) | (simp [*]; done), by repeat (first | exact Drawn0.refl _ | apply Drawn0.step)⟩
  subst c5
  have H1 : (if a1 ≥ 0 then (if a1 < a2 then (some (decide (a2 ≤ 4611686018427387904))) else (some false)) else (some false)) = some r := by rw [if_pos rfl] at H; exact H
  clear H
  have H := H1
  clear H1
  by_cases c6 : a1 ≥ 0
  rotate_left
  · rw [if_neg c6] at H
    have c6b0 : decide (0 ≤ a1) = false := decide_eq_false c6
    clear c6
    obtain rfl := Option.some.inj H
    go_enter Try.func15, Try.ntmps15
    go_wp2_with (first | ((with_reducible refine gate_callee (f := 19) rfl ?_); refine goesL_ (some 8) rfl rfl Try.func19 (by kernel_rfl) rfl #[.slice A0 l0.length c0] rfl (by (try simp only [List.map_toArray, List.map_cons, List.map_nil]); first | done | rfl) ?_; (with_reducible refine (bailiwickref03_Right.calls k _ _ l0 true _ ?side1 ?side2 A4.out).mono ?_); (case side1 => repeat (first | exact HR0.out | (with_reducible refine Kd.C_alloc ?_ _) | (with_reducible refine Kd.C_drewN ?_ _) | (with_reducible refine Kd.C_drew ?_))); (case side2 => exact HC0.out); rintro e w' ⟨rfl, ⟨nd, rfl⟩⟩; refine ⟨_, rfl, ?_⟩))
    go_ret
    exact ⟨by first | rfl | (simp; done) | (simp [*]; done), by repeat (first | exact Drawn0.refl _ | apply Drawn0.step)⟩
  rw [if_pos c6] at H
  have c6b0 : decide (0 ≤ a1) = true := decide_eq_true c6
  clear c6
  by_cases c7 : a1 < a2
  · rw [if_pos c7] at H
    have c7b0 : decide (a1 < a2) = true := decide_eq_true c7
    clear c7
    obtain rfl := Option.some.inj H
    go_enter Try.func15, Try.ntmps15
    go_wp2_with (first | ((with_reducible refine gate_callee (f := 19) rfl ?_); refine goesL_ (some 8) rfl rfl Try.func19 (by kernel_rfl) rfl #[.slice A0 l0.length c0] rfl (by (try simp only [List.map_toArray, List.map_cons, List.map_nil]); first | done | rfl) ?_; (with_reducible refine (bailiwickref03_Right.calls k _ _ l0 true _ ?side1 ?side2 A4.out).mono ?_); (case side1 => repeat (first | exact HR0.out | (with_reducible refine Kd.C_alloc ?_ _) | (with_reducible refine Kd.C_drewN ?_ _) | (with_reducible refine Kd.C_drew ?_))); (case side2 => exact HC0.out); rintro e w' ⟨rfl, ⟨nd, rfl⟩⟩; refine ⟨_, rfl, ?_⟩))
    go_ret
    exact ⟨by first | rfl | (simp; done) | (simp [*]; done), by repeat (first | exact Drawn0.refl _ | apply Drawn0.step)⟩
  rw [if_neg c7] at H
  have c7b0 : decide (a1 < a2) = false := decide_eq_false c7
  clear c7
  obtain rfl := Option.some.inj H
  go_enter Try.func15, Try.ntmps15
  go_wp2_with (first | ((with_reducible refine gate_callee (f := 19) rfl ?_); refine goesL_ (some 8) rfl rfl Try.func19 (by kernel_rfl) rfl #[.slice A0 l0.length c0] rfl (by (try simp only [List.map_toArray, List.map_cons, List.map_nil]); first | done | rfl) ?_; (with_reducible refine (bailiwickref03_Right.calls k _ _ l0 true _ ?side1 ?side2 A4.out).mono ?_); (case side1 => repeat (first | exact HR0.out | (with_reducible refine Kd.C_alloc ?_ _) | (with_reducible refine Kd.C_drewN ?_ _) | (with_reducible refine Kd.C_drew ?_))); (case side2 => exact HC0.out); rintro e w' ⟨rfl, ⟨nd, rfl⟩⟩; refine ⟨_, rfl, ?_⟩))
  go_ret
  exact ⟨by first | rfl | (simp; done) | (simp [*]; done), by repeat (first | exact Drawn0.refl _ | apply Drawn0.step)⟩

/-! ### bailiwickref03_at: function 42 -/
def bailiwickref03_at.l0 : Nat → List (S38) → Int → Int → Int → Option (Int)
  | 0, _, _, _, _ => none
  | k + 1, x0, x1, x5, x6 => if x6 < (x0.length : Int) then (if 0 ≤ x6 then (if ((rd_T38 x0 x6).f0) ≤ x1 then (bailiwickref03_at.l0 k x0 x1 ((rd_T38 x0 x6).f1) (wrap64 (x6 + 1))) else (bailiwickref03_at.l0 k x0 x1 x5 (wrap64 (x6 + 1)))) else (none)) else (some x5)
def bailiwickref03_at.f (k : Nat) (l0 : List (S38)) (a1 : Int) : Option (Int) := bailiwickref03_at.l0 k l0 a1 0 0
theorem bailiwickref03_at.mono_l : ∀ k, (∀ y0 y1 y2 y3, LeO (bailiwickref03_at.l0 k y0 y1 y2 y3) (bailiwickref03_at.l0 (k + 1) y0 y1 y2 y3))
  | 0 => fun _ _ _ _ r h => by simp [bailiwickref03_at.l0] at h
  | k + 1 => by
    have ih0 := bailiwickref03_at.mono_l k
    · intro y0 y1 y2 y3
      unfold bailiwickref03_at.l0
      repeat' first
      | (with_reducible exact ih0 _ _ _ _)
      | (with_reducible exact LeO.refl _)
      | (with_reducible exact LeO.none _)
      | (with_reducible refine LeO.ite ?_ ?_)
      | (with_reducible refine LeO.bind ?_ (fun _ => ?_))
      | exact ih0 _ _ _ _
      | exact LeO.none _
      | refine LeO.ite ?_ ?_
      | refine LeO.bind ?_ (fun _ => ?_)
theorem bailiwickref03_at.mono : ∀ a0 a1 k, LeO (bailiwickref03_at.f k a0 a1) (bailiwickref03_at.f (k + 1) a0 a1) := by
  intro a0 a1 k
  have ih0 := bailiwickref03_at.mono_l k
  unfold bailiwickref03_at.f
  repeat' first
      | (with_reducible exact ih0 _ _ _ _)
      | (with_reducible exact LeO.refl _)
      | (with_reducible exact LeO.none _)
      | (with_reducible refine LeO.ite ?_ ?_)
      | (with_reducible refine LeO.bind ?_ (fun _ => ?_))
      | exact ih0 _ _ _ _
      | exact LeO.none _
      | refine LeO.ite ?_ ?_
      | refine LeO.bind ?_ (fun _ => ?_)
set_option maxHeartbeats 8000000 in
set_option maxRecDepth 100000 in
theorem bailiwickref03_at.calls (k : Nat) (A0 : Option Addr) (c0 : Nat) (l0 : List (S38)) (a1 : Int) (r : Int) (w : World) (hr0 : Kd.C k38 w A0 l0.length l0) (hc0 : l0.length ≤ c0) (h : bailiwickref03_at.f k l0 a1 = some r) :
    Calls Try.prog 42 #[.slice A0 l0.length c0, .int .i64 a1] w fun e w' => e = .returned (.int .i64 r) ∧ Drawn0 w w' := by
  have HR0 := Aside0.mk hr0
  have HC0 := Aside0.mk hc0
  clear hr0 hc0
  have H : (bailiwickref03_at.l0 k l0 a1 0 0) = some r := h
  clear h
  have H' := Aside0.mk H
  clear H
  go_enter Try.func42, Try.ntmps42
  go_wp2
  go_loopg [5, 6] k (fun kq v5 v6 w' => ∃ (x5_1 : Int) (x6_1 : Int), v5 = .int .i64 x5_1 ∧ v6 = .int .i64 x6_1 ∧ Aside0 (bailiwickref03_at.l0 kq l0 a1 x5_1 x6_1 = some r) ∧ Aside0 (kq ≤ k) ∧ Drawn0 w w')
  case atStart => exact ⟨(0), (0), (by first | rfl | (simp; done) | (simp [*]; done)), (by first | rfl | (simp; done) | (simp [*]; done)), H', ⟨Nat.le_refl _⟩, by repeat (first | exact Drawn0.refl _ | apply Drawn0.step)⟩
  clear H'
  try clear p2
  obtain ⟨x5_1, x6_1, rfl, rfl, HA, HK1, ⟨m1, rfl⟩⟩ := hrel
  rcases gk with _ | k1
  · exact absurd HA.out (by simp [bailiwickref03_at.l0])
  have H := HA.out
  clear HA
  simp only [bailiwickref03_at.l0] at H
  by_cases c3 : x6_1 < (l0.length : Int)
  rotate_left
  · rw [if_neg c3] at H
    have c3b0 : decide (x6_1 < (l0.length : Int)) = false := decide_eq_false c3
    clear c3
    obtain rfl := Option.some.inj H
    go_wp2
    go_ret
    exact ⟨by first | rfl | (simp; done) | (simp [*]; done), by repeat (first | exact Drawn0.refl _ | apply Drawn0.step)⟩
  rw [if_pos c3] at H
  have c3b0 : decide (x6_1 < (l0.length : Int)) = true := decide_eq_true c3
  clear c3
  by_cases c4 : 0 ≤ x6_1
  rotate_left
  · rw [if_neg c4] at H
    exact absurd H (by simp)
  rw [if_pos c4] at H
  have c4b0 : decide (0 ≤ x6_1) = true := decide_eq_true c4
  clear c4
  by_cases c5 : ((rd_T38 l0 x6_1).f0) ≤ a1
  rotate_left
  · rw [if_neg c5] at H
    have c5b0 : decide (((rd_T38 l0 x6_1).f0) ≤ a1) = false := decide_eq_false c5
    clear c5
    have H' := Aside0.mk H
    clear H
    have p216 : 0 ≤ (x6_1 : Int) := of_decide_eq_true (by first | (with_reducible assumption) | assumption)
    have q216 : x6_1 < (l0.length : Int) := of_decide_eq_true (by first | (with_reducible assumption) | assumption)
    obtain ⟨ad216, e216, hx216_0, hx216_1⟩ := at_T38 HR0.out x6_1 p216 q216
    cases e216
    replace p216 := eq_true p216
    replace q216 := eq_true q216
    go_wp2
    go_roundg k1
    case measure => have := HK1.out; omega
    case rel => exact ⟨(x5_1), (wrap64 (x6_1 + 1)), (by first | rfl | (simp; done) | (simp [*]; done)), (by first | rfl | (simp; done) | (simp [*]; done)), H', ⟨by have := HK1.out; omega⟩, by repeat (first | exact Drawn0.refl _ | apply Drawn0.step)⟩
  rw [if_pos c5] at H
  have c5b0 : decide (((rd_T38 l0 x6_1).f0) ≤ a1) = true := decide_eq_true c5
  clear c5
  have H' := Aside0.mk H
  clear H
  have p216 : 0 ≤ (x6_1 : Int) := of_decide_eq_true (by first | (with_reducible assumption) | assumption)
  have q216 : x6_1 < (l0.length : Int) := of_decide_eq_true (by first | (with_reducible assumption) | assumption)
  obtain ⟨ad216, e216, hx216_0, hx216_1⟩ := at_T38 HR0.out x6_1 p216 q216
  cases e216
  replace p216 := eq_true p216
  replace q216 := eq_true q216
  have p217 : 0 ≤ (x6_1 : Int) := of_decide_eq_true (by first | (with_reducible assumption) | assumption)
  have q217 : x6_1 < (l0.length : Int) := of_decide_eq_true (by first | (with_reducible assumption) | assumption)
  obtain ⟨ad217, e217, hx217_0, hx217_1⟩ := at_T38 HR0.out x6_1 p217 q217
  obtain rfl : ad216 = ad217 := (by injection e217)
  replace p217 := eq_true p217
  replace q217 := eq_true q217
  go_wp2
  go_roundg k1
  case measure => have := HK1.out; omega
  case rel => exact ⟨((rd_T38 l0 x6_1).f1), (wrap64 (x6_1 + 1)), (by first | rfl | (simp; done) | (simp [*]; done)), (by first | rfl | (simp; done) | (simp [*]; done)), H', ⟨by have := HK1.out; omega⟩, by repeat (first | exact Drawn0.refl _ | apply Drawn0.step)⟩

end Go.Proofs.Ytpekjfmlpogfaaa.PAll
