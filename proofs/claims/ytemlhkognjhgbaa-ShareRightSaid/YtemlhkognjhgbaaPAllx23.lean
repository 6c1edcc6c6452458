-- Written by wip/tools/hprint.py of this claim's session (a driver over the kit's print, with contracts proved by hand among them).
import Derived.Test.YtemlhkognjhgbaaPAllx0
import Derived.Test.YtemlhkognjhgbaaPAllx13
namespace Go.Proofs.Ytemlhkognjhgbaa.PAll
open Go.RowKit Go.Proofs.YtemlhkognjhgbaaW.PrintWords Go.Proofs.YtemlhkognjhgbaaW.PrintLast Go.Proofs.YtemlhkognjhgbaaW.PrintMore
attribute [local go_sem] max2_int min2_int max_two min_two max_three min_three max_four min_four   -- for this text's walks alone
set_option linter.unusedVariables false
set_option linter.unusedSimpArgs false

/-! ### bailiwickref15_Sum: function 21 -/
def bailiwickref15_Sum.l0 : Nat → List Nat → Nat → Int → Option (Nat)
  | 0, _, _, _ => none
  | k + 1, x0, x3, x4 => if x4 < (x0.length : Int) then (if 0 ≤ x4 then ((bailiwickref15_Clean.f (rdOf (0 : Nat) x0 x4)).bind fun t277 => (if fok .add x3 t277 = true then ((bailiwickref15_Clean.f (fop .add x3 t277)).bind fun t278 => (bailiwickref15_Sum.l0 k x0 t278 (wrap64 (x4 + 1)))) else (none))) else (none)) else (some x3)
def bailiwickref15_Sum.f (k : Nat) (l0 : List Nat) : Option (Nat) := bailiwickref15_Sum.l0 k l0 0 0
theorem bailiwickref15_Sum.mono_l : ∀ k, (∀ y0 y1 y2, LeO (bailiwickref15_Sum.l0 k y0 y1 y2) (bailiwickref15_Sum.l0 (k + 1) y0 y1 y2))
  | 0 => fun _ _ _ r h => by simp [bailiwickref15_Sum.l0] at h
  | k + 1 => by
    have ih0 := bailiwickref15_Sum.mono_l k
    · intro y0 y1 y2
      unfold bailiwickref15_Sum.l0
      repeat' first
      | (with_reducible exact ih0 _ _ _)
      | (with_reducible exact LeO.refl _)
      | (with_reducible exact LeO.none _)
      | (with_reducible refine LeO.ite ?_ ?_)
      | (with_reducible refine LeO.bind ?_ (fun _ => ?_))
      | exact ih0 _ _ _
      | exact LeO.none _
      | refine LeO.ite ?_ ?_
      | refine LeO.bind ?_ (fun _ => ?_)
theorem bailiwickref15_Sum.mono : ∀ a0 k, LeO (bailiwickref15_Sum.f k a0) (bailiwickref15_Sum.f (k + 1) a0) := by
  intro a0 k
  have ih0 := bailiwickref15_Sum.mono_l k
  unfold bailiwickref15_Sum.f
  repeat' first
      | (with_reducible exact ih0 _ _ _)
      | (with_reducible exact LeO.refl _)
      | (with_reducible exact LeO.none _)
      | (with_reducible refine LeO.ite ?_ ?_)
      | (with_reducible refine LeO.bind ?_ (fun _ => ?_))
      | exact ih0 _ _ _
      | exact LeO.none _
      | refine LeO.ite ?_ ?_
      | refine LeO.bind ?_ (fun _ => ?_)
set_option maxHeartbeats 8000000 in
set_option maxRecDepth 100000 in
theorem bailiwickref15_Sum.calls (k : Nat) (A0 : Option Addr) (c0 : Nat) (l0 : List Nat) (r : Nat) (w : World) (hr0 : Kd.C Kd.float w A0 l0.length l0) (hc0 : l0.length ≤ c0) (h : bailiwickref15_Sum.f k l0 = some r) :
    Calls Try.prog 21 #[.slice A0 l0.length c0] w fun e w' => e = .returned (.float .f64 r) ∧ Drawn0 w w' := by
  have HR0 := Aside0.mk hr0
  have HC0 := Aside0.mk hc0
  clear hr0 hc0
  have H : (bailiwickref15_Sum.l0 k l0 0 0) = some r := h
  clear h
  have H' := Aside0.mk H
  clear H
  go_enter Try.func21, Try.ntmps21
  go_wp2
  go_loopg [3, 4] k (fun kq v3 v4 w' => ∃ (x3_1 : Nat) (x4_1 : Int), v3 = .float .f64 x3_1 ∧ v4 = .int .i64 x4_1 ∧ Aside0 (bailiwickref15_Sum.l0 kq l0 x3_1 x4_1 = some r) ∧ Aside0 (kq ≤ k) ∧ Drawn0 w w')
  case atStart => exact ⟨(0), (0), (by first | rfl | (simp; done) | (simp [*]; done)), (by first | rfl | (simp; done) | (simp [*]; done)), H', ⟨Nat.le_refl _⟩, by repeat (first | exact Drawn0.refl _ | apply Drawn0.step)⟩
  case round =>
    clear H'
    obtain ⟨x3_1, x4_1, rfl, rfl, HA, HK1, ⟨m1, rfl⟩⟩ := hrel
    cases gk with
    | zero => exact absurd HA.out (by simp [bailiwickref15_Sum.l0])
    | succ k1 =>
      have H := HA.out
      clear HA
      simp only [bailiwickref15_Sum.l0] at H
      by_cases c2 : x4_1 < (l0.length : Int)
      · rw [if_pos c2] at H
        have c2b0 : decide (x4_1 < (l0.length : Int)) = true := decide_eq_true c2
        clear c2
        by_cases c3 : 0 ≤ x4_1
        · rw [if_pos c3] at H
          have c3b0 : decide (0 ≤ x4_1) = true := decide_eq_true c3
          clear c3
          replace H := Option.bind_eq_some_iff.mp H
          obtain ⟨t277, A40, H⟩ := H
          replace H : (if fok .add x3_1 t277 = true then ((bailiwickref15_Clean.f (fop .add x3_1 t277)).bind fun t278 => (bailiwickref15_Sum.l0 k1 l0 t278 (wrap64 (x4_1 + 1)))) else (none)) = some r := H
          have A4 := Aside0.mk A40
          clear A40
          by_cases c5 : fok .add x3_1 t277 = true
          · rw [if_pos c5] at H
            have c5b0 : fok .add x3_1 t277 = true := c5
            clear c5
            replace H := Option.bind_eq_some_iff.mp H
            obtain ⟨t278, A60, H⟩ := H
            replace H : (bailiwickref15_Sum.l0 k1 l0 t278 (wrap64 (x4_1 + 1))) = some r := H
            have A6 := Aside0.mk A60
            clear A60
            have H' := Aside0.mk H
            clear H
            have p276 : 0 ≤ (x4_1 : Int) := of_decide_eq_true (by first | (with_reducible assumption) | assumption)
            have q276 : x4_1 < (l0.length : Int) := of_decide_eq_true (by first | (with_reducible assumption) | assumption)
            obtain ⟨ad276, e276, hx276_0⟩ := Kd.at_float HR0.out x4_1 p276 q276
            cases e276
            replace p276 := eq_true p276
            replace q276 := eq_true q276
            go_wp2_with (first | ((with_reducible refine gate_callee (f := 17) rfl ?_); refine goesL_ (some 16) rfl rfl Try.func17 (by kernel_rfl) rfl #[.float .f64 (rdOf (0 : Nat) l0 x4_1)] rfl (by (try simp only [List.map_toArray, List.map_cons, List.map_nil]); first | done | rfl | (simp only [List.length_drop, List.length_take]; rfl)) ?_; (with_reducible refine (bailiwickref15_Clean.calls (rdOf (0 : Nat) l0 x4_1) t277 _ A4.out).mono ?_); rintro e w' ⟨rfl, ⟨nd, rfl⟩⟩; refine ⟨_, rfl, ?_⟩) | ((with_reducible refine gate_callee (f := 17) rfl ?_); refine goesL_ (some 18) rfl rfl Try.func17 (by kernel_rfl) rfl #[.float .f64 (fop .add x3_1 t277)] rfl (by (try simp only [List.map_toArray, List.map_cons, List.map_nil]); first | done | rfl | (simp only [List.length_drop, List.length_take]; rfl)) ?_; (with_reducible refine (bailiwickref15_Clean.calls (fop .add x3_1 t277) t278 _ A6.out).mono ?_); rintro e w' ⟨rfl, ⟨nd, rfl⟩⟩; refine ⟨_, rfl, ?_⟩))
            go_roundg k1
            case measure => have := HK1.out; omega
            case rel => exact ⟨(t278), (wrap64 (x4_1 + 1)), (by first | rfl | (simp; done) | (simp [*]; done)), (by first | rfl | (simp; done) | (simp [*]; done)), H', ⟨by have := HK1.out; omega⟩, by repeat (first | exact Drawn0.refl _ | apply Drawn0.step)⟩
          · rw [if_neg c5] at H
            exact absurd H (by simp)
        · rw [if_neg c3] at H
          exact absurd H (by simp)
      · rw [if_neg c2] at H
        have c2b0 : decide (x4_1 < (l0.length : Int)) = false := decide_eq_false c2
        clear c2
        obtain rfl := Option.some.inj H
        go_wp2
        go_ret
        exact ⟨by first | rfl | (simp; done) | (simp [*]; done), by repeat (first | exact Drawn0.refl _ | apply Drawn0.step)⟩

end Go.Proofs.Ytemlhkognjhgbaa.PAll
