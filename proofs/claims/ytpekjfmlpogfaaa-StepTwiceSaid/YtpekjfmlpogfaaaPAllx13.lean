-- Written by wip/tools/hprint.py of this claim's session (a driver over the kit's print, with contracts proved by hand among them).
import Derived.Test.YtpekjfmlpogfaaaPAllx0
import Derived.Test.YtpekjfmlpogfaaaPAllx8
import Derived.Test.YtpekjfmlpogfaaaPAllx11
import Derived.Test.YtpekjfmlpogfaaaPAllx12
namespace Go.Proofs.Ytpekjfmlpogfaaa.PAll
open Go.RowKit Go.Proofs.YtpekjfmlpogfaaaW.PrintWords Go.Proofs.YtpekjfmlpogfaaaW.PrintLast Go.Proofs.YtpekjfmlpogfaaaW.PrintMore
attribute [local go_sem] max2_int min2_int max_two min_two max_three min_three max_four min_four   -- for this text's walks alone
set_option linter.unusedVariables false
set_option linter.unusedSimpArgs false

/-! ### bailiwicklaw03_StepTwice: function 3 -/
mutual
def bailiwicklaw03_StepTwice.j0 : Nat → List (S38) → Int → Int → Int → Int → Int → Bool → Option (Bool)
  | 0, _, _, _, _, _, _, _ => none
  | k + 1, x0, x1, x2, x3, x4, x5, x43 => if x43 = true then (some true) else ((step_Take.f k x0 x1 x3 x4).bind fun bt181 => ((step_Take.f k bt181.1 x1 x3 x5).bind fun bt185 => ((step_Take.f k x0 x1 x3 (wrap64 (x4 + x5))).bind fun bt189 => (if bt181.2 = 0 then (if bt185.2 = 0 then (if bt189.2 = 0 then ((bailiwickref03_Same.f k bt185.1 bt189.1).bind fun t193 => (bailiwicklaw03_StepTwice.j1 k x0 x1 x2 x3 x4 bt181.2 (!t193))) else (bailiwicklaw03_StepTwice.j1 k x0 x1 x2 x3 x4 bt181.2 true)) else (if bt189.2 = 0 then (bailiwicklaw03_StepTwice.j1 k x0 x1 x2 x3 x4 bt181.2 true) else (bailiwicklaw03_StepTwice.j1 k x0 x1 x2 x3 x4 bt181.2 false))) else (if bt189.2 = 0 then (bailiwicklaw03_StepTwice.j1 k x0 x1 x2 x3 x4 bt181.2 true) else (bailiwicklaw03_StepTwice.j1 k x0 x1 x2 x3 x4 bt181.2 false))))))
def bailiwicklaw03_StepTwice.j1 : Nat → List (S38) → Int → Int → Int → Int → Int → Bool → Option (Bool)
  | 0, _, _, _, _, _, _, _ => none
  | k + 1, x0, x1, x2, x3, x4, x14, x88 => if x88 = true then (some false) else (if x1 ≥ x2 then (bailiwicklaw03_StepTwice.j2 k x0 x1 x2 x3 x4 x14 true) else (bailiwicklaw03_StepTwice.j2 k x0 x1 x2 x3 x4 x14 (decide (x2 ≥ x3))))
def bailiwicklaw03_StepTwice.j2 : Nat → List (S38) → Int → Int → Int → Int → Int → Bool → Option (Bool)
  | 0, _, _, _, _, _, _, _ => none
  | k + 1, x0, x1, x2, x3, x4, x14, x96 => if x96 = true then (some true) else ((step_Take.f k x0 x1 x2 x4).bind fun bt194 => ((step_Take.f k bt194.1 x2 x3 x4).bind fun bt198 => (if bt194.2 = 0 then (if bt198.2 = 0 then (if x14 = 0 then ((bailiwicklaw03_take.f k x0 x1 x3 x4).bind fun t202 => ((bailiwickref03_Same.f k bt198.1 t202).bind fun t205 => (some t205))) else (some false)) else (if x14 = 0 then (some false) else (some true))) else (if x14 = 0 then (some false) else (some true)))))
end
def bailiwicklaw03_StepTwice.f (k : Nat) (l0 : List (S38)) (a1 : Int) (a2 : Int) (a3 : Int) (a4 : Int) (a5 : Int) : Option (Bool) := (bailiwicklaw03_awake.f k).bind fun t180 => (if t180 = true then (if (l0.length : Int) > 200 then (bailiwicklaw03_StepTwice.j0 k l0 a1 a2 a3 a4 a5 true) else (if a4 < 0 then (bailiwicklaw03_StepTwice.j0 k l0 a1 a2 a3 a4 a5 true) else (if a5 < 0 then (bailiwicklaw03_StepTwice.j0 k l0 a1 a2 a3 a4 a5 true) else (if a4 > 1048576 then (bailiwicklaw03_StepTwice.j0 k l0 a1 a2 a3 a4 a5 true) else (bailiwicklaw03_StepTwice.j0 k l0 a1 a2 a3 a4 a5 (decide (a5 > (wrap64 (1048576 - a4))))))))) else (some false))
theorem bailiwicklaw03_StepTwice.mono_l : ∀ k, (∀ y0 y1 y2 y3 y4 y5 y6, LeO (bailiwicklaw03_StepTwice.j0 k y0 y1 y2 y3 y4 y5 y6) (bailiwicklaw03_StepTwice.j0 (k + 1) y0 y1 y2 y3 y4 y5 y6)) ∧ (∀ y0 y1 y2 y3 y4 y5 y6, LeO (bailiwicklaw03_StepTwice.j1 k y0 y1 y2 y3 y4 y5 y6) (bailiwicklaw03_StepTwice.j1 (k + 1) y0 y1 y2 y3 y4 y5 y6)) ∧ (∀ y0 y1 y2 y3 y4 y5 y6, LeO (bailiwicklaw03_StepTwice.j2 k y0 y1 y2 y3 y4 y5 y6) (bailiwicklaw03_StepTwice.j2 (k + 1) y0 y1 y2 y3 y4 y5 y6))
  | 0 => ⟨fun _ _ _ _ _ _ _ r h => by simp [bailiwicklaw03_StepTwice.j0] at h, fun _ _ _ _ _ _ _ r h => by simp [bailiwicklaw03_StepTwice.j1] at h, fun _ _ _ _ _ _ _ r h => by simp [bailiwicklaw03_StepTwice.j2] at h⟩
  | k + 1 => by
    obtain ⟨ih0, ih1, ih2⟩ := bailiwicklaw03_StepTwice.mono_l k
    refine ⟨?_, ?_, ?_⟩
    · intro y0 y1 y2 y3 y4 y5 y6
      unfold bailiwicklaw03_StepTwice.j0
      repeat' first
      | (with_reducible exact ih0 _ _ _ _ _ _ _)
      | (with_reducible exact ih1 _ _ _ _ _ _ _)
      | (with_reducible exact ih2 _ _ _ _ _ _ _)
      | (with_reducible exact bailiwicklaw03_awake.mono _)
      | (with_reducible exact bailiwicklaw03_take.mono _ _ _ _ _)
      | (with_reducible exact bailiwickref03_Same.mono _ _ _)
      | (with_reducible exact step_Take.mono _ _ _ _ _)
      | (with_reducible exact LeO.refl _)
      | (with_reducible exact LeO.none _)
      | (with_reducible refine LeO.ite ?_ ?_)
      | (with_reducible refine LeO.bind ?_ (fun _ => ?_))
      | exact ih0 _ _ _ _ _ _ _
      | exact ih1 _ _ _ _ _ _ _
      | exact ih2 _ _ _ _ _ _ _
      | exact bailiwicklaw03_awake.mono _
      | exact bailiwicklaw03_take.mono _ _ _ _ _
      | exact bailiwickref03_Same.mono _ _ _
      | exact step_Take.mono _ _ _ _ _
      | exact LeO.none _
      | refine LeO.ite ?_ ?_
      | refine LeO.bind ?_ (fun _ => ?_)
    · intro y0 y1 y2 y3 y4 y5 y6
      unfold bailiwicklaw03_StepTwice.j1
      repeat' first
      | (with_reducible exact ih0 _ _ _ _ _ _ _)
      | (with_reducible exact ih1 _ _ _ _ _ _ _)
      | (with_reducible exact ih2 _ _ _ _ _ _ _)
      | (with_reducible exact bailiwicklaw03_awake.mono _)
      | (with_reducible exact bailiwicklaw03_take.mono _ _ _ _ _)
      | (with_reducible exact bailiwickref03_Same.mono _ _ _)
      | (with_reducible exact step_Take.mono _ _ _ _ _)
      | (with_reducible exact LeO.refl _)
      | (with_reducible exact LeO.none _)
      | (with_reducible refine LeO.ite ?_ ?_)
      | (with_reducible refine LeO.bind ?_ (fun _ => ?_))
      | exact ih0 _ _ _ _ _ _ _
      | exact ih1 _ _ _ _ _ _ _
      | exact ih2 _ _ _ _ _ _ _
      | exact bailiwicklaw03_awake.mono _
      | exact bailiwicklaw03_take.mono _ _ _ _ _
      | exact bailiwickref03_Same.mono _ _ _
      | exact step_Take.mono _ _ _ _ _
      | exact LeO.none _
      | refine LeO.ite ?_ ?_
      | refine LeO.bind ?_ (fun _ => ?_)
    · intro y0 y1 y2 y3 y4 y5 y6
      unfold bailiwicklaw03_StepTwice.j2
      repeat' first
      | (with_reducible exact ih0 _ _ _ _ _ _ _)
      | (with_reducible exact ih1 _ _ _ _ _ _ _)
      | (with_reducible exact ih2 _ _ _ _ _ _ _)
      | (with_reducible exact bailiwicklaw03_awake.mono _)
      | (with_reducible exact bailiwicklaw03_take.mono _ _ _ _ _)
      | (with_reducible exact bailiwickref03_Same.mono _ _ _)
      | (with_reducible exact step_Take.mono _ _ _ _ _)
      | (with_reducible exact LeO.refl _)
      | (with_reducible exact LeO.none _)
      | (with_reducible refine LeO.ite ?_ ?_)
      | (with_reducible refine LeO.bind ?_ (fun _ => ?_))
      | exact ih0 _ _ _ _ _ _ _
      | exact ih1 _ _ _ _ _ _ _
      | exact ih2 _ _ _ _ _ _ _
      | exact bailiwicklaw03_awake.mono _
      | exact bailiwicklaw03_take.mono _ _ _ _ _
      | exact bailiwickref03_Same.mono _ _ _
      | exact step_Take.mono _ _ _ _ _
      | exact LeO.none _
      | refine LeO.ite ?_ ?_
      | refine LeO.bind ?_ (fun _ => ?_)
theorem bailiwicklaw03_StepTwice.mono : ∀ a0 a1 a2 a3 a4 a5 k, LeO (bailiwicklaw03_StepTwice.f k a0 a1 a2 a3 a4 a5) (bailiwicklaw03_StepTwice.f (k + 1) a0 a1 a2 a3 a4 a5) := by
  intro a0 a1 a2 a3 a4 a5 k
  obtain ⟨ih0, ih1, ih2⟩ := bailiwicklaw03_StepTwice.mono_l k
  unfold bailiwicklaw03_StepTwice.f
  repeat' first
      | (with_reducible exact ih0 _ _ _ _ _ _ _)
      | (with_reducible exact ih1 _ _ _ _ _ _ _)
      | (with_reducible exact ih2 _ _ _ _ _ _ _)
      | (with_reducible exact bailiwicklaw03_awake.mono _)
      | (with_reducible exact bailiwicklaw03_take.mono _ _ _ _ _)
      | (with_reducible exact bailiwickref03_Same.mono _ _ _)
      | (with_reducible exact step_Take.mono _ _ _ _ _)
      | (with_reducible exact LeO.refl _)
      | (with_reducible exact LeO.none _)
      | (with_reducible refine LeO.ite ?_ ?_)
      | (with_reducible refine LeO.bind ?_ (fun _ => ?_))
      | exact ih0 _ _ _ _ _ _ _
      | exact ih1 _ _ _ _ _ _ _
      | exact ih2 _ _ _ _ _ _ _
      | exact bailiwicklaw03_awake.mono _
      | exact bailiwicklaw03_take.mono _ _ _ _ _
      | exact bailiwickref03_Same.mono _ _ _
      | exact step_Take.mono _ _ _ _ _
      | exact LeO.none _
      | refine LeO.ite ?_ ?_
      | refine LeO.bind ?_ (fun _ => ?_)
set_option maxHeartbeats 8000000 in
set_option maxRecDepth 100000 in
theorem bailiwicklaw03_StepTwice.calls (k : Nat) (A0 : Option Addr) (c0 : Nat) (l0 : List (S38)) (a1 : Int) (a2 : Int) (a3 : Int) (a4 : Int) (a5 : Int) (r : Bool) (w : World) (hr0 : Kd.C k38 w A0 l0.length l0) (hc0 : l0.length ≤ c0) (h : bailiwicklaw03_StepTwice.f k l0 a1 a2 a3 a4 a5 = some r) :
    Calls Try.prog 3 #[.slice A0 l0.length c0, .int .i64 a1, .int .i64 a2, .int .i64 a3, .int .i64 a4, .int .i64 a5] w fun e w' => e = .returned (.bool r) ∧ Below w.heap.size w w' := by
  have HR0 := Aside0.mk hr0
  have HC0 := Aside0.mk hc0
  clear hr0 hc0
  have HB := Aside0.mk (Below.refl w.heap.size w)
  have H : ((bailiwicklaw03_awake.f k).bind fun t180 => (if t180 = true then (if (l0.length : Int) > 200 then (bailiwicklaw03_StepTwice.j0 k l0 a1 a2 a3 a4 a5 true) else (if a4 < 0 then (bailiwicklaw03_StepTwice.j0 k l0 a1 a2 a3 a4 a5 true) else (if a5 < 0 then (bailiwicklaw03_StepTwice.j0 k l0 a1 a2 a3 a4 a5 true) else (if a4 > 1048576 then (bailiwicklaw03_StepTwice.j0 k l0 a1 a2 a3 a4 a5 true) else (bailiwicklaw03_StepTwice.j0 k l0 a1 a2 a3 a4 a5 (decide (a5 > (wrap64 (1048576 - a4))))))))) else (some false))) = some r := h
  clear h
  replace H := Option.bind_eq_some_iff.mp H
  obtain ⟨t180, A70, H⟩ := H
  replace H : (if t180 = true then (if (l0.length : Int) > 200 then (bailiwicklaw03_StepTwice.j0 k l0 a1 a2 a3 a4 a5 true) else (if a4 < 0 then (bailiwicklaw03_StepTwice.j0 k l0 a1 a2 a3 a4 a5 true) else (if a5 < 0 then (bailiwicklaw03_StepTwice.j0 k l0 a1 a2 a3 a4 a5 true) else (if a4 > 1048576 then (bailiwicklaw03_StepTwice.j0 k l0 a1 a2 a3 a4 a5 true) else (bailiwicklaw03_StepTwice.j0 k l0 a1 a2 a3 a4 a5 (decide (a5 > (wrap64 (1048576 - a4))))))))) else (some false)) = some r := H
  have A7 := Aside0.mk A70
  clear A70
  by_cases c8 : t180 = true
  · subst c8
    have H1 : (if (l0.length : Int) > 200 then (bailiwicklaw03_StepTwice.j0 k l0 a1 a2 a3 a4 a5 true) else (if a4 < 0 then (bailiwicklaw03_StepTwice.j0 k l0 a1 a2 a3 a4 a5 true) else (if a5 < 0 then (bailiwicklaw03_StepTwice.j0 k l0 a1 a2 a3 a4 a5 true) else (if a4 > 1048576 then (bailiwicklaw03_StepTwice.j0 k l0 a1 a2 a3 a4 a5 true) else (bailiwicklaw03_StepTwice.j0 k l0 a1 a2 a3 a4 a5 (decide (a5 > (wrap64 (1048576 - a4))))))))) = some r := by rw [if_pos rfl] at H; exact H
    clear H
    have H := H1
    clear H1
    have HC9 := Aside0.mk H
    clear H
    go_enter Try.func3, Try.ntmps3
    go_upto_region 3 with (first | ((with_reducible refine gate_callee (f := 7) rfl ?_); refine goesL_ (some 21) rfl rfl Try.func7 (by kernel_rfl) rfl #[] rfl (by (try simp only [List.map_toArray, List.map_cons, List.map_nil]); first | done | rfl | (simp only [List.length_drop, List.length_take]; rfl)) ?_; (with_reducible refine (bailiwicklaw03_awake.calls k  true _ A7.out).mono ?_); rintro e w10 ⟨rfl, hb⟩; refine ⟨_, rfl, ?_⟩; have n0_ := Aside0.mk (below_step (by repeat (first | (with_reducible first | exact HB.out | apply below_alloc | apply pw_below_drewN | apply below_drew1) | exact HB.out)) hb); clear HB; have HB := n0_; clear n0_; (try clear hb); (try clear hb2); (try clear hk); (try clear hi)))
    (try simp only [Act.put, List.setIfInBounds_toArray, List.set_cons_zero, List.set_cons_succ])
    go_cut [43] (fun v43 wc => ∃ (kq : Nat) (x43_8 : Bool), v43 = .bool x43_8 ∧ Aside0 (bailiwicklaw03_StepTwice.j0 kq l0 a1 a2 a3 a4 a5 x43_8 = some r) ∧ Aside0 (kq ≤ k) ∧ Aside0 (Below w.heap.size w wc))
    case first =>
      have H := HC9.out
      clear HC9
      by_cases c11 : (l0.length : Int) > 200
      · rw [if_pos c11] at H
        have c11b0 : decide (200 < (l0.length : Int)) = true := decide_eq_true c11
        have c11b1 : decide (200 < l0.length) = true := decide_eq_true (by omega)
        clear c11
        (first | rw [c11b0] | (simp only [i64_w, i32_w]; rw [c11b0]) | skip)
        have H' := Aside0.mk H
        clear H
        go_wp2
        go_meet
        case rel => exact ⟨_, (true), (by first | rfl | (simp; done) | (simp [*]; done)), H', ⟨by first | omega | exact Nat.le_refl _⟩, ⟨by repeat (first | (with_reducible first | exact HB.out | apply below_alloc | apply pw_below_drewN | apply below_drew1) | exact HB.out)⟩⟩
      · rw [if_neg c11] at H
        have c11b0 : decide (200 < (l0.length : Int)) = false := decide_eq_false c11
        have c11b1 : decide (200 < l0.length) = false := decide_eq_false (by omega)
        clear c11
        (first | rw [c11b0] | (simp only [i64_w, i32_w]; rw [c11b0]) | skip)
        by_cases c12 : a4 < 0
        · rw [if_pos c12] at H
          have c12b0 : decide (a4 < 0) = true := decide_eq_true c12
          clear c12
          have H' := Aside0.mk H
          clear H
          go_wp2
          go_meet
          case rel => exact ⟨_, (true), (by first | rfl | (simp; done) | (simp [*]; done)), H', ⟨by first | omega | exact Nat.le_refl _⟩, ⟨by repeat (first | (with_reducible first | exact HB.out | apply below_alloc | apply pw_below_drewN | apply below_drew1) | exact HB.out)⟩⟩
        · rw [if_neg c12] at H
          have c12b0 : decide (a4 < 0) = false := decide_eq_false c12
          clear c12
          by_cases c13 : a5 < 0
          · rw [if_pos c13] at H
            have c13b0 : decide (a5 < 0) = true := decide_eq_true c13
            clear c13
            have H' := Aside0.mk H
            clear H
            go_wp2
            go_meet
            case rel => exact ⟨_, (true), (by first | rfl | (simp; done) | (simp [*]; done)), H', ⟨by first | omega | exact Nat.le_refl _⟩, ⟨by repeat (first | (with_reducible first | exact HB.out | apply below_alloc | apply pw_below_drewN | apply below_drew1) | exact HB.out)⟩⟩
          · rw [if_neg c13] at H
            have c13b0 : decide (a5 < 0) = false := decide_eq_false c13
            clear c13
            by_cases c14 : a4 > 1048576
            · rw [if_pos c14] at H
              have c14b0 : decide (1048576 < a4) = true := decide_eq_true c14
              clear c14
              have H' := Aside0.mk H
              clear H
              go_wp2
              go_meet
              case rel => exact ⟨_, (true), (by first | rfl | (simp; done) | (simp [*]; done)), H', ⟨by first | omega | exact Nat.le_refl _⟩, ⟨by repeat (first | (with_reducible first | exact HB.out | apply below_alloc | apply pw_below_drewN | apply below_drew1) | exact HB.out)⟩⟩
            · rw [if_neg c14] at H
              have c14b0 : decide (1048576 < a4) = false := decide_eq_false c14
              clear c14
              have H' := Aside0.mk H
              clear H
              go_wp2
              go_meet
              case rel => exact ⟨_, (decide (a5 > (wrap64 (1048576 - a4)))), (by first | rfl | (simp; done) | (simp [*]; done)), H', ⟨by first | omega | exact Nat.le_refl _⟩, ⟨by repeat (first | (with_reducible first | exact HB.out | apply below_alloc | apply pw_below_drewN | apply below_drew1) | exact HB.out)⟩⟩
    case rest =>
      clear HC9
      try clear c1
      try clear p2
      try clear c3
      try clear p6
      try clear c7
      try clear c8
      try clear c11
      try clear c11b0
      try clear c11b1
      try clear c12
      try clear c12b0
      try clear c13
      try clear c13b0
      try clear c14
      try clear c14b0
      obtain ⟨kq, x43_8, rfl, HA, HJ8, HB⟩ := hcut
      cases kq with
      | zero => exact absurd HA.out (by simp [bailiwicklaw03_StepTwice.j0])
      | succ kj8 =>
        have H := HA.out
        clear HA
        simp only [bailiwicklaw03_StepTwice.j0] at H
        by_cases c15 : x43_8 = true
        · subst c15
          have H1 : (some true) = some r := by rw [if_pos rfl] at H; exact H
          clear H
          have H := H1
          clear H1
          obtain rfl := Option.some.inj H
          go_wp2
          go_ret
          exact ⟨by first | rfl | (simp [errW_none, errW_some] <;> rfl) | (simp [*, errW_none, errW_some] <;> rfl), by repeat (first | (with_reducible first | exact HB.out | apply below_alloc | apply pw_below_drewN | apply below_drew1) | exact HB.out)⟩
        · replace c15 := Bool.eq_false_iff.mpr c15
          subst c15
          have H1 : ((step_Take.f kj8 l0 a1 a3 a4).bind fun bt181 => ((step_Take.f kj8 bt181.1 a1 a3 a5).bind fun bt185 => ((step_Take.f kj8 l0 a1 a3 (wrap64 (a4 + a5))).bind fun bt189 => (if bt181.2 = 0 then (if bt185.2 = 0 then (if bt189.2 = 0 then ((bailiwickref03_Same.f kj8 bt185.1 bt189.1).bind fun t193 => (bailiwicklaw03_StepTwice.j1 kj8 l0 a1 a2 a3 a4 bt181.2 (!t193))) else (bailiwicklaw03_StepTwice.j1 kj8 l0 a1 a2 a3 a4 bt181.2 true)) else (if bt189.2 = 0 then (bailiwicklaw03_StepTwice.j1 kj8 l0 a1 a2 a3 a4 bt181.2 true) else (bailiwicklaw03_StepTwice.j1 kj8 l0 a1 a2 a3 a4 bt181.2 false))) else (if bt189.2 = 0 then (bailiwicklaw03_StepTwice.j1 kj8 l0 a1 a2 a3 a4 bt181.2 true) else (bailiwicklaw03_StepTwice.j1 kj8 l0 a1 a2 a3 a4 bt181.2 false)))))) = some r := by rw [if_neg (show ¬ (false = true) by decide)] at H; exact H
          clear H
          have H := H1
          clear H1
          replace H := Option.bind_eq_some_iff.mp H
          obtain ⟨⟨t181, t182⟩, A160, H⟩ := H
          replace H : ((step_Take.f kj8 t181 a1 a3 a5).bind fun bt185 => ((step_Take.f kj8 l0 a1 a3 (wrap64 (a4 + a5))).bind fun bt189 => (if t182 = 0 then (if bt185.2 = 0 then (if bt189.2 = 0 then ((bailiwickref03_Same.f kj8 bt185.1 bt189.1).bind fun t193 => (bailiwicklaw03_StepTwice.j1 kj8 l0 a1 a2 a3 a4 t182 (!t193))) else (bailiwicklaw03_StepTwice.j1 kj8 l0 a1 a2 a3 a4 t182 true)) else (if bt189.2 = 0 then (bailiwicklaw03_StepTwice.j1 kj8 l0 a1 a2 a3 a4 t182 true) else (bailiwicklaw03_StepTwice.j1 kj8 l0 a1 a2 a3 a4 t182 false))) else (if bt189.2 = 0 then (bailiwicklaw03_StepTwice.j1 kj8 l0 a1 a2 a3 a4 t182 true) else (bailiwicklaw03_StepTwice.j1 kj8 l0 a1 a2 a3 a4 t182 false))))) = some r := H
          have A16 := Aside0.mk A160
          clear A160
          replace H := Option.bind_eq_some_iff.mp H
          obtain ⟨⟨t185, t186⟩, A170, H⟩ := H
          replace H : ((step_Take.f kj8 l0 a1 a3 (wrap64 (a4 + a5))).bind fun bt189 => (if t182 = 0 then (if t186 = 0 then (if bt189.2 = 0 then ((bailiwickref03_Same.f kj8 t185 bt189.1).bind fun t193 => (bailiwicklaw03_StepTwice.j1 kj8 l0 a1 a2 a3 a4 t182 (!t193))) else (bailiwicklaw03_StepTwice.j1 kj8 l0 a1 a2 a3 a4 t182 true)) else (if bt189.2 = 0 then (bailiwicklaw03_StepTwice.j1 kj8 l0 a1 a2 a3 a4 t182 true) else (bailiwicklaw03_StepTwice.j1 kj8 l0 a1 a2 a3 a4 t182 false))) else (if bt189.2 = 0 then (bailiwicklaw03_StepTwice.j1 kj8 l0 a1 a2 a3 a4 t182 true) else (bailiwicklaw03_StepTwice.j1 kj8 l0 a1 a2 a3 a4 t182 false)))) = some r := H
          have A17 := Aside0.mk A170
          clear A170
          replace H := Option.bind_eq_some_iff.mp H
          obtain ⟨⟨t189, t190⟩, A180, H⟩ := H
          replace H : (if t182 = 0 then (if t186 = 0 then (if t190 = 0 then ((bailiwickref03_Same.f kj8 t185 t189).bind fun t193 => (bailiwicklaw03_StepTwice.j1 kj8 l0 a1 a2 a3 a4 t182 (!t193))) else (bailiwicklaw03_StepTwice.j1 kj8 l0 a1 a2 a3 a4 t182 true)) else (if t190 = 0 then (bailiwicklaw03_StepTwice.j1 kj8 l0 a1 a2 a3 a4 t182 true) else (bailiwicklaw03_StepTwice.j1 kj8 l0 a1 a2 a3 a4 t182 false))) else (if t190 = 0 then (bailiwicklaw03_StepTwice.j1 kj8 l0 a1 a2 a3 a4 t182 true) else (bailiwicklaw03_StepTwice.j1 kj8 l0 a1 a2 a3 a4 t182 false))) = some r := H
          have A18 := Aside0.mk A180
          clear A180
          have HC19 := Aside0.mk H
          clear H
          go_upto_region 8 with (first | ((with_reducible refine gate_callee (f := 8) rfl ?_); refine goesL_ (some 49) rfl rfl Try.func8 (by kernel_rfl) rfl #[.slice A0 l0.length c0, .int .i64 a1, .int .i64 a3, .int .i64 a4] rfl (by (try simp only [List.map_toArray, List.map_cons, List.map_nil]); first | done | rfl | (simp only [List.length_drop, List.length_take]; rfl)) ?_; (with_reducible refine (step_Take.calls kj8 _ _ l0 a1 a3 a4 t181 t182 _ ?side1 ?side2 A16.out).mono ?_); (case side1 => repeat (first | exact (Kd.C_below HR0.out HB.out) | (with_reducible refine Kd.C_alloc ?_ _) | (with_reducible refine Kd.C_drewN ?_ _) | (with_reducible refine Kd.C_drew ?_))); (case side2 => exact HC0.out); rintro e w20 ⟨v183, rfl, ho0, hb⟩; refine ⟨_, rfl, ?_⟩; have n0_ := Aside0.mk (Kd.R_lower ho0 (below_size (by repeat (first | (with_reducible first | exact HB.out | apply below_alloc | apply pw_below_drewN | apply below_drew1) | exact HB.out)))); have n1_ := Aside0.mk (below_step (by repeat (first | (with_reducible first | exact HB.out | apply below_alloc | apply pw_below_drewN | apply below_drew1) | exact HB.out)) hb); clear HB; have HO184 := n0_; have HB := n1_; clear n0_ n1_; (try clear hb); (try clear hb2); (try clear hk); (try clear hi); (try clear ho0); obtain ⟨Ao21, co21, eo21⟩ := Kd.R_slice HO184.out; subst eo21) | ((with_reducible refine gate_callee (f := 8) rfl ?_); refine goesL_ (some 57) rfl rfl Try.func8 (by kernel_rfl) rfl #[.slice Ao21 t181.length co21, .int .i64 a1, .int .i64 a3, .int .i64 a5] rfl (by (try simp only [List.map_toArray, List.map_cons, List.map_nil]); first | done | rfl | (simp only [List.length_drop, List.length_take]; rfl)) ?_; (with_reducible refine (step_Take.calls kj8 _ _ t181 a1 a3 a5 t185 t186 _ ?side1 ?side2 A17.out).mono ?_); (case side1 => repeat (first | exact (Kd.R_reads' HO184.out).2.2 | (with_reducible refine Kd.C_alloc ?_ _) | (with_reducible refine Kd.C_drewN ?_ _) | (with_reducible refine Kd.C_drew ?_))); (case side2 => exact (Kd.R_reads' HO184.out).2.1); rintro e w22 ⟨v187, rfl, ho0, hb⟩; refine ⟨_, rfl, ?_⟩; have n0_ := Aside0.mk (Kd.R_elder' (by (with_reducible repeat (first | apply Kd.R_alloc | apply Kd.R_drewN | apply Kd.R_drew)); exact HO184.out) (Kd.R_base ho0) hb); have n1_ := Aside0.mk (Kd.R_lower (Kd.R_new' ho0 (Kd.R_lt (by (with_reducible repeat (first | apply Kd.R_alloc | apply Kd.R_drewN | apply Kd.R_drew)); exact HO184.out))) (below_size (by repeat (first | (with_reducible first | exact HB.out | apply below_alloc | apply pw_below_drewN | apply below_drew1) | exact HB.out)))); have n2_ := Aside0.mk (below_step (by repeat (first | (with_reducible first | exact HB.out | apply below_alloc | apply pw_below_drewN | apply below_drew1) | exact HB.out)) hb); clear HO184; clear HB; have HO184 := n0_; have HO188 := n1_; have HB := n2_; clear n0_ n1_ n2_; (try clear hb); (try clear hb2); (try clear hk); (try clear hi); (try clear ho0)) | ((with_reducible refine gate_callee (f := 8) rfl ?_); refine goesL_ (some 67) rfl rfl Try.func8 (by kernel_rfl) rfl #[.slice A0 l0.length c0, .int .i64 a1, .int .i64 a3, .int .i64 (wrap64 (a4 + a5))] rfl (by (try simp only [List.map_toArray, List.map_cons, List.map_nil]); first | done | rfl | (simp only [List.length_drop, List.length_take]; rfl)) ?_; (with_reducible refine (step_Take.calls kj8 _ _ l0 a1 a3 (wrap64 (a4 + a5)) t189 t190 _ ?side1 ?side2 A18.out).mono ?_); (case side1 => repeat (first | exact (Kd.C_below HR0.out HB.out) | (with_reducible refine Kd.C_alloc ?_ _) | (with_reducible refine Kd.C_drewN ?_ _) | (with_reducible refine Kd.C_drew ?_))); (case side2 => exact HC0.out); rintro e w23 ⟨v191, rfl, ho0, hb⟩; refine ⟨_, rfl, ?_⟩; have n0_ := Aside0.mk (Kd.R_elder' (by (with_reducible repeat (first | apply Kd.R_alloc | apply Kd.R_drewN | apply Kd.R_drew)); exact HO184.out) (Kd.R_base ho0) hb); have n1_ := Aside0.mk (Kd.R_elder' (by (with_reducible repeat (first | apply Kd.R_alloc | apply Kd.R_drewN | apply Kd.R_drew)); exact HO188.out) (Kd.R_base ho0) hb); have n2_ := Aside0.mk (Kd.R_lower (Kd.R_new' (Kd.R_new' ho0 (Kd.R_lt (by (with_reducible repeat (first | apply Kd.R_alloc | apply Kd.R_drewN | apply Kd.R_drew)); exact HO184.out))) (Kd.R_lt (by (with_reducible repeat (first | apply Kd.R_alloc | apply Kd.R_drewN | apply Kd.R_drew)); exact HO188.out))) (below_size (by repeat (first | (with_reducible first | exact HB.out | apply below_alloc | apply pw_below_drewN | apply below_drew1) | exact HB.out)))); have n3_ := Aside0.mk (below_step (by repeat (first | (with_reducible first | exact HB.out | apply below_alloc | apply pw_below_drewN | apply below_drew1) | exact HB.out)) hb); clear HO184; clear HO188; clear HB; have HO184 := n0_; have HO188 := n1_; have HO192 := n2_; have HB := n3_; clear n0_ n1_ n2_ n3_; (try clear hb); (try clear hb2); (try clear hk); (try clear hi); (try clear ho0)))
          (try simp only [Act.put, List.setIfInBounds_toArray, List.set_cons_zero, List.set_cons_succ])
          go_cut [88] (fun v88 wc => ∃ (kq : Nat) (x88_18 : Bool), v88 = .bool x88_18 ∧ Aside0 (bailiwicklaw03_StepTwice.j1 kq l0 a1 a2 a3 a4 t182 x88_18 = some r) ∧ Aside0 (kq ≤ kj8) ∧ Aside0 (Below w.heap.size w wc))
          case first =>
            have H := HC19.out
            clear HC19
            by_cases c24 : t182 = 0
            · rw [if_pos c24] at H
              have c24b0 : (t182 == 0) = true := beq_iff_eq.mpr c24
              have c24b1 : (t182 != 0) = false := bne_eq_false_iff_eq.mpr c24
              clear c24
              (first | rw [c24b0] | (simp only [i64_w, i32_w]; rw [c24b0]) | skip)
              by_cases c25 : t186 = 0
              · rw [if_pos c25] at H
                have c25b0 : (t186 == 0) = true := beq_iff_eq.mpr c25
                have c25b1 : (t186 != 0) = false := bne_eq_false_iff_eq.mpr c25
                clear c25
                by_cases c26 : t190 = 0
                · rw [if_pos c26] at H
                  have c26b0 : (t190 == 0) = true := beq_iff_eq.mpr c26
                  have c26b1 : (t190 != 0) = false := bne_eq_false_iff_eq.mpr c26
                  clear c26
                  replace H := Option.bind_eq_some_iff.mp H
                  obtain ⟨t193, A270, H⟩ := H
                  replace H : (bailiwicklaw03_StepTwice.j1 kj8 l0 a1 a2 a3 a4 t182 (!t193)) = some r := H
                  have A27 := Aside0.mk A270
                  clear A270
                  have H' := Aside0.mk H
                  clear H
                  obtain ⟨Ao28, co28, eo28⟩ := Kd.R_slice HO188.out
                  subst eo28
                  obtain ⟨Ao29, co29, eo29⟩ := Kd.R_slice HO192.out
                  subst eo29
                  go_wp2_with (first | (go_at_call 9; (with_reducible refine (bailiwickref03_Same.calls kj8 _ _ t185 _ _ t189 t193 _ ?side1 ?side2 ?side3 ?side4 A27.out).mono ?_); (case side1 => repeat (first | exact (Kd.R_reads' HO188.out).2.2 | (with_reducible refine Kd.C_alloc ?_ _) | (with_reducible refine Kd.C_drewN ?_ _) | (with_reducible refine Kd.C_drew ?_))); (case side2 => exact (Kd.R_reads' HO188.out).2.1); (case side3 => repeat (first | exact (Kd.R_reads' HO192.out).2.2 | (with_reducible refine Kd.C_alloc ?_ _) | (with_reducible refine Kd.C_drewN ?_ _) | (with_reducible refine Kd.C_drew ?_))); (case side4 => exact (Kd.R_reads' HO192.out).2.1); rintro e w' ⟨rfl, ⟨nd, rfl⟩⟩))
                  go_meet
                  case rel => exact ⟨_, (!t193), (by first | rfl | (simp; done) | (simp [*]; done)), H', ⟨by have := HJ8.out; first | omega | exact Nat.le_refl _⟩, ⟨by repeat (first | (with_reducible first | exact HB.out | apply below_alloc | apply pw_below_drewN | apply below_drew1) | exact HB.out)⟩⟩
                · rw [if_neg c26] at H
                  have c26b0 : (t190 == 0) = false := beq_eq_false_iff_ne.mpr c26
                  have c26b1 : (t190 != 0) = true := bne_iff_ne.mpr c26
                  have H' := Aside0.mk H
                  clear H
                  go_wp2
                  go_meet
                  case rel => exact ⟨_, (true), (by first | rfl | (simp; done) | (simp [*]; done)), H', ⟨by have := HJ8.out; first | omega | exact Nat.le_refl _⟩, ⟨by repeat (first | (with_reducible first | exact HB.out | apply below_alloc | apply pw_below_drewN | apply below_drew1) | exact HB.out)⟩⟩
              · rw [if_neg c25] at H
                have c25b0 : (t186 == 0) = false := beq_eq_false_iff_ne.mpr c25
                have c25b1 : (t186 != 0) = true := bne_iff_ne.mpr c25
                by_cases c30 : t190 = 0
                · rw [if_pos c30] at H
                  have c30b0 : (t190 == 0) = true := beq_iff_eq.mpr c30
                  have c30b1 : (t190 != 0) = false := bne_eq_false_iff_eq.mpr c30
                  clear c30
                  have H' := Aside0.mk H
                  clear H
                  go_wp2
                  go_meet
                  case rel => exact ⟨_, (true), (by first | rfl | (simp; done) | (simp [*]; done)), H', ⟨by have := HJ8.out; first | omega | exact Nat.le_refl _⟩, ⟨by repeat (first | (with_reducible first | exact HB.out | apply below_alloc | apply pw_below_drewN | apply below_drew1) | exact HB.out)⟩⟩
                · rw [if_neg c30] at H
                  have c30b0 : (t190 == 0) = false := beq_eq_false_iff_ne.mpr c30
                  have c30b1 : (t190 != 0) = true := bne_iff_ne.mpr c30
                  have H' := Aside0.mk H
                  clear H
                  go_wp2
                  go_meet
                  case rel => exact ⟨_, (false), (by first | rfl | (simp; done) | (simp [*]; done)), H', ⟨by have := HJ8.out; first | omega | exact Nat.le_refl _⟩, ⟨by repeat (first | (with_reducible first | exact HB.out | apply below_alloc | apply pw_below_drewN | apply below_drew1) | exact HB.out)⟩⟩
            · rw [if_neg c24] at H
              have c24b0 : (t182 == 0) = false := beq_eq_false_iff_ne.mpr c24
              have c24b1 : (t182 != 0) = true := bne_iff_ne.mpr c24
              (first | rw [c24b0] | (simp only [i64_w, i32_w]; rw [c24b0]) | skip)
              by_cases c31 : t190 = 0
              · rw [if_pos c31] at H
                have c31b0 : (t190 == 0) = true := beq_iff_eq.mpr c31
                have c31b1 : (t190 != 0) = false := bne_eq_false_iff_eq.mpr c31
                clear c31
                have H' := Aside0.mk H
                clear H
                go_wp2
                go_meet
                case rel => exact ⟨_, (true), (by first | rfl | (simp; done) | (simp [*]; done)), H', ⟨by have := HJ8.out; first | omega | exact Nat.le_refl _⟩, ⟨by repeat (first | (with_reducible first | exact HB.out | apply below_alloc | apply pw_below_drewN | apply below_drew1) | exact HB.out)⟩⟩
              · rw [if_neg c31] at H
                have c31b0 : (t190 == 0) = false := beq_eq_false_iff_ne.mpr c31
                have c31b1 : (t190 != 0) = true := bne_iff_ne.mpr c31
                have H' := Aside0.mk H
                clear H
                go_wp2
                go_meet
                case rel => exact ⟨_, (false), (by first | rfl | (simp; done) | (simp [*]; done)), H', ⟨by have := HJ8.out; first | omega | exact Nat.le_refl _⟩, ⟨by repeat (first | (with_reducible first | exact HB.out | apply below_alloc | apply pw_below_drewN | apply below_drew1) | exact HB.out)⟩⟩
          case rest =>
            clear HC19
            try clear c1
            try clear c2
            try clear p2
            try clear c3
            try clear p6
            try clear c7
            try clear c8
            try clear c11
            try clear c11b0
            try clear c11b1
            try clear c12
            try clear c12b0
            try clear c13
            try clear c13b0
            try clear c14
            try clear c14b0
            try clear c15
            try clear c24
            try clear c24b0
            try clear c24b1
            try clear c25
            try clear c25b0
            try clear c25b1
            try clear c26
            try clear c26b0
            try clear c26b1
            try clear c30
            try clear c30b0
            try clear c30b1
            try clear c31
            try clear c31b0
            try clear c31b1
            try clear p2
            try clear p6
            obtain ⟨kq, x88_18, rfl, HA, HJ18, HB⟩ := hcut
            cases kq with
            | zero => exact absurd HA.out (by simp [bailiwicklaw03_StepTwice.j1])
            | succ kj18 =>
              have H := HA.out
              clear HA
              simp only [bailiwicklaw03_StepTwice.j1] at H
              by_cases c32 : x88_18 = true
              · subst c32
                have H1 : (some false) = some r := by rw [if_pos rfl] at H; exact H
                clear H
                have H := H1
                clear H1
                obtain rfl := Option.some.inj H
                go_wp2
                go_ret
                exact ⟨by first | rfl | (simp [errW_none, errW_some] <;> rfl) | (simp [*, errW_none, errW_some] <;> rfl), by repeat (first | (with_reducible first | exact HB.out | apply below_alloc | apply pw_below_drewN | apply below_drew1) | exact HB.out)⟩
              · replace c32 := Bool.eq_false_iff.mpr c32
                subst c32
                have H1 : (if a1 ≥ a2 then (bailiwicklaw03_StepTwice.j2 kj18 l0 a1 a2 a3 a4 t182 true) else (bailiwicklaw03_StepTwice.j2 kj18 l0 a1 a2 a3 a4 t182 (decide (a2 ≥ a3)))) = some r := by rw [if_neg (show ¬ (false = true) by decide)] at H; exact H
                clear H
                have H := H1
                clear H1
                have HC33 := Aside0.mk H
                clear H
                go_upto_region 10 with (fail)
                go_cut [96] (fun v96 wc => ∃ (kq : Nat) (x96_32 : Bool), v96 = .bool x96_32 ∧ Aside0 (bailiwicklaw03_StepTwice.j2 kq l0 a1 a2 a3 a4 t182 x96_32 = some r) ∧ Aside0 (kq ≤ kj18) ∧ Aside0 (Below w.heap.size w wc))
                case first =>
                  have H := HC33.out
                  clear HC33
                  by_cases c34 : a1 ≥ a2
                  · rw [if_pos c34] at H
                    have c34b0 : decide (a2 ≤ a1) = true := decide_eq_true c34
                    clear c34
                    (first | rw [c34b0] | (simp only [i64_w, i32_w]; rw [c34b0]) | skip)
                    have H' := Aside0.mk H
                    clear H
                    go_wp2
                    go_meet
                    case rel => exact ⟨_, (true), (by first | rfl | (simp; done) | (simp [*]; done)), H', ⟨by have := HJ8.out; have := HJ18.out; first | omega | exact Nat.le_refl _⟩, ⟨by repeat (first | (with_reducible first | exact HB.out | apply below_alloc | apply pw_below_drewN | apply below_drew1) | exact HB.out)⟩⟩
                  · rw [if_neg c34] at H
                    have c34b0 : decide (a2 ≤ a1) = false := decide_eq_false c34
                    clear c34
                    (first | rw [c34b0] | (simp only [i64_w, i32_w]; rw [c34b0]) | skip)
                    have H' := Aside0.mk H
                    clear H
                    go_wp2
                    go_meet
                    case rel => exact ⟨_, (decide (a2 ≥ a3)), (by first | rfl | (simp; done) | (simp [*]; done)), H', ⟨by have := HJ8.out; have := HJ18.out; first | omega | exact Nat.le_refl _⟩, ⟨by repeat (first | (with_reducible first | exact HB.out | apply below_alloc | apply pw_below_drewN | apply below_drew1) | exact HB.out)⟩⟩
                case rest =>
                  clear HC33
                  try clear c1
                  try clear c2
                  try clear p2
                  try clear c3
                  try clear p6
                  try clear c7
                  try clear c8
                  try clear c11
                  try clear c11b0
                  try clear c11b1
                  try clear c12
                  try clear c12b0
                  try clear c13
                  try clear c13b0
                  try clear c14
                  try clear c14b0
                  try clear c15
                  try clear c24
                  try clear c24b0
                  try clear c24b1
                  try clear c25
                  try clear c25b0
                  try clear c25b1
                  try clear c26
                  try clear c26b0
                  try clear c26b1
                  try clear c30
                  try clear c30b0
                  try clear c30b1
                  try clear c31
                  try clear c31b0
                  try clear c31b1
                  try clear c32
                  try clear c34
                  try clear c34b0
                  try clear p2
                  try clear p6
                  obtain ⟨kq, x96_32, rfl, HA, HJ32, HB⟩ := hcut
                  cases kq with
                  | zero => exact absurd HA.out (by simp [bailiwicklaw03_StepTwice.j2])
                  | succ kj32 =>
                    have H := HA.out
                    clear HA
                    simp only [bailiwicklaw03_StepTwice.j2] at H
                    by_cases c35 : x96_32 = true
                    · subst c35
                      have H1 : (some true) = some r := by rw [if_pos rfl] at H; exact H
                      clear H
                      have H := H1
                      clear H1
                      obtain rfl := Option.some.inj H
                      go_wp2
                      go_ret
                      exact ⟨by first | rfl | (simp [errW_none, errW_some] <;> rfl) | (simp [*, errW_none, errW_some] <;> rfl), by repeat (first | (with_reducible first | exact HB.out | apply below_alloc | apply pw_below_drewN | apply below_drew1) | exact HB.out)⟩
                    · replace c35 := Bool.eq_false_iff.mpr c35
                      subst c35
                      have H1 : ((step_Take.f kj32 l0 a1 a2 a4).bind fun bt194 => ((step_Take.f kj32 bt194.1 a2 a3 a4).bind fun bt198 => (if bt194.2 = 0 then (if bt198.2 = 0 then (if t182 = 0 then ((bailiwicklaw03_take.f kj32 l0 a1 a3 a4).bind fun t202 => ((bailiwickref03_Same.f kj32 bt198.1 t202).bind fun t205 => (some t205))) else (some false)) else (if t182 = 0 then (some false) else (some true))) else (if t182 = 0 then (some false) else (some true))))) = some r := by rw [if_neg (show ¬ (false = true) by decide)] at H; exact H
                      clear H
                      have H := H1
                      clear H1
                      replace H := Option.bind_eq_some_iff.mp H
                      obtain ⟨⟨t194, t195⟩, A360, H⟩ := H
                      replace H : ((step_Take.f kj32 t194 a2 a3 a4).bind fun bt198 => (if t195 = 0 then (if bt198.2 = 0 then (if t182 = 0 then ((bailiwicklaw03_take.f kj32 l0 a1 a3 a4).bind fun t202 => ((bailiwickref03_Same.f kj32 bt198.1 t202).bind fun t205 => (some t205))) else (some false)) else (if t182 = 0 then (some false) else (some true))) else (if t182 = 0 then (some false) else (some true)))) = some r := H
                      have A36 := Aside0.mk A360
                      clear A360
                      replace H := Option.bind_eq_some_iff.mp H
                      obtain ⟨⟨t198, t199⟩, A370, H⟩ := H
                      replace H : (if t195 = 0 then (if t199 = 0 then (if t182 = 0 then ((bailiwicklaw03_take.f kj32 l0 a1 a3 a4).bind fun t202 => ((bailiwickref03_Same.f kj32 t198 t202).bind fun t205 => (some t205))) else (some false)) else (if t182 = 0 then (some false) else (some true))) else (if t182 = 0 then (some false) else (some true))) = some r := H
                      have A37 := Aside0.mk A370
                      clear A370
                      by_cases c38 : t195 = 0
                      · rw [if_pos c38] at H
                        have c38b0 : (t195 == 0) = true := beq_iff_eq.mpr c38
                        have c38b1 : (t195 != 0) = false := bne_eq_false_iff_eq.mpr c38
                        clear c38
                        by_cases c39 : t199 = 0
                        · rw [if_pos c39] at H
                          have c39b0 : (t199 == 0) = true := beq_iff_eq.mpr c39
                          have c39b1 : (t199 != 0) = false := bne_eq_false_iff_eq.mpr c39
                          clear c39
                          by_cases c40 : t182 = 0
                          · rw [if_pos c40] at H
                            have c40b0 : (t182 == 0) = true := beq_iff_eq.mpr c40
                            have c40b1 : (t182 != 0) = false := bne_eq_false_iff_eq.mpr c40
                            clear c40
                            replace H := Option.bind_eq_some_iff.mp H
                            obtain ⟨t202, A410, H⟩ := H
                            replace H : ((bailiwickref03_Same.f kj32 t198 t202).bind fun t205 => (some t205)) = some r := H
                            have A41 := Aside0.mk A410
                            clear A410
                            replace H := Option.bind_eq_some_iff.mp H
                            obtain ⟨t205, A420, H⟩ := H
                            replace H : (some t205) = some r := H
                            have A42 := Aside0.mk A420
                            clear A420
                            obtain rfl := Option.some.inj H
                            go_wp2_with (first | ((with_reducible refine gate_callee (f := 8) rfl ?_); refine goesL_ (some 102) rfl rfl Try.func8 (by kernel_rfl) rfl #[.slice A0 l0.length c0, .int .i64 a1, .int .i64 a2, .int .i64 a4] rfl (by (try simp only [List.map_toArray, List.map_cons, List.map_nil]); first | done | rfl | (simp only [List.length_drop, List.length_take]; rfl)) ?_; (with_reducible refine (step_Take.calls kj32 _ _ l0 a1 a2 a4 t194 t195 _ ?side1 ?side2 A36.out).mono ?_); (case side1 => repeat (first | exact (Kd.C_below HR0.out HB.out) | (with_reducible refine Kd.C_alloc ?_ _) | (with_reducible refine Kd.C_drewN ?_ _) | (with_reducible refine Kd.C_drew ?_))); (case side2 => exact HC0.out); rintro e w43 ⟨v196, rfl, ho0, hb⟩; refine ⟨_, rfl, ?_⟩; have n0_ := Aside0.mk (Kd.R_lower ho0 (below_size (by repeat (first | (with_reducible first | exact HB.out | apply below_alloc | apply pw_below_drewN | apply below_drew1) | exact HB.out)))); have n1_ := Aside0.mk (below_step (by repeat (first | (with_reducible first | exact HB.out | apply below_alloc | apply pw_below_drewN | apply below_drew1) | exact HB.out)) hb); clear HB; have HO197 := n0_; have HB := n1_; clear n0_ n1_; (try clear hb); (try clear hb2); (try clear hk); (try clear hi); (try clear ho0); obtain ⟨Ao44, co44, eo44⟩ := Kd.R_slice HO197.out; subst eo44) | ((with_reducible refine gate_callee (f := 8) rfl ?_); refine goesL_ (some 110) rfl rfl Try.func8 (by kernel_rfl) rfl #[.slice Ao44 t194.length co44, .int .i64 a2, .int .i64 a3, .int .i64 a4] rfl (by (try simp only [List.map_toArray, List.map_cons, List.map_nil]); first | done | rfl | (simp only [List.length_drop, List.length_take]; rfl)) ?_; (with_reducible refine (step_Take.calls kj32 _ _ t194 a2 a3 a4 t198 t199 _ ?side1 ?side2 A37.out).mono ?_); (case side1 => repeat (first | exact (Kd.R_reads' HO197.out).2.2 | (with_reducible refine Kd.C_alloc ?_ _) | (with_reducible refine Kd.C_drewN ?_ _) | (with_reducible refine Kd.C_drew ?_))); (case side2 => exact (Kd.R_reads' HO197.out).2.1); rintro e w45 ⟨v200, rfl, ho0, hb⟩; refine ⟨_, rfl, ?_⟩; have n0_ := Aside0.mk (Kd.R_elder' (by (with_reducible repeat (first | apply Kd.R_alloc | apply Kd.R_drewN | apply Kd.R_drew)); exact HO197.out) (Kd.R_base ho0) hb); have n1_ := Aside0.mk (Kd.R_lower (Kd.R_new' ho0 (Kd.R_lt (by (with_reducible repeat (first | apply Kd.R_alloc | apply Kd.R_drewN | apply Kd.R_drew)); exact HO197.out))) (below_size (by repeat (first | (with_reducible first | exact HB.out | apply below_alloc | apply pw_below_drewN | apply below_drew1) | exact HB.out)))); have n2_ := Aside0.mk (below_step (by repeat (first | (with_reducible first | exact HB.out | apply below_alloc | apply pw_below_drewN | apply below_drew1) | exact HB.out)) hb); clear HO197; clear HB; have HO197 := n0_; have HO201 := n1_; have HB := n2_; clear n0_ n1_ n2_; (try clear hb); (try clear hb2); (try clear hk); (try clear hi); (try clear ho0)) | (go_at_call 10; (with_reducible refine (bailiwicklaw03_take.calls kj32 _ _ l0 a1 a3 a4 t202 _ ?side1 ?side2 A41.out).mono ?_); (case side1 => repeat (first | exact (Kd.C_below HR0.out HB.out) | (with_reducible refine Kd.C_alloc ?_ _) | (with_reducible refine Kd.C_drewN ?_ _) | (with_reducible refine Kd.C_drew ?_))); (case side2 => exact HC0.out); rintro e w46 ⟨v203, rfl, ho0, hb⟩; have n0_ := Aside0.mk (Kd.R_elder' (by (with_reducible repeat (first | apply Kd.R_alloc | apply Kd.R_drewN | apply Kd.R_drew)); exact HO197.out) (Kd.R_base ho0) hb); have n1_ := Aside0.mk (Kd.R_elder' (by (with_reducible repeat (first | apply Kd.R_alloc | apply Kd.R_drewN | apply Kd.R_drew)); exact HO201.out) (Kd.R_base ho0) hb); have n2_ := Aside0.mk (Kd.R_lower (Kd.R_new' (Kd.R_new' ho0 (Kd.R_lt (by (with_reducible repeat (first | apply Kd.R_alloc | apply Kd.R_drewN | apply Kd.R_drew)); exact HO197.out))) (Kd.R_lt (by (with_reducible repeat (first | apply Kd.R_alloc | apply Kd.R_drewN | apply Kd.R_drew)); exact HO201.out))) (below_size (by repeat (first | (with_reducible first | exact HB.out | apply below_alloc | apply pw_below_drewN | apply below_drew1) | exact HB.out)))); have n3_ := Aside0.mk (below_step (by repeat (first | (with_reducible first | exact HB.out | apply below_alloc | apply pw_below_drewN | apply below_drew1) | exact HB.out)) hb); clear HO197; clear HO201; clear HB; have HO197 := n0_; have HO201 := n1_; have HO204 := n2_; have HB := n3_; clear n0_ n1_ n2_ n3_; (try clear hb); (try clear hb2); (try clear hk); (try clear hi); (try clear ho0); obtain ⟨Ao47, co47, eo47⟩ := Kd.R_slice HO201.out; subst eo47; obtain ⟨Ao48, co48, eo48⟩ := Kd.R_slice HO204.out; subst eo48) | (go_at_call 9; (with_reducible refine (bailiwickref03_Same.calls kj32 _ _ t198 _ _ t202 t205 _ ?side1 ?side2 ?side3 ?side4 A42.out).mono ?_); (case side1 => repeat (first | exact (Kd.R_reads' HO201.out).2.2 | (with_reducible refine Kd.C_alloc ?_ _) | (with_reducible refine Kd.C_drewN ?_ _) | (with_reducible refine Kd.C_drew ?_))); (case side2 => exact (Kd.R_reads' HO201.out).2.1); (case side3 => repeat (first | exact (Kd.R_reads' HO204.out).2.2 | (with_reducible refine Kd.C_alloc ?_ _) | (with_reducible refine Kd.C_drewN ?_ _) | (with_reducible refine Kd.C_drew ?_))); (case side4 => exact (Kd.R_reads' HO204.out).2.1); rintro e w' ⟨rfl, ⟨nd, rfl⟩⟩))
                            go_ret
                            exact ⟨by first | rfl | (simp [errW_none, errW_some] <;> rfl) | (simp [*, errW_none, errW_some] <;> rfl), by repeat (first | (with_reducible first | exact HB.out | apply below_alloc | apply pw_below_drewN | apply below_drew1) | exact HB.out)⟩
                          · rw [if_neg c40] at H
                            have c40b0 : (t182 == 0) = false := beq_eq_false_iff_ne.mpr c40
                            have c40b1 : (t182 != 0) = true := bne_iff_ne.mpr c40
                            obtain rfl := Option.some.inj H
                            go_wp2_with (first | ((with_reducible refine gate_callee (f := 8) rfl ?_); refine goesL_ (some 102) rfl rfl Try.func8 (by kernel_rfl) rfl #[.slice A0 l0.length c0, .int .i64 a1, .int .i64 a2, .int .i64 a4] rfl (by (try simp only [List.map_toArray, List.map_cons, List.map_nil]); first | done | rfl | (simp only [List.length_drop, List.length_take]; rfl)) ?_; (with_reducible refine (step_Take.calls kj32 _ _ l0 a1 a2 a4 t194 t195 _ ?side1 ?side2 A36.out).mono ?_); (case side1 => repeat (first | exact (Kd.C_below HR0.out HB.out) | (with_reducible refine Kd.C_alloc ?_ _) | (with_reducible refine Kd.C_drewN ?_ _) | (with_reducible refine Kd.C_drew ?_))); (case side2 => exact HC0.out); rintro e w49 ⟨v196, rfl, ho0, hb⟩; refine ⟨_, rfl, ?_⟩; have n0_ := Aside0.mk (Kd.R_lower ho0 (below_size (by repeat (first | (with_reducible first | exact HB.out | apply below_alloc | apply pw_below_drewN | apply below_drew1) | exact HB.out)))); have n1_ := Aside0.mk (below_step (by repeat (first | (with_reducible first | exact HB.out | apply below_alloc | apply pw_below_drewN | apply below_drew1) | exact HB.out)) hb); clear HB; have HO197 := n0_; have HB := n1_; clear n0_ n1_; (try clear hb); (try clear hb2); (try clear hk); (try clear hi); (try clear ho0); obtain ⟨Ao50, co50, eo50⟩ := Kd.R_slice HO197.out; subst eo50) | ((with_reducible refine gate_callee (f := 8) rfl ?_); refine goesL_ (some 110) rfl rfl Try.func8 (by kernel_rfl) rfl #[.slice Ao50 t194.length co50, .int .i64 a2, .int .i64 a3, .int .i64 a4] rfl (by (try simp only [List.map_toArray, List.map_cons, List.map_nil]); first | done | rfl | (simp only [List.length_drop, List.length_take]; rfl)) ?_; (with_reducible refine (step_Take.calls kj32 _ _ t194 a2 a3 a4 t198 t199 _ ?side1 ?side2 A37.out).mono ?_); (case side1 => repeat (first | exact (Kd.R_reads' HO197.out).2.2 | (with_reducible refine Kd.C_alloc ?_ _) | (with_reducible refine Kd.C_drewN ?_ _) | (with_reducible refine Kd.C_drew ?_))); (case side2 => exact (Kd.R_reads' HO197.out).2.1); rintro e w51 ⟨v200, rfl, ho0, hb⟩; refine ⟨_, rfl, ?_⟩; have n0_ := Aside0.mk (Kd.R_elder' (by (with_reducible repeat (first | apply Kd.R_alloc | apply Kd.R_drewN | apply Kd.R_drew)); exact HO197.out) (Kd.R_base ho0) hb); have n1_ := Aside0.mk (Kd.R_lower (Kd.R_new' ho0 (Kd.R_lt (by (with_reducible repeat (first | apply Kd.R_alloc | apply Kd.R_drewN | apply Kd.R_drew)); exact HO197.out))) (below_size (by repeat (first | (with_reducible first | exact HB.out | apply below_alloc | apply pw_below_drewN | apply below_drew1) | exact HB.out)))); have n2_ := Aside0.mk (below_step (by repeat (first | (with_reducible first | exact HB.out | apply below_alloc | apply pw_below_drewN | apply below_drew1) | exact HB.out)) hb); clear HO197; clear HB; have HO197 := n0_; have HO201 := n1_; have HB := n2_; clear n0_ n1_ n2_; (try clear hb); (try clear hb2); (try clear hk); (try clear hi); (try clear ho0)))
                            go_ret
                            exact ⟨by first | rfl | (simp [errW_none, errW_some] <;> rfl) | (simp [*, errW_none, errW_some] <;> rfl), by repeat (first | (with_reducible first | exact HB.out | apply below_alloc | apply pw_below_drewN | apply below_drew1) | exact HB.out)⟩
                        · rw [if_neg c39] at H
                          have c39b0 : (t199 == 0) = false := beq_eq_false_iff_ne.mpr c39
                          have c39b1 : (t199 != 0) = true := bne_iff_ne.mpr c39
                          by_cases c52 : t182 = 0
                          · rw [if_pos c52] at H
                            have c52b0 : (t182 == 0) = true := beq_iff_eq.mpr c52
                            have c52b1 : (t182 != 0) = false := bne_eq_false_iff_eq.mpr c52
                            clear c52
                            obtain rfl := Option.some.inj H
                            go_wp2_with (first | ((with_reducible refine gate_callee (f := 8) rfl ?_); refine goesL_ (some 102) rfl rfl Try.func8 (by kernel_rfl) rfl #[.slice A0 l0.length c0, .int .i64 a1, .int .i64 a2, .int .i64 a4] rfl (by (try simp only [List.map_toArray, List.map_cons, List.map_nil]); first | done | rfl | (simp only [List.length_drop, List.length_take]; rfl)) ?_; (with_reducible refine (step_Take.calls kj32 _ _ l0 a1 a2 a4 t194 t195 _ ?side1 ?side2 A36.out).mono ?_); (case side1 => repeat (first | exact (Kd.C_below HR0.out HB.out) | (with_reducible refine Kd.C_alloc ?_ _) | (with_reducible refine Kd.C_drewN ?_ _) | (with_reducible refine Kd.C_drew ?_))); (case side2 => exact HC0.out); rintro e w53 ⟨v196, rfl, ho0, hb⟩; refine ⟨_, rfl, ?_⟩; have n0_ := Aside0.mk (Kd.R_lower ho0 (below_size (by repeat (first | (with_reducible first | exact HB.out | apply below_alloc | apply pw_below_drewN | apply below_drew1) | exact HB.out)))); have n1_ := Aside0.mk (below_step (by repeat (first | (with_reducible first | exact HB.out | apply below_alloc | apply pw_below_drewN | apply below_drew1) | exact HB.out)) hb); clear HB; have HO197 := n0_; have HB := n1_; clear n0_ n1_; (try clear hb); (try clear hb2); (try clear hk); (try clear hi); (try clear ho0); obtain ⟨Ao54, co54, eo54⟩ := Kd.R_slice HO197.out; subst eo54) | ((with_reducible refine gate_callee (f := 8) rfl ?_); refine goesL_ (some 110) rfl rfl Try.func8 (by kernel_rfl) rfl #[.slice Ao54 t194.length co54, .int .i64 a2, .int .i64 a3, .int .i64 a4] rfl (by (try simp only [List.map_toArray, List.map_cons, List.map_nil]); first | done | rfl | (simp only [List.length_drop, List.length_take]; rfl)) ?_; (with_reducible refine (step_Take.calls kj32 _ _ t194 a2 a3 a4 t198 t199 _ ?side1 ?side2 A37.out).mono ?_); (case side1 => repeat (first | exact (Kd.R_reads' HO197.out).2.2 | (with_reducible refine Kd.C_alloc ?_ _) | (with_reducible refine Kd.C_drewN ?_ _) | (with_reducible refine Kd.C_drew ?_))); (case side2 => exact (Kd.R_reads' HO197.out).2.1); rintro e w55 ⟨v200, rfl, ho0, hb⟩; refine ⟨_, rfl, ?_⟩; have n0_ := Aside0.mk (Kd.R_elder' (by (with_reducible repeat (first | apply Kd.R_alloc | apply Kd.R_drewN | apply Kd.R_drew)); exact HO197.out) (Kd.R_base ho0) hb); have n1_ := Aside0.mk (Kd.R_lower (Kd.R_new' ho0 (Kd.R_lt (by (with_reducible repeat (first | apply Kd.R_alloc | apply Kd.R_drewN | apply Kd.R_drew)); exact HO197.out))) (below_size (by repeat (first | (with_reducible first | exact HB.out | apply below_alloc | apply pw_below_drewN | apply below_drew1) | exact HB.out)))); have n2_ := Aside0.mk (below_step (by repeat (first | (with_reducible first | exact HB.out | apply below_alloc | apply pw_below_drewN | apply below_drew1) | exact HB.out)) hb); clear HO197; clear HB; have HO197 := n0_; have HO201 := n1_; have HB := n2_; clear n0_ n1_ n2_; (try clear hb); (try clear hb2); (try clear hk); (try clear hi); (try clear ho0)))
                            go_ret
                            exact ⟨by first | rfl | (simp [errW_none, errW_some] <;> rfl) | (simp [*, errW_none, errW_some] <;> rfl), by repeat (first | (with_reducible first | exact HB.out | apply below_alloc | apply pw_below_drewN | apply below_drew1) | exact HB.out)⟩
                          · rw [if_neg c52] at H
                            have c52b0 : (t182 == 0) = false := beq_eq_false_iff_ne.mpr c52
                            have c52b1 : (t182 != 0) = true := bne_iff_ne.mpr c52
                            obtain rfl := Option.some.inj H
                            go_wp2_with (first | ((with_reducible refine gate_callee (f := 8) rfl ?_); refine goesL_ (some 102) rfl rfl Try.func8 (by kernel_rfl) rfl #[.slice A0 l0.length c0, .int .i64 a1, .int .i64 a2, .int .i64 a4] rfl (by (try simp only [List.map_toArray, List.map_cons, List.map_nil]); first | done | rfl | (simp only [List.length_drop, List.length_take]; rfl)) ?_; (with_reducible refine (step_Take.calls kj32 _ _ l0 a1 a2 a4 t194 t195 _ ?side1 ?side2 A36.out).mono ?_); (case side1 => repeat (first | exact (Kd.C_below HR0.out HB.out) | (with_reducible refine Kd.C_alloc ?_ _) | (with_reducible refine Kd.C_drewN ?_ _) | (with_reducible refine Kd.C_drew ?_))); (case side2 => exact HC0.out); rintro e w56 ⟨v196, rfl, ho0, hb⟩; refine ⟨_, rfl, ?_⟩; have n0_ := Aside0.mk (Kd.R_lower ho0 (below_size (by repeat (first | (with_reducible first | exact HB.out | apply below_alloc | apply pw_below_drewN | apply below_drew1) | exact HB.out)))); have n1_ := Aside0.mk (below_step (by repeat (first | (with_reducible first | exact HB.out | apply below_alloc | apply pw_below_drewN | apply below_drew1) | exact HB.out)) hb); clear HB; have HO197 := n0_; have HB := n1_; clear n0_ n1_; (try clear hb); (try clear hb2); (try clear hk); (try clear hi); (try clear ho0); obtain ⟨Ao57, co57, eo57⟩ := Kd.R_slice HO197.out; subst eo57) | ((with_reducible refine gate_callee (f := 8) rfl ?_); refine goesL_ (some 110) rfl rfl Try.func8 (by kernel_rfl) rfl #[.slice Ao57 t194.length co57, .int .i64 a2, .int .i64 a3, .int .i64 a4] rfl (by (try simp only [List.map_toArray, List.map_cons, List.map_nil]); first | done | rfl | (simp only [List.length_drop, List.length_take]; rfl)) ?_; (with_reducible refine (step_Take.calls kj32 _ _ t194 a2 a3 a4 t198 t199 _ ?side1 ?side2 A37.out).mono ?_); (case side1 => repeat (first | exact (Kd.R_reads' HO197.out).2.2 | (with_reducible refine Kd.C_alloc ?_ _) | (with_reducible refine Kd.C_drewN ?_ _) | (with_reducible refine Kd.C_drew ?_))); (case side2 => exact (Kd.R_reads' HO197.out).2.1); rintro e w58 ⟨v200, rfl, ho0, hb⟩; refine ⟨_, rfl, ?_⟩; have n0_ := Aside0.mk (Kd.R_elder' (by (with_reducible repeat (first | apply Kd.R_alloc | apply Kd.R_drewN | apply Kd.R_drew)); exact HO197.out) (Kd.R_base ho0) hb); have n1_ := Aside0.mk (Kd.R_lower (Kd.R_new' ho0 (Kd.R_lt (by (with_reducible repeat (first | apply Kd.R_alloc | apply Kd.R_drewN | apply Kd.R_drew)); exact HO197.out))) (below_size (by repeat (first | (with_reducible first | exact HB.out | apply below_alloc | apply pw_below_drewN | apply below_drew1) | exact HB.out)))); have n2_ := Aside0.mk (below_step (by repeat (first | (with_reducible first | exact HB.out | apply below_alloc | apply pw_below_drewN | apply below_drew1) | exact HB.out)) hb); clear HO197; clear HB; have HO197 := n0_; have HO201 := n1_; have HB := n2_; clear n0_ n1_ n2_; (try clear hb); (try clear hb2); (try clear hk); (try clear hi); (try clear ho0)))
                            go_ret
                            exact ⟨by first | rfl | (simp [errW_none, errW_some] <;> rfl) | (simp [*, errW_none, errW_some] <;> rfl), by repeat (first | (with_reducible first | exact HB.out | apply below_alloc | apply pw_below_drewN | apply below_drew1) | exact HB.out)⟩
                      · rw [if_neg c38] at H
                        have c38b0 : (t195 == 0) = false := beq_eq_false_iff_ne.mpr c38
                        have c38b1 : (t195 != 0) = true := bne_iff_ne.mpr c38
                        by_cases c59 : t182 = 0
                        · rw [if_pos c59] at H
                          have c59b0 : (t182 == 0) = true := beq_iff_eq.mpr c59
                          have c59b1 : (t182 != 0) = false := bne_eq_false_iff_eq.mpr c59
                          clear c59
                          obtain rfl := Option.some.inj H
                          go_wp2_with (first | ((with_reducible refine gate_callee (f := 8) rfl ?_); refine goesL_ (some 102) rfl rfl Try.func8 (by kernel_rfl) rfl #[.slice A0 l0.length c0, .int .i64 a1, .int .i64 a2, .int .i64 a4] rfl (by (try simp only [List.map_toArray, List.map_cons, List.map_nil]); first | done | rfl | (simp only [List.length_drop, List.length_take]; rfl)) ?_; (with_reducible refine (step_Take.calls kj32 _ _ l0 a1 a2 a4 t194 t195 _ ?side1 ?side2 A36.out).mono ?_); (case side1 => repeat (first | exact (Kd.C_below HR0.out HB.out) | (with_reducible refine Kd.C_alloc ?_ _) | (with_reducible refine Kd.C_drewN ?_ _) | (with_reducible refine Kd.C_drew ?_))); (case side2 => exact HC0.out); rintro e w60 ⟨v196, rfl, ho0, hb⟩; refine ⟨_, rfl, ?_⟩; have n0_ := Aside0.mk (Kd.R_lower ho0 (below_size (by repeat (first | (with_reducible first | exact HB.out | apply below_alloc | apply pw_below_drewN | apply below_drew1) | exact HB.out)))); have n1_ := Aside0.mk (below_step (by repeat (first | (with_reducible first | exact HB.out | apply below_alloc | apply pw_below_drewN | apply below_drew1) | exact HB.out)) hb); clear HB; have HO197 := n0_; have HB := n1_; clear n0_ n1_; (try clear hb); (try clear hb2); (try clear hk); (try clear hi); (try clear ho0); obtain ⟨Ao61, co61, eo61⟩ := Kd.R_slice HO197.out; subst eo61) | ((with_reducible refine gate_callee (f := 8) rfl ?_); refine goesL_ (some 110) rfl rfl Try.func8 (by kernel_rfl) rfl #[.slice Ao61 t194.length co61, .int .i64 a2, .int .i64 a3, .int .i64 a4] rfl (by (try simp only [List.map_toArray, List.map_cons, List.map_nil]); first | done | rfl | (simp only [List.length_drop, List.length_take]; rfl)) ?_; (with_reducible refine (step_Take.calls kj32 _ _ t194 a2 a3 a4 t198 t199 _ ?side1 ?side2 A37.out).mono ?_); (case side1 => repeat (first | exact (Kd.R_reads' HO197.out).2.2 | (with_reducible refine Kd.C_alloc ?_ _) | (with_reducible refine Kd.C_drewN ?_ _) | (with_reducible refine Kd.C_drew ?_))); (case side2 => exact (Kd.R_reads' HO197.out).2.1); rintro e w62 ⟨v200, rfl, ho0, hb⟩; refine ⟨_, rfl, ?_⟩; have n0_ := Aside0.mk (Kd.R_elder' (by (with_reducible repeat (first | apply Kd.R_alloc | apply Kd.R_drewN | apply Kd.R_drew)); exact HO197.out) (Kd.R_base ho0) hb); have n1_ := Aside0.mk (Kd.R_lower (Kd.R_new' ho0 (Kd.R_lt (by (with_reducible repeat (first | apply Kd.R_alloc | apply Kd.R_drewN | apply Kd.R_drew)); exact HO197.out))) (below_size (by repeat (first | (with_reducible first | exact HB.out | apply below_alloc | apply pw_below_drewN | apply below_drew1) | exact HB.out)))); have n2_ := Aside0.mk (below_step (by repeat (first | (with_reducible first | exact HB.out | apply below_alloc | apply pw_below_drewN | apply below_drew1) | exact HB.out)) hb); clear HO197; clear HB; have HO197 := n0_; have HO201 := n1_; have HB := n2_; clear n0_ n1_ n2_; (try clear hb); (try clear hb2); (try clear hk); (try clear hi); (try clear ho0)))
                          go_ret
                          exact ⟨by first | rfl | (simp [errW_none, errW_some] <;> rfl) | (simp [*, errW_none, errW_some] <;> rfl), by repeat (first | (with_reducible first | exact HB.out | apply below_alloc | apply pw_below_drewN | apply below_drew1) | exact HB.out)⟩
                        · rw [if_neg c59] at H
                          have c59b0 : (t182 == 0) = false := beq_eq_false_iff_ne.mpr c59
                          have c59b1 : (t182 != 0) = true := bne_iff_ne.mpr c59
                          obtain rfl := Option.some.inj H
                          go_wp2_with (first | ((with_reducible refine gate_callee (f := 8) rfl ?_); refine goesL_ (some 102) rfl rfl Try.func8 (by kernel_rfl) rfl #[.slice A0 l0.length c0, .int .i64 a1, .int .i64 a2, .int .i64 a4] rfl (by (try simp only [List.map_toArray, List.map_cons, List.map_nil]); first | done | rfl | (simp only [List.length_drop, List.length_take]; rfl)) ?_; (with_reducible refine (step_Take.calls kj32 _ _ l0 a1 a2 a4 t194 t195 _ ?side1 ?side2 A36.out).mono ?_); (case side1 => repeat (first | exact (Kd.C_below HR0.out HB.out) | (with_reducible refine Kd.C_alloc ?_ _) | (with_reducible refine Kd.C_drewN ?_ _) | (with_reducible refine Kd.C_drew ?_))); (case side2 => exact HC0.out); rintro e w63 ⟨v196, rfl, ho0, hb⟩; refine ⟨_, rfl, ?_⟩; have n0_ := Aside0.mk (Kd.R_lower ho0 (below_size (by repeat (first | (with_reducible first | exact HB.out | apply below_alloc | apply pw_below_drewN | apply below_drew1) | exact HB.out)))); have n1_ := Aside0.mk (below_step (by repeat (first | (with_reducible first | exact HB.out | apply below_alloc | apply pw_below_drewN | apply below_drew1) | exact HB.out)) hb); clear HB; have HO197 := n0_; have HB := n1_; clear n0_ n1_; (try clear hb); (try clear hb2); (try clear hk); (try clear hi); (try clear ho0); obtain ⟨Ao64, co64, eo64⟩ := Kd.R_slice HO197.out; subst eo64) | ((with_reducible refine gate_callee (f := 8) rfl ?_); refine goesL_ (some 110) rfl rfl Try.func8 (by kernel_rfl) rfl #[.slice Ao64 t194.length co64, .int .i64 a2, .int .i64 a3, .int .i64 a4] rfl (by (try simp only [List.map_toArray, List.map_cons, List.map_nil]); first | done | rfl | (simp only [List.length_drop, List.length_take]; rfl)) ?_; (with_reducible refine (step_Take.calls kj32 _ _ t194 a2 a3 a4 t198 t199 _ ?side1 ?side2 A37.out).mono ?_); (case side1 => repeat (first | exact (Kd.R_reads' HO197.out).2.2 | (with_reducible refine Kd.C_alloc ?_ _) | (with_reducible refine Kd.C_drewN ?_ _) | (with_reducible refine Kd.C_drew ?_))); (case side2 => exact (Kd.R_reads' HO197.out).2.1); rintro e w65 ⟨v200, rfl, ho0, hb⟩; refine ⟨_, rfl, ?_⟩; have n0_ := Aside0.mk (Kd.R_elder' (by (with_reducible repeat (first | apply Kd.R_alloc | apply Kd.R_drewN | apply Kd.R_drew)); exact HO197.out) (Kd.R_base ho0) hb); have n1_ := Aside0.mk (Kd.R_lower (Kd.R_new' ho0 (Kd.R_lt (by (with_reducible repeat (first | apply Kd.R_alloc | apply Kd.R_drewN | apply Kd.R_drew)); exact HO197.out))) (below_size (by repeat (first | (with_reducible first | exact HB.out | apply below_alloc | apply pw_below_drewN | apply below_drew1) | exact HB.out)))); have n2_ := Aside0.mk (below_step (by repeat (first | (with_reducible first | exact HB.out | apply below_alloc | apply pw_below_drewN | apply below_drew1) | exact HB.out)) hb); clear HO197; clear HB; have HO197 := n0_; have HO201 := n1_; have HB := n2_; clear n0_ n1_ n2_; (try clear hb); (try clear hb2); (try clear hk); (try clear hi); (try clear ho0)))
                          go_ret
                          exact ⟨by first | rfl | (simp [errW_none, errW_some] <;> rfl) | (simp [*, errW_none, errW_some] <;> rfl), by repeat (first | (with_reducible first | exact HB.out | apply below_alloc | apply pw_below_drewN | apply below_drew1) | exact HB.out)⟩
  · replace c8 := Bool.eq_false_iff.mpr c8
    subst c8
    have H1 : (some false) = some r := by rw [if_neg (show ¬ (false = true) by decide)] at H; exact H
    clear H
    have H := H1
    clear H1
    obtain rfl := Option.some.inj H
    go_enter Try.func3, Try.ntmps3
    go_wp2_with (first | ((with_reducible refine gate_callee (f := 7) rfl ?_); refine goesL_ (some 21) rfl rfl Try.func7 (by kernel_rfl) rfl #[] rfl (by (try simp only [List.map_toArray, List.map_cons, List.map_nil]); first | done | rfl | (simp only [List.length_drop, List.length_take]; rfl)) ?_; (with_reducible refine (bailiwicklaw03_awake.calls k  false _ A7.out).mono ?_); rintro e w66 ⟨rfl, hb⟩; refine ⟨_, rfl, ?_⟩; have n0_ := Aside0.mk (below_step (by repeat (first | (with_reducible first | exact HB.out | apply below_alloc | apply pw_below_drewN | apply below_drew1) | exact HB.out)) hb); clear HB; have HB := n0_; clear n0_; (try clear hb); (try clear hb2); (try clear hk); (try clear hi)))
    go_ret
    exact ⟨by first | rfl | (simp [errW_none, errW_some] <;> rfl) | (simp [*, errW_none, errW_some] <;> rfl), by repeat (first | (with_reducible first | exact HB.out | apply below_alloc | apply pw_below_drewN | apply below_drew1) | exact HB.out)⟩

end Go.Proofs.Ytpekjfmlpogfaaa.PAll
