-- Written by wip/tools/hprint.py of this claim's session (a driver over the kit's print, with contracts proved by hand among them).
import Derived.Test.YtpekjfmlpogfaaaPAllx0
import Derived.Test.YtpekjfmlpogfaaaPAllx1
import Derived.Test.YtpekjfmlpogfaaaPAllx8
import Derived.Test.YtpekjfmlpogfaaaPAllx9
import Derived.Test.YtpekjfmlpogfaaaPAllx10
namespace Go.Proofs.Ytpekjfmlpogfaaa.PAll
open Go.RowKit Go.Proofs.YtpekjfmlpogfaaaW.PrintWords Go.Proofs.YtpekjfmlpogfaaaW.PrintLast Go.Proofs.YtpekjfmlpogfaaaW.PrintMore
attribute [local go_sem] max2_int min2_int max_two min_two max_three min_three max_four min_four   -- for this text's walks alone
set_option linter.unusedVariables false
set_option linter.unusedSimpArgs false

attribute [local go_sem high] eqA38
/-! ### bailiwicklaw03_awake: function 7 -/
def bailiwicklaw03_awake.f (k : Nat)  : Option (Bool) := (step_New.f 4).bind fun bt161 => ((step_Take.f k bt161.1 2 5 3).bind fun bt165 => ((step_First.f k bt165.1 1 2 3).bind fun bt169 => ((step_Least.f k bt165.1 0 3).bind fun bt171 => (if bt161.2 = 0 then (if bt165.2 = 0 then (if (bt165.1.length : Int) = 3 then (if bt169.2 = true then (if bt169.1 = 5 then (if bt171.1 = 1 then (if bt171.2 = 0 then ((step_At.f k bt165.1 5).bind fun t173 => (some (t173 == 4))) else (none)) else (none)) else (none)) else (none)) else (none)) else (none)) else (none)))))
theorem bailiwicklaw03_awake.mono : ∀ k, LeO (bailiwicklaw03_awake.f k ) (bailiwicklaw03_awake.f (k + 1) ) := by
  intro  k
  unfold bailiwicklaw03_awake.f
  repeat' first
      | (with_reducible exact step_At.mono _ _ _)
      | (with_reducible exact step_First.mono _ _ _ _ _)
      | (with_reducible exact step_Least.mono _ _ _ _)
      | (with_reducible exact step_Take.mono _ _ _ _ _)
      | (with_reducible exact LeO.refl _)
      | (with_reducible exact LeO.none _)
      | (with_reducible refine LeO.ite ?_ ?_)
      | (with_reducible refine LeO.bind ?_ (fun _ => ?_))
      | exact step_At.mono _ _ _
      | exact step_First.mono _ _ _ _ _
      | exact step_Least.mono _ _ _ _
      | exact step_Take.mono _ _ _ _ _
      | exact LeO.none _
      | refine LeO.ite ?_ ?_
      | refine LeO.bind ?_ (fun _ => ?_)
set_option maxHeartbeats 8000000 in
set_option maxRecDepth 100000 in
theorem bailiwicklaw03_awake.calls (k : Nat)  (r : Bool) (w : World) (h : bailiwicklaw03_awake.f k  = some r) :
    Calls Try.prog 7 #[] w fun e w' => e = .returned (.bool r) ∧ Below w.heap.size w w' := by
  have HB := Aside0.mk (Below.refl w.heap.size w)
  have H : ((step_New.f 4).bind fun bt161 => ((step_Take.f k bt161.1 2 5 3).bind fun bt165 => ((step_First.f k bt165.1 1 2 3).bind fun bt169 => ((step_Least.f k bt165.1 0 3).bind fun bt171 => (if bt161.2 = 0 then (if bt165.2 = 0 then (if (bt165.1.length : Int) = 3 then (if bt169.2 = true then (if bt169.1 = 5 then (if bt171.1 = 1 then (if bt171.2 = 0 then ((step_At.f k bt165.1 5).bind fun t173 => (some (t173 == 4))) else (none)) else (none)) else (none)) else (none)) else (none)) else (none)) else (none)))))) = some r := h
  clear h
  replace H := Option.bind_eq_some_iff.mp H
  obtain ⟨⟨t161, t162⟩, A10, H⟩ := H
  replace H : ((step_Take.f k t161 2 5 3).bind fun bt165 => ((step_First.f k bt165.1 1 2 3).bind fun bt169 => ((step_Least.f k bt165.1 0 3).bind fun bt171 => (if t162 = 0 then (if bt165.2 = 0 then (if (bt165.1.length : Int) = 3 then (if bt169.2 = true then (if bt169.1 = 5 then (if bt171.1 = 1 then (if bt171.2 = 0 then ((step_At.f k bt165.1 5).bind fun t173 => (some (t173 == 4))) else (none)) else (none)) else (none)) else (none)) else (none)) else (none)) else (none))))) = some r := H
  have A1 := Aside0.mk A10
  clear A10
  replace H := Option.bind_eq_some_iff.mp H
  obtain ⟨⟨t165, t166⟩, A20, H⟩ := H
  replace H : ((step_First.f k t165 1 2 3).bind fun bt169 => ((step_Least.f k t165 0 3).bind fun bt171 => (if t162 = 0 then (if t166 = 0 then (if (t165.length : Int) = 3 then (if bt169.2 = true then (if bt169.1 = 5 then (if bt171.1 = 1 then (if bt171.2 = 0 then ((step_At.f k t165 5).bind fun t173 => (some (t173 == 4))) else (none)) else (none)) else (none)) else (none)) else (none)) else (none)) else (none)))) = some r := H
  have A2 := Aside0.mk A20
  clear A20
  replace H := Option.bind_eq_some_iff.mp H
  obtain ⟨⟨t169, t170⟩, A30, H⟩ := H
  replace H : ((step_Least.f k t165 0 3).bind fun bt171 => (if t162 = 0 then (if t166 = 0 then (if (t165.length : Int) = 3 then (if t170 = true then (if t169 = 5 then (if bt171.1 = 1 then (if bt171.2 = 0 then ((step_At.f k t165 5).bind fun t173 => (some (t173 == 4))) else (none)) else (none)) else (none)) else (none)) else (none)) else (none)) else (none))) = some r := H
  have A3 := Aside0.mk A30
  clear A30
  replace H := Option.bind_eq_some_iff.mp H
  obtain ⟨⟨t171, t172⟩, A40, H⟩ := H
  replace H : (if t162 = 0 then (if t166 = 0 then (if (t165.length : Int) = 3 then (if t170 = true then (if t169 = 5 then (if t171 = 1 then (if t172 = 0 then ((step_At.f k t165 5).bind fun t173 => (some (t173 == 4))) else (none)) else (none)) else (none)) else (none)) else (none)) else (none)) else (none)) = some r := H
  have A4 := Aside0.mk A40
  clear A40
  by_cases c5 : t162 = 0
  rotate_left
  · rw [if_neg c5] at H
    exact absurd H (by simp)
  rw [if_pos c5] at H
  have c5b0 : (t162 == 0) = true := beq_iff_eq.mpr c5
  have c5b1 : (t162 != 0) = false := bne_eq_false_iff_eq.mpr c5
  clear c5
  by_cases c6 : t166 = 0
  rotate_left
  · rw [if_neg c6] at H
    exact absurd H (by simp)
  rw [if_pos c6] at H
  have c6b0 : (t166 == 0) = true := beq_iff_eq.mpr c6
  have c6b1 : (t166 != 0) = false := bne_eq_false_iff_eq.mpr c6
  clear c6
  by_cases c7 : (t165.length : Int) = 3
  rotate_left
  · rw [if_neg c7] at H
    exact absurd H (by simp)
  rw [if_pos c7] at H
  have c7b0 : ((t165.length : Int) == 3) = true := beq_iff_eq.mpr c7
  have c7b1 : ((t165.length : Int) != 3) = false := bne_eq_false_iff_eq.mpr c7
  clear c7
  by_cases c8 : t170 = true
  rotate_left
  · replace c8 := Bool.eq_false_iff.mpr c8
    subst c8
    have H1 : (none) = some r := by rw [if_neg (show ¬ (false = true) by decide)] at H; exact H
    clear H
    have H := H1
    clear H1
    exact absurd H (by simp)
  subst c8
  have H1 : (if t169 = 5 then (if t171 = 1 then (if t172 = 0 then ((step_At.f k t165 5).bind fun t173 => (some (t173 == 4))) else (none)) else (none)) else (none)) = some r := by rw [if_pos rfl] at H; exact H
  clear H
  have H := H1
  clear H1
  by_cases c9 : t169 = 5
  rotate_left
  · rw [if_neg c9] at H
    exact absurd H (by simp)
  rw [if_pos c9] at H
  have c9b0 : (t169 == 5) = true := beq_iff_eq.mpr c9
  have c9b1 : (t169 != 5) = false := bne_eq_false_iff_eq.mpr c9
  clear c9
  by_cases c10 : t171 = 1
  rotate_left
  · rw [if_neg c10] at H
    exact absurd H (by simp)
  rw [if_pos c10] at H
  have c10b0 : (t171 == 1) = true := beq_iff_eq.mpr c10
  have c10b1 : (t171 != 1) = false := bne_eq_false_iff_eq.mpr c10
  clear c10
  by_cases c11 : t172 = 0
  rotate_left
  · rw [if_neg c11] at H
    exact absurd H (by simp)
  rw [if_pos c11] at H
  have c11b0 : (t172 == 0) = true := beq_iff_eq.mpr c11
  have c11b1 : (t172 != 0) = false := bne_eq_false_iff_eq.mpr c11
  clear c11
  replace H := Option.bind_eq_some_iff.mp H
  obtain ⟨t173, A120, H⟩ := H
  replace H : (some (t173 == 4)) = some r := H
  have A12 := Aside0.mk A120
  clear A120
  obtain rfl := Option.some.inj H
  go_enter Try.func7, Try.ntmps7
  go_wp2_with (first | ((with_reducible refine gate_callee (f := 17) rfl ?_); refine goesL_ (some 9) rfl rfl Try.func17 (by kernel_rfl) rfl #[.int .i64 4] rfl (by (try simp only [List.map_toArray, List.map_cons, List.map_nil]); first | done | rfl) ?_; (with_reducible refine (step_New.calls 4 t161 t162 _ A1.out).mono ?_); rintro e w13 ⟨v163, rfl, ho0, hb⟩; refine ⟨_, rfl, ?_⟩; have n0_ := Aside0.mk (Kd.R_lower ho0 (below_size (by repeat (first | (with_reducible first | exact HB.out | apply below_alloc | apply pw_below_drewN | apply below_drew1) | exact HB.out)))); have n1_ := Aside0.mk (below_step (by repeat (first | (with_reducible first | exact HB.out | apply below_alloc | apply pw_below_drewN | apply below_drew1) | exact HB.out)) hb); clear HB; have HO164 := n0_; have HB := n1_; clear n0_ n1_; (try clear hb); (try clear hb2); (try clear hk); (try clear hi); (try clear ho0); obtain ⟨Ao14, co14, eo14⟩ := Kd.R_slice HO164.out; subst eo14) | ((with_reducible refine gate_callee (f := 8) rfl ?_); refine goesL_ (some 14) rfl rfl Try.func8 (by kernel_rfl) rfl #[.slice Ao14 t161.length co14, .int .i64 2, .int .i64 5, .int .i64 3] rfl (by (try simp only [List.map_toArray, List.map_cons, List.map_nil]); first | done | rfl) ?_; (with_reducible refine (step_Take.calls k _ _ t161 2 5 3 t165 t166 _ ?side1 ?side2 A2.out).mono ?_); (case side1 => repeat (first | exact (Kd.R_reads' HO164.out).2.2 | (with_reducible refine Kd.C_alloc ?_ _) | (with_reducible refine Kd.C_drewN ?_ _) | (with_reducible refine Kd.C_drew ?_))); (case side2 => exact (Kd.R_reads' HO164.out).2.1); rintro e w15 ⟨v167, rfl, ho0, hb⟩; refine ⟨_, rfl, ?_⟩; have n0_ := Aside0.mk (Kd.R_elder' (by (with_reducible repeat (first | apply Kd.R_alloc | apply Kd.R_drewN | apply Kd.R_drew)); exact HO164.out) (Kd.R_base ho0) hb); have n1_ := Aside0.mk (Kd.R_lower (Kd.R_new' ho0 (Kd.R_lt (by (with_reducible repeat (first | apply Kd.R_alloc | apply Kd.R_drewN | apply Kd.R_drew)); exact HO164.out))) (below_size (by repeat (first | (with_reducible first | exact HB.out | apply below_alloc | apply pw_below_drewN | apply below_drew1) | exact HB.out)))); have n2_ := Aside0.mk (below_step (by repeat (first | (with_reducible first | exact HB.out | apply below_alloc | apply pw_below_drewN | apply below_drew1) | exact HB.out)) hb); clear HO164; clear HB; have HO164 := n0_; have HO168 := n1_; have HB := n2_; clear n0_ n1_ n2_; (try clear hb); (try clear hb2); (try clear hk); (try clear hi); (try clear ho0); obtain ⟨Ao16, co16, eo16⟩ := Kd.R_slice HO168.out; subst eo16) | ((with_reducible refine gate_callee (f := 25) rfl ?_); refine goesL_ (some 19) rfl rfl Try.func25 (by kernel_rfl) rfl #[.slice Ao16 t165.length co16, .int .i64 1, .int .i64 2, .int .i64 3] rfl (by (try simp only [List.map_toArray, List.map_cons, List.map_nil]); first | done | rfl) ?_; (with_reducible refine (step_First.calls k _ _ t165 1 2 3 t169 true _ ?side1 ?side2 A3.out).mono ?_); (case side1 => repeat (first | exact (Kd.R_reads' HO168.out).2.2 | (with_reducible refine Kd.C_alloc ?_ _) | (with_reducible refine Kd.C_drewN ?_ _) | (with_reducible refine Kd.C_drew ?_))); (case side2 => exact (Kd.R_reads' HO168.out).2.1); rintro e w17 ⟨rfl, hb⟩; refine ⟨_, rfl, ?_⟩; have n0_ := Aside0.mk (Kd.R_below (by (with_reducible repeat (first | apply Kd.R_alloc | apply Kd.R_drewN | apply Kd.R_drew)); exact HO164.out) hb); have n1_ := Aside0.mk (Kd.R_below (by (with_reducible repeat (first | apply Kd.R_alloc | apply Kd.R_drewN | apply Kd.R_drew)); exact HO168.out) hb); have n2_ := Aside0.mk (below_step (by repeat (first | (with_reducible first | exact HB.out | apply below_alloc | apply pw_below_drewN | apply below_drew1) | exact HB.out)) hb); clear HO164; clear HO168; clear HB; have HO164 := n0_; have HO168 := n1_; have HB := n2_; clear n0_ n1_ n2_; (try clear hb); (try clear hb2); (try clear hk); (try clear hi)) | ((with_reducible refine gate_callee (f := 14) rfl ?_); refine goesL_ (some 24) rfl rfl Try.func14 (by kernel_rfl) rfl #[.slice Ao16 t165.length co16, .int .i64 0, .int .i64 3] rfl (by (try simp only [List.map_toArray, List.map_cons, List.map_nil]); first | done | rfl) ?_; (with_reducible refine (step_Least.calls k _ _ t165 0 3 t171 t172 _ ?side1 ?side2 A4.out).mono ?_); (case side1 => repeat (first | exact (Kd.R_reads' HO168.out).2.2 | (with_reducible refine Kd.C_alloc ?_ _) | (with_reducible refine Kd.C_drewN ?_ _) | (with_reducible refine Kd.C_drew ?_))); (case side2 => exact (Kd.R_reads' HO168.out).2.1); rintro e w18 ⟨rfl, hb⟩; refine ⟨_, rfl, ?_⟩; have n0_ := Aside0.mk (Kd.R_below (by (with_reducible repeat (first | apply Kd.R_alloc | apply Kd.R_drewN | apply Kd.R_drew)); exact HO164.out) hb); have n1_ := Aside0.mk (Kd.R_below (by (with_reducible repeat (first | apply Kd.R_alloc | apply Kd.R_drewN | apply Kd.R_drew)); exact HO168.out) hb); have n2_ := Aside0.mk (below_step (by repeat (first | (with_reducible first | exact HB.out | apply below_alloc | apply pw_below_drewN | apply below_drew1) | exact HB.out)) hb); clear HO164; clear HO168; clear HB; have HO164 := n0_; have HO168 := n1_; have HB := n2_; clear n0_ n1_ n2_; (try clear hb); (try clear hb2); (try clear hk); (try clear hi)) | (go_at_call 20; (with_reducible refine (step_At.calls k _ _ t165 5 t173 _ ?side1 ?side2 A12.out).mono ?_); (case side1 => repeat (first | exact (Kd.R_reads' HO168.out).2.2 | (with_reducible refine Kd.C_alloc ?_ _) | (with_reducible refine Kd.C_drewN ?_ _) | (with_reducible refine Kd.C_drew ?_))); (case side2 => exact (Kd.R_reads' HO168.out).2.1); rintro e w19 ⟨rfl, hb⟩; have n0_ := Aside0.mk (Kd.R_below (by (with_reducible repeat (first | apply Kd.R_alloc | apply Kd.R_drewN | apply Kd.R_drew)); exact HO164.out) hb); have n1_ := Aside0.mk (Kd.R_below (by (with_reducible repeat (first | apply Kd.R_alloc | apply Kd.R_drewN | apply Kd.R_drew)); exact HO168.out) hb); have n2_ := Aside0.mk (below_step (by repeat (first | (with_reducible first | exact HB.out | apply below_alloc | apply pw_below_drewN | apply below_drew1) | exact HB.out)) hb); clear HO164; clear HO168; clear HB; have HO164 := n0_; have HO168 := n1_; have HB := n2_; clear n0_ n1_ n2_; (try clear hb); (try clear hb2); (try clear hk); (try clear hi)))
  go_ret
  exact ⟨by first | rfl | (simp [errW_none, errW_some] <;> rfl) | (simp [*, errW_none, errW_some] <;> rfl), by repeat (first | (with_reducible first | exact HB.out | apply below_alloc | apply pw_below_drewN | apply below_drew1) | exact HB.out)⟩

/-! ### bailiwickref03_Same: function 9 -/
def bailiwickref03_Same.l0 : Nat → List (S38) → List (S38) → Int → Option (Bool)
  | 0, _, _, _ => none
  | k + 1, x0, x1, x5 => if x5 < (x0.length : Int) then (if 0 ≤ x5 then (if x5 < (x1.length : Int) then (if (!(((rd_T38 x0 x5).f0) == ((rd_T38 x1 x5).f0)) || (!(((rd_T38 x0 x5).f1) == ((rd_T38 x1 x5).f1)))) = true then (some false) else (bailiwickref03_Same.l0 k x0 x1 (wrap64 (x5 + 1)))) else (none)) else (none)) else (some true)
def bailiwickref03_Same.f (k : Nat) (l0 : List (S38)) (l1 : List (S38)) : Option (Bool) := if (l0.length : Int) = (l1.length : Int) then (bailiwickref03_Same.l0 k l0 l1 0) else (some false)
theorem bailiwickref03_Same.mono_l : ∀ k, (∀ y0 y1 y2, LeO (bailiwickref03_Same.l0 k y0 y1 y2) (bailiwickref03_Same.l0 (k + 1) y0 y1 y2))
  | 0 => fun _ _ _ r h => by simp [bailiwickref03_Same.l0] at h
  | k + 1 => by
    have ih0 := bailiwickref03_Same.mono_l k
    · intro y0 y1 y2
      unfold bailiwickref03_Same.l0
      repeat' first
      | (with_reducible exact ih0 _ _ _)
      | (with_reducible exact LeO.refl _)
      | (with_reducible exact LeO.none _)
      | (with_reducible refine LeO.ite ?_ ?_)
      | (with_reducible refine LeO.bind ?_ (fun _ => ?_))
      | exact ih0 _ _ _
      | exact LeO.none _
      | refine LeO.ite ?_ ?_
      | refine LeO.bind ?_ (fun _ => ?_)
theorem bailiwickref03_Same.mono : ∀ a0 a1 k, LeO (bailiwickref03_Same.f k a0 a1) (bailiwickref03_Same.f (k + 1) a0 a1) := by
  intro a0 a1 k
  have ih0 := bailiwickref03_Same.mono_l k
  unfold bailiwickref03_Same.f
  repeat' first
      | (with_reducible exact ih0 _ _ _)
      | (with_reducible exact LeO.refl _)
      | (with_reducible exact LeO.none _)
      | (with_reducible refine LeO.ite ?_ ?_)
      | (with_reducible refine LeO.bind ?_ (fun _ => ?_))
      | exact ih0 _ _ _
      | exact LeO.none _
      | refine LeO.ite ?_ ?_
      | refine LeO.bind ?_ (fun _ => ?_)
set_option maxHeartbeats 8000000 in
set_option maxRecDepth 100000 in
theorem bailiwickref03_Same.calls (k : Nat) (A0 : Option Addr) (c0 : Nat) (l0 : List (S38)) (A1 : Option Addr) (c1 : Nat) (l1 : List (S38)) (r : Bool) (w : World) (hr0 : Kd.C k38 w A0 l0.length l0) (hc0 : l0.length ≤ c0) (hr1 : Kd.C k38 w A1 l1.length l1) (hc1 : l1.length ≤ c1) (h : bailiwickref03_Same.f k l0 l1 = some r) :
    Calls Try.prog 9 #[.slice A0 l0.length c0, .slice A1 l1.length c1] w fun e w' => e = .returned (.bool r) ∧ Drawn0 w w' := by
  have hu38 := Try.underlying38
  have HR0 := Aside0.mk hr0
  have HC0 := Aside0.mk hc0
  clear hr0 hc0
  have HR1 := Aside0.mk hr1
  have HC1 := Aside0.mk hc1
  clear hr1 hc1
  have H : (if (l0.length : Int) = (l1.length : Int) then (bailiwickref03_Same.l0 k l0 l1 0) else (some false)) = some r := h
  clear h
  by_cases c3 : (l0.length : Int) = (l1.length : Int)
  rotate_left
  · rw [if_neg c3] at H
    have c3b0 : ((l0.length : Int) == (l1.length : Int)) = false := beq_eq_false_iff_ne.mpr c3
    have c3b1 : ((l0.length : Int) != (l1.length : Int)) = true := bne_iff_ne.mpr c3
    have c3b2 : (l0.length == l1.length) = false := by first | simpa using c3 | (simp at c3 ⊢; omega)
    obtain rfl := Option.some.inj H
    go_enter Try.func9, Try.ntmps9
    go_wp2
    repeat (go_quiet (fail); try go_wp2)
    go_ret
    exact ⟨by first | rfl | (simp; done) | (simp [*]; done), by repeat (first | exact Drawn0.refl _ | apply Drawn0.step)⟩
  rw [if_pos c3] at H
  have c3b0 : ((l0.length : Int) == (l1.length : Int)) = true := beq_iff_eq.mpr c3
  have c3b1 : ((l0.length : Int) != (l1.length : Int)) = false := bne_eq_false_iff_eq.mpr c3
  have c3b2 : (l0.length == l1.length) = true := by first | simpa using c3 | (simp at c3 ⊢; omega)
  clear c3
  have H' := Aside0.mk H
  clear H
  go_enter Try.func9, Try.ntmps9
  go_wp2
  repeat (go_quiet (fail); try go_wp2)
  go_loopg [5] k (fun kq v5 w' => ∃ (x5_1 : Int), v5 = .int .i64 x5_1 ∧ Aside0 (bailiwickref03_Same.l0 kq l0 l1 x5_1 = some r) ∧ Aside0 (kq ≤ k) ∧ Drawn0 w w')
  case atStart => exact ⟨(0), (by first | rfl | (simp; done) | (simp [*]; done)), H', ⟨Nat.le_refl _⟩, by repeat (first | exact Drawn0.refl _ | apply Drawn0.step)⟩
  clear H'
  try clear c1
  try clear p2
  try clear c3
  try clear c3b0
  try clear c3b1
  try clear c3b2
  obtain ⟨x5_1, rfl, HA, HK1, ⟨m1, rfl⟩⟩ := hrel
  rcases gk with _ | k1
  · exact absurd HA.out (by simp [bailiwickref03_Same.l0])
  have H := HA.out
  clear HA
  simp only [bailiwickref03_Same.l0] at H
  by_cases c4 : x5_1 < (l0.length : Int)
  rotate_left
  · rw [if_neg c4] at H
    have c4b0 : decide (x5_1 < (l0.length : Int)) = false := decide_eq_false c4
    clear c4
    obtain rfl := Option.some.inj H
    go_wp2
    repeat (go_quiet (fail); try go_wp2)
    go_ret
    exact ⟨by first | rfl | (simp; done) | (simp [*]; done), by repeat (first | exact Drawn0.refl _ | apply Drawn0.step)⟩
  rw [if_pos c4] at H
  have c4b0 : decide (x5_1 < (l0.length : Int)) = true := decide_eq_true c4
  clear c4
  by_cases c5 : 0 ≤ x5_1
  rotate_left
  · rw [if_neg c5] at H
    exact absurd H (by simp)
  rw [if_pos c5] at H
  have c5b0 : decide (0 ≤ x5_1) = true := decide_eq_true c5
  clear c5
  by_cases c6 : x5_1 < (l1.length : Int)
  rotate_left
  · rw [if_neg c6] at H
    exact absurd H (by simp)
  rw [if_pos c6] at H
  have c6b0 : decide (x5_1 < (l1.length : Int)) = true := decide_eq_true c6
  clear c6
  by_cases c7 : (!(((rd_T38 l0 x5_1).f0) == ((rd_T38 l1 x5_1).f0)) || (!(((rd_T38 l0 x5_1).f1) == ((rd_T38 l1 x5_1).f1)))) = true
  · rw [if_pos c7] at H
    have c7b0 : (!(((rd_T38 l0 x5_1).f0) == ((rd_T38 l1 x5_1).f0)) || (!(((rd_T38 l0 x5_1).f1) == ((rd_T38 l1 x5_1).f1)))) = true := c7
    clear c7
    obtain rfl := Option.some.inj H
    have p174 : 0 ≤ (x5_1 : Int) := of_decide_eq_true (by first | (with_reducible assumption) | assumption)
    have q174 : x5_1 < (l0.length : Int) := of_decide_eq_true (by first | (with_reducible assumption) | assumption)
    obtain ⟨ad174, e174, hx174_0, hx174_1⟩ := at_T38 HR0.out x5_1 p174 q174
    cases e174
    replace p174 := eq_true p174
    replace q174 := eq_true q174
    have p175 : 0 ≤ (x5_1 : Int) := of_decide_eq_true (by first | (with_reducible assumption) | assumption)
    have q175 : x5_1 < (l1.length : Int) := of_decide_eq_true (by first | (with_reducible assumption) | assumption)
    obtain ⟨ad175, e175, hx175_0, hx175_1⟩ := at_T38 HR1.out x5_1 p175 q175
    cases e175
    replace p175 := eq_true p175
    replace q175 := eq_true q175
    go_wp2
    repeat (go_quiet (fail); try go_wp2)
    go_ret
    exact ⟨by first | rfl | (simp; done) | (simp [*]; done), by repeat (first | exact Drawn0.refl _ | apply Drawn0.step)⟩
  rw [if_neg c7] at H
  have c7b0 : (!(((rd_T38 l0 x5_1).f0) == ((rd_T38 l1 x5_1).f0)) || (!(((rd_T38 l0 x5_1).f1) == ((rd_T38 l1 x5_1).f1)))) = false := by simpa using c7
  clear c7
  have H' := Aside0.mk H
  clear H
  have p174 : 0 ≤ (x5_1 : Int) := of_decide_eq_true (by first | (with_reducible assumption) | assumption)
  have q174 : x5_1 < (l0.length : Int) := of_decide_eq_true (by first | (with_reducible assumption) | assumption)
  obtain ⟨ad174, e174, hx174_0, hx174_1⟩ := at_T38 HR0.out x5_1 p174 q174
  cases e174
  replace p174 := eq_true p174
  replace q174 := eq_true q174
  have p175 : 0 ≤ (x5_1 : Int) := of_decide_eq_true (by first | (with_reducible assumption) | assumption)
  have q175 : x5_1 < (l1.length : Int) := of_decide_eq_true (by first | (with_reducible assumption) | assumption)
  obtain ⟨ad175, e175, hx175_0, hx175_1⟩ := at_T38 HR1.out x5_1 p175 q175
  cases e175
  replace p175 := eq_true p175
  replace q175 := eq_true q175
  go_wp2
  repeat (go_quiet (fail); try go_wp2)
  go_roundg k1
  case measure => have := HK1.out; omega
  case rel => exact ⟨(wrap64 (x5_1 + 1)), (by first | rfl | (simp; done) | (simp [*]; done)), H', ⟨by have := HK1.out; omega⟩, by repeat (first | exact Drawn0.refl _ | apply Drawn0.step)⟩

end Go.Proofs.Ytpekjfmlpogfaaa.PAll
