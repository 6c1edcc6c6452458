-- Written by wip/tools/hprint.py of this claim's session (a driver over the kit's print, with contracts proved by hand among them).
import Derived.Test.YtemlhkognjhgbaaPAllx0
import Derived.Test.YtemlhkognjhgbaaPAllx1
import Derived.Test.YtemlhkognjhgbaaPAllx11
namespace Go.Proofs.Ytemlhkognjhgbaa.PAll
open Go.RowKit Go.Proofs.YtemlhkognjhgbaaW.PrintWords Go.Proofs.YtemlhkognjhgbaaW.PrintLast Go.Proofs.YtemlhkognjhgbaaW.PrintMore
attribute [local go_sem] max2_int min2_int max_two min_two max_three min_three max_four min_four   -- for this text's walks alone
set_option linter.unusedVariables false
set_option linter.unusedSimpArgs false

/-! ### math_Frexp: function 36 -/
def math_Frexp.f (k : Nat) (a0 : Nat) : Option (Nat × Int) := (math_frexp.f k a0).bind fun bt161 => (some (bt161.1, bt161.2))
theorem math_Frexp.mono : ∀ a0 k, LeO (math_Frexp.f k a0) (math_Frexp.f (k + 1) a0) := by
  intro a0 k
  unfold math_Frexp.f
  repeat' first
      | (with_reducible exact math_frexp.mono _ _)
      | (with_reducible exact LeO.refl _)
      | (with_reducible exact LeO.none _)
      | (with_reducible refine LeO.ite ?_ ?_)
      | (with_reducible refine LeO.bind ?_ (fun _ => ?_))
      | exact math_frexp.mono _ _
      | exact LeO.none _
      | refine LeO.ite ?_ ?_
      | refine LeO.bind ?_ (fun _ => ?_)
set_option maxHeartbeats 8000000 in
set_option maxRecDepth 100000 in
theorem math_Frexp.calls (k : Nat) (a0 : Nat) (r1 : Nat) (r2 : Int) (w : World) (h : math_Frexp.f k a0 = some (r1, r2)) :
    Calls Try.prog 36 #[.float .f64 a0] w fun e w' => e = .returned (.tuple #[.float .f64 r1, .int .i64 r2]) ∧ Drawn0 w w' := by
  have H : ((math_frexp.f k a0).bind fun bt161 => (some (bt161.1, bt161.2))) = some (r1, r2) := h
  clear h
  replace H := Option.bind_eq_some_iff.mp H
  obtain ⟨⟨t161, t162⟩, A20, H⟩ := H
  replace H : (some (t161, t162)) = some (r1, r2) := H
  have A2 := Aside0.mk A20
  clear A20
  simp only [Option.some.injEq, Prod.mk.injEq] at H
  obtain ⟨rfl, rfl⟩ := H
  go_enter Try.func36, Try.ntmps36
  go_wp2_with (first | ((with_reducible refine gate_callee (f := 44) rfl ?_); refine goesL_ (some 9) rfl rfl Try.func44 (by kernel_rfl) rfl #[.float .f64 a0] rfl (by (try simp only [List.map_toArray, List.map_cons, List.map_nil]); first | done | rfl | (simp only [List.length_drop, List.length_take]; rfl)) ?_; (with_reducible refine (math_frexp.calls k a0 t161 t162 _ A2.out).mono ?_); rintro e w' ⟨rfl, ⟨nd, rfl⟩⟩; refine ⟨_, rfl, ?_⟩))
  go_ret2
  exact ⟨by first | rfl | (simp; done) | (simp [*]; done), by repeat (first | exact Drawn0.refl _ | apply Drawn0.step)⟩

-- NOT PRINTED: function 45 (math_archLdexp)

/-! ### math_Inf: function 24 -/
def math_Inf.f (a0 : Int) : Option (Nat) := if a0 ≥ 0 then (some (Int.toNat 9218868437227405312)) else (some (Int.toNat 18442240474082181120))
set_option maxHeartbeats 8000000 in
set_option maxRecDepth 100000 in
theorem math_Inf.calls (a0 : Int) (r : Nat) (w : World) (h : math_Inf.f a0 = some r) :
    Calls Try.prog 24 #[.int .i64 a0] w fun e w' => e = .returned (.float .f64 r) ∧ Drawn0 w w' := by
  have H : (if a0 ≥ 0 then (some (Int.toNat 9218868437227405312)) else (some (Int.toNat 18442240474082181120))) = some r := h
  clear h
  by_cases c2 : a0 ≥ 0
  · rw [if_pos c2] at H
    have c2b0 : decide (0 ≤ a0) = true := decide_eq_true c2
    clear c2
    obtain rfl := Option.some.inj H
    go_enter Try.func24, Try.ntmps24
    go_wp2
    go_ret
    exact ⟨by first | rfl | (simp; done) | (simp [*]; done), by repeat (first | exact Drawn0.refl _ | apply Drawn0.step)⟩
  · rw [if_neg c2] at H
    have c2b0 : decide (0 ≤ a0) = false := decide_eq_false c2
    clear c2
    obtain rfl := Option.some.inj H
    go_enter Try.func24, Try.ntmps24
    go_wp2
    go_ret
    exact ⟨by first | rfl | (simp; done) | (simp [*]; done), by repeat (first | exact Drawn0.refl _ | apply Drawn0.step)⟩

/-! ### math_Copysign: function 50 -/
def math_Copysign.f (a0 : Nat) (a1 : Nat) : Option (Nat) := some (Int.toNat (Go.bits .or .u64 (Go.bits .andNot .u64 (a0 : Int) 9223372036854775808) (Go.bits .and .u64 (a1 : Int) 9223372036854775808)))
set_option maxHeartbeats 8000000 in
set_option maxRecDepth 100000 in
theorem math_Copysign.calls (a0 : Nat) (a1 : Nat) (r : Nat) (w : World) (h : math_Copysign.f a0 a1 = some r) :
    Calls Try.prog 50 #[.float .f64 a0, .float .f64 a1] w fun e w' => e = .returned (.float .f64 r) ∧ Drawn0 w w' := by
  have H : (some (Int.toNat (Go.bits .or .u64 (Go.bits .andNot .u64 (a0 : Int) 9223372036854775808) (Go.bits .and .u64 (a1 : Int) 9223372036854775808)))) = some r := h
  clear h
  obtain rfl := Option.some.inj H
  go_enter Try.func50, Try.ntmps50
  go_wp2
  go_ret
  exact ⟨by first | rfl | (simp; done) | (simp [*]; done), by repeat (first | exact Drawn0.refl _ | apply Drawn0.step)⟩

/-! ### math_ldexp: function 46 -/
def math_ldexp.f (a0 : Nat) (a1 : Int) : Option (Nat) := if feq a0 0 = true then (some a0) else ((math_IsInf.f a0 0).bind fun t163 => (if t163 = true then (some a0) else ((math_IsNaN.f a0).bind fun t164 => (if t164 = true then (some a0) else ((math_normalize.f a0).bind fun bt165 => (if (wrap64 ((wrap64 (a1 + bt165.2)) + (wrap64 ((Go.bits .and .i64 (wrap64 ((bt165.1 : Int) / 4503599627370496)) 2047) - 1023)))) < (-1075) then ((math_Copysign.f 0 bt165.1).bind fun t167 => (some t167)) else (if (wrap64 ((wrap64 (a1 + bt165.2)) + (wrap64 ((Go.bits .and .i64 (wrap64 ((bt165.1 : Int) / 4503599627370496)) 2047) - 1023)))) > 1023 then (if flt bt165.1 0 = true then ((math_Inf.f (-1)).bind fun t168 => (some t168)) else ((math_Inf.f 1).bind fun t169 => (some t169))) else (if (wrap64 ((wrap64 (a1 + bt165.2)) + (wrap64 ((Go.bits .and .i64 (wrap64 ((bt165.1 : Int) / 4503599627370496)) 2047) - 1023)))) < (-1022) then (if fok .mul 4368491638549381120 (Int.toNat (Go.bits .or .u64 (Go.bits .andNot .u64 (bt165.1 : Int) 9218868437227405312) (IntKind.u64.wrap ((IntKind.u64.wrap (wrap64 ((wrap64 ((wrap64 ((wrap64 (a1 + bt165.2)) + (wrap64 ((Go.bits .and .i64 (wrap64 ((bt165.1 : Int) / 4503599627370496)) 2047) - 1023)))) + 53)) + 1023))) * 4503599627370496)))) = true then (some (fop .mul 4368491638549381120 (Int.toNat (Go.bits .or .u64 (Go.bits .andNot .u64 (bt165.1 : Int) 9218868437227405312) (IntKind.u64.wrap ((IntKind.u64.wrap (wrap64 ((wrap64 ((wrap64 ((wrap64 (a1 + bt165.2)) + (wrap64 ((Go.bits .and .i64 (wrap64 ((bt165.1 : Int) / 4503599627370496)) 2047) - 1023)))) + 53)) + 1023))) * 4503599627370496)))))) else (none)) else (if fok .mul 4607182418800017408 (Int.toNat (Go.bits .or .u64 (Go.bits .andNot .u64 (bt165.1 : Int) 9218868437227405312) (IntKind.u64.wrap ((IntKind.u64.wrap (wrap64 ((wrap64 ((wrap64 (a1 + bt165.2)) + (wrap64 ((Go.bits .and .i64 (wrap64 ((bt165.1 : Int) / 4503599627370496)) 2047) - 1023)))) + 1023))) * 4503599627370496)))) = true then (some (fop .mul 4607182418800017408 (Int.toNat (Go.bits .or .u64 (Go.bits .andNot .u64 (bt165.1 : Int) 9218868437227405312) (IntKind.u64.wrap ((IntKind.u64.wrap (wrap64 ((wrap64 ((wrap64 (a1 + bt165.2)) + (wrap64 ((Go.bits .and .i64 (wrap64 ((bt165.1 : Int) / 4503599627370496)) 2047) - 1023)))) + 1023))) * 4503599627370496)))))) else (none))))))))))
set_option maxHeartbeats 8000000 in
set_option maxRecDepth 100000 in
theorem math_ldexp.calls (a0 : Nat) (a1 : Int) (r : Nat) (w : World) (h : math_ldexp.f a0 a1 = some r) :
    Calls Try.prog 46 #[.float .f64 a0, .int .i64 a1] w fun e w' => e = .returned (.float .f64 r) ∧ Drawn0 w w' := by
  have H : (if feq a0 0 = true then (some a0) else ((math_IsInf.f a0 0).bind fun t163 => (if t163 = true then (some a0) else ((math_IsNaN.f a0).bind fun t164 => (if t164 = true then (some a0) else ((math_normalize.f a0).bind fun bt165 => (if (wrap64 ((wrap64 (a1 + bt165.2)) + (wrap64 ((Go.bits .and .i64 (wrap64 ((bt165.1 : Int) / 4503599627370496)) 2047) - 1023)))) < (-1075) then ((math_Copysign.f 0 bt165.1).bind fun t167 => (some t167)) else (if (wrap64 ((wrap64 (a1 + bt165.2)) + (wrap64 ((Go.bits .and .i64 (wrap64 ((bt165.1 : Int) / 4503599627370496)) 2047) - 1023)))) > 1023 then (if flt bt165.1 0 = true then ((math_Inf.f (-1)).bind fun t168 => (some t168)) else ((math_Inf.f 1).bind fun t169 => (some t169))) else (if (wrap64 ((wrap64 (a1 + bt165.2)) + (wrap64 ((Go.bits .and .i64 (wrap64 ((bt165.1 : Int) / 4503599627370496)) 2047) - 1023)))) < (-1022) then (if fok .mul 4368491638549381120 (Int.toNat (Go.bits .or .u64 (Go.bits .andNot .u64 (bt165.1 : Int) 9218868437227405312) (IntKind.u64.wrap ((IntKind.u64.wrap (wrap64 ((wrap64 ((wrap64 ((wrap64 (a1 + bt165.2)) + (wrap64 ((Go.bits .and .i64 (wrap64 ((bt165.1 : Int) / 4503599627370496)) 2047) - 1023)))) + 53)) + 1023))) * 4503599627370496)))) = true then (some (fop .mul 4368491638549381120 (Int.toNat (Go.bits .or .u64 (Go.bits .andNot .u64 (bt165.1 : Int) 9218868437227405312) (IntKind.u64.wrap ((IntKind.u64.wrap (wrap64 ((wrap64 ((wrap64 ((wrap64 (a1 + bt165.2)) + (wrap64 ((Go.bits .and .i64 (wrap64 ((bt165.1 : Int) / 4503599627370496)) 2047) - 1023)))) + 53)) + 1023))) * 4503599627370496)))))) else (none)) else (if fok .mul 4607182418800017408 (Int.toNat (Go.bits .or .u64 (Go.bits .andNot .u64 (bt165.1 : Int) 9218868437227405312) (IntKind.u64.wrap ((IntKind.u64.wrap (wrap64 ((wrap64 ((wrap64 (a1 + bt165.2)) + (wrap64 ((Go.bits .and .i64 (wrap64 ((bt165.1 : Int) / 4503599627370496)) 2047) - 1023)))) + 1023))) * 4503599627370496)))) = true then (some (fop .mul 4607182418800017408 (Int.toNat (Go.bits .or .u64 (Go.bits .andNot .u64 (bt165.1 : Int) 9218868437227405312) (IntKind.u64.wrap ((IntKind.u64.wrap (wrap64 ((wrap64 ((wrap64 (a1 + bt165.2)) + (wrap64 ((Go.bits .and .i64 (wrap64 ((bt165.1 : Int) / 4503599627370496)) 2047) - 1023)))) + 1023))) * 4503599627370496)))))) else (none))))))))))) = some r := h
  clear h
  by_cases c3 : feq a0 0 = true
  · rw [if_pos c3] at H
    have c3b0 : feq a0 0 = true := c3
    clear c3
    obtain rfl := Option.some.inj H
    go_enter Try.func46, Try.ntmps46
    go_wp2
    go_ret
    exact ⟨by first | rfl | (simp; done) | (simp [*]; done), by repeat (first | exact Drawn0.refl _ | apply Drawn0.step)⟩
  · rw [if_neg c3] at H
    have c3b0 : feq a0 0 = false := by simpa using c3
    clear c3
    replace H := Option.bind_eq_some_iff.mp H
    obtain ⟨t163, A40, H⟩ := H
    replace H : (if t163 = true then (some a0) else ((math_IsNaN.f a0).bind fun t164 => (if t164 = true then (some a0) else ((math_normalize.f a0).bind fun bt165 => (if (wrap64 ((wrap64 (a1 + bt165.2)) + (wrap64 ((Go.bits .and .i64 (wrap64 ((bt165.1 : Int) / 4503599627370496)) 2047) - 1023)))) < (-1075) then ((math_Copysign.f 0 bt165.1).bind fun t167 => (some t167)) else (if (wrap64 ((wrap64 (a1 + bt165.2)) + (wrap64 ((Go.bits .and .i64 (wrap64 ((bt165.1 : Int) / 4503599627370496)) 2047) - 1023)))) > 1023 then (if flt bt165.1 0 = true then ((math_Inf.f (-1)).bind fun t168 => (some t168)) else ((math_Inf.f 1).bind fun t169 => (some t169))) else (if (wrap64 ((wrap64 (a1 + bt165.2)) + (wrap64 ((Go.bits .and .i64 (wrap64 ((bt165.1 : Int) / 4503599627370496)) 2047) - 1023)))) < (-1022) then (if fok .mul 4368491638549381120 (Int.toNat (Go.bits .or .u64 (Go.bits .andNot .u64 (bt165.1 : Int) 9218868437227405312) (IntKind.u64.wrap ((IntKind.u64.wrap (wrap64 ((wrap64 ((wrap64 ((wrap64 (a1 + bt165.2)) + (wrap64 ((Go.bits .and .i64 (wrap64 ((bt165.1 : Int) / 4503599627370496)) 2047) - 1023)))) + 53)) + 1023))) * 4503599627370496)))) = true then (some (fop .mul 4368491638549381120 (Int.toNat (Go.bits .or .u64 (Go.bits .andNot .u64 (bt165.1 : Int) 9218868437227405312) (IntKind.u64.wrap ((IntKind.u64.wrap (wrap64 ((wrap64 ((wrap64 ((wrap64 (a1 + bt165.2)) + (wrap64 ((Go.bits .and .i64 (wrap64 ((bt165.1 : Int) / 4503599627370496)) 2047) - 1023)))) + 53)) + 1023))) * 4503599627370496)))))) else (none)) else (if fok .mul 4607182418800017408 (Int.toNat (Go.bits .or .u64 (Go.bits .andNot .u64 (bt165.1 : Int) 9218868437227405312) (IntKind.u64.wrap ((IntKind.u64.wrap (wrap64 ((wrap64 ((wrap64 (a1 + bt165.2)) + (wrap64 ((Go.bits .and .i64 (wrap64 ((bt165.1 : Int) / 4503599627370496)) 2047) - 1023)))) + 1023))) * 4503599627370496)))) = true then (some (fop .mul 4607182418800017408 (Int.toNat (Go.bits .or .u64 (Go.bits .andNot .u64 (bt165.1 : Int) 9218868437227405312) (IntKind.u64.wrap ((IntKind.u64.wrap (wrap64 ((wrap64 ((wrap64 (a1 + bt165.2)) + (wrap64 ((Go.bits .and .i64 (wrap64 ((bt165.1 : Int) / 4503599627370496)) 2047) - 1023)))) + 1023))) * 4503599627370496)))))) else (none))))))))) = some r := H
    have A4 := Aside0.mk A40
    clear A40
    by_cases c5 : t163 = true
    · subst c5
      have H1 : (some a0) = some r := by rw [if_pos rfl] at H; exact H
      clear H
      have H := H1
      clear H1
      obtain rfl := Option.some.inj H
      go_enter Try.func46, Try.ntmps46
      go_wp2_with (first | ((with_reducible refine gate_callee (f := 35) rfl ?_); refine goesL_ (some 14) rfl rfl Try.func35 (by kernel_rfl) rfl #[.float .f64 a0, .int .i64 0] rfl (by (try simp only [List.map_toArray, List.map_cons, List.map_nil]); first | done | rfl | (simp only [List.length_drop, List.length_take]; rfl)) ?_; (with_reducible refine (math_IsInf.calls a0 0 true _ A4.out).mono ?_); rintro e w' ⟨rfl, ⟨nd, rfl⟩⟩; refine ⟨_, rfl, ?_⟩))
      go_ret
      exact ⟨by first | rfl | (simp; done) | (simp [*]; done), by repeat (first | exact Drawn0.refl _ | apply Drawn0.step)⟩
    · replace c5 := Bool.eq_false_iff.mpr c5
      subst c5
      have H1 : ((math_IsNaN.f a0).bind fun t164 => (if t164 = true then (some a0) else ((math_normalize.f a0).bind fun bt165 => (if (wrap64 ((wrap64 (a1 + bt165.2)) + (wrap64 ((Go.bits .and .i64 (wrap64 ((bt165.1 : Int) / 4503599627370496)) 2047) - 1023)))) < (-1075) then ((math_Copysign.f 0 bt165.1).bind fun t167 => (some t167)) else (if (wrap64 ((wrap64 (a1 + bt165.2)) + (wrap64 ((Go.bits .and .i64 (wrap64 ((bt165.1 : Int) / 4503599627370496)) 2047) - 1023)))) > 1023 then (if flt bt165.1 0 = true then ((math_Inf.f (-1)).bind fun t168 => (some t168)) else ((math_Inf.f 1).bind fun t169 => (some t169))) else (if (wrap64 ((wrap64 (a1 + bt165.2)) + (wrap64 ((Go.bits .and .i64 (wrap64 ((bt165.1 : Int) / 4503599627370496)) 2047) - 1023)))) < (-1022) then (if fok .mul 4368491638549381120 (Int.toNat (Go.bits .or .u64 (Go.bits .andNot .u64 (bt165.1 : Int) 9218868437227405312) (IntKind.u64.wrap ((IntKind.u64.wrap (wrap64 ((wrap64 ((wrap64 ((wrap64 (a1 + bt165.2)) + (wrap64 ((Go.bits .and .i64 (wrap64 ((bt165.1 : Int) / 4503599627370496)) 2047) - 1023)))) + 53)) + 1023))) * 4503599627370496)))) = true then (some (fop .mul 4368491638549381120 (Int.toNat (Go.bits .or .u64 (Go.bits .andNot .u64 (bt165.1 : Int) 9218868437227405312) (IntKind.u64.wrap ((IntKind.u64.wrap (wrap64 ((wrap64 ((wrap64 ((wrap64 (a1 + bt165.2)) + (wrap64 ((Go.bits .and .i64 (wrap64 ((bt165.1 : Int) / 4503599627370496)) 2047) - 1023)))) + 53)) + 1023))) * 4503599627370496)))))) else (none)) else (if fok .mul 4607182418800017408 (Int.toNat (Go.bits .or .u64 (Go.bits .andNot .u64 (bt165.1 : Int) 9218868437227405312) (IntKind.u64.wrap ((IntKind.u64.wrap (wrap64 ((wrap64 ((wrap64 (a1 + bt165.2)) + (wrap64 ((Go.bits .and .i64 (wrap64 ((bt165.1 : Int) / 4503599627370496)) 2047) - 1023)))) + 1023))) * 4503599627370496)))) = true then (some (fop .mul 4607182418800017408 (Int.toNat (Go.bits .or .u64 (Go.bits .andNot .u64 (bt165.1 : Int) 9218868437227405312) (IntKind.u64.wrap ((IntKind.u64.wrap (wrap64 ((wrap64 ((wrap64 (a1 + bt165.2)) + (wrap64 ((Go.bits .and .i64 (wrap64 ((bt165.1 : Int) / 4503599627370496)) 2047) - 1023)))) + 1023))) * 4503599627370496)))))) else (none)))))))) = some r := by rw [if_neg (show ¬ (false = true) by decide)] at H; exact H
      clear H
      have H := H1
      clear H1
      replace H := Option.bind_eq_some_iff.mp H
      obtain ⟨t164, A60, H⟩ := H
      replace H : (if t164 = true then (some a0) else ((math_normalize.f a0).bind fun bt165 => (if (wrap64 ((wrap64 (a1 + bt165.2)) + (wrap64 ((Go.bits .and .i64 (wrap64 ((bt165.1 : Int) / 4503599627370496)) 2047) - 1023)))) < (-1075) then ((math_Copysign.f 0 bt165.1).bind fun t167 => (some t167)) else (if (wrap64 ((wrap64 (a1 + bt165.2)) + (wrap64 ((Go.bits .and .i64 (wrap64 ((bt165.1 : Int) / 4503599627370496)) 2047) - 1023)))) > 1023 then (if flt bt165.1 0 = true then ((math_Inf.f (-1)).bind fun t168 => (some t168)) else ((math_Inf.f 1).bind fun t169 => (some t169))) else (if (wrap64 ((wrap64 (a1 + bt165.2)) + (wrap64 ((Go.bits .and .i64 (wrap64 ((bt165.1 : Int) / 4503599627370496)) 2047) - 1023)))) < (-1022) then (if fok .mul 4368491638549381120 (Int.toNat (Go.bits .or .u64 (Go.bits .andNot .u64 (bt165.1 : Int) 9218868437227405312) (IntKind.u64.wrap ((IntKind.u64.wrap (wrap64 ((wrap64 ((wrap64 ((wrap64 (a1 + bt165.2)) + (wrap64 ((Go.bits .and .i64 (wrap64 ((bt165.1 : Int) / 4503599627370496)) 2047) - 1023)))) + 53)) + 1023))) * 4503599627370496)))) = true then (some (fop .mul 4368491638549381120 (Int.toNat (Go.bits .or .u64 (Go.bits .andNot .u64 (bt165.1 : Int) 9218868437227405312) (IntKind.u64.wrap ((IntKind.u64.wrap (wrap64 ((wrap64 ((wrap64 ((wrap64 (a1 + bt165.2)) + (wrap64 ((Go.bits .and .i64 (wrap64 ((bt165.1 : Int) / 4503599627370496)) 2047) - 1023)))) + 53)) + 1023))) * 4503599627370496)))))) else (none)) else (if fok .mul 4607182418800017408 (Int.toNat (Go.bits .or .u64 (Go.bits .andNot .u64 (bt165.1 : Int) 9218868437227405312) (IntKind.u64.wrap ((IntKind.u64.wrap (wrap64 ((wrap64 ((wrap64 (a1 + bt165.2)) + (wrap64 ((Go.bits .and .i64 (wrap64 ((bt165.1 : Int) / 4503599627370496)) 2047) - 1023)))) + 1023))) * 4503599627370496)))) = true then (some (fop .mul 4607182418800017408 (Int.toNat (Go.bits .or .u64 (Go.bits .andNot .u64 (bt165.1 : Int) 9218868437227405312) (IntKind.u64.wrap ((IntKind.u64.wrap (wrap64 ((wrap64 ((wrap64 (a1 + bt165.2)) + (wrap64 ((Go.bits .and .i64 (wrap64 ((bt165.1 : Int) / 4503599627370496)) 2047) - 1023)))) + 1023))) * 4503599627370496)))))) else (none))))))) = some r := H
      have A6 := Aside0.mk A60
      clear A60
      by_cases c7 : t164 = true
      · subst c7
        have H1 : (some a0) = some r := by rw [if_pos rfl] at H; exact H
        clear H
        have H := H1
        clear H1
        obtain rfl := Option.some.inj H
        go_enter Try.func46, Try.ntmps46
        go_wp2_with (first | ((with_reducible refine gate_callee (f := 35) rfl ?_); refine goesL_ (some 14) rfl rfl Try.func35 (by kernel_rfl) rfl #[.float .f64 a0, .int .i64 0] rfl (by (try simp only [List.map_toArray, List.map_cons, List.map_nil]); first | done | rfl | (simp only [List.length_drop, List.length_take]; rfl)) ?_; (with_reducible refine (math_IsInf.calls a0 0 false _ A4.out).mono ?_); rintro e w' ⟨rfl, ⟨nd, rfl⟩⟩; refine ⟨_, rfl, ?_⟩) | (go_at_call 34; (with_reducible refine (math_IsNaN.calls a0 true _ A6.out).mono ?_); rintro e w' ⟨rfl, ⟨nd, rfl⟩⟩))
        go_ret
        exact ⟨by first | rfl | (simp; done) | (simp [*]; done), by repeat (first | exact Drawn0.refl _ | apply Drawn0.step)⟩
      · replace c7 := Bool.eq_false_iff.mpr c7
        subst c7
        have H1 : ((math_normalize.f a0).bind fun bt165 => (if (wrap64 ((wrap64 (a1 + bt165.2)) + (wrap64 ((Go.bits .and .i64 (wrap64 ((bt165.1 : Int) / 4503599627370496)) 2047) - 1023)))) < (-1075) then ((math_Copysign.f 0 bt165.1).bind fun t167 => (some t167)) else (if (wrap64 ((wrap64 (a1 + bt165.2)) + (wrap64 ((Go.bits .and .i64 (wrap64 ((bt165.1 : Int) / 4503599627370496)) 2047) - 1023)))) > 1023 then (if flt bt165.1 0 = true then ((math_Inf.f (-1)).bind fun t168 => (some t168)) else ((math_Inf.f 1).bind fun t169 => (some t169))) else (if (wrap64 ((wrap64 (a1 + bt165.2)) + (wrap64 ((Go.bits .and .i64 (wrap64 ((bt165.1 : Int) / 4503599627370496)) 2047) - 1023)))) < (-1022) then (if fok .mul 4368491638549381120 (Int.toNat (Go.bits .or .u64 (Go.bits .andNot .u64 (bt165.1 : Int) 9218868437227405312) (IntKind.u64.wrap ((IntKind.u64.wrap (wrap64 ((wrap64 ((wrap64 ((wrap64 (a1 + bt165.2)) + (wrap64 ((Go.bits .and .i64 (wrap64 ((bt165.1 : Int) / 4503599627370496)) 2047) - 1023)))) + 53)) + 1023))) * 4503599627370496)))) = true then (some (fop .mul 4368491638549381120 (Int.toNat (Go.bits .or .u64 (Go.bits .andNot .u64 (bt165.1 : Int) 9218868437227405312) (IntKind.u64.wrap ((IntKind.u64.wrap (wrap64 ((wrap64 ((wrap64 ((wrap64 (a1 + bt165.2)) + (wrap64 ((Go.bits .and .i64 (wrap64 ((bt165.1 : Int) / 4503599627370496)) 2047) - 1023)))) + 53)) + 1023))) * 4503599627370496)))))) else (none)) else (if fok .mul 4607182418800017408 (Int.toNat (Go.bits .or .u64 (Go.bits .andNot .u64 (bt165.1 : Int) 9218868437227405312) (IntKind.u64.wrap ((IntKind.u64.wrap (wrap64 ((wrap64 ((wrap64 (a1 + bt165.2)) + (wrap64 ((Go.bits .and .i64 (wrap64 ((bt165.1 : Int) / 4503599627370496)) 2047) - 1023)))) + 1023))) * 4503599627370496)))) = true then (some (fop .mul 4607182418800017408 (Int.toNat (Go.bits .or .u64 (Go.bits .andNot .u64 (bt165.1 : Int) 9218868437227405312) (IntKind.u64.wrap ((IntKind.u64.wrap (wrap64 ((wrap64 ((wrap64 (a1 + bt165.2)) + (wrap64 ((Go.bits .and .i64 (wrap64 ((bt165.1 : Int) / 4503599627370496)) 2047) - 1023)))) + 1023))) * 4503599627370496)))))) else (none)))))) = some r := by rw [if_neg (show ¬ (false = true) by decide)] at H; exact H
        clear H
        have H := H1
        clear H1
        replace H := Option.bind_eq_some_iff.mp H
        obtain ⟨⟨t165, t166⟩, A80, H⟩ := H
        replace H : (if (wrap64 ((wrap64 (a1 + t166)) + (wrap64 ((Go.bits .and .i64 (wrap64 ((t165 : Int) / 4503599627370496)) 2047) - 1023)))) < (-1075) then ((math_Copysign.f 0 t165).bind fun t167 => (some t167)) else (if (wrap64 ((wrap64 (a1 + t166)) + (wrap64 ((Go.bits .and .i64 (wrap64 ((t165 : Int) / 4503599627370496)) 2047) - 1023)))) > 1023 then (if flt t165 0 = true then ((math_Inf.f (-1)).bind fun t168 => (some t168)) else ((math_Inf.f 1).bind fun t169 => (some t169))) else (if (wrap64 ((wrap64 (a1 + t166)) + (wrap64 ((Go.bits .and .i64 (wrap64 ((t165 : Int) / 4503599627370496)) 2047) - 1023)))) < (-1022) then (if fok .mul 4368491638549381120 (Int.toNat (Go.bits .or .u64 (Go.bits .andNot .u64 (t165 : Int) 9218868437227405312) (IntKind.u64.wrap ((IntKind.u64.wrap (wrap64 ((wrap64 ((wrap64 ((wrap64 (a1 + t166)) + (wrap64 ((Go.bits .and .i64 (wrap64 ((t165 : Int) / 4503599627370496)) 2047) - 1023)))) + 53)) + 1023))) * 4503599627370496)))) = true then (some (fop .mul 4368491638549381120 (Int.toNat (Go.bits .or .u64 (Go.bits .andNot .u64 (t165 : Int) 9218868437227405312) (IntKind.u64.wrap ((IntKind.u64.wrap (wrap64 ((wrap64 ((wrap64 ((wrap64 (a1 + t166)) + (wrap64 ((Go.bits .and .i64 (wrap64 ((t165 : Int) / 4503599627370496)) 2047) - 1023)))) + 53)) + 1023))) * 4503599627370496)))))) else (none)) else (if fok .mul 4607182418800017408 (Int.toNat (Go.bits .or .u64 (Go.bits .andNot .u64 (t165 : Int) 9218868437227405312) (IntKind.u64.wrap ((IntKind.u64.wrap (wrap64 ((wrap64 ((wrap64 (a1 + t166)) + (wrap64 ((Go.bits .and .i64 (wrap64 ((t165 : Int) / 4503599627370496)) 2047) - 1023)))) + 1023))) * 4503599627370496)))) = true then (some (fop .mul 4607182418800017408 (Int.toNat (Go.bits .or .u64 (Go.bits .andNot .u64 (t165 : Int) 9218868437227405312) (IntKind.u64.wrap ((IntKind.u64.wrap (wrap64 ((wrap64 ((wrap64 (a1 + t166)) + (wrap64 ((Go.bits .and .i64 (wrap64 ((t165 : Int) / 4503599627370496)) 2047) - 1023)))) + 1023))) * 4503599627370496)))))) else (none))))) = some r := H
        have A8 := Aside0.mk A80
        clear A80
        by_cases c9 : (wrap64 ((wrap64 (a1 + t166)) + (wrap64 ((Go.bits .and .i64 (wrap64 ((t165 : Int) / 4503599627370496)) 2047) - 1023)))) < (-1075)
        · rw [if_pos c9] at H
          have c9b0 : decide ((wrap64 ((wrap64 (a1 + t166)) + (wrap64 ((Go.bits .and .i64 (wrap64 ((t165 : Int) / 4503599627370496)) 2047) - 1023)))) < (-1075)) = true := decide_eq_true c9
          clear c9
          replace H := Option.bind_eq_some_iff.mp H
          obtain ⟨t167, A100, H⟩ := H
          replace H : (some t167) = some r := H
          have A10 := Aside0.mk A100
          clear A100
          obtain rfl := Option.some.inj H
          go_enter Try.func46, Try.ntmps46
          go_wp2_with (first | ((with_reducible refine gate_callee (f := 35) rfl ?_); refine goesL_ (some 14) rfl rfl Try.func35 (by kernel_rfl) rfl #[.float .f64 a0, .int .i64 0] rfl (by (try simp only [List.map_toArray, List.map_cons, List.map_nil]); first | done | rfl | (simp only [List.length_drop, List.length_take]; rfl)) ?_; (with_reducible refine (math_IsInf.calls a0 0 false _ A4.out).mono ?_); rintro e w' ⟨rfl, ⟨nd, rfl⟩⟩; refine ⟨_, rfl, ?_⟩) | (go_at_call 34; (with_reducible refine (math_IsNaN.calls a0 false _ A6.out).mono ?_); rintro e w' ⟨rfl, ⟨nd, rfl⟩⟩) | ((with_reducible refine gate_callee (f := 49) rfl ?_); refine goesL_ (some 22) rfl rfl Try.func49 (by kernel_rfl) rfl #[.float .f64 a0] rfl (by (try simp only [List.map_toArray, List.map_cons, List.map_nil]); first | done | rfl | (simp only [List.length_drop, List.length_take]; rfl)) ?_; (with_reducible refine (math_normalize.calls a0 t165 t166 _ A8.out).mono ?_); rintro e w' ⟨rfl, ⟨nd, rfl⟩⟩; refine ⟨_, rfl, ?_⟩) | ((with_reducible refine gate_callee (f := 50) rfl ?_); refine goesL_ (some 40) rfl rfl Try.func50 (by kernel_rfl) rfl #[.float .f64 0, .float .f64 t165] rfl (by (try simp only [List.map_toArray, List.map_cons, List.map_nil]); first | done | rfl | (simp only [List.length_drop, List.length_take]; rfl)) ?_; (with_reducible refine (math_Copysign.calls 0 t165 t167 _ A10.out).mono ?_); rintro e w' ⟨rfl, ⟨nd, rfl⟩⟩; refine ⟨_, rfl, ?_⟩))
          go_ret
          exact ⟨by first | rfl | (simp; done) | (simp [*]; done), by repeat (first | exact Drawn0.refl _ | apply Drawn0.step)⟩
        · rw [if_neg c9] at H
          have c9b0 : decide ((wrap64 ((wrap64 (a1 + t166)) + (wrap64 ((Go.bits .and .i64 (wrap64 ((t165 : Int) / 4503599627370496)) 2047) - 1023)))) < (-1075)) = false := decide_eq_false c9
          clear c9
          by_cases c11 : (wrap64 ((wrap64 (a1 + t166)) + (wrap64 ((Go.bits .and .i64 (wrap64 ((t165 : Int) / 4503599627370496)) 2047) - 1023)))) > 1023
          · rw [if_pos c11] at H
            have c11b0 : decide (1023 < (wrap64 ((wrap64 (a1 + t166)) + (wrap64 ((Go.bits .and .i64 (wrap64 ((t165 : Int) / 4503599627370496)) 2047) - 1023))))) = true := decide_eq_true c11
            clear c11
            by_cases c12 : flt t165 0 = true
            · rw [if_pos c12] at H
              have c12b0 : flt t165 0 = true := c12
              clear c12
              replace H := Option.bind_eq_some_iff.mp H
              obtain ⟨t168, A130, H⟩ := H
              replace H : (some t168) = some r := H
              have A13 := Aside0.mk A130
              clear A130
              obtain rfl := Option.some.inj H
              go_enter Try.func46, Try.ntmps46
              go_wp2_with (first | ((with_reducible refine gate_callee (f := 35) rfl ?_); refine goesL_ (some 14) rfl rfl Try.func35 (by kernel_rfl) rfl #[.float .f64 a0, .int .i64 0] rfl (by (try simp only [List.map_toArray, List.map_cons, List.map_nil]); first | done | rfl | (simp only [List.length_drop, List.length_take]; rfl)) ?_; (with_reducible refine (math_IsInf.calls a0 0 false _ A4.out).mono ?_); rintro e w' ⟨rfl, ⟨nd, rfl⟩⟩; refine ⟨_, rfl, ?_⟩) | (go_at_call 34; (with_reducible refine (math_IsNaN.calls a0 false _ A6.out).mono ?_); rintro e w' ⟨rfl, ⟨nd, rfl⟩⟩) | ((with_reducible refine gate_callee (f := 49) rfl ?_); refine goesL_ (some 22) rfl rfl Try.func49 (by kernel_rfl) rfl #[.float .f64 a0] rfl (by (try simp only [List.map_toArray, List.map_cons, List.map_nil]); first | done | rfl | (simp only [List.length_drop, List.length_take]; rfl)) ?_; (with_reducible refine (math_normalize.calls a0 t165 t166 _ A8.out).mono ?_); rintro e w' ⟨rfl, ⟨nd, rfl⟩⟩; refine ⟨_, rfl, ?_⟩) | ((with_reducible refine gate_callee (f := 24) rfl ?_); refine goesL_ (some 45) rfl rfl Try.func24 (by kernel_rfl) rfl #[.int .i64 (-1)] rfl (by (try simp only [List.map_toArray, List.map_cons, List.map_nil]); first | done | rfl | (simp only [List.length_drop, List.length_take]; rfl)) ?_; (with_reducible refine (math_Inf.calls (-1) t168 _ A13.out).mono ?_); rintro e w' ⟨rfl, ⟨nd, rfl⟩⟩; refine ⟨_, rfl, ?_⟩))
              go_ret
              exact ⟨by first | rfl | (simp; done) | (simp [*]; done), by repeat (first | exact Drawn0.refl _ | apply Drawn0.step)⟩
            · rw [if_neg c12] at H
              have c12b0 : flt t165 0 = false := by simpa using c12
              clear c12
              replace H := Option.bind_eq_some_iff.mp H
              obtain ⟨t169, A140, H⟩ := H
              replace H : (some t169) = some r := H
              have A14 := Aside0.mk A140
              clear A140
              obtain rfl := Option.some.inj H
              go_enter Try.func46, Try.ntmps46
              go_wp2_with (first | ((with_reducible refine gate_callee (f := 35) rfl ?_); refine goesL_ (some 14) rfl rfl Try.func35 (by kernel_rfl) rfl #[.float .f64 a0, .int .i64 0] rfl (by (try simp only [List.map_toArray, List.map_cons, List.map_nil]); first | done | rfl | (simp only [List.length_drop, List.length_take]; rfl)) ?_; (with_reducible refine (math_IsInf.calls a0 0 false _ A4.out).mono ?_); rintro e w' ⟨rfl, ⟨nd, rfl⟩⟩; refine ⟨_, rfl, ?_⟩) | (go_at_call 34; (with_reducible refine (math_IsNaN.calls a0 false _ A6.out).mono ?_); rintro e w' ⟨rfl, ⟨nd, rfl⟩⟩) | ((with_reducible refine gate_callee (f := 49) rfl ?_); refine goesL_ (some 22) rfl rfl Try.func49 (by kernel_rfl) rfl #[.float .f64 a0] rfl (by (try simp only [List.map_toArray, List.map_cons, List.map_nil]); first | done | rfl | (simp only [List.length_drop, List.length_take]; rfl)) ?_; (with_reducible refine (math_normalize.calls a0 t165 t166 _ A8.out).mono ?_); rintro e w' ⟨rfl, ⟨nd, rfl⟩⟩; refine ⟨_, rfl, ?_⟩) | ((with_reducible refine gate_callee (f := 24) rfl ?_); refine goesL_ (some 46) rfl rfl Try.func24 (by kernel_rfl) rfl #[.int .i64 1] rfl (by (try simp only [List.map_toArray, List.map_cons, List.map_nil]); first | done | rfl | (simp only [List.length_drop, List.length_take]; rfl)) ?_; (with_reducible refine (math_Inf.calls 1 t169 _ A14.out).mono ?_); rintro e w' ⟨rfl, ⟨nd, rfl⟩⟩; refine ⟨_, rfl, ?_⟩))
              go_ret
              exact ⟨by first | rfl | (simp; done) | (simp [*]; done), by repeat (first | exact Drawn0.refl _ | apply Drawn0.step)⟩
          · rw [if_neg c11] at H
            have c11b0 : decide (1023 < (wrap64 ((wrap64 (a1 + t166)) + (wrap64 ((Go.bits .and .i64 (wrap64 ((t165 : Int) / 4503599627370496)) 2047) - 1023))))) = false := decide_eq_false c11
            clear c11
            by_cases c15 : (wrap64 ((wrap64 (a1 + t166)) + (wrap64 ((Go.bits .and .i64 (wrap64 ((t165 : Int) / 4503599627370496)) 2047) - 1023)))) < (-1022)
            · rw [if_pos c15] at H
              have c15b0 : decide ((wrap64 ((wrap64 (a1 + t166)) + (wrap64 ((Go.bits .and .i64 (wrap64 ((t165 : Int) / 4503599627370496)) 2047) - 1023)))) < (-1022)) = true := decide_eq_true c15
              clear c15
              by_cases c16 : fok .mul 4368491638549381120 (Int.toNat (Go.bits .or .u64 (Go.bits .andNot .u64 (t165 : Int) 9218868437227405312) (IntKind.u64.wrap ((IntKind.u64.wrap (wrap64 ((wrap64 ((wrap64 ((wrap64 (a1 + t166)) + (wrap64 ((Go.bits .and .i64 (wrap64 ((t165 : Int) / 4503599627370496)) 2047) - 1023)))) + 53)) + 1023))) * 4503599627370496)))) = true
              · rw [if_pos c16] at H
                have c16b0 : fok .mul 4368491638549381120 (Int.toNat (Go.bits .or .u64 (Go.bits .andNot .u64 (t165 : Int) 9218868437227405312) (IntKind.u64.wrap ((IntKind.u64.wrap (wrap64 ((wrap64 ((wrap64 ((wrap64 (a1 + t166)) + (wrap64 ((Go.bits .and .i64 (wrap64 ((t165 : Int) / 4503599627370496)) 2047) - 1023)))) + 53)) + 1023))) * 4503599627370496)))) = true := c16
                clear c16
                obtain rfl := Option.some.inj H
                go_enter Try.func46, Try.ntmps46
                go_wp2_with (first | ((with_reducible refine gate_callee (f := 35) rfl ?_); refine goesL_ (some 14) rfl rfl Try.func35 (by kernel_rfl) rfl #[.float .f64 a0, .int .i64 0] rfl (by (try simp only [List.map_toArray, List.map_cons, List.map_nil]); first | done | rfl | (simp only [List.length_drop, List.length_take]; rfl)) ?_; (with_reducible refine (math_IsInf.calls a0 0 false _ A4.out).mono ?_); rintro e w' ⟨rfl, ⟨nd, rfl⟩⟩; refine ⟨_, rfl, ?_⟩) | (go_at_call 34; (with_reducible refine (math_IsNaN.calls a0 false _ A6.out).mono ?_); rintro e w' ⟨rfl, ⟨nd, rfl⟩⟩) | ((with_reducible refine gate_callee (f := 49) rfl ?_); refine goesL_ (some 22) rfl rfl Try.func49 (by kernel_rfl) rfl #[.float .f64 a0] rfl (by (try simp only [List.map_toArray, List.map_cons, List.map_nil]); first | done | rfl | (simp only [List.length_drop, List.length_take]; rfl)) ?_; (with_reducible refine (math_normalize.calls a0 t165 t166 _ A8.out).mono ?_); rintro e w' ⟨rfl, ⟨nd, rfl⟩⟩; refine ⟨_, rfl, ?_⟩))
                go_ret
                exact ⟨by first | rfl | (simp; done) | (simp [*]; done), by repeat (first | exact Drawn0.refl _ | apply Drawn0.step)⟩
              · rw [if_neg c16] at H
                exact absurd H (by simp)
            · rw [if_neg c15] at H
              have c15b0 : decide ((wrap64 ((wrap64 (a1 + t166)) + (wrap64 ((Go.bits .and .i64 (wrap64 ((t165 : Int) / 4503599627370496)) 2047) - 1023)))) < (-1022)) = false := decide_eq_false c15
              clear c15
              by_cases c17 : fok .mul 4607182418800017408 (Int.toNat (Go.bits .or .u64 (Go.bits .andNot .u64 (t165 : Int) 9218868437227405312) (IntKind.u64.wrap ((IntKind.u64.wrap (wrap64 ((wrap64 ((wrap64 (a1 + t166)) + (wrap64 ((Go.bits .and .i64 (wrap64 ((t165 : Int) / 4503599627370496)) 2047) - 1023)))) + 1023))) * 4503599627370496)))) = true
              · rw [if_pos c17] at H
                have c17b0 : fok .mul 4607182418800017408 (Int.toNat (Go.bits .or .u64 (Go.bits .andNot .u64 (t165 : Int) 9218868437227405312) (IntKind.u64.wrap ((IntKind.u64.wrap (wrap64 ((wrap64 ((wrap64 (a1 + t166)) + (wrap64 ((Go.bits .and .i64 (wrap64 ((t165 : Int) / 4503599627370496)) 2047) - 1023)))) + 1023))) * 4503599627370496)))) = true := c17
                clear c17
                obtain rfl := Option.some.inj H
                go_enter Try.func46, Try.ntmps46
                go_wp2_with (first | ((with_reducible refine gate_callee (f := 35) rfl ?_); refine goesL_ (some 14) rfl rfl Try.func35 (by kernel_rfl) rfl #[.float .f64 a0, .int .i64 0] rfl (by (try simp only [List.map_toArray, List.map_cons, List.map_nil]); first | done | rfl | (simp only [List.length_drop, List.length_take]; rfl)) ?_; (with_reducible refine (math_IsInf.calls a0 0 false _ A4.out).mono ?_); rintro e w' ⟨rfl, ⟨nd, rfl⟩⟩; refine ⟨_, rfl, ?_⟩) | (go_at_call 34; (with_reducible refine (math_IsNaN.calls a0 false _ A6.out).mono ?_); rintro e w' ⟨rfl, ⟨nd, rfl⟩⟩) | ((with_reducible refine gate_callee (f := 49) rfl ?_); refine goesL_ (some 22) rfl rfl Try.func49 (by kernel_rfl) rfl #[.float .f64 a0] rfl (by (try simp only [List.map_toArray, List.map_cons, List.map_nil]); first | done | rfl | (simp only [List.length_drop, List.length_take]; rfl)) ?_; (with_reducible refine (math_normalize.calls a0 t165 t166 _ A8.out).mono ?_); rintro e w' ⟨rfl, ⟨nd, rfl⟩⟩; refine ⟨_, rfl, ?_⟩))
                go_ret
                exact ⟨by first | rfl | (simp; done) | (simp [*]; done), by repeat (first | exact Drawn0.refl _ | apply Drawn0.step)⟩
              · rw [if_neg c17] at H
                exact absurd H (by simp)

/-! ### math_Ldexp: function 37 -/
def math_Ldexp.f (a0 : Nat) (a1 : Int) : Option (Nat) := (math_ldexp.f a0 a1).bind fun t170 => (some t170)
set_option maxHeartbeats 8000000 in
set_option maxRecDepth 100000 in
theorem math_Ldexp.calls (a0 : Nat) (a1 : Int) (r : Nat) (w : World) (h : math_Ldexp.f a0 a1 = some r) :
    Calls Try.prog 37 #[.float .f64 a0, .int .i64 a1] w fun e w' => e = .returned (.float .f64 r) ∧ Drawn0 w w' := by
  have H : ((math_ldexp.f a0 a1).bind fun t170 => (some t170)) = some r := h
  clear h
  replace H := Option.bind_eq_some_iff.mp H
  obtain ⟨t170, A30, H⟩ := H
  replace H : (some t170) = some r := H
  have A3 := Aside0.mk A30
  clear A30
  obtain rfl := Option.some.inj H
  go_enter Try.func37, Try.ntmps37
  go_wp2_with (first | ((with_reducible refine gate_callee (f := 46) rfl ?_); refine goesL_ (some 10) rfl rfl Try.func46 (by kernel_rfl) rfl #[.float .f64 a0, .int .i64 a1] rfl (by (try simp only [List.map_toArray, List.map_cons, List.map_nil]); first | done | rfl | (simp only [List.length_drop, List.length_take]; rfl)) ?_; (with_reducible refine (math_ldexp.calls a0 a1 t170 _ A3.out).mono ?_); rintro e w' ⟨rfl, ⟨nd, rfl⟩⟩; refine ⟨_, rfl, ?_⟩))
  go_ret
  exact ⟨by first | rfl | (simp; done) | (simp [*]; done), by repeat (first | exact Drawn0.refl _ | apply Drawn0.step)⟩

end Go.Proofs.Ytemlhkognjhgbaa.PAll
