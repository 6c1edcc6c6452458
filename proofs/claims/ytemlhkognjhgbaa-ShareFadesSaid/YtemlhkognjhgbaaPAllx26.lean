-- Written by wip/tools/hprint.py of this claim's session (a driver over the kit's print, with contracts proved by hand among them).
import Derived.Test.YtemlhkognjhgbaaPAllx0
import Derived.Test.YtemlhkognjhgbaaPAllx2
import Derived.Test.YtemlhkognjhgbaaPAllx13
import Derived.Test.YtemlhkognjhgbaaPAllx20
import Derived.Test.YtemlhkognjhgbaaPAllx22
import Derived.Test.YtemlhkognjhgbaaPAllx25
namespace Go.Proofs.Ytemlhkognjhgbaa.PAll
open Go.RowKit Go.Proofs.YtemlhkognjhgbaaW.PrintWords Go.Proofs.YtemlhkognjhgbaaW.PrintLast Go.Proofs.YtemlhkognjhgbaaW.PrintMore
attribute [local go_sem] max2_int min2_int max_two min_two max_three min_three max_four min_four   -- for this text's walks alone
set_option linter.unusedVariables false
set_option linter.unusedSimpArgs false

/-! ### bailiwicklaw15_ShareFades: function 7 -/
mutual
def bailiwicklaw15_ShareFades.j0 : Nat → Nat → Int → Int → List Nat → Nat → Bool → Option (Bool)
  | 0, _, _, _, _, _, _ => none
  | k + 1, x0, x1, x2, x3, x9, x53 => if x53 = true then (some false) else ((share_Fade.f k x0 (wrap64 (x1))).bind fun t310 => (if fgt t310 x9 = true then (bailiwicklaw15_ShareFades.j1 k x3 true) else ((share_Fade.f k t310 (wrap64 (x2))).bind fun t311 => ((share_Fade.f k x0 (wrap64 ((wrap64 (x1)) + (wrap64 (x2))))).bind fun t312 => ((bailiwicklaw15_same.f t311 t312).bind fun t313 => (bailiwicklaw15_ShareFades.j1 k x3 (!t313)))))))
def bailiwicklaw15_ShareFades.j1 : Nat → List Nat → Bool → Option (Bool)
  | 0, _, _ => none
  | k + 1, x3, x75 => if x75 = true then (some false) else ((share_Sum.f k x3).bind fun t314 => (bailiwicklaw15_ShareFades.l0 k x3 t314 0))
def bailiwicklaw15_ShareFades.l0 : Nat → List Nat → Nat → Int → Option (Bool)
  | 0, _, _, _ => none
  | k + 1, x3, x11, x12 => if x12 < (x3.length : Int) then (if 0 ≤ x12 then ((share_Clean.f k (rdOf (0 : Nat) x3 x12)).bind fun t316 => (if fgt t316 x11 = true then (some false) else (bailiwicklaw15_ShareFades.l0 k x3 x11 (wrap64 (x12 + 1))))) else (none)) else (some (fle x11 9218868437227405311))
end
def bailiwicklaw15_ShareFades.f (k : Nat) (a0 : Nat) (a1 : Int) (a2 : Int) (l3 : List Nat) : Option (Bool) := (bailiwicklaw15_awake.f k).bind fun t297 => (if t297 = true then (if 0 ≤ (mn (l3.length : Int) 200) then (if (mn (l3.length : Int) 200) ≤ (l3.length : Int) then ((some (l3.take ((mn (l3.length : Int) 200) : Int).toNat : List Nat)).bind fun y298 => ((share_Clean.f k a0).bind fun t302 => (if fge t302 0 = true then (if fle t302 9218868437227405311 = true then ((math_Signbit.f t302).bind fun t303 => (if t303 = true then (bailiwicklaw15_ShareFades.j0 k a0 a1 a2 y298 t302 true) else ((share_Clean.f k t302).bind fun t304 => ((bailiwicklaw15_same.f t304 t302).bind fun t305 => (if t305 = true then ((share_Fade.f k a0 0).bind fun t306 => ((bailiwicklaw15_same.f t306 t302).bind fun t307 => (if t307 = true then ((share_Fade.f k a0 (-5)).bind fun t308 => ((bailiwicklaw15_same.f t308 t302).bind fun t309 => (bailiwicklaw15_ShareFades.j0 k a0 a1 a2 y298 t302 (!t309)))) else (bailiwicklaw15_ShareFades.j0 k a0 a1 a2 y298 t302 true)))) else (bailiwicklaw15_ShareFades.j0 k a0 a1 a2 y298 t302 true)))))) else (bailiwicklaw15_ShareFades.j0 k a0 a1 a2 y298 t302 true)) else (bailiwicklaw15_ShareFades.j0 k a0 a1 a2 y298 t302 true)))) else (none)) else (none)) else (some false))
theorem bailiwicklaw15_ShareFades.mono_l : ∀ k, (∀ y0 y1 y2 y3 y4 y5, LeO (bailiwicklaw15_ShareFades.j0 k y0 y1 y2 y3 y4 y5) (bailiwicklaw15_ShareFades.j0 (k + 1) y0 y1 y2 y3 y4 y5)) ∧ (∀ y0 y1, LeO (bailiwicklaw15_ShareFades.j1 k y0 y1) (bailiwicklaw15_ShareFades.j1 (k + 1) y0 y1)) ∧ (∀ y0 y1 y2, LeO (bailiwicklaw15_ShareFades.l0 k y0 y1 y2) (bailiwicklaw15_ShareFades.l0 (k + 1) y0 y1 y2))
  | 0 => ⟨fun _ _ _ _ _ _ r h => by simp [bailiwicklaw15_ShareFades.j0] at h, fun _ _ r h => by simp [bailiwicklaw15_ShareFades.j1] at h, fun _ _ _ r h => by simp [bailiwicklaw15_ShareFades.l0] at h⟩
  | k + 1 => by
    obtain ⟨ih0, ih1, ih2⟩ := bailiwicklaw15_ShareFades.mono_l k
    refine ⟨?_, ?_, ?_⟩
    · intro y0 y1 y2 y3 y4 y5
      unfold bailiwicklaw15_ShareFades.j0
      repeat' first
      | (with_reducible exact ih0 _ _ _ _ _ _)
      | (with_reducible exact ih1 _ _)
      | (with_reducible exact ih2 _ _ _)
      | (with_reducible exact bailiwicklaw15_awake.mono _)
      | (with_reducible exact share_Clean.mono _ _)
      | (with_reducible exact share_Fade.mono _ _ _)
      | (with_reducible exact share_Sum.mono _ _)
      | (with_reducible exact LeO.refl _)
      | (with_reducible exact LeO.none _)
      | (with_reducible refine LeO.ite ?_ ?_)
      | (with_reducible refine LeO.bind ?_ (fun _ => ?_))
      | exact ih0 _ _ _ _ _ _
      | exact ih1 _ _
      | exact ih2 _ _ _
      | exact bailiwicklaw15_awake.mono _
      | exact share_Clean.mono _ _
      | exact share_Fade.mono _ _ _
      | exact share_Sum.mono _ _
      | exact LeO.none _
      | refine LeO.ite ?_ ?_
      | refine LeO.bind ?_ (fun _ => ?_)
    · intro y0 y1
      unfold bailiwicklaw15_ShareFades.j1
      repeat' first
      | (with_reducible exact ih0 _ _ _ _ _ _)
      | (with_reducible exact ih1 _ _)
      | (with_reducible exact ih2 _ _ _)
      | (with_reducible exact bailiwicklaw15_awake.mono _)
      | (with_reducible exact share_Clean.mono _ _)
      | (with_reducible exact share_Fade.mono _ _ _)
      | (with_reducible exact share_Sum.mono _ _)
      | (with_reducible exact LeO.refl _)
      | (with_reducible exact LeO.none _)
      | (with_reducible refine LeO.ite ?_ ?_)
      | (with_reducible refine LeO.bind ?_ (fun _ => ?_))
      | exact ih0 _ _ _ _ _ _
      | exact ih1 _ _
      | exact ih2 _ _ _
      | exact bailiwicklaw15_awake.mono _
      | exact share_Clean.mono _ _
      | exact share_Fade.mono _ _ _
      | exact share_Sum.mono _ _
      | exact LeO.none _
      | refine LeO.ite ?_ ?_
      | refine LeO.bind ?_ (fun _ => ?_)
    · intro y0 y1 y2
      unfold bailiwicklaw15_ShareFades.l0
      repeat' first
      | (with_reducible exact ih0 _ _ _ _ _ _)
      | (with_reducible exact ih1 _ _)
      | (with_reducible exact ih2 _ _ _)
      | (with_reducible exact bailiwicklaw15_awake.mono _)
      | (with_reducible exact share_Clean.mono _ _)
      | (with_reducible exact share_Fade.mono _ _ _)
      | (with_reducible exact share_Sum.mono _ _)
      | (with_reducible exact LeO.refl _)
      | (with_reducible exact LeO.none _)
      | (with_reducible refine LeO.ite ?_ ?_)
      | (with_reducible refine LeO.bind ?_ (fun _ => ?_))
      | exact ih0 _ _ _ _ _ _
      | exact ih1 _ _
      | exact ih2 _ _ _
      | exact bailiwicklaw15_awake.mono _
      | exact share_Clean.mono _ _
      | exact share_Fade.mono _ _ _
      | exact share_Sum.mono _ _
      | exact LeO.none _
      | refine LeO.ite ?_ ?_
      | refine LeO.bind ?_ (fun _ => ?_)
theorem bailiwicklaw15_ShareFades.mono : ∀ a0 a1 a2 a3 k, LeO (bailiwicklaw15_ShareFades.f k a0 a1 a2 a3) (bailiwicklaw15_ShareFades.f (k + 1) a0 a1 a2 a3) := by
  intro a0 a1 a2 a3 k
  obtain ⟨ih0, ih1, ih2⟩ := bailiwicklaw15_ShareFades.mono_l k
  unfold bailiwicklaw15_ShareFades.f
  repeat' first
      | (with_reducible exact ih0 _ _ _ _ _ _)
      | (with_reducible exact ih1 _ _)
      | (with_reducible exact ih2 _ _ _)
      | (with_reducible exact bailiwicklaw15_awake.mono _)
      | (with_reducible exact share_Clean.mono _ _)
      | (with_reducible exact share_Fade.mono _ _ _)
      | (with_reducible exact share_Sum.mono _ _)
      | (with_reducible exact LeO.refl _)
      | (with_reducible exact LeO.none _)
      | (with_reducible refine LeO.ite ?_ ?_)
      | (with_reducible refine LeO.bind ?_ (fun _ => ?_))
      | exact ih0 _ _ _ _ _ _
      | exact ih1 _ _
      | exact ih2 _ _ _
      | exact bailiwicklaw15_awake.mono _
      | exact share_Clean.mono _ _
      | exact share_Fade.mono _ _ _
      | exact share_Sum.mono _ _
      | exact LeO.none _
      | refine LeO.ite ?_ ?_
      | refine LeO.bind ?_ (fun _ => ?_)
set_option maxHeartbeats 8000000 in
set_option maxRecDepth 100000 in
theorem bailiwicklaw15_ShareFades.calls (k : Nat) (a0 : Nat) (a1 : Int) (a2 : Int) (A3 : Option Addr) (c3 : Nat) (l3 : List Nat) (r : Bool) (w : World) (hr3 : Kd.C Kd.float w A3 l3.length l3) (hc3 : l3.length ≤ c3) (h : bailiwicklaw15_ShareFades.f k a0 a1 a2 l3 = some r) :
    Calls Try.prog 7 #[.float .f64 a0, .int .u8 a1, .int .u8 a2, .slice A3 l3.length c3] w fun e w' => e = .returned (.bool r) ∧ Below w.heap.size w w' := by
  have HR3 := Aside0.mk hr3
  have HC3 := Aside0.mk hc3
  clear hr3 hc3
  have HB := Aside0.mk (Below.refl w.heap.size w)
  have H : ((bailiwicklaw15_awake.f k).bind fun t297 => (if t297 = true then (if 0 ≤ (mn (l3.length : Int) 200) then (if (mn (l3.length : Int) 200) ≤ (l3.length : Int) then ((some (l3.take ((mn (l3.length : Int) 200) : Int).toNat : List Nat)).bind fun y298 => ((share_Clean.f k a0).bind fun t302 => (if fge t302 0 = true then (if fle t302 9218868437227405311 = true then ((math_Signbit.f t302).bind fun t303 => (if t303 = true then (bailiwicklaw15_ShareFades.j0 k a0 a1 a2 y298 t302 true) else ((share_Clean.f k t302).bind fun t304 => ((bailiwicklaw15_same.f t304 t302).bind fun t305 => (if t305 = true then ((share_Fade.f k a0 0).bind fun t306 => ((bailiwicklaw15_same.f t306 t302).bind fun t307 => (if t307 = true then ((share_Fade.f k a0 (-5)).bind fun t308 => ((bailiwicklaw15_same.f t308 t302).bind fun t309 => (bailiwicklaw15_ShareFades.j0 k a0 a1 a2 y298 t302 (!t309)))) else (bailiwicklaw15_ShareFades.j0 k a0 a1 a2 y298 t302 true)))) else (bailiwicklaw15_ShareFades.j0 k a0 a1 a2 y298 t302 true)))))) else (bailiwicklaw15_ShareFades.j0 k a0 a1 a2 y298 t302 true)) else (bailiwicklaw15_ShareFades.j0 k a0 a1 a2 y298 t302 true)))) else (none)) else (none)) else (some false))) = some r := h
  clear h
  replace H := Option.bind_eq_some_iff.mp H
  obtain ⟨t297, A50, H⟩ := H
  replace H : (if t297 = true then (if 0 ≤ (mn (l3.length : Int) 200) then (if (mn (l3.length : Int) 200) ≤ (l3.length : Int) then ((some (l3.take ((mn (l3.length : Int) 200) : Int).toNat : List Nat)).bind fun y298 => ((share_Clean.f k a0).bind fun t302 => (if fge t302 0 = true then (if fle t302 9218868437227405311 = true then ((math_Signbit.f t302).bind fun t303 => (if t303 = true then (bailiwicklaw15_ShareFades.j0 k a0 a1 a2 y298 t302 true) else ((share_Clean.f k t302).bind fun t304 => ((bailiwicklaw15_same.f t304 t302).bind fun t305 => (if t305 = true then ((share_Fade.f k a0 0).bind fun t306 => ((bailiwicklaw15_same.f t306 t302).bind fun t307 => (if t307 = true then ((share_Fade.f k a0 (-5)).bind fun t308 => ((bailiwicklaw15_same.f t308 t302).bind fun t309 => (bailiwicklaw15_ShareFades.j0 k a0 a1 a2 y298 t302 (!t309)))) else (bailiwicklaw15_ShareFades.j0 k a0 a1 a2 y298 t302 true)))) else (bailiwicklaw15_ShareFades.j0 k a0 a1 a2 y298 t302 true)))))) else (bailiwicklaw15_ShareFades.j0 k a0 a1 a2 y298 t302 true)) else (bailiwicklaw15_ShareFades.j0 k a0 a1 a2 y298 t302 true)))) else (none)) else (none)) else (some false)) = some r := H
  have A5 := Aside0.mk A50
  clear A50
  by_cases c6 : t297 = true
  · subst c6
    have H1 : (if 0 ≤ (mn (l3.length : Int) 200) then (if (mn (l3.length : Int) 200) ≤ (l3.length : Int) then ((some (l3.take ((mn (l3.length : Int) 200) : Int).toNat : List Nat)).bind fun y298 => ((share_Clean.f k a0).bind fun t302 => (if fge t302 0 = true then (if fle t302 9218868437227405311 = true then ((math_Signbit.f t302).bind fun t303 => (if t303 = true then (bailiwicklaw15_ShareFades.j0 k a0 a1 a2 y298 t302 true) else ((share_Clean.f k t302).bind fun t304 => ((bailiwicklaw15_same.f t304 t302).bind fun t305 => (if t305 = true then ((share_Fade.f k a0 0).bind fun t306 => ((bailiwicklaw15_same.f t306 t302).bind fun t307 => (if t307 = true then ((share_Fade.f k a0 (-5)).bind fun t308 => ((bailiwicklaw15_same.f t308 t302).bind fun t309 => (bailiwicklaw15_ShareFades.j0 k a0 a1 a2 y298 t302 (!t309)))) else (bailiwicklaw15_ShareFades.j0 k a0 a1 a2 y298 t302 true)))) else (bailiwicklaw15_ShareFades.j0 k a0 a1 a2 y298 t302 true)))))) else (bailiwicklaw15_ShareFades.j0 k a0 a1 a2 y298 t302 true)) else (bailiwicklaw15_ShareFades.j0 k a0 a1 a2 y298 t302 true)))) else (none)) else (none)) = some r := by rw [if_pos rfl] at H; exact H
    clear H
    have H := H1
    clear H1
    obtain ⟨ji7, hji7⟩ : ∃ j_ : Int, (mn (l3.length : Int) 200) = j_ := ⟨_, rfl⟩
    replace H : (if 0 ≤ (ji7) then (if (ji7) ≤ (l3.length : Int) then ((some (l3.take ((ji7) : Int).toNat : List Nat)).bind fun y298 => ((share_Clean.f k a0).bind fun t302 => (if fge t302 0 = true then (if fle t302 9218868437227405311 = true then ((math_Signbit.f t302).bind fun t303 => (if t303 = true then (bailiwicklaw15_ShareFades.j0 k a0 a1 a2 y298 t302 true) else ((share_Clean.f k t302).bind fun t304 => ((bailiwicklaw15_same.f t304 t302).bind fun t305 => (if t305 = true then ((share_Fade.f k a0 0).bind fun t306 => ((bailiwicklaw15_same.f t306 t302).bind fun t307 => (if t307 = true then ((share_Fade.f k a0 (-5)).bind fun t308 => ((bailiwicklaw15_same.f t308 t302).bind fun t309 => (bailiwicklaw15_ShareFades.j0 k a0 a1 a2 y298 t302 (!t309)))) else (bailiwicklaw15_ShareFades.j0 k a0 a1 a2 y298 t302 true)))) else (bailiwicklaw15_ShareFades.j0 k a0 a1 a2 y298 t302 true)))))) else (bailiwicklaw15_ShareFades.j0 k a0 a1 a2 y298 t302 true)) else (bailiwicklaw15_ShareFades.j0 k a0 a1 a2 y298 t302 true)))) else (none)) else (none)) = some r := by first | (rw [hji7] at H; exact H) | (simp only [hji7] at H ⊢; exact H)
    (try rw [hji7] at A5)
    (try (have hji7h : ji7 ≤ 200 := by (rw [← hji7]; unfold mn; (repeat' split) <;> omega)))
    (try (have hji7g : ji7 ≤ 64 := by omega))
    (try (have hji7l : 0 ≤ ji7 := by (rw [← hji7]; unfold mn; (repeat' split) <;> omega)))
    (try (have hji7m : 0 ≤ ji7 := by omega))
    have hji7_ : (if 200 < (l3.length : Int) then 200 else (l3.length : Int)) = ji7 := hji7
    by_cases c8 : 0 ≤ (ji7)
    · rw [if_pos c8] at H
      have c8b0 := eq_true c8
      have c8b1 : decide (0 ≤ (ji7)) = true := decide_eq_true c8
      clear c8
      by_cases c9 : (ji7) ≤ (l3.length : Int)
      · rw [if_pos c9] at H
        have c9b0 := eq_true c9
        have c9b1 : decide ((ji7) ≤ (l3.length : Int)) = true := decide_eq_true c9
        clear c9
        obtain ⟨y298, hy298⟩ : ∃ y_ : List Nat, y_ = (l3.take ((ji7) : Int).toNat) := ⟨_, rfl⟩
        replace H : ((share_Clean.f k a0).bind fun t302 => (if fge t302 0 = true then (if fle t302 9218868437227405311 = true then ((math_Signbit.f t302).bind fun t303 => (if t303 = true then (bailiwicklaw15_ShareFades.j0 k a0 a1 a2 y298 t302 true) else ((share_Clean.f k t302).bind fun t304 => ((bailiwicklaw15_same.f t304 t302).bind fun t305 => (if t305 = true then ((share_Fade.f k a0 0).bind fun t306 => ((bailiwicklaw15_same.f t306 t302).bind fun t307 => (if t307 = true then ((share_Fade.f k a0 (-5)).bind fun t308 => ((bailiwicklaw15_same.f t308 t302).bind fun t309 => (bailiwicklaw15_ShareFades.j0 k a0 a1 a2 y298 t302 (!t309)))) else (bailiwicklaw15_ShareFades.j0 k a0 a1 a2 y298 t302 true)))) else (bailiwicklaw15_ShareFades.j0 k a0 a1 a2 y298 t302 true)))))) else (bailiwicklaw15_ShareFades.j0 k a0 a1 a2 y298 t302 true)) else (bailiwicklaw15_ShareFades.j0 k a0 a1 a2 y298 t302 true))) = some r := by first | (rw [hy298]; with_reducible exact H) | (have H2_ := (Option.bind_some _ _).symm.trans H; rw [hy298]; with_reducible exact H2_) | (have H2_ := (Option.bind_some _ _).symm.trans H; with_reducible exact H2_) | with_reducible exact H | (rw [hy298]; exact H) | exact H
        have Ny298 := Aside0.mk hy298
        clear hy298
        replace H := Option.bind_eq_some_iff.mp H
        obtain ⟨t302, A100, H⟩ := H
        replace H : (if fge t302 0 = true then (if fle t302 9218868437227405311 = true then ((math_Signbit.f t302).bind fun t303 => (if t303 = true then (bailiwicklaw15_ShareFades.j0 k a0 a1 a2 y298 t302 true) else ((share_Clean.f k t302).bind fun t304 => ((bailiwicklaw15_same.f t304 t302).bind fun t305 => (if t305 = true then ((share_Fade.f k a0 0).bind fun t306 => ((bailiwicklaw15_same.f t306 t302).bind fun t307 => (if t307 = true then ((share_Fade.f k a0 (-5)).bind fun t308 => ((bailiwicklaw15_same.f t308 t302).bind fun t309 => (bailiwicklaw15_ShareFades.j0 k a0 a1 a2 y298 t302 (!t309)))) else (bailiwicklaw15_ShareFades.j0 k a0 a1 a2 y298 t302 true)))) else (bailiwicklaw15_ShareFades.j0 k a0 a1 a2 y298 t302 true)))))) else (bailiwicklaw15_ShareFades.j0 k a0 a1 a2 y298 t302 true)) else (bailiwicklaw15_ShareFades.j0 k a0 a1 a2 y298 t302 true)) = some r := H
        have A10 := Aside0.mk A100
        clear A100
        have HC11 := Aside0.mk H
        clear H
        go_enter Try.func7, Try.ntmps7
        go_upto_region 5 with (first | ((with_reducible refine gate_callee (f := 8) rfl ?_); refine goesL_ (some 13) rfl rfl Try.func8 (by kernel_rfl) rfl #[] rfl (by (try simp only [List.map_toArray, List.map_cons, List.map_nil]); first | done | rfl | (simp only [List.length_drop, List.length_take]; rfl)) ?_; (with_reducible refine (bailiwicklaw15_awake.calls k  true _ A5.out).mono ?_); rintro e w12 ⟨rfl, hb⟩; refine ⟨_, rfl, ?_⟩; have n0_ := Aside0.mk (below_step (by repeat (first | (with_reducible first | exact HB.out | apply below_alloc | apply pw_below_drewN | apply below_drew1) | exact HB.out)) hb); clear HB; have HB := n0_; clear n0_; (try clear hb); (try clear hb2); (try clear hk); (try clear hi); have q13 : ((ji7) : Int) ≤ ((l3.length : Int) : Int) := of_decide_eq_true (by first | (with_reducible assumption) | assumption); obtain ⟨i013, hi013, _, hsz13, _⟩ := info_parts info30; have hroom13 : l3.length ≤ c3 := HC3.out; have hC13 : Kd.C Kd.float _ A3 l3.length l3 := HR3.out; have hcut13 := cut_to (P := Try.prog) 38 30 .i64 Try.underlying38 hi013 A3 l3.length c3 (ji7) (of_decide_eq_true (by first | (with_reducible assumption) | assumption)) q13 hroom13; have hr13 := Kd.C_take (m := ((ji7) : Int).toNat) hC13 (by omega); have hy13 : y298.length = ((ji7) : Int).toNat := (by rw [Ny298.out, List.length_take]; omega); rw [← Ny298.out] at hr13; rw [← hy13] at hcut13; have HR301 := Aside0.mk hr13; have HC301 := Aside0.mk (show y298.length ≤ c3 from by omega); clear hr13 hC13 hroom13 hi013 hsz13; have KY13 := Aside0.mk hy13; clear hy13; replace q13 := eq_true q13) | ((with_reducible refine gate_callee (f := 16) rfl ?_); refine goesL_ (some 21) rfl rfl Try.func16 (by kernel_rfl) rfl #[.float .f64 a0] rfl (by (try simp only [List.map_toArray, List.map_cons, List.map_nil]); first | done | rfl | (simp only [List.length_drop, List.length_take]; rfl)) ?_; (with_reducible refine (share_Clean.calls k a0 t302 _ A10.out).mono ?_); rintro e w' ⟨rfl, ⟨nd, rfl⟩⟩; refine ⟨_, rfl, ?_⟩))
        (try simp only [Act.put, List.setIfInBounds_toArray, List.set_cons_zero, List.set_cons_succ])
        go_cut [53] (fun v53 wc => ∃ (kq : Nat) (x53_10 : Bool), v53 = .bool x53_10 ∧ Aside0 (bailiwicklaw15_ShareFades.j0 kq a0 a1 a2 y298 t302 x53_10 = some r) ∧ Aside0 (kq ≤ k) ∧ Aside0 (Below w.heap.size w wc))
        case first =>
          have H := HC11.out
          clear HC11
          by_cases c14 : fge t302 0 = true
          · rw [if_pos c14] at H
            have c14b0 : fge t302 0 = true := c14
            clear c14
            (first | rw [c14b0] | (simp only [i64_w, i32_w]; rw [c14b0]) | skip)
            by_cases c15 : fle t302 9218868437227405311 = true
            · rw [if_pos c15] at H
              have c15b0 : fle t302 9218868437227405311 = true := c15
              clear c15
              replace H := Option.bind_eq_some_iff.mp H
              obtain ⟨t303, A160, H⟩ := H
              replace H : (if t303 = true then (bailiwicklaw15_ShareFades.j0 k a0 a1 a2 y298 t302 true) else ((share_Clean.f k t302).bind fun t304 => ((bailiwicklaw15_same.f t304 t302).bind fun t305 => (if t305 = true then ((share_Fade.f k a0 0).bind fun t306 => ((bailiwicklaw15_same.f t306 t302).bind fun t307 => (if t307 = true then ((share_Fade.f k a0 (-5)).bind fun t308 => ((bailiwicklaw15_same.f t308 t302).bind fun t309 => (bailiwicklaw15_ShareFades.j0 k a0 a1 a2 y298 t302 (!t309)))) else (bailiwicklaw15_ShareFades.j0 k a0 a1 a2 y298 t302 true)))) else (bailiwicklaw15_ShareFades.j0 k a0 a1 a2 y298 t302 true))))) = some r := H
              have A16 := Aside0.mk A160
              clear A160
              by_cases c17 : t303 = true
              · subst c17
                have H1 : (bailiwicklaw15_ShareFades.j0 k a0 a1 a2 y298 t302 true) = some r := by rw [if_pos rfl] at H; exact H
                clear H
                have H := H1
                clear H1
                have H' := Aside0.mk H
                clear H
                go_wp2_with (first | (go_at_call 23; (with_reducible refine (math_Signbit.calls t302 true _ A16.out).mono ?_); rintro e w' ⟨rfl, ⟨nd, rfl⟩⟩))
                go_meet
                case rel => exact ⟨_, (true), (by first | rfl | (simp; done) | (simp [*]; done)), H', ⟨by first | omega | exact Nat.le_refl _⟩, ⟨by repeat (first | (with_reducible first | exact HB.out | apply below_alloc | apply pw_below_drewN | apply below_drew1) | exact HB.out)⟩⟩
              · replace c17 := Bool.eq_false_iff.mpr c17
                subst c17
                have H1 : ((share_Clean.f k t302).bind fun t304 => ((bailiwicklaw15_same.f t304 t302).bind fun t305 => (if t305 = true then ((share_Fade.f k a0 0).bind fun t306 => ((bailiwicklaw15_same.f t306 t302).bind fun t307 => (if t307 = true then ((share_Fade.f k a0 (-5)).bind fun t308 => ((bailiwicklaw15_same.f t308 t302).bind fun t309 => (bailiwicklaw15_ShareFades.j0 k a0 a1 a2 y298 t302 (!t309)))) else (bailiwicklaw15_ShareFades.j0 k a0 a1 a2 y298 t302 true)))) else (bailiwicklaw15_ShareFades.j0 k a0 a1 a2 y298 t302 true)))) = some r := by rw [if_neg (show ¬ (false = true) by decide)] at H; exact H
                clear H
                have H := H1
                clear H1
                replace H := Option.bind_eq_some_iff.mp H
                obtain ⟨t304, A180, H⟩ := H
                replace H : ((bailiwicklaw15_same.f t304 t302).bind fun t305 => (if t305 = true then ((share_Fade.f k a0 0).bind fun t306 => ((bailiwicklaw15_same.f t306 t302).bind fun t307 => (if t307 = true then ((share_Fade.f k a0 (-5)).bind fun t308 => ((bailiwicklaw15_same.f t308 t302).bind fun t309 => (bailiwicklaw15_ShareFades.j0 k a0 a1 a2 y298 t302 (!t309)))) else (bailiwicklaw15_ShareFades.j0 k a0 a1 a2 y298 t302 true)))) else (bailiwicklaw15_ShareFades.j0 k a0 a1 a2 y298 t302 true))) = some r := H
                have A18 := Aside0.mk A180
                clear A180
                replace H := Option.bind_eq_some_iff.mp H
                obtain ⟨t305, A190, H⟩ := H
                replace H : (if t305 = true then ((share_Fade.f k a0 0).bind fun t306 => ((bailiwicklaw15_same.f t306 t302).bind fun t307 => (if t307 = true then ((share_Fade.f k a0 (-5)).bind fun t308 => ((bailiwicklaw15_same.f t308 t302).bind fun t309 => (bailiwicklaw15_ShareFades.j0 k a0 a1 a2 y298 t302 (!t309)))) else (bailiwicklaw15_ShareFades.j0 k a0 a1 a2 y298 t302 true)))) else (bailiwicklaw15_ShareFades.j0 k a0 a1 a2 y298 t302 true)) = some r := H
                have A19 := Aside0.mk A190
                clear A190
                by_cases c20 : t305 = true
                · subst c20
                  have H1 : ((share_Fade.f k a0 0).bind fun t306 => ((bailiwicklaw15_same.f t306 t302).bind fun t307 => (if t307 = true then ((share_Fade.f k a0 (-5)).bind fun t308 => ((bailiwicklaw15_same.f t308 t302).bind fun t309 => (bailiwicklaw15_ShareFades.j0 k a0 a1 a2 y298 t302 (!t309)))) else (bailiwicklaw15_ShareFades.j0 k a0 a1 a2 y298 t302 true)))) = some r := by rw [if_pos rfl] at H; exact H
                  clear H
                  have H := H1
                  clear H1
                  replace H := Option.bind_eq_some_iff.mp H
                  obtain ⟨t306, A210, H⟩ := H
                  replace H : ((bailiwicklaw15_same.f t306 t302).bind fun t307 => (if t307 = true then ((share_Fade.f k a0 (-5)).bind fun t308 => ((bailiwicklaw15_same.f t308 t302).bind fun t309 => (bailiwicklaw15_ShareFades.j0 k a0 a1 a2 y298 t302 (!t309)))) else (bailiwicklaw15_ShareFades.j0 k a0 a1 a2 y298 t302 true))) = some r := H
                  have A21 := Aside0.mk A210
                  clear A210
                  replace H := Option.bind_eq_some_iff.mp H
                  obtain ⟨t307, A220, H⟩ := H
                  replace H : (if t307 = true then ((share_Fade.f k a0 (-5)).bind fun t308 => ((bailiwicklaw15_same.f t308 t302).bind fun t309 => (bailiwicklaw15_ShareFades.j0 k a0 a1 a2 y298 t302 (!t309)))) else (bailiwicklaw15_ShareFades.j0 k a0 a1 a2 y298 t302 true)) = some r := H
                  have A22 := Aside0.mk A220
                  clear A220
                  by_cases c23 : t307 = true
                  · subst c23
                    have H1 : ((share_Fade.f k a0 (-5)).bind fun t308 => ((bailiwicklaw15_same.f t308 t302).bind fun t309 => (bailiwicklaw15_ShareFades.j0 k a0 a1 a2 y298 t302 (!t309)))) = some r := by rw [if_pos rfl] at H; exact H
                    clear H
                    have H := H1
                    clear H1
                    replace H := Option.bind_eq_some_iff.mp H
                    obtain ⟨t308, A240, H⟩ := H
                    replace H : ((bailiwicklaw15_same.f t308 t302).bind fun t309 => (bailiwicklaw15_ShareFades.j0 k a0 a1 a2 y298 t302 (!t309))) = some r := H
                    have A24 := Aside0.mk A240
                    clear A240
                    replace H := Option.bind_eq_some_iff.mp H
                    obtain ⟨t309, A250, H⟩ := H
                    replace H : (bailiwicklaw15_ShareFades.j0 k a0 a1 a2 y298 t302 (!t309)) = some r := H
                    have A25 := Aside0.mk A250
                    clear A250
                    have H' := Aside0.mk H
                    clear H
                    go_wp2_with (first | (go_at_call 23; (with_reducible refine (math_Signbit.calls t302 false _ A16.out).mono ?_); rintro e w' ⟨rfl, ⟨nd, rfl⟩⟩) | (go_at_call 16; (with_reducible refine (share_Clean.calls k t302 t304 _ A18.out).mono ?_); rintro e w' ⟨rfl, ⟨nd, rfl⟩⟩) | (go_at_call 15; (with_reducible refine (bailiwicklaw15_same.calls t304 t302 true _ A19.out).mono ?_); rintro e w' ⟨rfl, ⟨nd, rfl⟩⟩) | (go_at_call 18; (with_reducible refine (share_Fade.calls k a0 0 t306 _ A21.out).mono ?_); rintro e w26 ⟨rfl, hb⟩; have n0_ := Aside0.mk (below_step (by repeat (first | (with_reducible first | exact HB.out | apply below_alloc | apply pw_below_drewN | apply below_drew1) | exact HB.out)) hb); clear HB; have HB := n0_; clear n0_; (try clear hb); (try clear hb2); (try clear hk); (try clear hi)) | (go_at_call 15; (with_reducible refine (bailiwicklaw15_same.calls t306 t302 true _ A22.out).mono ?_); rintro e w' ⟨rfl, ⟨nd, rfl⟩⟩) | (go_at_call 18; (with_reducible refine (share_Fade.calls k a0 (-5) t308 _ A24.out).mono ?_); rintro e w27 ⟨rfl, hb⟩; have n0_ := Aside0.mk (below_step (by repeat (first | (with_reducible first | exact HB.out | apply below_alloc | apply pw_below_drewN | apply below_drew1) | exact HB.out)) hb); clear HB; have HB := n0_; clear n0_; (try clear hb); (try clear hb2); (try clear hk); (try clear hi)) | (go_at_call 15; (with_reducible refine (bailiwicklaw15_same.calls t308 t302 t309 _ A25.out).mono ?_); rintro e w' ⟨rfl, ⟨nd, rfl⟩⟩))
                    go_meet
                    case rel => exact ⟨_, (!t309), (by first | rfl | (simp; done) | (simp [*]; done)), H', ⟨by first | omega | exact Nat.le_refl _⟩, ⟨by repeat (first | (with_reducible first | exact HB.out | apply below_alloc | apply pw_below_drewN | apply below_drew1) | exact HB.out)⟩⟩
                  · replace c23 := Bool.eq_false_iff.mpr c23
                    subst c23
                    have H1 : (bailiwicklaw15_ShareFades.j0 k a0 a1 a2 y298 t302 true) = some r := by rw [if_neg (show ¬ (false = true) by decide)] at H; exact H
                    clear H
                    have H := H1
                    clear H1
                    have H' := Aside0.mk H
                    clear H
                    go_wp2_with (first | (go_at_call 23; (with_reducible refine (math_Signbit.calls t302 false _ A16.out).mono ?_); rintro e w' ⟨rfl, ⟨nd, rfl⟩⟩) | (go_at_call 16; (with_reducible refine (share_Clean.calls k t302 t304 _ A18.out).mono ?_); rintro e w' ⟨rfl, ⟨nd, rfl⟩⟩) | (go_at_call 15; (with_reducible refine (bailiwicklaw15_same.calls t304 t302 true _ A19.out).mono ?_); rintro e w' ⟨rfl, ⟨nd, rfl⟩⟩) | (go_at_call 18; (with_reducible refine (share_Fade.calls k a0 0 t306 _ A21.out).mono ?_); rintro e w28 ⟨rfl, hb⟩; have n0_ := Aside0.mk (below_step (by repeat (first | (with_reducible first | exact HB.out | apply below_alloc | apply pw_below_drewN | apply below_drew1) | exact HB.out)) hb); clear HB; have HB := n0_; clear n0_; (try clear hb); (try clear hb2); (try clear hk); (try clear hi)) | (go_at_call 15; (with_reducible refine (bailiwicklaw15_same.calls t306 t302 false _ A22.out).mono ?_); rintro e w' ⟨rfl, ⟨nd, rfl⟩⟩))
                    go_meet
                    case rel => exact ⟨_, (true), (by first | rfl | (simp; done) | (simp [*]; done)), H', ⟨by first | omega | exact Nat.le_refl _⟩, ⟨by repeat (first | (with_reducible first | exact HB.out | apply below_alloc | apply pw_below_drewN | apply below_drew1) | exact HB.out)⟩⟩
                · replace c20 := Bool.eq_false_iff.mpr c20
                  subst c20
                  have H1 : (bailiwicklaw15_ShareFades.j0 k a0 a1 a2 y298 t302 true) = some r := by rw [if_neg (show ¬ (false = true) by decide)] at H; exact H
                  clear H
                  have H := H1
                  clear H1
                  have H' := Aside0.mk H
                  clear H
                  go_wp2_with (first | (go_at_call 23; (with_reducible refine (math_Signbit.calls t302 false _ A16.out).mono ?_); rintro e w' ⟨rfl, ⟨nd, rfl⟩⟩) | (go_at_call 16; (with_reducible refine (share_Clean.calls k t302 t304 _ A18.out).mono ?_); rintro e w' ⟨rfl, ⟨nd, rfl⟩⟩) | (go_at_call 15; (with_reducible refine (bailiwicklaw15_same.calls t304 t302 false _ A19.out).mono ?_); rintro e w' ⟨rfl, ⟨nd, rfl⟩⟩))
                  go_meet
                  case rel => exact ⟨_, (true), (by first | rfl | (simp; done) | (simp [*]; done)), H', ⟨by first | omega | exact Nat.le_refl _⟩, ⟨by repeat (first | (with_reducible first | exact HB.out | apply below_alloc | apply pw_below_drewN | apply below_drew1) | exact HB.out)⟩⟩
            · rw [if_neg c15] at H
              have c15b0 : fle t302 9218868437227405311 = false := by simpa using c15
              clear c15
              have H' := Aside0.mk H
              clear H
              go_wp2
              go_meet
              case rel => exact ⟨_, (true), (by first | rfl | (simp; done) | (simp [*]; done)), H', ⟨by first | omega | exact Nat.le_refl _⟩, ⟨by repeat (first | (with_reducible first | exact HB.out | apply below_alloc | apply pw_below_drewN | apply below_drew1) | exact HB.out)⟩⟩
          · rw [if_neg c14] at H
            have c14b0 : fge t302 0 = false := by simpa using c14
            clear c14
            (first | rw [c14b0] | (simp only [i64_w, i32_w]; rw [c14b0]) | skip)
            have H' := Aside0.mk H
            clear H
            go_wp2
            go_meet
            case rel => exact ⟨_, (true), (by first | rfl | (simp; done) | (simp [*]; done)), H', ⟨by first | omega | exact Nat.le_refl _⟩, ⟨by repeat (first | (with_reducible first | exact HB.out | apply below_alloc | apply pw_below_drewN | apply below_drew1) | exact HB.out)⟩⟩
        case rest =>
          clear HC11
          try clear c1
          try clear q1
          try clear c2
          try clear p2
          try clear c3
          try clear c6
          try clear c7
          try clear c8
          try clear c8b0
          try clear c8b1
          try clear c9
          try clear c9b0
          try clear c9b1
          try clear q13
          try clear c14
          try clear c14b0
          try clear c15
          try clear c15b0
          try clear c16
          try clear c17
          try clear c20
          try clear c23
          try clear q13
          obtain ⟨kq, x53_10, rfl, HA, HJ10, HB⟩ := hcut
          cases kq with
          | zero => exact absurd HA.out (by simp [bailiwicklaw15_ShareFades.j0])
          | succ kj10 =>
            have H := HA.out
            clear HA
            simp only [bailiwicklaw15_ShareFades.j0] at H
            by_cases c29 : x53_10 = true
            · subst c29
              have H1 : (some false) = some r := by rw [if_pos rfl] at H; exact H
              clear H
              have H := H1
              clear H1
              obtain rfl := Option.some.inj H
              go_wp2
              go_ret
              exact ⟨by first | rfl | (simp [errW_none, errW_some] <;> rfl) | (simp only [← hji7]; first | rfl | (simp [errW_none, errW_some] <;> rfl)) | (simp [*, errW_none, errW_some] <;> rfl), by repeat (first | (with_reducible first | exact HB.out | apply below_alloc | apply pw_below_drewN | apply below_drew1) | exact HB.out)⟩
            · replace c29 := Bool.eq_false_iff.mpr c29
              subst c29
              have H1 : ((share_Fade.f kj10 a0 (wrap64 (a1))).bind fun t310 => (if fgt t310 t302 = true then (bailiwicklaw15_ShareFades.j1 kj10 y298 true) else ((share_Fade.f kj10 t310 (wrap64 (a2))).bind fun t311 => ((share_Fade.f kj10 a0 (wrap64 ((wrap64 (a1)) + (wrap64 (a2))))).bind fun t312 => ((bailiwicklaw15_same.f t311 t312).bind fun t313 => (bailiwicklaw15_ShareFades.j1 kj10 y298 (!t313))))))) = some r := by rw [if_neg (show ¬ (false = true) by decide)] at H; exact H
              clear H
              have H := H1
              clear H1
              replace H := Option.bind_eq_some_iff.mp H
              obtain ⟨t310, A300, H⟩ := H
              replace H : (if fgt t310 t302 = true then (bailiwicklaw15_ShareFades.j1 kj10 y298 true) else ((share_Fade.f kj10 t310 (wrap64 (a2))).bind fun t311 => ((share_Fade.f kj10 a0 (wrap64 ((wrap64 (a1)) + (wrap64 (a2))))).bind fun t312 => ((bailiwicklaw15_same.f t311 t312).bind fun t313 => (bailiwicklaw15_ShareFades.j1 kj10 y298 (!t313)))))) = some r := H
              have A30 := Aside0.mk A300
              clear A300
              have HC31 := Aside0.mk H
              clear H
              go_upto_region 8 with (first | ((with_reducible refine gate_callee (f := 18) rfl ?_); refine goesL_ (some 57) rfl rfl Try.func18 (by kernel_rfl) rfl #[.float .f64 a0, .int .i64 (wrap64 (a1))] rfl (by (try simp only [List.map_toArray, List.map_cons, List.map_nil]); first | done | rfl | (simp only [List.length_drop, List.length_take]; rfl)) ?_; (with_reducible refine (share_Fade.calls kj10 a0 (wrap64 (a1)) t310 _ A30.out).mono ?_); rintro e w32 ⟨rfl, hb⟩; refine ⟨_, rfl, ?_⟩; have n0_ := Aside0.mk (below_step (by repeat (first | (with_reducible first | exact HB.out | apply below_alloc | apply pw_below_drewN | apply below_drew1) | exact HB.out)) hb); clear HB; have HB := n0_; clear n0_; (try clear hb); (try clear hb2); (try clear hk); (try clear hi)))
              (try simp only [Act.put, List.setIfInBounds_toArray, List.set_cons_zero, List.set_cons_succ])
              go_cut [75] (fun v75 wc => ∃ (kq : Nat) (x75_30 : Bool), v75 = .bool x75_30 ∧ Aside0 (bailiwicklaw15_ShareFades.j1 kq y298 x75_30 = some r) ∧ Aside0 (kq ≤ kj10) ∧ Aside0 (Below w.heap.size w wc))
              case first =>
                have H := HC31.out
                clear HC31
                by_cases c33 : fgt t310 t302 = true
                · rw [if_pos c33] at H
                  have c33b0 : fgt t310 t302 = true := c33
                  clear c33
                  (first | rw [c33b0] | (simp only [i64_w, i32_w]; rw [c33b0]) | skip)
                  have H' := Aside0.mk H
                  clear H
                  go_wp2
                  go_meet
                  case rel => exact ⟨_, (true), (by first | rfl | (simp; done) | (simp [*]; done)), H', ⟨by have := HJ10.out; first | omega | exact Nat.le_refl _⟩, ⟨by repeat (first | (with_reducible first | exact HB.out | apply below_alloc | apply pw_below_drewN | apply below_drew1) | exact HB.out)⟩⟩
                · rw [if_neg c33] at H
                  have c33b0 : fgt t310 t302 = false := by simpa using c33
                  clear c33
                  (first | rw [c33b0] | (simp only [i64_w, i32_w]; rw [c33b0]) | skip)
                  replace H := Option.bind_eq_some_iff.mp H
                  obtain ⟨t311, A340, H⟩ := H
                  replace H : ((share_Fade.f kj10 a0 (wrap64 ((wrap64 (a1)) + (wrap64 (a2))))).bind fun t312 => ((bailiwicklaw15_same.f t311 t312).bind fun t313 => (bailiwicklaw15_ShareFades.j1 kj10 y298 (!t313)))) = some r := H
                  have A34 := Aside0.mk A340
                  clear A340
                  replace H := Option.bind_eq_some_iff.mp H
                  obtain ⟨t312, A350, H⟩ := H
                  replace H : ((bailiwicklaw15_same.f t311 t312).bind fun t313 => (bailiwicklaw15_ShareFades.j1 kj10 y298 (!t313))) = some r := H
                  have A35 := Aside0.mk A350
                  clear A350
                  replace H := Option.bind_eq_some_iff.mp H
                  obtain ⟨t313, A360, H⟩ := H
                  replace H : (bailiwicklaw15_ShareFades.j1 kj10 y298 (!t313)) = some r := H
                  have A36 := Aside0.mk A360
                  clear A360
                  have H' := Aside0.mk H
                  clear H
                  go_wp2_with (first | (go_at_call 18; (with_reducible refine (share_Fade.calls kj10 t310 (wrap64 (a2)) t311 _ A34.out).mono ?_); rintro e w37 ⟨rfl, hb⟩; have n0_ := Aside0.mk (below_step (by repeat (first | (with_reducible first | exact HB.out | apply below_alloc | apply pw_below_drewN | apply below_drew1) | exact HB.out)) hb); clear HB; have HB := n0_; clear n0_; (try clear hb); (try clear hb2); (try clear hk); (try clear hi)) | (go_at_call 18; (with_reducible refine (share_Fade.calls kj10 a0 (wrap64 ((wrap64 (a1)) + (wrap64 (a2)))) t312 _ A35.out).mono ?_); rintro e w38 ⟨rfl, hb⟩; have n0_ := Aside0.mk (below_step (by repeat (first | (with_reducible first | exact HB.out | apply below_alloc | apply pw_below_drewN | apply below_drew1) | exact HB.out)) hb); clear HB; have HB := n0_; clear n0_; (try clear hb); (try clear hb2); (try clear hk); (try clear hi)) | (go_at_call 15; (with_reducible refine (bailiwicklaw15_same.calls t311 t312 t313 _ A36.out).mono ?_); rintro e w' ⟨rfl, ⟨nd, rfl⟩⟩))
                  go_meet
                  case rel => exact ⟨_, (!t313), (by first | rfl | (simp; done) | (simp [*]; done)), H', ⟨by have := HJ10.out; first | omega | exact Nat.le_refl _⟩, ⟨by repeat (first | (with_reducible first | exact HB.out | apply below_alloc | apply pw_below_drewN | apply below_drew1) | exact HB.out)⟩⟩
              case rest =>
                clear HC31
                try clear c1
                try clear q1
                try clear c2
                try clear p2
                try clear c3
                try clear c6
                try clear p6
                try clear c7
                try clear c8
                try clear c8b0
                try clear c8b1
                try clear c9
                try clear c9b0
                try clear c9b1
                try clear q13
                try clear c14
                try clear c14b0
                try clear c15
                try clear c15b0
                try clear c16
                try clear c17
                try clear c18
                try clear c20
                try clear c23
                try clear c29
                try clear c33
                try clear c33b0
                try clear p2
                try clear q1
                try clear q13
                obtain ⟨kq, x75_30, rfl, HA, HJ30, HB⟩ := hcut
                cases kq with
                | zero => exact absurd HA.out (by simp [bailiwicklaw15_ShareFades.j1])
                | succ kj30 =>
                  have H := HA.out
                  clear HA
                  simp only [bailiwicklaw15_ShareFades.j1] at H
                  by_cases c39 : x75_30 = true
                  · subst c39
                    have H1 : (some false) = some r := by rw [if_pos rfl] at H; exact H
                    clear H
                    have H := H1
                    clear H1
                    obtain rfl := Option.some.inj H
                    go_wp2
                    go_ret
                    exact ⟨by first | rfl | (simp [errW_none, errW_some] <;> rfl) | (simp only [← hji7]; first | rfl | (simp [errW_none, errW_some] <;> rfl)) | (simp [*, errW_none, errW_some] <;> rfl), by repeat (first | (with_reducible first | exact HB.out | apply below_alloc | apply pw_below_drewN | apply below_drew1) | exact HB.out)⟩
                  · replace c39 := Bool.eq_false_iff.mpr c39
                    subst c39
                    have H1 : ((share_Sum.f kj30 y298).bind fun t314 => (bailiwicklaw15_ShareFades.l0 kj30 y298 t314 0)) = some r := by rw [if_neg (show ¬ (false = true) by decide)] at H; exact H
                    clear H
                    have H := H1
                    clear H1
                    replace H := Option.bind_eq_some_iff.mp H
                    obtain ⟨t314, A400, H⟩ := H
                    replace H : (bailiwicklaw15_ShareFades.l0 kj30 y298 t314 0) = some r := H
                    have A40 := Aside0.mk A400
                    clear A400
                    have H' := Aside0.mk H
                    clear H
                    go_wp2_with (first | ((with_reducible refine gate_callee (f := 20) rfl ?_); refine goesL_ (some 77) rfl rfl Try.func20 (by kernel_rfl) rfl #[.slice A3 y298.length c3] rfl (by (try simp only [List.map_toArray, List.map_cons, List.map_nil]); first | done | rfl | (simp only [List.length_drop, List.length_take]; rfl)) ?_; (with_reducible refine (share_Sum.calls kj30 _ _ y298 t314 _ ?side1 ?side2 A40.out).mono ?_); (case side1 => repeat (first | exact (Kd.C_below HR301.out HB.out) | (with_reducible refine Kd.C_alloc ?_ _) | (with_reducible refine Kd.C_drewN ?_ _) | (with_reducible refine Kd.C_drew ?_))); (case side2 => exact HC301.out); rintro e w' ⟨rfl, ⟨nd, rfl⟩⟩; refine ⟨_, rfl, ?_⟩))
                    (try simp only [Act.put, List.setIfInBounds_toArray, List.set_cons_zero, List.set_cons_succ])
                    go_loopg [12] kj30 (fun kq v12 w' => ∃ (x12_3 : Int), v12 = .int .i64 x12_3 ∧ Aside0 (bailiwicklaw15_ShareFades.l0 kq y298 t314 x12_3 = some r) ∧ Aside0 (kq ≤ kj30) ∧ Aside0 (Below w.heap.size w w'))
                    case atStart => exact ⟨(0), (by first | rfl | (simp; done) | (simp [*]; done)), H', ⟨Nat.le_refl _⟩, ⟨by repeat (first | (with_reducible first | exact HB.out | apply below_alloc | apply pw_below_drewN | apply below_drew1) | exact HB.out)⟩⟩
                    case round =>
                      clear H'
                      try clear c1
                      try clear q1
                      try clear c2
                      try clear p2
                      try clear c3
                      try clear c6
                      try clear p6
                      try clear c7
                      try clear c8
                      try clear c8b0
                      try clear c8b1
                      try clear c9
                      try clear c9b0
                      try clear c9b1
                      try clear q13
                      try clear c14
                      try clear c14b0
                      try clear c15
                      try clear c15b0
                      try clear c16
                      try clear c17
                      try clear c18
                      try clear c20
                      try clear c23
                      try clear c29
                      try clear c33
                      try clear c33b0
                      try clear c39
                      try clear p2
                      try clear p6
                      try clear q1
                      try clear q13
                      obtain ⟨x12_3, rfl, HA, HK3, HB⟩ := hrel
                      cases gk with
                      | zero => exact absurd HA.out (by simp [bailiwicklaw15_ShareFades.l0])
                      | succ k3 =>
                        have H := HA.out
                        clear HA
                        simp only [bailiwicklaw15_ShareFades.l0] at H
                        by_cases c41 : x12_3 < (y298.length : Int)
                        · rw [if_pos c41] at H
                          have c41b0 : decide (x12_3 < (y298.length : Int)) = true := decide_eq_true c41
                          clear c41
                          by_cases c42 : 0 ≤ x12_3
                          · rw [if_pos c42] at H
                            have c42b0 : decide (0 ≤ x12_3) = true := decide_eq_true c42
                            clear c42
                            replace H := Option.bind_eq_some_iff.mp H
                            obtain ⟨t316, A430, H⟩ := H
                            replace H : (if fgt t316 t314 = true then (some false) else (bailiwicklaw15_ShareFades.l0 k3 y298 t314 (wrap64 (x12_3 + 1)))) = some r := H
                            have A43 := Aside0.mk A430
                            clear A430
                            by_cases c44 : fgt t316 t314 = true
                            · rw [if_pos c44] at H
                              have c44b0 : fgt t316 t314 = true := c44
                              clear c44
                              obtain rfl := Option.some.inj H
                              have p315 : 0 ≤ (x12_3 : Int) := of_decide_eq_true (by first | (with_reducible assumption) | assumption)
                              have q315 : x12_3 < (y298.length : Int) := of_decide_eq_true (by first | (with_reducible assumption) | assumption)
                              obtain ⟨ad315, e315, hx315_0⟩ := Kd.at_float HR301.out x12_3 p315 q315
                              cases e315
                              replace hx315_0 := (HB.out.cell (World.block_lt_of_cell? w _ hx315_0)).trans hx315_0
                              replace p315 := eq_true p315
                              replace q315 := eq_true q315
                              go_wp2_with (first | ((with_reducible refine gate_callee (f := 16) rfl ?_); refine goesL_ (some 88) rfl rfl Try.func16 (by kernel_rfl) rfl #[.float .f64 (rdOf (0 : Nat) y298 x12_3)] rfl (by (try simp only [List.map_toArray, List.map_cons, List.map_nil]); first | done | rfl | (simp only [List.length_drop, List.length_take]; rfl)) ?_; (with_reducible refine (share_Clean.calls k3 (rdOf (0 : Nat) y298 x12_3) t316 _ A43.out).mono ?_); rintro e w' ⟨rfl, ⟨nd, rfl⟩⟩; refine ⟨_, rfl, ?_⟩))
                              go_ret
                              exact ⟨by first | rfl | (simp [errW_none, errW_some] <;> rfl) | (simp only [← hji7]; first | rfl | (simp [errW_none, errW_some] <;> rfl)) | (simp [*, errW_none, errW_some] <;> rfl), by repeat (first | (with_reducible first | exact HB.out | apply below_alloc | apply pw_below_drewN | apply below_drew1) | exact HB.out)⟩
                            · rw [if_neg c44] at H
                              have c44b0 : fgt t316 t314 = false := by simpa using c44
                              clear c44
                              have H' := Aside0.mk H
                              clear H
                              have p315 : 0 ≤ (x12_3 : Int) := of_decide_eq_true (by first | (with_reducible assumption) | assumption)
                              have q315 : x12_3 < (y298.length : Int) := of_decide_eq_true (by first | (with_reducible assumption) | assumption)
                              obtain ⟨ad315, e315, hx315_0⟩ := Kd.at_float HR301.out x12_3 p315 q315
                              cases e315
                              replace hx315_0 := (HB.out.cell (World.block_lt_of_cell? w _ hx315_0)).trans hx315_0
                              replace p315 := eq_true p315
                              replace q315 := eq_true q315
                              go_wp2_with (first | ((with_reducible refine gate_callee (f := 16) rfl ?_); refine goesL_ (some 88) rfl rfl Try.func16 (by kernel_rfl) rfl #[.float .f64 (rdOf (0 : Nat) y298 x12_3)] rfl (by (try simp only [List.map_toArray, List.map_cons, List.map_nil]); first | done | rfl | (simp only [List.length_drop, List.length_take]; rfl)) ?_; (with_reducible refine (share_Clean.calls k3 (rdOf (0 : Nat) y298 x12_3) t316 _ A43.out).mono ?_); rintro e w' ⟨rfl, ⟨nd, rfl⟩⟩; refine ⟨_, rfl, ?_⟩))
                              go_roundg k3
                              case measure => have := HJ10.out; have := HJ30.out; have := HK3.out; omega
                              case rel => exact ⟨(wrap64 (x12_3 + 1)), (by first | rfl | (simp; done) | (simp [*]; done)), H', ⟨by have := HJ10.out; have := HJ30.out; have := HK3.out; omega⟩, ⟨by repeat (first | (with_reducible first | exact HB.out | apply below_alloc | apply pw_below_drewN | apply below_drew1) | exact HB.out)⟩⟩
                          · rw [if_neg c42] at H
                            exact absurd H (by simp)
                        · rw [if_neg c41] at H
                          have c41b0 : decide (x12_3 < (y298.length : Int)) = false := decide_eq_false c41
                          clear c41
                          obtain rfl := Option.some.inj H
                          go_wp2
                          go_ret
                          exact ⟨by first | rfl | (simp [errW_none, errW_some] <;> rfl) | (simp only [← hji7]; first | rfl | (simp [errW_none, errW_some] <;> rfl)) | (simp [*, errW_none, errW_some] <;> rfl), by repeat (first | (with_reducible first | exact HB.out | apply below_alloc | apply pw_below_drewN | apply below_drew1) | exact HB.out)⟩
      · rw [if_neg c9] at H
        exact absurd H (by simp)
    · rw [if_neg c8] at H
      exact absurd H (by simp)
  · replace c6 := Bool.eq_false_iff.mpr c6
    subst c6
    have H1 : (some false) = some r := by rw [if_neg (show ¬ (false = true) by decide)] at H; exact H
    clear H
    have H := H1
    clear H1
    obtain rfl := Option.some.inj H
    go_enter Try.func7, Try.ntmps7
    go_wp2_with (first | ((with_reducible refine gate_callee (f := 8) rfl ?_); refine goesL_ (some 13) rfl rfl Try.func8 (by kernel_rfl) rfl #[] rfl (by (try simp only [List.map_toArray, List.map_cons, List.map_nil]); first | done | rfl | (simp only [List.length_drop, List.length_take]; rfl)) ?_; (with_reducible refine (bailiwicklaw15_awake.calls k  false _ A5.out).mono ?_); rintro e w45 ⟨rfl, hb⟩; refine ⟨_, rfl, ?_⟩; have n0_ := Aside0.mk (below_step (by repeat (first | (with_reducible first | exact HB.out | apply below_alloc | apply pw_below_drewN | apply below_drew1) | exact HB.out)) hb); clear HB; have HB := n0_; clear n0_; (try clear hb); (try clear hb2); (try clear hk); (try clear hi)))
    go_ret
    exact ⟨by first | rfl | (simp [errW_none, errW_some] <;> rfl) | (simp [*, errW_none, errW_some] <;> rfl), by repeat (first | (with_reducible first | exact HB.out | apply below_alloc | apply pw_below_drewN | apply below_drew1) | exact HB.out)⟩

end Go.Proofs.Ytemlhkognjhgbaa.PAll
