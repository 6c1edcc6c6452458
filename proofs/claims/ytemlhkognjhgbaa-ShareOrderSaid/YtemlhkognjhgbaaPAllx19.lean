-- Written by wip/tools/hprint.py of this claim's session (a driver over the kit's print, with contracts proved by hand among them).
import Derived.Test.YtemlhkognjhgbaaPAllx0
import Derived.Test.YtemlhkognjhgbaaPAllx2
import Derived.Test.YtemlhkognjhgbaaPAllx10
import Derived.Test.YtemlhkognjhgbaaPAllx13
namespace Go.Proofs.Ytemlhkognjhgbaa.PAll
open Go.RowKit Go.Proofs.YtemlhkognjhgbaaW.PrintWords Go.Proofs.YtemlhkognjhgbaaW.PrintLast Go.Proofs.YtemlhkognjhgbaaW.PrintMore
attribute [local go_sem] max2_int min2_int max_two min_two max_three min_three max_four min_four   -- for this text's walks alone
set_option linter.unusedVariables false
set_option linter.unusedSimpArgs false

/-! ### bailiwicklaw15_ShareOrder: function 4 -/
mutual
def bailiwicklaw15_ShareOrder.l0 : Nat → List (S33) → List Int → List Bool → Int → Option (Bool)
  | 0, _, _, _, _ => none
  | k + 1, x0, x3, x4, x5 => if x5 < (x3.length : Int) then (if 0 ≤ x5 then (if (rd x3 x5) < 0 then (bailiwicklaw15_ShareOrder.j1 k x0 x3 x4 x5 true) else (if (rd x3 x5) ≥ (x0.length : Int) then (bailiwicklaw15_ShareOrder.j1 k x0 x3 x4 x5 true) else (if 0 ≤ (rd x3 x5) then (if (rd x3 x5) < (x4.length : Int) then (bailiwicklaw15_ShareOrder.j1 k x0 x3 x4 x5 (rdOf false x4 (rd x3 x5))) else (none)) else (none)))) else (none)) else (some true)
def bailiwicklaw15_ShareOrder.j1 : Nat → List (S33) → List Int → List Bool → Int → Bool → Option (Bool)
  | 0, _, _, _, _, _ => none
  | k + 1, x0, x3, x4, x5, x52 => if x52 = true then (some false) else (if 0 ≤ x5 then (if x5 < (x3.length : Int) then (if 0 ≤ (rd x3 x5) then (if (rd x3 x5) < (x4.length : Int) then ((some (x4.set ((rd x3 x5) : Int).toNat true : List Bool)).bind fun y242 => (if (rd x3 x5) < (x0.length : Int) then ((share_Share.f k ((rd_T33 x0 (rd x3 x5)).f0) ((rd_T33 x0 (rd x3 x5)).f1) ((rd_T33 x0 (rd x3 x5)).f2)).bind fun t245 => (if fge t245 0 = true then (if x5 > 0 then (if 0 ≤ (wrap64 (x5 - 1)) then (if (wrap64 (x5 - 1)) < (x3.length : Int) then (if 0 ≤ (rd x3 (wrap64 (x5 - 1))) then (if (rd x3 (wrap64 (x5 - 1))) < (x0.length : Int) then ((share_Share.f k ((rd_T33 x0 (rd x3 (wrap64 (x5 - 1)))).f0) ((rd_T33 x0 (rd x3 (wrap64 (x5 - 1)))).f1) ((rd_T33 x0 (rd x3 (wrap64 (x5 - 1)))).f2)).bind fun t248 => (if flt t245 t248 = true then (some false) else (bailiwicklaw15_ShareOrder.l0 k x0 x3 y242 (wrap64 (x5 + 1))))) else (none)) else (none)) else (none)) else (none)) else (bailiwicklaw15_ShareOrder.l0 k x0 x3 y242 (wrap64 (x5 + 1)))) else (some false))) else (none))) else (none)) else (none)) else (none)) else (none))
end
def bailiwicklaw15_ShareOrder.f (k : Nat) (l0 : List (S33)) : Option (Bool) := (bailiwicklaw15_awake.f k).bind fun t226 => (if t226 = true then (if 0 ≤ (mn (l0.length : Int) 60) then (if (mn (l0.length : Int) 60) ≤ (l0.length : Int) then ((some (l0.take ((mn (l0.length : Int) 60) : Int).toNat : List (S33))).bind fun y227 => ((share_Order.f k y227).bind fun t231 => (if (t231.length : Int) = (y227.length : Int) then (if 0 ≤ (y227.length : Int) then (if ((y227.length : Int) : Int).toNat ≤ 281474976710656 then (bailiwicklaw15_ShareOrder.l0 k y227 t231 (List.replicate ((y227.length : Int) : Int).toNat false) 0) else (none)) else (none)) else (some false)))) else (none)) else (none)) else (some false))
theorem bailiwicklaw15_ShareOrder.mono_l : ∀ k, (∀ y0 y1 y2 y3, LeO (bailiwicklaw15_ShareOrder.l0 k y0 y1 y2 y3) (bailiwicklaw15_ShareOrder.l0 (k + 1) y0 y1 y2 y3)) ∧ (∀ y0 y1 y2 y3 y4, LeO (bailiwicklaw15_ShareOrder.j1 k y0 y1 y2 y3 y4) (bailiwicklaw15_ShareOrder.j1 (k + 1) y0 y1 y2 y3 y4))
  | 0 => ⟨fun _ _ _ _ r h => by simp [bailiwicklaw15_ShareOrder.l0] at h, fun _ _ _ _ _ r h => by simp [bailiwicklaw15_ShareOrder.j1] at h⟩
  | k + 1 => by
    obtain ⟨ih0, ih1⟩ := bailiwicklaw15_ShareOrder.mono_l k
    refine ⟨?_, ?_⟩
    · intro y0 y1 y2 y3
      unfold bailiwicklaw15_ShareOrder.l0
      repeat' first
      | (with_reducible exact ih0 _ _ _ _)
      | (with_reducible exact ih1 _ _ _ _ _)
      | (with_reducible exact bailiwicklaw15_awake.mono _)
      | (with_reducible exact share_Order.mono _ _)
      | (with_reducible exact share_Share.mono _ _ _ _)
      | (with_reducible exact LeO.refl _)
      | (with_reducible exact LeO.none _)
      | (with_reducible refine LeO.ite ?_ ?_)
      | (with_reducible refine LeO.bind ?_ (fun _ => ?_))
      | exact ih0 _ _ _ _
      | exact ih1 _ _ _ _ _
      | exact bailiwicklaw15_awake.mono _
      | exact share_Order.mono _ _
      | exact share_Share.mono _ _ _ _
      | exact LeO.none _
      | refine LeO.ite ?_ ?_
      | refine LeO.bind ?_ (fun _ => ?_)
    · intro y0 y1 y2 y3 y4
      unfold bailiwicklaw15_ShareOrder.j1
      repeat' first
      | (with_reducible exact ih0 _ _ _ _)
      | (with_reducible exact ih1 _ _ _ _ _)
      | (with_reducible exact bailiwicklaw15_awake.mono _)
      | (with_reducible exact share_Order.mono _ _)
      | (with_reducible exact share_Share.mono _ _ _ _)
      | (with_reducible exact LeO.refl _)
      | (with_reducible exact LeO.none _)
      | (with_reducible refine LeO.ite ?_ ?_)
      | (with_reducible refine LeO.bind ?_ (fun _ => ?_))
      | exact ih0 _ _ _ _
      | exact ih1 _ _ _ _ _
      | exact bailiwicklaw15_awake.mono _
      | exact share_Order.mono _ _
      | exact share_Share.mono _ _ _ _
      | exact LeO.none _
      | refine LeO.ite ?_ ?_
      | refine LeO.bind ?_ (fun _ => ?_)
theorem bailiwicklaw15_ShareOrder.mono : ∀ a0 k, LeO (bailiwicklaw15_ShareOrder.f k a0) (bailiwicklaw15_ShareOrder.f (k + 1) a0) := by
  intro a0 k
  obtain ⟨ih0, ih1⟩ := bailiwicklaw15_ShareOrder.mono_l k
  unfold bailiwicklaw15_ShareOrder.f
  repeat' first
      | (with_reducible exact ih0 _ _ _ _)
      | (with_reducible exact ih1 _ _ _ _ _)
      | (with_reducible exact bailiwicklaw15_awake.mono _)
      | (with_reducible exact share_Order.mono _ _)
      | (with_reducible exact share_Share.mono _ _ _ _)
      | (with_reducible exact LeO.refl _)
      | (with_reducible exact LeO.none _)
      | (with_reducible refine LeO.ite ?_ ?_)
      | (with_reducible refine LeO.bind ?_ (fun _ => ?_))
      | exact ih0 _ _ _ _
      | exact ih1 _ _ _ _ _
      | exact bailiwicklaw15_awake.mono _
      | exact share_Order.mono _ _
      | exact share_Share.mono _ _ _ _
      | exact LeO.none _
      | refine LeO.ite ?_ ?_
      | refine LeO.bind ?_ (fun _ => ?_)
set_option maxHeartbeats 8000000 in
set_option maxRecDepth 100000 in
theorem bailiwicklaw15_ShareOrder.calls (k : Nat) (A0 : Option Addr) (c0 : Nat) (l0 : List (S33)) (r : Bool) (w : World) (hr0 : Kd.C k33 w A0 l0.length l0) (hc0 : l0.length ≤ c0) (h : bailiwicklaw15_ShareOrder.f k l0 = some r) :
    Calls Try.prog 4 #[.slice A0 l0.length c0] w fun e w' => e = .returned (.bool r) ∧ Below w.heap.size w w' := by
  have hu33 := Try.underlying33
  have HR0 := Aside0.mk hr0
  have HC0 := Aside0.mk hc0
  clear hr0 hc0
  have HB := Aside0.mk (Below.refl w.heap.size w)
  have H : ((bailiwicklaw15_awake.f k).bind fun t226 => (if t226 = true then (if 0 ≤ (mn (l0.length : Int) 60) then (if (mn (l0.length : Int) 60) ≤ (l0.length : Int) then ((some (l0.take ((mn (l0.length : Int) 60) : Int).toNat : List (S33))).bind fun y227 => ((share_Order.f k y227).bind fun t231 => (if (t231.length : Int) = (y227.length : Int) then (if 0 ≤ (y227.length : Int) then (if ((y227.length : Int) : Int).toNat ≤ 281474976710656 then (bailiwicklaw15_ShareOrder.l0 k y227 t231 (List.replicate ((y227.length : Int) : Int).toNat false) 0) else (none)) else (none)) else (some false)))) else (none)) else (none)) else (some false))) = some r := h
  clear h
  replace H := Option.bind_eq_some_iff.mp H
  obtain ⟨t226, A20, H⟩ := H
  replace H : (if t226 = true then (if 0 ≤ (mn (l0.length : Int) 60) then (if (mn (l0.length : Int) 60) ≤ (l0.length : Int) then ((some (l0.take ((mn (l0.length : Int) 60) : Int).toNat : List (S33))).bind fun y227 => ((share_Order.f k y227).bind fun t231 => (if (t231.length : Int) = (y227.length : Int) then (if 0 ≤ (y227.length : Int) then (if ((y227.length : Int) : Int).toNat ≤ 281474976710656 then (bailiwicklaw15_ShareOrder.l0 k y227 t231 (List.replicate ((y227.length : Int) : Int).toNat false) 0) else (none)) else (none)) else (some false)))) else (none)) else (none)) else (some false)) = some r := H
  have A2 := Aside0.mk A20
  clear A20
  by_cases c3 : t226 = true
  · subst c3
    have H1 : (if 0 ≤ (mn (l0.length : Int) 60) then (if (mn (l0.length : Int) 60) ≤ (l0.length : Int) then ((some (l0.take ((mn (l0.length : Int) 60) : Int).toNat : List (S33))).bind fun y227 => ((share_Order.f k y227).bind fun t231 => (if (t231.length : Int) = (y227.length : Int) then (if 0 ≤ (y227.length : Int) then (if ((y227.length : Int) : Int).toNat ≤ 281474976710656 then (bailiwicklaw15_ShareOrder.l0 k y227 t231 (List.replicate ((y227.length : Int) : Int).toNat false) 0) else (none)) else (none)) else (some false)))) else (none)) else (none)) = some r := by rw [if_pos rfl] at H; exact H
    clear H
    have H := H1
    clear H1
    obtain ⟨ji4, hji4⟩ : ∃ j_ : Int, (mn (l0.length : Int) 60) = j_ := ⟨_, rfl⟩
    replace H : (if 0 ≤ (ji4) then (if (ji4) ≤ (l0.length : Int) then ((some (l0.take ((ji4) : Int).toNat : List (S33))).bind fun y227 => ((share_Order.f k y227).bind fun t231 => (if (t231.length : Int) = (y227.length : Int) then (if 0 ≤ (y227.length : Int) then (if ((y227.length : Int) : Int).toNat ≤ 281474976710656 then (bailiwicklaw15_ShareOrder.l0 k y227 t231 (List.replicate ((y227.length : Int) : Int).toNat false) 0) else (none)) else (none)) else (some false)))) else (none)) else (none)) = some r := by first | (rw [hji4] at H; exact H) | (simp only [hji4] at H ⊢; exact H)
    (try rw [hji4] at A2)
    (try (have hji4h : ji4 ≤ 60 := by (rw [← hji4]; unfold mn; (repeat' split) <;> omega)))
    (try (have hji4g : ji4 ≤ 64 := by omega))
    (try (have hji4l : 0 ≤ ji4 := by (rw [← hji4]; unfold mn; (repeat' split) <;> omega)))
    (try (have hji4m : 0 ≤ ji4 := by omega))
    have hji4_ : (if 60 < (l0.length : Int) then 60 else (l0.length : Int)) = ji4 := hji4
    by_cases c5 : 0 ≤ (ji4)
    · rw [if_pos c5] at H
      have c5b0 := eq_true c5
      have c5b1 : decide (0 ≤ (ji4)) = true := decide_eq_true c5
      clear c5
      by_cases c6 : (ji4) ≤ (l0.length : Int)
      · rw [if_pos c6] at H
        have c6b0 := eq_true c6
        have c6b1 : decide ((ji4) ≤ (l0.length : Int)) = true := decide_eq_true c6
        clear c6
        obtain ⟨y227, hy227⟩ : ∃ y_ : List (S33), y_ = (l0.take ((ji4) : Int).toNat) := ⟨_, rfl⟩
        replace H : ((share_Order.f k y227).bind fun t231 => (if (t231.length : Int) = (y227.length : Int) then (if 0 ≤ (y227.length : Int) then (if ((y227.length : Int) : Int).toNat ≤ 281474976710656 then (bailiwicklaw15_ShareOrder.l0 k y227 t231 (List.replicate ((y227.length : Int) : Int).toNat false) 0) else (none)) else (none)) else (some false))) = some r := by first | (rw [hy227]; with_reducible exact H) | (have H2_ := (Option.bind_some _ _).symm.trans H; rw [hy227]; with_reducible exact H2_) | (have H2_ := (Option.bind_some _ _).symm.trans H; with_reducible exact H2_) | with_reducible exact H | (rw [hy227]; exact H) | exact H
        have Ny227 := Aside0.mk hy227
        clear hy227
        replace H := Option.bind_eq_some_iff.mp H
        obtain ⟨t231, A70, H⟩ := H
        replace H : (if (t231.length : Int) = (y227.length : Int) then (if 0 ≤ (y227.length : Int) then (if ((y227.length : Int) : Int).toNat ≤ 281474976710656 then (bailiwicklaw15_ShareOrder.l0 k y227 t231 (List.replicate ((y227.length : Int) : Int).toNat false) 0) else (none)) else (none)) else (some false)) = some r := H
        have A7 := Aside0.mk A70
        clear A70
        by_cases c8 : (t231.length : Int) = (y227.length : Int)
        · rw [if_pos c8] at H
          have c8b0 : ((t231.length : Int) == (y227.length : Int)) = true := beq_iff_eq.mpr c8
          have c8b1 : ((t231.length : Int) != (y227.length : Int)) = false := bne_eq_false_iff_eq.mpr c8
          have c8b2 : (t231.length == y227.length) = true := by first | simpa using c8 | (simp at c8 ⊢; omega)
          clear c8
          by_cases c9 : 0 ≤ (y227.length : Int)
          · rw [if_pos c9] at H
            have c9b0 := eq_true c9
            have c9b1 : decide (0 ≤ (y227.length : Int)) = true := decide_eq_true c9
            clear c9
            by_cases c10 : ((y227.length : Int) : Int).toNat ≤ 281474976710656
            · rw [if_pos c10] at H
              have c10b0 := eq_true c10
              have c10b1 : decide (((y227.length : Int) : Int).toNat ≤ 281474976710656) = true := decide_eq_true c10
              clear c10
              obtain ⟨y234, hy234⟩ : ∃ y_ : List Bool, y_ = (List.replicate ((y227.length : Int) : Int).toNat false) := ⟨_, rfl⟩
              replace H : (bailiwicklaw15_ShareOrder.l0 k y227 t231 y234 0) = some r := by first | (rw [hy234]; with_reducible exact H) | (have H2_ := (Option.bind_some _ _).symm.trans H; rw [hy234]; with_reducible exact H2_) | (have H2_ := (Option.bind_some _ _).symm.trans H; with_reducible exact H2_) | with_reducible exact H | (rw [hy234]; exact H) | exact H
              have Ny234 := Aside0.mk hy234
              clear hy234
              have H' := Aside0.mk H
              clear H
              go_enter Try.func4, Try.ntmps4
              go_wp2_with (first | ((with_reducible refine gate_callee (f := 8) rfl ?_); refine goesL_ (some 7) rfl rfl Try.func8 (by kernel_rfl) rfl #[] rfl (by (try simp only [List.map_toArray, List.map_cons, List.map_nil]); first | done | rfl | (simp only [List.length_drop, List.length_take]; rfl)) ?_; (with_reducible refine (bailiwicklaw15_awake.calls k  true _ A2.out).mono ?_); rintro e w11 ⟨rfl, hb⟩; refine ⟨_, rfl, ?_⟩; have n0_ := Aside0.mk (below_step (by repeat (first | (with_reducible first | exact HB.out | apply below_alloc | apply pw_below_drewN | apply below_drew1) | exact HB.out)) hb); clear HB; have HB := n0_; clear n0_; (try clear hb); (try clear hb2); (try clear hk); (try clear hi); have q12 : ((ji4) : Int) ≤ ((l0.length : Int) : Int) := of_decide_eq_true (by first | (with_reducible assumption) | assumption); obtain ⟨i012, hi012, _, hsz12, _⟩ := info_parts info33; have hroom12 : l0.length ≤ c0 := HC0.out; have hC12 : Kd.C k33 _ A0 l0.length l0 := HR0.out; have hcut12 := cut_to (P := Try.prog) 22 33 .i64 Try.underlying22 hi012 A0 l0.length c0 (ji4) (of_decide_eq_true (by first | (with_reducible assumption) | assumption)) q12 hroom12; have hr12 := Kd.C_take (m := ((ji4) : Int).toNat) hC12 (by omega); have hy12 : y227.length = ((ji4) : Int).toNat := (by rw [Ny227.out, List.length_take]; omega); rw [← Ny227.out] at hr12; rw [← hy12] at hcut12; have HR230 := Aside0.mk hr12; have HC230 := Aside0.mk (show y227.length ≤ c0 from by omega); clear hr12 hC12 hroom12 hi012 hsz12; have KY12 := Aside0.mk hy12; clear hy12; replace q12 := eq_true q12) | ((with_reducible refine gate_callee (f := 10) rfl ?_); refine goesL_ (some 15) rfl rfl Try.func10 (by kernel_rfl) rfl #[.slice A0 y227.length c0] rfl (by (try simp only [List.map_toArray, List.map_cons, List.map_nil]); first | done | rfl | (simp only [List.length_drop, List.length_take]; rfl)) ?_; (with_reducible refine (share_Order.calls k _ _ y227 t231 _ ?side1 ?side2 A7.out).mono ?_); (case side1 => repeat (first | exact (Kd.C_below HR230.out HB.out) | (with_reducible refine Kd.C_alloc ?_ _) | (with_reducible refine Kd.C_drewN ?_ _) | (with_reducible refine Kd.C_drew ?_))); (case side2 => exact HC230.out); rintro e w13 ⟨v232, rfl, ho0, hb⟩; refine ⟨_, rfl, ?_⟩; have n0_ := Aside0.mk (Kd.R_lower ho0 (below_size (by repeat (first | (with_reducible first | exact HB.out | apply below_alloc | apply pw_below_drewN | apply below_drew1) | exact HB.out)))); have n1_ := Aside0.mk (below_step (by repeat (first | (with_reducible first | exact HB.out | apply below_alloc | apply pw_below_drewN | apply below_drew1) | exact HB.out)) hb); clear HB; have HO233 := n0_; have HB := n1_; clear n0_ n1_; (try clear hb); (try clear hb2); (try clear hk); (try clear hi); (try clear ho0); obtain ⟨Ao14, co14, eo14⟩ := Kd.R_slice HO233.out; subst eo14) | ((with_reducible refine gate_dst (N := 23) rfl ?_); (try (refine gate_guard (by rfl) ?_; dsimp only)); refine Kd.R_make Kd.bool _ 4 rfl (N := 23) rfl 29 _ _ rfl (y227.length : Int) rfl rfl Try.underlying29 (.bool false) 1 info4 rfl (by decide) (by omega) false (ok := fun _ => True) (okp := fun _ => True) rfl (fun _ hk => hk) trivial (of_decide_eq_true (by first | (with_reducible assumption) | assumption)) (Nat.le_trans (Nat.mul_le_mul_right _ (of_decide_eq_true (by first | (with_reducible assumption) | assumption) : (y227.length : Int).toNat ≤ 281474976710656)) (by omega)) (Below.refl _ _) (Nat.le_refl _) ?_; intro v235 w15 ho16 hb hg_ hnew_; clear hg_ hnew_; (first | rw [← Ny234.out] at ho16 | (simp only [Int.reduceToNat] at ho16; rw [← Ny234.out] at ho16)); have n0_ := Aside0.mk (Kd.R_below (by (with_reducible repeat (first | apply Kd.R_alloc | apply Kd.R_drewN | apply Kd.R_drew)); exact HO233.out) hb); have n1_ := Aside0.mk (Kd.R_lower ho16 (below_size (by repeat (first | (with_reducible first | exact HB.out | apply below_alloc | apply pw_below_drewN | apply below_drew1) | exact HB.out)))); have n2_ := Aside0.mk (below_step (by repeat (first | (with_reducible first | exact HB.out | apply below_alloc | apply pw_below_drewN | apply below_drew1) | exact HB.out)) hb); clear HO233; clear HB; have HO233 := n0_; have HO236 := n1_; have HB := n2_; clear n0_ n1_ n2_; clear hb ho16))
              (try simp only [Act.put, List.setIfInBounds_toArray, List.set_cons_zero, List.set_cons_succ])
              go_loopg [5] k (fun kq v5 w' => ∃ (x4_1 : List Bool) (x5_1 : Int), v5 = .int .i64 x5_1 ∧ Aside0 (bailiwicklaw15_ShareOrder.l0 kq y227 t231 x4_1 x5_1 = some r) ∧ Aside0 (kq ≤ k) ∧ Aside0 (Kd.R (Kd.int .i64) 3 w' w.heap.size (fun _ => True) (.slice Ao14 t231.length co14) t231) ∧ Aside0 (Kd.R Kd.bool 4 w' w.heap.size (fun _ => True) v235 x4_1) ∧ Aside0 (Below w.heap.size w w'))
              case atStart => exact ⟨(y234), (0), (by first | rfl | (simp; done) | (simp [*]; done)), H', ⟨Nat.le_refl _⟩, ⟨by (with_reducible repeat (first | apply Kd.R_alloc | apply Kd.R_drewN | apply Kd.R_drew)); exact HO233.out⟩, ⟨by (with_reducible repeat (first | apply Kd.R_alloc | apply Kd.R_drewN | apply Kd.R_drew)); exact HO236.out⟩, ⟨by repeat (first | (with_reducible first | exact HB.out | apply below_alloc | apply pw_below_drewN | apply below_drew1) | exact HB.out)⟩⟩
              case round =>
                clear H'
                try clear c1
                try clear q1
                try clear p2
                try clear c3
                try clear c4
                try clear c5
                try clear c5b0
                try clear c5b1
                try clear c6
                try clear c6b0
                try clear c6b1
                try clear c8
                try clear c8b0
                try clear c8b1
                try clear c8b2
                try clear c9
                try clear c9b0
                try clear c9b1
                try clear c10
                try clear c10b0
                try clear c10b1
                try clear q12
                try clear q12
                obtain ⟨x4_1, x5_1, rfl, HA, HK1, HO_3, HO_4, HB⟩ := hrel
                cases gk with
                | zero => exact absurd HA.out (by simp [bailiwicklaw15_ShareOrder.l0])
                | succ k1 =>
                  have H := HA.out
                  clear HA
                  simp only [bailiwicklaw15_ShareOrder.l0] at H
                  by_cases c17 : x5_1 < (t231.length : Int)
                  · rw [if_pos c17] at H
                    have c17b0 : decide (x5_1 < (t231.length : Int)) = true := decide_eq_true c17
                    clear c17
                    have HC18 := Aside0.mk H
                    clear H
                    go_upto_region 11 with (fail)
                    go_cut [52] (fun v52 wc => ∃ (kq : Nat) (x52_17 : Bool), v52 = .bool x52_17 ∧ Aside0 (bailiwicklaw15_ShareOrder.j1 kq y227 t231 x4_1 x5_1 x52_17 = some r) ∧ Aside0 (kq ≤ k1) ∧ Aside0 (Kd.R (Kd.int .i64) 3 wc w.heap.size (fun _ => True) (.slice Ao14 t231.length co14) t231) ∧ Aside0 (Kd.R Kd.bool 4 wc w.heap.size (fun _ => True) v235 x4_1) ∧ Aside0 (Below w.heap.size w wc))
                    case first =>
                      have H := HC18.out
                      clear HC18
                      by_cases c19 : 0 ≤ x5_1
                      · rw [if_pos c19] at H
                        have c19b0 : decide (0 ≤ x5_1) = true := decide_eq_true c19
                        clear c19
                        (first | rw [c19b0] | (simp only [i64_w, i32_w]; rw [c19b0]) | skip)
                        by_cases c20 : (rd t231 x5_1) < 0
                        · rw [if_pos c20] at H
                          have c20b0 : decide ((rd t231 x5_1) < 0) = true := decide_eq_true c20
                          clear c20
                          have H' := Aside0.mk H
                          clear H
                          have p237 : 0 ≤ (x5_1 : Int) := of_decide_eq_true (by first | (with_reducible assumption) | assumption)
                          have q237 : x5_1 < (t231.length : Int) := of_decide_eq_true (by first | (with_reducible assumption) | assumption)
                          obtain ⟨ad237, e237, hx237_0⟩ := Kd.at_int (Kd.R_reads' HO_3.out).2.2 x5_1 p237 q237
                          cases e237
                          replace p237 := eq_true p237
                          replace q237 := eq_true q237
                          go_wp2
                          go_meet
                          case rel => exact ⟨_, (true), (by first | rfl | (simp; done) | (simp [*]; done)), H', ⟨by have := HK1.out; first | omega | exact Nat.le_refl _⟩, ⟨by (with_reducible repeat (first | apply Kd.R_alloc | apply Kd.R_drewN | apply Kd.R_drew)); exact HO_3.out⟩, ⟨by (with_reducible repeat (first | apply Kd.R_alloc | apply Kd.R_drewN | apply Kd.R_drew)); exact HO_4.out⟩, ⟨by repeat (first | (with_reducible first | exact HB.out | apply below_alloc | apply pw_below_drewN | apply below_drew1) | exact HB.out)⟩⟩
                        · rw [if_neg c20] at H
                          have c20b0 : decide ((rd t231 x5_1) < 0) = false := decide_eq_false c20
                          clear c20
                          by_cases c21 : (rd t231 x5_1) ≥ (y227.length : Int)
                          · rw [if_pos c21] at H
                            have c21b0 : decide ((y227.length : Int) ≤ (rd t231 x5_1)) = true := decide_eq_true c21
                            clear c21
                            have H' := Aside0.mk H
                            clear H
                            have p237 : 0 ≤ (x5_1 : Int) := of_decide_eq_true (by first | (with_reducible assumption) | assumption)
                            have q237 : x5_1 < (t231.length : Int) := of_decide_eq_true (by first | (with_reducible assumption) | assumption)
                            obtain ⟨ad237, e237, hx237_0⟩ := Kd.at_int (Kd.R_reads' HO_3.out).2.2 x5_1 p237 q237
                            cases e237
                            replace p237 := eq_true p237
                            replace q237 := eq_true q237
                            have p238 : 0 ≤ (x5_1 : Int) := of_decide_eq_true (by first | (with_reducible assumption) | assumption)
                            have q238 : x5_1 < (t231.length : Int) := of_decide_eq_true (by first | (with_reducible assumption) | assumption)
                            obtain ⟨ad238, e238, hx238_0⟩ := Kd.at_int (Kd.R_reads' HO_3.out).2.2 x5_1 p238 q238
                            obtain rfl : ad237 = ad238 := (by injection e238)
                            replace p238 := eq_true p238
                            replace q238 := eq_true q238
                            go_wp2
                            go_meet
                            case rel => exact ⟨_, (true), (by first | rfl | (simp; done) | (simp [*]; done)), H', ⟨by have := HK1.out; first | omega | exact Nat.le_refl _⟩, ⟨by (with_reducible repeat (first | apply Kd.R_alloc | apply Kd.R_drewN | apply Kd.R_drew)); exact HO_3.out⟩, ⟨by (with_reducible repeat (first | apply Kd.R_alloc | apply Kd.R_drewN | apply Kd.R_drew)); exact HO_4.out⟩, ⟨by repeat (first | (with_reducible first | exact HB.out | apply below_alloc | apply pw_below_drewN | apply below_drew1) | exact HB.out)⟩⟩
                          · rw [if_neg c21] at H
                            have c21b0 : decide ((y227.length : Int) ≤ (rd t231 x5_1)) = false := decide_eq_false c21
                            clear c21
                            by_cases c22 : 0 ≤ (rd t231 x5_1)
                            · rw [if_pos c22] at H
                              have c22b0 : decide (0 ≤ (rd t231 x5_1)) = true := decide_eq_true c22
                              clear c22
                              by_cases c23 : (rd t231 x5_1) < (x4_1.length : Int)
                              · rw [if_pos c23] at H
                                have c23b0 : decide ((rd t231 x5_1) < (x4_1.length : Int)) = true := decide_eq_true c23
                                clear c23
                                have H' := Aside0.mk H
                                clear H
                                have p237 : 0 ≤ (x5_1 : Int) := of_decide_eq_true (by first | (with_reducible assumption) | assumption)
                                have q237 : x5_1 < (t231.length : Int) := of_decide_eq_true (by first | (with_reducible assumption) | assumption)
                                obtain ⟨ad237, e237, hx237_0⟩ := Kd.at_int (Kd.R_reads' HO_3.out).2.2 x5_1 p237 q237
                                cases e237
                                replace p237 := eq_true p237
                                replace q237 := eq_true q237
                                have p238 : 0 ≤ (x5_1 : Int) := of_decide_eq_true (by first | (with_reducible assumption) | assumption)
                                have q238 : x5_1 < (t231.length : Int) := of_decide_eq_true (by first | (with_reducible assumption) | assumption)
                                obtain ⟨ad238, e238, hx238_0⟩ := Kd.at_int (Kd.R_reads' HO_3.out).2.2 x5_1 p238 q238
                                obtain rfl : ad237 = ad238 := (by injection e238)
                                replace p238 := eq_true p238
                                replace q238 := eq_true q238
                                have p239 : 0 ≤ (x5_1 : Int) := of_decide_eq_true (by first | (with_reducible assumption) | assumption)
                                have q239 : x5_1 < (t231.length : Int) := of_decide_eq_true (by first | (with_reducible assumption) | assumption)
                                obtain ⟨ad239, e239, hx239_0⟩ := Kd.at_int (Kd.R_reads' HO_3.out).2.2 x5_1 p239 q239
                                obtain rfl : ad237 = ad239 := (by injection e239)
                                replace p239 := eq_true p239
                                replace q239 := eq_true q239
                                obtain ⟨Ao24, co24, eo24⟩ := Kd.R_slice HO_4.out
                                subst eo24
                                have p240 : 0 ≤ ((rd t231 x5_1) : Int) := of_decide_eq_true (by first | (with_reducible assumption) | assumption)
                                have q240 : (rd t231 x5_1) < (x4_1.length : Int) := of_decide_eq_true (by first | (with_reducible assumption) | assumption)
                                obtain ⟨ad240, e240, hx240_0⟩ := Kd.at_bool (Kd.R_reads' HO_4.out).2.2 (rd t231 x5_1) p240 q240
                                cases e240
                                replace p240 := eq_true p240
                                replace q240 := eq_true q240
                                go_wp2
                                go_meet
                                case rel => exact ⟨_, (rdOf false x4_1 (rd t231 x5_1)), (by first | rfl | (simp; done) | (simp [*]; done)), H', ⟨by have := HK1.out; first | omega | exact Nat.le_refl _⟩, ⟨by (with_reducible repeat (first | apply Kd.R_alloc | apply Kd.R_drewN | apply Kd.R_drew)); exact HO_3.out⟩, ⟨by (with_reducible repeat (first | apply Kd.R_alloc | apply Kd.R_drewN | apply Kd.R_drew)); exact HO_4.out⟩, ⟨by repeat (first | (with_reducible first | exact HB.out | apply below_alloc | apply pw_below_drewN | apply below_drew1) | exact HB.out)⟩⟩
                              · rw [if_neg c23] at H
                                exact absurd H (by simp)
                            · rw [if_neg c22] at H
                              exact absurd H (by simp)
                      · rw [if_neg c19] at H
                        exact absurd H (by simp)
                    case rest =>
                      clear HC18
                      try clear c1
                      try clear q1
                      try clear c2
                      try clear p2
                      try clear q2
                      try clear hx2
                      try clear c3
                      try clear c4
                      try clear c5
                      try clear c5b0
                      try clear c5b1
                      try clear c6
                      try clear c6b0
                      try clear c6b1
                      try clear c8
                      try clear c8b0
                      try clear c8b1
                      try clear c8b2
                      try clear c9
                      try clear c9b0
                      try clear c9b1
                      try clear c10
                      try clear c10b0
                      try clear c10b1
                      try clear q12
                      try clear c17
                      try clear c17b0
                      try clear c19
                      try clear c19b0
                      try clear c20
                      try clear c20b0
                      try clear c21
                      try clear c21b0
                      try clear c22
                      try clear c22b0
                      try clear c23
                      try clear c23b0
                      try clear p23
                      try clear q23
                      try clear hx23
                      try clear p24
                      try clear q24
                      try clear hx24
                      try clear hx237_0
                      try clear hx238_0
                      try clear hx239_0
                      try clear hx240_0
                      try clear p2
                      try clear p237
                      try clear p238
                      try clear p239
                      try clear p240
                      try clear q1
                      try clear q12
                      try clear q237
                      try clear q238
                      try clear q239
                      try clear q240
                      obtain ⟨kq, x52_17, rfl, HA, HJ17, HO_3, HO_4, HB⟩ := hcut
                      cases kq with
                      | zero => exact absurd HA.out (by simp [bailiwicklaw15_ShareOrder.j1])
                      | succ kj17 =>
                        have H := HA.out
                        clear HA
                        simp only [bailiwicklaw15_ShareOrder.j1] at H
                        by_cases c25 : x52_17 = true
                        · subst c25
                          have H1 : (some false) = some r := by rw [if_pos rfl] at H; exact H
                          clear H
                          have H := H1
                          clear H1
                          obtain rfl := Option.some.inj H
                          go_wp2
                          go_ret
                          exact ⟨by first | rfl | (simp [errW_none, errW_some] <;> rfl) | (simp only [← hji4]; first | rfl | (simp [errW_none, errW_some] <;> rfl)) | (simp [*, errW_none, errW_some] <;> rfl), by repeat (first | (with_reducible first | exact HB.out | apply below_alloc | apply pw_below_drewN | apply below_drew1) | exact HB.out)⟩
                        · replace c25 := Bool.eq_false_iff.mpr c25
                          subst c25
                          have H1 : (if 0 ≤ x5_1 then (if x5_1 < (t231.length : Int) then (if 0 ≤ (rd t231 x5_1) then (if (rd t231 x5_1) < (x4_1.length : Int) then ((some (x4_1.set ((rd t231 x5_1) : Int).toNat true : List Bool)).bind fun y242 => (if (rd t231 x5_1) < (y227.length : Int) then ((share_Share.f kj17 ((rd_T33 y227 (rd t231 x5_1)).f0) ((rd_T33 y227 (rd t231 x5_1)).f1) ((rd_T33 y227 (rd t231 x5_1)).f2)).bind fun t245 => (if fge t245 0 = true then (if x5_1 > 0 then (if 0 ≤ (wrap64 (x5_1 - 1)) then (if (wrap64 (x5_1 - 1)) < (t231.length : Int) then (if 0 ≤ (rd t231 (wrap64 (x5_1 - 1))) then (if (rd t231 (wrap64 (x5_1 - 1))) < (y227.length : Int) then ((share_Share.f kj17 ((rd_T33 y227 (rd t231 (wrap64 (x5_1 - 1)))).f0) ((rd_T33 y227 (rd t231 (wrap64 (x5_1 - 1)))).f1) ((rd_T33 y227 (rd t231 (wrap64 (x5_1 - 1)))).f2)).bind fun t248 => (if flt t245 t248 = true then (some false) else (bailiwicklaw15_ShareOrder.l0 kj17 y227 t231 y242 (wrap64 (x5_1 + 1))))) else (none)) else (none)) else (none)) else (none)) else (bailiwicklaw15_ShareOrder.l0 kj17 y227 t231 y242 (wrap64 (x5_1 + 1)))) else (some false))) else (none))) else (none)) else (none)) else (none)) else (none)) = some r := by rw [if_neg (show ¬ (false = true) by decide)] at H; exact H
                          clear H
                          have H := H1
                          clear H1
                          by_cases c26 : 0 ≤ x5_1
                          · rw [if_pos c26] at H
                            have c26b0 : decide (0 ≤ x5_1) = true := decide_eq_true c26
                            clear c26
                            by_cases c27 : x5_1 < (t231.length : Int)
                            · rw [if_pos c27] at H
                              have c27b0 : decide (x5_1 < (t231.length : Int)) = true := decide_eq_true c27
                              clear c27
                              by_cases c28 : 0 ≤ (rd t231 x5_1)
                              · rw [if_pos c28] at H
                                have c28b0 : decide (0 ≤ (rd t231 x5_1)) = true := decide_eq_true c28
                                clear c28
                                by_cases c29 : (rd t231 x5_1) < (x4_1.length : Int)
                                · rw [if_pos c29] at H
                                  have c29b0 : decide ((rd t231 x5_1) < (x4_1.length : Int)) = true := decide_eq_true c29
                                  clear c29
                                  obtain ⟨y242, hy242⟩ : ∃ y_ : List Bool, y_ = (x4_1.set ((rd t231 x5_1) : Int).toNat true) := ⟨_, rfl⟩
                                  replace H : (if (rd t231 x5_1) < (y227.length : Int) then ((share_Share.f kj17 ((rd_T33 y227 (rd t231 x5_1)).f0) ((rd_T33 y227 (rd t231 x5_1)).f1) ((rd_T33 y227 (rd t231 x5_1)).f2)).bind fun t245 => (if fge t245 0 = true then (if x5_1 > 0 then (if 0 ≤ (wrap64 (x5_1 - 1)) then (if (wrap64 (x5_1 - 1)) < (t231.length : Int) then (if 0 ≤ (rd t231 (wrap64 (x5_1 - 1))) then (if (rd t231 (wrap64 (x5_1 - 1))) < (y227.length : Int) then ((share_Share.f kj17 ((rd_T33 y227 (rd t231 (wrap64 (x5_1 - 1)))).f0) ((rd_T33 y227 (rd t231 (wrap64 (x5_1 - 1)))).f1) ((rd_T33 y227 (rd t231 (wrap64 (x5_1 - 1)))).f2)).bind fun t248 => (if flt t245 t248 = true then (some false) else (bailiwicklaw15_ShareOrder.l0 kj17 y227 t231 y242 (wrap64 (x5_1 + 1))))) else (none)) else (none)) else (none)) else (none)) else (bailiwicklaw15_ShareOrder.l0 kj17 y227 t231 y242 (wrap64 (x5_1 + 1)))) else (some false))) else (none)) = some r := by first | (rw [hy242]; with_reducible exact H) | (have H2_ := (Option.bind_some _ _).symm.trans H; rw [hy242]; with_reducible exact H2_) | (have H2_ := (Option.bind_some _ _).symm.trans H; with_reducible exact H2_) | with_reducible exact H | (rw [hy242]; exact H) | exact H
                                  have Ny242 := Aside0.mk hy242
                                  clear hy242
                                  by_cases c31 : (rd t231 x5_1) < (y227.length : Int)
                                  · rw [if_pos c31] at H
                                    have c31b0 : decide ((rd t231 x5_1) < (y227.length : Int)) = true := decide_eq_true c31
                                    clear c31
                                    replace H := Option.bind_eq_some_iff.mp H
                                    obtain ⟨t245, A320, H⟩ := H
                                    replace H : (if fge t245 0 = true then (if x5_1 > 0 then (if 0 ≤ (wrap64 (x5_1 - 1)) then (if (wrap64 (x5_1 - 1)) < (t231.length : Int) then (if 0 ≤ (rd t231 (wrap64 (x5_1 - 1))) then (if (rd t231 (wrap64 (x5_1 - 1))) < (y227.length : Int) then ((share_Share.f kj17 ((rd_T33 y227 (rd t231 (wrap64 (x5_1 - 1)))).f0) ((rd_T33 y227 (rd t231 (wrap64 (x5_1 - 1)))).f1) ((rd_T33 y227 (rd t231 (wrap64 (x5_1 - 1)))).f2)).bind fun t248 => (if flt t245 t248 = true then (some false) else (bailiwicklaw15_ShareOrder.l0 kj17 y227 t231 y242 (wrap64 (x5_1 + 1))))) else (none)) else (none)) else (none)) else (none)) else (bailiwicklaw15_ShareOrder.l0 kj17 y227 t231 y242 (wrap64 (x5_1 + 1)))) else (some false)) = some r := H
                                    have A32 := Aside0.mk A320
                                    clear A320
                                    by_cases c33 : fge t245 0 = true
                                    · rw [if_pos c33] at H
                                      have c33b0 : fge t245 0 = true := c33
                                      clear c33
                                      by_cases c34 : x5_1 > 0
                                      · rw [if_pos c34] at H
                                        have c34b0 : decide (0 < x5_1) = true := decide_eq_true c34
                                        clear c34
                                        obtain ⟨ji35, hji35⟩ : ∃ j_ : Int, (wrap64 (x5_1 - 1)) = j_ := ⟨_, rfl⟩
                                        replace H : (if 0 ≤ (ji35) then (if (ji35) < (t231.length : Int) then (if 0 ≤ (rd t231 (ji35)) then (if (rd t231 (ji35)) < (y227.length : Int) then ((share_Share.f kj17 ((rd_T33 y227 (rd t231 (ji35))).f0) ((rd_T33 y227 (rd t231 (ji35))).f1) ((rd_T33 y227 (rd t231 (ji35))).f2)).bind fun t248 => (if flt t245 t248 = true then (some false) else (bailiwicklaw15_ShareOrder.l0 kj17 y227 t231 y242 (wrap64 (x5_1 + 1))))) else (none)) else (none)) else (none)) else (none)) = some r := by first | (rw [hji35] at H; exact H) | (simp only [hji35] at H ⊢; exact H)
                                        (try rw [hji35] at A32)
                                        have hji35w : (IntKind.i64.wrap (x5_1 - 1)) = ji35 := (i64_w _).trans hji35
                                        by_cases c36 : 0 ≤ (ji35)
                                        · rw [if_pos c36] at H
                                          have c36b0 : decide (0 ≤ (ji35)) = true := decide_eq_true c36
                                          clear c36
                                          by_cases c37 : (ji35) < (t231.length : Int)
                                          · rw [if_pos c37] at H
                                            have c37b0 : decide ((ji35) < (t231.length : Int)) = true := decide_eq_true c37
                                            clear c37
                                            by_cases c38 : 0 ≤ (rd t231 (ji35))
                                            · rw [if_pos c38] at H
                                              have c38b0 : decide (0 ≤ (rd t231 (ji35))) = true := decide_eq_true c38
                                              clear c38
                                              by_cases c39 : (rd t231 (ji35)) < (y227.length : Int)
                                              · rw [if_pos c39] at H
                                                have c39b0 : decide ((rd t231 (ji35)) < (y227.length : Int)) = true := decide_eq_true c39
                                                clear c39
                                                replace H := Option.bind_eq_some_iff.mp H
                                                obtain ⟨t248, A400, H⟩ := H
                                                replace H : (if flt t245 t248 = true then (some false) else (bailiwicklaw15_ShareOrder.l0 kj17 y227 t231 y242 (wrap64 (x5_1 + 1)))) = some r := H
                                                have A40 := Aside0.mk A400
                                                clear A400
                                                by_cases c41 : flt t245 t248 = true
                                                · rw [if_pos c41] at H
                                                  have c41b0 : flt t245 t248 = true := c41
                                                  clear c41
                                                  obtain rfl := Option.some.inj H
                                                  have p241 : 0 ≤ (x5_1 : Int) := of_decide_eq_true (by first | (with_reducible assumption) | assumption)
                                                  have q241 : x5_1 < (t231.length : Int) := of_decide_eq_true (by first | (with_reducible assumption) | assumption)
                                                  obtain ⟨ad241, e241, hx241_0⟩ := Kd.at_int (Kd.R_reads' HO_3.out).2.2 x5_1 p241 q241
                                                  cases e241
                                                  replace p241 := eq_true p241
                                                  replace q241 := eq_true q241
                                                  have p30 : 0 ≤ ((rd t231 x5_1) : Int) := of_decide_eq_true (by first | (with_reducible assumption) | assumption)
                                                  have q30 : ((rd t231 x5_1) : Int) < ((x4_1.length : Int) : Int) := of_decide_eq_true (by first | (with_reducible assumption) | assumption)
                                                  obtain ⟨go30, co30, eo30, gb30, gl30, cl30, HG30⟩ := Kd.R_form HO_4.out (by omega)
                                                  (first | cases eo30 | (injection eo30 with ea_ en_ ec_; (first | subst ea_ | (injection ea_ with ea_; subst ea_)); subst ec_; clear en_))
                                                  have GB30 := Aside0.mk gb30
                                                  have GG30 := Aside0.mk HG30
                                                  clear gb30 gl30 HG30
                                                  obtain ⟨hx30_0, hf30_0⟩ := Kd.R_celln false HO_4.out ((rd t231 x5_1) : Int) p30 q30
                                                  replace p30 := eq_true p30
                                                  replace q30 := eq_true q30
                                                  have HP42 := Kd.R_putg HO_4.out ((rd t231 x5_1) : Int) true
                                                  go_wp2_with (first | ((with_reducible refine gate_store (t := 4) (p := 58) rfl ?_); refine store_event (t := 4) (p := 58) (v := ?vo_w43) (w1 := (wc.setCell ⟨go30, ((rd t231 x5_1) : Int).toNat, none⟩ (.bool true))) ?hg ?ho ?hn ?hr ?_; (case ho => rfl); (case hg => rfl); (case hn => rfl); (case hr => first | (go_simp; done) | (go_simp; rfl)); intro w43 hw; have hg : wc.grownBy w43 (some go30) := (by rw [hw]; exact HP42.2); have hp_ : Kd.R Kd.bool 4 w43 w.heap.size (fun _ => True) (.slice (some ⟨go30, 0, none⟩) x4_1.length co30) y242 := (by rw [hw, Ny242.out]; exact HP42.1); clear HP42; have n0_ := Aside0.mk (Kd.R_over' (v := (.slice (some ⟨go30, 0, none⟩) x4_1.length co30)) (by (with_reducible repeat (first | apply Kd.R_alloc | apply Kd.R_drewN | apply Kd.R_drew)); exact HO_3.out) (Kd.R_typed HO_4.out) (by decide) hg); have n1_ := Aside0.mk (hp_); have n2_ := Aside0.mk ((by rw [hw]; exact below_set (HB.out) GB30.out : Below w.heap.size w w43)); clear HO_3; clear HO_4; clear HB; have HO_3 := n0_; have HO_4 := n1_; have HB := n2_; clear n0_ n1_ n2_; clear hg hw hp_; have p243 : 0 ≤ (x5_1 : Int) := of_decide_eq_true (by first | (with_reducible assumption) | assumption); have q243 : x5_1 < (t231.length : Int) := of_decide_eq_true (by first | (with_reducible assumption) | assumption); obtain ⟨ad243, e243, hx243_0⟩ := Kd.at_int (Kd.R_reads' HO_3.out).2.2 x5_1 p243 q243; obtain rfl : ad241 = ad243 := (by injection e243); replace p243 := eq_true p243; replace q243 := eq_true q243; have p244 : 0 ≤ ((rd t231 x5_1) : Int) := of_decide_eq_true (by first | (with_reducible assumption) | assumption); have q244 : (rd t231 x5_1) < (y227.length : Int) := of_decide_eq_true (by first | (with_reducible assumption) | assumption); obtain ⟨ad244, e244, hx244_0, hx244_1, hx244_2⟩ := at_T33 HR230.out (rd t231 x5_1) p244 q244; cases e244; replace hx244_0 := (HB.out.cell (World.block_lt_of_cell? w _ hx244_0)).trans hx244_0; replace hx244_1 := (HB.out.cell (World.block_lt_of_cell? w _ hx244_1)).trans hx244_1; replace hx244_2 := (HB.out.cell (World.block_lt_of_cell? w _ hx244_2)).trans hx244_2; replace p244 := eq_true p244; replace q244 := eq_true q244) | ((with_reducible refine gate_callee (f := 14) rfl ?_); refine goesL_ (some 66) rfl rfl Try.func14 (by kernel_rfl) rfl #[.agg #[.int .i64 ((rd_T33 y227 (rd t231 x5_1)).f0), .float .f64 ((rd_T33 y227 (rd t231 x5_1)).f1), .float .f64 ((rd_T33 y227 (rd t231 x5_1)).f2)]] rfl (by (try simp only [List.map_toArray, List.map_cons, List.map_nil]); first | done | rfl | (simp only [List.length_drop, List.length_take]; rfl)) ?_; (with_reducible refine (share_Share.calls kj17 ((rd_T33 y227 (rd t231 x5_1)).f0) ((rd_T33 y227 (rd t231 x5_1)).f1) ((rd_T33 y227 (rd t231 x5_1)).f2) t245 _ A32.out).mono ?_); rintro e w44 ⟨rfl, hb⟩; refine ⟨_, rfl, ?_⟩; have n0_ := Aside0.mk (Kd.R_below (by (with_reducible repeat (first | apply Kd.R_alloc | apply Kd.R_drewN | apply Kd.R_drew)); exact HO_3.out) hb); have n1_ := Aside0.mk (Kd.R_below (by (with_reducible repeat (first | apply Kd.R_alloc | apply Kd.R_drewN | apply Kd.R_drew)); exact HO_4.out) hb); have n2_ := Aside0.mk (below_step (by repeat (first | (with_reducible first | exact HB.out | apply below_alloc | apply pw_below_drewN | apply below_drew1) | exact HB.out)) hb); clear HO_3; clear HO_4; clear HB; have HO_3 := n0_; have HO_4 := n1_; have HB := n2_; clear n0_ n1_ n2_; (try clear hb); (try clear hb2); (try clear hk); (try clear hi); have p246 : 0 ≤ ((ji35) : Int) := of_decide_eq_true (by first | (with_reducible assumption) | assumption); have q246 : (ji35) < (t231.length : Int) := of_decide_eq_true (by first | (with_reducible assumption) | assumption); obtain ⟨ad246, e246, hx246_0⟩ := Kd.at_int (Kd.R_reads' HO_3.out).2.2 (ji35) p246 q246; obtain rfl : ad241 = ad246 := (by injection e246); replace p246 := eq_true p246; replace q246 := eq_true q246; have p247 : 0 ≤ ((rd t231 (ji35)) : Int) := of_decide_eq_true (by first | (with_reducible assumption) | assumption); have q247 : (rd t231 (ji35)) < (y227.length : Int) := of_decide_eq_true (by first | (with_reducible assumption) | assumption); obtain ⟨ad247, e247, hx247_0, hx247_1, hx247_2⟩ := at_T33 HR230.out (rd t231 (ji35)) p247 q247; obtain rfl : ad244 = ad247 := (by injection e247); replace hx247_0 := (HB.out.cell (World.block_lt_of_cell? w _ hx247_0)).trans hx247_0; replace hx247_1 := (HB.out.cell (World.block_lt_of_cell? w _ hx247_1)).trans hx247_1; replace hx247_2 := (HB.out.cell (World.block_lt_of_cell? w _ hx247_2)).trans hx247_2; replace p247 := eq_true p247; replace q247 := eq_true q247) | (go_at_call 14; (with_reducible refine (share_Share.calls kj17 ((rd_T33 y227 (rd t231 (ji35))).f0) ((rd_T33 y227 (rd t231 (ji35))).f1) ((rd_T33 y227 (rd t231 (ji35))).f2) t248 _ A40.out).mono ?_); rintro e w45 ⟨rfl, hb⟩; have n0_ := Aside0.mk (Kd.R_below (by (with_reducible repeat (first | apply Kd.R_alloc | apply Kd.R_drewN | apply Kd.R_drew)); exact HO_3.out) hb); have n1_ := Aside0.mk (Kd.R_below (by (with_reducible repeat (first | apply Kd.R_alloc | apply Kd.R_drewN | apply Kd.R_drew)); exact HO_4.out) hb); have n2_ := Aside0.mk (below_step (by repeat (first | (with_reducible first | exact HB.out | apply below_alloc | apply pw_below_drewN | apply below_drew1) | exact HB.out)) hb); clear HO_3; clear HO_4; clear HB; have HO_3 := n0_; have HO_4 := n1_; have HB := n2_; clear n0_ n1_ n2_; (try clear hb); (try clear hb2); (try clear hk); (try clear hi)))
                                                  go_ret
                                                  exact ⟨by first | rfl | (simp [errW_none, errW_some] <;> rfl) | (simp only [← hji4, ← hji35]; first | rfl | (simp [errW_none, errW_some] <;> rfl)) | (simp [*, errW_none, errW_some] <;> rfl), by repeat (first | (with_reducible first | exact HB.out | apply below_alloc | apply pw_below_drewN | apply below_drew1) | exact HB.out)⟩
                                                · rw [if_neg c41] at H
                                                  have c41b0 : flt t245 t248 = false := by simpa using c41
                                                  clear c41
                                                  have H' := Aside0.mk H
                                                  clear H
                                                  have p241 : 0 ≤ (x5_1 : Int) := of_decide_eq_true (by first | (with_reducible assumption) | assumption)
                                                  have q241 : x5_1 < (t231.length : Int) := of_decide_eq_true (by first | (with_reducible assumption) | assumption)
                                                  obtain ⟨ad241, e241, hx241_0⟩ := Kd.at_int (Kd.R_reads' HO_3.out).2.2 x5_1 p241 q241
                                                  cases e241
                                                  replace p241 := eq_true p241
                                                  replace q241 := eq_true q241
                                                  have p30 : 0 ≤ ((rd t231 x5_1) : Int) := of_decide_eq_true (by first | (with_reducible assumption) | assumption)
                                                  have q30 : ((rd t231 x5_1) : Int) < ((x4_1.length : Int) : Int) := of_decide_eq_true (by first | (with_reducible assumption) | assumption)
                                                  obtain ⟨go30, co30, eo30, gb30, gl30, cl30, HG30⟩ := Kd.R_form HO_4.out (by omega)
                                                  (first | cases eo30 | (injection eo30 with ea_ en_ ec_; (first | subst ea_ | (injection ea_ with ea_; subst ea_)); subst ec_; clear en_))
                                                  have GB30 := Aside0.mk gb30
                                                  have GG30 := Aside0.mk HG30
                                                  clear gb30 gl30 HG30
                                                  obtain ⟨hx30_0, hf30_0⟩ := Kd.R_celln false HO_4.out ((rd t231 x5_1) : Int) p30 q30
                                                  replace p30 := eq_true p30
                                                  replace q30 := eq_true q30
                                                  have HP46 := Kd.R_putg HO_4.out ((rd t231 x5_1) : Int) true
                                                  go_wp2_with (first | ((with_reducible refine gate_store (t := 4) (p := 58) rfl ?_); refine store_event (t := 4) (p := 58) (v := ?vo_w47) (w1 := (wc.setCell ⟨go30, ((rd t231 x5_1) : Int).toNat, none⟩ (.bool true))) ?hg ?ho ?hn ?hr ?_; (case ho => rfl); (case hg => rfl); (case hn => rfl); (case hr => first | (go_simp; done) | (go_simp; rfl)); intro w47 hw; have hg : wc.grownBy w47 (some go30) := (by rw [hw]; exact HP46.2); have hp_ : Kd.R Kd.bool 4 w47 w.heap.size (fun _ => True) (.slice (some ⟨go30, 0, none⟩) x4_1.length co30) y242 := (by rw [hw, Ny242.out]; exact HP46.1); clear HP46; have n0_ := Aside0.mk (Kd.R_over' (v := (.slice (some ⟨go30, 0, none⟩) x4_1.length co30)) (by (with_reducible repeat (first | apply Kd.R_alloc | apply Kd.R_drewN | apply Kd.R_drew)); exact HO_3.out) (Kd.R_typed HO_4.out) (by decide) hg); have n1_ := Aside0.mk (hp_); have n2_ := Aside0.mk ((by rw [hw]; exact below_set (HB.out) GB30.out : Below w.heap.size w w47)); clear HO_3; clear HO_4; clear HB; have HO_3 := n0_; have HO_4 := n1_; have HB := n2_; clear n0_ n1_ n2_; clear hg hw hp_; have p243 : 0 ≤ (x5_1 : Int) := of_decide_eq_true (by first | (with_reducible assumption) | assumption); have q243 : x5_1 < (t231.length : Int) := of_decide_eq_true (by first | (with_reducible assumption) | assumption); obtain ⟨ad243, e243, hx243_0⟩ := Kd.at_int (Kd.R_reads' HO_3.out).2.2 x5_1 p243 q243; obtain rfl : ad241 = ad243 := (by injection e243); replace p243 := eq_true p243; replace q243 := eq_true q243; have p244 : 0 ≤ ((rd t231 x5_1) : Int) := of_decide_eq_true (by first | (with_reducible assumption) | assumption); have q244 : (rd t231 x5_1) < (y227.length : Int) := of_decide_eq_true (by first | (with_reducible assumption) | assumption); obtain ⟨ad244, e244, hx244_0, hx244_1, hx244_2⟩ := at_T33 HR230.out (rd t231 x5_1) p244 q244; cases e244; replace hx244_0 := (HB.out.cell (World.block_lt_of_cell? w _ hx244_0)).trans hx244_0; replace hx244_1 := (HB.out.cell (World.block_lt_of_cell? w _ hx244_1)).trans hx244_1; replace hx244_2 := (HB.out.cell (World.block_lt_of_cell? w _ hx244_2)).trans hx244_2; replace p244 := eq_true p244; replace q244 := eq_true q244) | ((with_reducible refine gate_callee (f := 14) rfl ?_); refine goesL_ (some 66) rfl rfl Try.func14 (by kernel_rfl) rfl #[.agg #[.int .i64 ((rd_T33 y227 (rd t231 x5_1)).f0), .float .f64 ((rd_T33 y227 (rd t231 x5_1)).f1), .float .f64 ((rd_T33 y227 (rd t231 x5_1)).f2)]] rfl (by (try simp only [List.map_toArray, List.map_cons, List.map_nil]); first | done | rfl | (simp only [List.length_drop, List.length_take]; rfl)) ?_; (with_reducible refine (share_Share.calls kj17 ((rd_T33 y227 (rd t231 x5_1)).f0) ((rd_T33 y227 (rd t231 x5_1)).f1) ((rd_T33 y227 (rd t231 x5_1)).f2) t245 _ A32.out).mono ?_); rintro e w48 ⟨rfl, hb⟩; refine ⟨_, rfl, ?_⟩; have n0_ := Aside0.mk (Kd.R_below (by (with_reducible repeat (first | apply Kd.R_alloc | apply Kd.R_drewN | apply Kd.R_drew)); exact HO_3.out) hb); have n1_ := Aside0.mk (Kd.R_below (by (with_reducible repeat (first | apply Kd.R_alloc | apply Kd.R_drewN | apply Kd.R_drew)); exact HO_4.out) hb); have n2_ := Aside0.mk (below_step (by repeat (first | (with_reducible first | exact HB.out | apply below_alloc | apply pw_below_drewN | apply below_drew1) | exact HB.out)) hb); clear HO_3; clear HO_4; clear HB; have HO_3 := n0_; have HO_4 := n1_; have HB := n2_; clear n0_ n1_ n2_; (try clear hb); (try clear hb2); (try clear hk); (try clear hi); have p246 : 0 ≤ ((ji35) : Int) := of_decide_eq_true (by first | (with_reducible assumption) | assumption); have q246 : (ji35) < (t231.length : Int) := of_decide_eq_true (by first | (with_reducible assumption) | assumption); obtain ⟨ad246, e246, hx246_0⟩ := Kd.at_int (Kd.R_reads' HO_3.out).2.2 (ji35) p246 q246; obtain rfl : ad241 = ad246 := (by injection e246); replace p246 := eq_true p246; replace q246 := eq_true q246; have p247 : 0 ≤ ((rd t231 (ji35)) : Int) := of_decide_eq_true (by first | (with_reducible assumption) | assumption); have q247 : (rd t231 (ji35)) < (y227.length : Int) := of_decide_eq_true (by first | (with_reducible assumption) | assumption); obtain ⟨ad247, e247, hx247_0, hx247_1, hx247_2⟩ := at_T33 HR230.out (rd t231 (ji35)) p247 q247; obtain rfl : ad244 = ad247 := (by injection e247); replace hx247_0 := (HB.out.cell (World.block_lt_of_cell? w _ hx247_0)).trans hx247_0; replace hx247_1 := (HB.out.cell (World.block_lt_of_cell? w _ hx247_1)).trans hx247_1; replace hx247_2 := (HB.out.cell (World.block_lt_of_cell? w _ hx247_2)).trans hx247_2; replace p247 := eq_true p247; replace q247 := eq_true q247) | (go_at_call 14; (with_reducible refine (share_Share.calls kj17 ((rd_T33 y227 (rd t231 (ji35))).f0) ((rd_T33 y227 (rd t231 (ji35))).f1) ((rd_T33 y227 (rd t231 (ji35))).f2) t248 _ A40.out).mono ?_); rintro e w49 ⟨rfl, hb⟩; have n0_ := Aside0.mk (Kd.R_below (by (with_reducible repeat (first | apply Kd.R_alloc | apply Kd.R_drewN | apply Kd.R_drew)); exact HO_3.out) hb); have n1_ := Aside0.mk (Kd.R_below (by (with_reducible repeat (first | apply Kd.R_alloc | apply Kd.R_drewN | apply Kd.R_drew)); exact HO_4.out) hb); have n2_ := Aside0.mk (below_step (by repeat (first | (with_reducible first | exact HB.out | apply below_alloc | apply pw_below_drewN | apply below_drew1) | exact HB.out)) hb); clear HO_3; clear HO_4; clear HB; have HO_3 := n0_; have HO_4 := n1_; have HB := n2_; clear n0_ n1_ n2_; (try clear hb); (try clear hb2); (try clear hk); (try clear hi)))
                                                  go_roundg kj17
                                                  case measure => have := HK1.out; have := HJ17.out; omega
                                                  case rel => exact ⟨(y242), (wrap64 (x5_1 + 1)), (by first | rfl | (simp; done) | (simp [*]; done)), H', ⟨by have := HK1.out; have := HJ17.out; omega⟩, ⟨by (with_reducible repeat (first | apply Kd.R_alloc | apply Kd.R_drewN | apply Kd.R_drew)); exact HO_3.out⟩, ⟨by (with_reducible repeat (first | apply Kd.R_alloc | apply Kd.R_drewN | apply Kd.R_drew)); exact HO_4.out⟩, ⟨by repeat (first | (with_reducible first | exact HB.out | apply below_alloc | apply pw_below_drewN | apply below_drew1) | exact HB.out)⟩⟩
                                              · rw [if_neg c39] at H
                                                exact absurd H (by simp)
                                            · rw [if_neg c38] at H
                                              exact absurd H (by simp)
                                          · rw [if_neg c37] at H
                                            exact absurd H (by simp)
                                        · rw [if_neg c36] at H
                                          exact absurd H (by simp)
                                      · rw [if_neg c34] at H
                                        have c34b0 : decide (0 < x5_1) = false := decide_eq_false c34
                                        clear c34
                                        have H' := Aside0.mk H
                                        clear H
                                        have p241 : 0 ≤ (x5_1 : Int) := of_decide_eq_true (by first | (with_reducible assumption) | assumption)
                                        have q241 : x5_1 < (t231.length : Int) := of_decide_eq_true (by first | (with_reducible assumption) | assumption)
                                        obtain ⟨ad241, e241, hx241_0⟩ := Kd.at_int (Kd.R_reads' HO_3.out).2.2 x5_1 p241 q241
                                        cases e241
                                        replace p241 := eq_true p241
                                        replace q241 := eq_true q241
                                        have p30 : 0 ≤ ((rd t231 x5_1) : Int) := of_decide_eq_true (by first | (with_reducible assumption) | assumption)
                                        have q30 : ((rd t231 x5_1) : Int) < ((x4_1.length : Int) : Int) := of_decide_eq_true (by first | (with_reducible assumption) | assumption)
                                        obtain ⟨go30, co30, eo30, gb30, gl30, cl30, HG30⟩ := Kd.R_form HO_4.out (by omega)
                                        (first | cases eo30 | (injection eo30 with ea_ en_ ec_; (first | subst ea_ | (injection ea_ with ea_; subst ea_)); subst ec_; clear en_))
                                        have GB30 := Aside0.mk gb30
                                        have GG30 := Aside0.mk HG30
                                        clear gb30 gl30 HG30
                                        obtain ⟨hx30_0, hf30_0⟩ := Kd.R_celln false HO_4.out ((rd t231 x5_1) : Int) p30 q30
                                        replace p30 := eq_true p30
                                        replace q30 := eq_true q30
                                        have HP50 := Kd.R_putg HO_4.out ((rd t231 x5_1) : Int) true
                                        go_wp2_with (first | ((with_reducible refine gate_store (t := 4) (p := 58) rfl ?_); refine store_event (t := 4) (p := 58) (v := ?vo_w51) (w1 := (wc.setCell ⟨go30, ((rd t231 x5_1) : Int).toNat, none⟩ (.bool true))) ?hg ?ho ?hn ?hr ?_; (case ho => rfl); (case hg => rfl); (case hn => rfl); (case hr => first | (go_simp; done) | (go_simp; rfl)); intro w51 hw; have hg : wc.grownBy w51 (some go30) := (by rw [hw]; exact HP50.2); have hp_ : Kd.R Kd.bool 4 w51 w.heap.size (fun _ => True) (.slice (some ⟨go30, 0, none⟩) x4_1.length co30) y242 := (by rw [hw, Ny242.out]; exact HP50.1); clear HP50; have n0_ := Aside0.mk (Kd.R_over' (v := (.slice (some ⟨go30, 0, none⟩) x4_1.length co30)) (by (with_reducible repeat (first | apply Kd.R_alloc | apply Kd.R_drewN | apply Kd.R_drew)); exact HO_3.out) (Kd.R_typed HO_4.out) (by decide) hg); have n1_ := Aside0.mk (hp_); have n2_ := Aside0.mk ((by rw [hw]; exact below_set (HB.out) GB30.out : Below w.heap.size w w51)); clear HO_3; clear HO_4; clear HB; have HO_3 := n0_; have HO_4 := n1_; have HB := n2_; clear n0_ n1_ n2_; clear hg hw hp_; have p243 : 0 ≤ (x5_1 : Int) := of_decide_eq_true (by first | (with_reducible assumption) | assumption); have q243 : x5_1 < (t231.length : Int) := of_decide_eq_true (by first | (with_reducible assumption) | assumption); obtain ⟨ad243, e243, hx243_0⟩ := Kd.at_int (Kd.R_reads' HO_3.out).2.2 x5_1 p243 q243; obtain rfl : ad241 = ad243 := (by injection e243); replace p243 := eq_true p243; replace q243 := eq_true q243; have p244 : 0 ≤ ((rd t231 x5_1) : Int) := of_decide_eq_true (by first | (with_reducible assumption) | assumption); have q244 : (rd t231 x5_1) < (y227.length : Int) := of_decide_eq_true (by first | (with_reducible assumption) | assumption); obtain ⟨ad244, e244, hx244_0, hx244_1, hx244_2⟩ := at_T33 HR230.out (rd t231 x5_1) p244 q244; cases e244; replace hx244_0 := (HB.out.cell (World.block_lt_of_cell? w _ hx244_0)).trans hx244_0; replace hx244_1 := (HB.out.cell (World.block_lt_of_cell? w _ hx244_1)).trans hx244_1; replace hx244_2 := (HB.out.cell (World.block_lt_of_cell? w _ hx244_2)).trans hx244_2; replace p244 := eq_true p244; replace q244 := eq_true q244) | ((with_reducible refine gate_callee (f := 14) rfl ?_); refine goesL_ (some 66) rfl rfl Try.func14 (by kernel_rfl) rfl #[.agg #[.int .i64 ((rd_T33 y227 (rd t231 x5_1)).f0), .float .f64 ((rd_T33 y227 (rd t231 x5_1)).f1), .float .f64 ((rd_T33 y227 (rd t231 x5_1)).f2)]] rfl (by (try simp only [List.map_toArray, List.map_cons, List.map_nil]); first | done | rfl | (simp only [List.length_drop, List.length_take]; rfl)) ?_; (with_reducible refine (share_Share.calls kj17 ((rd_T33 y227 (rd t231 x5_1)).f0) ((rd_T33 y227 (rd t231 x5_1)).f1) ((rd_T33 y227 (rd t231 x5_1)).f2) t245 _ A32.out).mono ?_); rintro e w52 ⟨rfl, hb⟩; refine ⟨_, rfl, ?_⟩; have n0_ := Aside0.mk (Kd.R_below (by (with_reducible repeat (first | apply Kd.R_alloc | apply Kd.R_drewN | apply Kd.R_drew)); exact HO_3.out) hb); have n1_ := Aside0.mk (Kd.R_below (by (with_reducible repeat (first | apply Kd.R_alloc | apply Kd.R_drewN | apply Kd.R_drew)); exact HO_4.out) hb); have n2_ := Aside0.mk (below_step (by repeat (first | (with_reducible first | exact HB.out | apply below_alloc | apply pw_below_drewN | apply below_drew1) | exact HB.out)) hb); clear HO_3; clear HO_4; clear HB; have HO_3 := n0_; have HO_4 := n1_; have HB := n2_; clear n0_ n1_ n2_; (try clear hb); (try clear hb2); (try clear hk); (try clear hi)))
                                        go_roundg kj17
                                        case measure => have := HK1.out; have := HJ17.out; omega
                                        case rel => exact ⟨(y242), (wrap64 (x5_1 + 1)), (by first | rfl | (simp; done) | (simp [*]; done)), H', ⟨by have := HK1.out; have := HJ17.out; omega⟩, ⟨by (with_reducible repeat (first | apply Kd.R_alloc | apply Kd.R_drewN | apply Kd.R_drew)); exact HO_3.out⟩, ⟨by (with_reducible repeat (first | apply Kd.R_alloc | apply Kd.R_drewN | apply Kd.R_drew)); exact HO_4.out⟩, ⟨by repeat (first | (with_reducible first | exact HB.out | apply below_alloc | apply pw_below_drewN | apply below_drew1) | exact HB.out)⟩⟩
                                    · rw [if_neg c33] at H
                                      have c33b0 : fge t245 0 = false := by simpa using c33
                                      clear c33
                                      obtain rfl := Option.some.inj H
                                      have p241 : 0 ≤ (x5_1 : Int) := of_decide_eq_true (by first | (with_reducible assumption) | assumption)
                                      have q241 : x5_1 < (t231.length : Int) := of_decide_eq_true (by first | (with_reducible assumption) | assumption)
                                      obtain ⟨ad241, e241, hx241_0⟩ := Kd.at_int (Kd.R_reads' HO_3.out).2.2 x5_1 p241 q241
                                      cases e241
                                      replace p241 := eq_true p241
                                      replace q241 := eq_true q241
                                      have p30 : 0 ≤ ((rd t231 x5_1) : Int) := of_decide_eq_true (by first | (with_reducible assumption) | assumption)
                                      have q30 : ((rd t231 x5_1) : Int) < ((x4_1.length : Int) : Int) := of_decide_eq_true (by first | (with_reducible assumption) | assumption)
                                      obtain ⟨go30, co30, eo30, gb30, gl30, cl30, HG30⟩ := Kd.R_form HO_4.out (by omega)
                                      (first | cases eo30 | (injection eo30 with ea_ en_ ec_; (first | subst ea_ | (injection ea_ with ea_; subst ea_)); subst ec_; clear en_))
                                      have GB30 := Aside0.mk gb30
                                      have GG30 := Aside0.mk HG30
                                      clear gb30 gl30 HG30
                                      obtain ⟨hx30_0, hf30_0⟩ := Kd.R_celln false HO_4.out ((rd t231 x5_1) : Int) p30 q30
                                      replace p30 := eq_true p30
                                      replace q30 := eq_true q30
                                      have HP53 := Kd.R_putg HO_4.out ((rd t231 x5_1) : Int) true
                                      go_wp2_with (first | ((with_reducible refine gate_store (t := 4) (p := 58) rfl ?_); refine store_event (t := 4) (p := 58) (v := ?vo_w54) (w1 := (wc.setCell ⟨go30, ((rd t231 x5_1) : Int).toNat, none⟩ (.bool true))) ?hg ?ho ?hn ?hr ?_; (case ho => rfl); (case hg => rfl); (case hn => rfl); (case hr => first | (go_simp; done) | (go_simp; rfl)); intro w54 hw; have hg : wc.grownBy w54 (some go30) := (by rw [hw]; exact HP53.2); have hp_ : Kd.R Kd.bool 4 w54 w.heap.size (fun _ => True) (.slice (some ⟨go30, 0, none⟩) x4_1.length co30) y242 := (by rw [hw, Ny242.out]; exact HP53.1); clear HP53; have n0_ := Aside0.mk (Kd.R_over' (v := (.slice (some ⟨go30, 0, none⟩) x4_1.length co30)) (by (with_reducible repeat (first | apply Kd.R_alloc | apply Kd.R_drewN | apply Kd.R_drew)); exact HO_3.out) (Kd.R_typed HO_4.out) (by decide) hg); have n1_ := Aside0.mk (hp_); have n2_ := Aside0.mk ((by rw [hw]; exact below_set (HB.out) GB30.out : Below w.heap.size w w54)); clear HO_3; clear HO_4; clear HB; have HO_3 := n0_; have HO_4 := n1_; have HB := n2_; clear n0_ n1_ n2_; clear hg hw hp_; have p243 : 0 ≤ (x5_1 : Int) := of_decide_eq_true (by first | (with_reducible assumption) | assumption); have q243 : x5_1 < (t231.length : Int) := of_decide_eq_true (by first | (with_reducible assumption) | assumption); obtain ⟨ad243, e243, hx243_0⟩ := Kd.at_int (Kd.R_reads' HO_3.out).2.2 x5_1 p243 q243; obtain rfl : ad241 = ad243 := (by injection e243); replace p243 := eq_true p243; replace q243 := eq_true q243; have p244 : 0 ≤ ((rd t231 x5_1) : Int) := of_decide_eq_true (by first | (with_reducible assumption) | assumption); have q244 : (rd t231 x5_1) < (y227.length : Int) := of_decide_eq_true (by first | (with_reducible assumption) | assumption); obtain ⟨ad244, e244, hx244_0, hx244_1, hx244_2⟩ := at_T33 HR230.out (rd t231 x5_1) p244 q244; cases e244; replace hx244_0 := (HB.out.cell (World.block_lt_of_cell? w _ hx244_0)).trans hx244_0; replace hx244_1 := (HB.out.cell (World.block_lt_of_cell? w _ hx244_1)).trans hx244_1; replace hx244_2 := (HB.out.cell (World.block_lt_of_cell? w _ hx244_2)).trans hx244_2; replace p244 := eq_true p244; replace q244 := eq_true q244) | ((with_reducible refine gate_callee (f := 14) rfl ?_); refine goesL_ (some 66) rfl rfl Try.func14 (by kernel_rfl) rfl #[.agg #[.int .i64 ((rd_T33 y227 (rd t231 x5_1)).f0), .float .f64 ((rd_T33 y227 (rd t231 x5_1)).f1), .float .f64 ((rd_T33 y227 (rd t231 x5_1)).f2)]] rfl (by (try simp only [List.map_toArray, List.map_cons, List.map_nil]); first | done | rfl | (simp only [List.length_drop, List.length_take]; rfl)) ?_; (with_reducible refine (share_Share.calls kj17 ((rd_T33 y227 (rd t231 x5_1)).f0) ((rd_T33 y227 (rd t231 x5_1)).f1) ((rd_T33 y227 (rd t231 x5_1)).f2) t245 _ A32.out).mono ?_); rintro e w55 ⟨rfl, hb⟩; refine ⟨_, rfl, ?_⟩; have n0_ := Aside0.mk (Kd.R_below (by (with_reducible repeat (first | apply Kd.R_alloc | apply Kd.R_drewN | apply Kd.R_drew)); exact HO_3.out) hb); have n1_ := Aside0.mk (Kd.R_below (by (with_reducible repeat (first | apply Kd.R_alloc | apply Kd.R_drewN | apply Kd.R_drew)); exact HO_4.out) hb); have n2_ := Aside0.mk (below_step (by repeat (first | (with_reducible first | exact HB.out | apply below_alloc | apply pw_below_drewN | apply below_drew1) | exact HB.out)) hb); clear HO_3; clear HO_4; clear HB; have HO_3 := n0_; have HO_4 := n1_; have HB := n2_; clear n0_ n1_ n2_; (try clear hb); (try clear hb2); (try clear hk); (try clear hi)))
                                      go_ret
                                      exact ⟨by first | rfl | (simp [errW_none, errW_some] <;> rfl) | (simp only [← hji4]; first | rfl | (simp [errW_none, errW_some] <;> rfl)) | (simp [*, errW_none, errW_some] <;> rfl), by repeat (first | (with_reducible first | exact HB.out | apply below_alloc | apply pw_below_drewN | apply below_drew1) | exact HB.out)⟩
                                  · rw [if_neg c31] at H
                                    exact absurd H (by simp)
                                · rw [if_neg c29] at H
                                  exact absurd H (by simp)
                              · rw [if_neg c28] at H
                                exact absurd H (by simp)
                            · rw [if_neg c27] at H
                              exact absurd H (by simp)
                          · rw [if_neg c26] at H
                            exact absurd H (by simp)
                  · rw [if_neg c17] at H
                    have c17b0 : decide (x5_1 < (t231.length : Int)) = false := decide_eq_false c17
                    clear c17
                    obtain rfl := Option.some.inj H
                    go_wp2
                    go_ret
                    exact ⟨by first | rfl | (simp [errW_none, errW_some] <;> rfl) | (simp only [← hji4]; first | rfl | (simp [errW_none, errW_some] <;> rfl)) | (simp [*, errW_none, errW_some] <;> rfl), by repeat (first | (with_reducible first | exact HB.out | apply below_alloc | apply pw_below_drewN | apply below_drew1) | exact HB.out)⟩
            · rw [if_neg c10] at H
              exact absurd H (by simp)
          · rw [if_neg c9] at H
            exact absurd H (by simp)
        · rw [if_neg c8] at H
          have c8b0 : ((t231.length : Int) == (y227.length : Int)) = false := beq_eq_false_iff_ne.mpr c8
          have c8b1 : ((t231.length : Int) != (y227.length : Int)) = true := bne_iff_ne.mpr c8
          have c8b2 : (t231.length == y227.length) = false := by first | simpa using c8 | (simp at c8 ⊢; omega)
          obtain rfl := Option.some.inj H
          go_enter Try.func4, Try.ntmps4
          go_wp2_with (first | ((with_reducible refine gate_callee (f := 8) rfl ?_); refine goesL_ (some 7) rfl rfl Try.func8 (by kernel_rfl) rfl #[] rfl (by (try simp only [List.map_toArray, List.map_cons, List.map_nil]); first | done | rfl | (simp only [List.length_drop, List.length_take]; rfl)) ?_; (with_reducible refine (bailiwicklaw15_awake.calls k  true _ A2.out).mono ?_); rintro e w56 ⟨rfl, hb⟩; refine ⟨_, rfl, ?_⟩; have n0_ := Aside0.mk (below_step (by repeat (first | (with_reducible first | exact HB.out | apply below_alloc | apply pw_below_drewN | apply below_drew1) | exact HB.out)) hb); clear HB; have HB := n0_; clear n0_; (try clear hb); (try clear hb2); (try clear hk); (try clear hi); have q57 : ((ji4) : Int) ≤ ((l0.length : Int) : Int) := of_decide_eq_true (by first | (with_reducible assumption) | assumption); obtain ⟨i057, hi057, _, hsz57, _⟩ := info_parts info33; have hroom57 : l0.length ≤ c0 := HC0.out; have hC57 : Kd.C k33 _ A0 l0.length l0 := HR0.out; have hcut57 := cut_to (P := Try.prog) 22 33 .i64 Try.underlying22 hi057 A0 l0.length c0 (ji4) (of_decide_eq_true (by first | (with_reducible assumption) | assumption)) q57 hroom57; have hr57 := Kd.C_take (m := ((ji4) : Int).toNat) hC57 (by omega); have hy57 : y227.length = ((ji4) : Int).toNat := (by rw [Ny227.out, List.length_take]; omega); rw [← Ny227.out] at hr57; rw [← hy57] at hcut57; have HR230 := Aside0.mk hr57; have HC230 := Aside0.mk (show y227.length ≤ c0 from by omega); clear hr57 hC57 hroom57 hi057 hsz57; have KY57 := Aside0.mk hy57; clear hy57; replace q57 := eq_true q57) | ((with_reducible refine gate_callee (f := 10) rfl ?_); refine goesL_ (some 15) rfl rfl Try.func10 (by kernel_rfl) rfl #[.slice A0 y227.length c0] rfl (by (try simp only [List.map_toArray, List.map_cons, List.map_nil]); first | done | rfl | (simp only [List.length_drop, List.length_take]; rfl)) ?_; (with_reducible refine (share_Order.calls k _ _ y227 t231 _ ?side1 ?side2 A7.out).mono ?_); (case side1 => repeat (first | exact (Kd.C_below HR230.out HB.out) | (with_reducible refine Kd.C_alloc ?_ _) | (with_reducible refine Kd.C_drewN ?_ _) | (with_reducible refine Kd.C_drew ?_))); (case side2 => exact HC230.out); rintro e w58 ⟨v232, rfl, ho0, hb⟩; refine ⟨_, rfl, ?_⟩; have n0_ := Aside0.mk (Kd.R_lower ho0 (below_size (by repeat (first | (with_reducible first | exact HB.out | apply below_alloc | apply pw_below_drewN | apply below_drew1) | exact HB.out)))); have n1_ := Aside0.mk (below_step (by repeat (first | (with_reducible first | exact HB.out | apply below_alloc | apply pw_below_drewN | apply below_drew1) | exact HB.out)) hb); clear HB; have HO233 := n0_; have HB := n1_; clear n0_ n1_; (try clear hb); (try clear hb2); (try clear hk); (try clear hi); (try clear ho0); obtain ⟨Ao59, co59, eo59⟩ := Kd.R_slice HO233.out; subst eo59))
          go_ret
          exact ⟨by first | rfl | (simp [errW_none, errW_some] <;> rfl) | (simp only [← hji4]; first | rfl | (simp [errW_none, errW_some] <;> rfl)) | (simp [*, errW_none, errW_some] <;> rfl), by repeat (first | (with_reducible first | exact HB.out | apply below_alloc | apply pw_below_drewN | apply below_drew1) | exact HB.out)⟩
      · rw [if_neg c6] at H
        exact absurd H (by simp)
    · rw [if_neg c5] at H
      exact absurd H (by simp)
  · replace c3 := Bool.eq_false_iff.mpr c3
    subst c3
    have H1 : (some false) = some r := by rw [if_neg (show ¬ (false = true) by decide)] at H; exact H
    clear H
    have H := H1
    clear H1
    obtain rfl := Option.some.inj H
    go_enter Try.func4, Try.ntmps4
    go_wp2_with (first | ((with_reducible refine gate_callee (f := 8) rfl ?_); refine goesL_ (some 7) rfl rfl Try.func8 (by kernel_rfl) rfl #[] rfl (by (try simp only [List.map_toArray, List.map_cons, List.map_nil]); first | done | rfl | (simp only [List.length_drop, List.length_take]; rfl)) ?_; (with_reducible refine (bailiwicklaw15_awake.calls k  false _ A2.out).mono ?_); rintro e w60 ⟨rfl, hb⟩; refine ⟨_, rfl, ?_⟩; have n0_ := Aside0.mk (below_step (by repeat (first | (with_reducible first | exact HB.out | apply below_alloc | apply pw_below_drewN | apply below_drew1) | exact HB.out)) hb); clear HB; have HB := n0_; clear n0_; (try clear hb); (try clear hb2); (try clear hk); (try clear hi)))
    go_ret
    exact ⟨by first | rfl | (simp [errW_none, errW_some] <;> rfl) | (simp [*, errW_none, errW_some] <;> rfl), by repeat (first | (with_reducible first | exact HB.out | apply below_alloc | apply pw_below_drewN | apply below_drew1) | exact HB.out)⟩

end Go.Proofs.Ytemlhkognjhgbaa.PAll
