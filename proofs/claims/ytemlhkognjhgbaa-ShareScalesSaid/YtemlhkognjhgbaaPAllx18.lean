-- Written by wip/tools/hprint.py of this claim's session (a driver over the kit's print, with contracts proved by hand among them).
import Derived.Test.YtemlhkognjhgbaaPAllx0
import Derived.Test.YtemlhkognjhgbaaPAllx1
import Derived.Test.YtemlhkognjhgbaaPAllx10
import Derived.Test.YtemlhkognjhgbaaPAllx11
import Derived.Test.YtemlhkognjhgbaaPAllx13
import Derived.Test.YtemlhkognjhgbaaPAllx16
import Derived.Test.YtemlhkognjhgbaaPAllx17
namespace Go.Proofs.Ytemlhkognjhgbaa.PAll
open Go.RowKit Go.Proofs.YtemlhkognjhgbaaW.PrintWords Go.Proofs.YtemlhkognjhgbaaW.PrintLast Go.Proofs.YtemlhkognjhgbaaW.PrintMore
attribute [local go_sem] max2_int min2_int max_two min_two max_three min_three max_four min_four   -- for this text's walks alone
set_option linter.unusedVariables false
set_option linter.unusedSimpArgs false

/-! ### bailiwicklaw15_ShareRanks: function 3 -/
def bailiwicklaw15_ShareRanks.f (k : Nat) (l0 : List (S33)) (a1 : Int) : Option (Bool) := (bailiwicklaw15_awake.f k).bind fun t212 => (if t212 = true then (if 0 ≤ (mn (l0.length : Int) 60) then (if (mn (l0.length : Int) 60) ≤ (l0.length : Int) then ((some (l0.take ((mn (l0.length : Int) 60) : Int).toNat : List (S33))).bind fun y213 => ((share_Order.f k y213).bind fun t217 => ((bailiwickref15_Order.f k y213).bind fun t220 => ((bailiwickref01_Same.f k t217 t220).bind fun t223 => (if t223 = true then ((share_Bonus.f k y213 a1).bind fun t224 => ((bailiwickref15_Bonus.f k y213 a1).bind fun t225 => (some (t224 == t225)))) else (some false)))))) else (none)) else (none)) else (some false))
theorem bailiwicklaw15_ShareRanks.mono : ∀ a0 a1 k, LeO (bailiwicklaw15_ShareRanks.f k a0 a1) (bailiwicklaw15_ShareRanks.f (k + 1) a0 a1) := by
  intro a0 a1 k
  unfold bailiwicklaw15_ShareRanks.f
  repeat' first
      | (with_reducible exact bailiwicklaw15_awake.mono _)
      | (with_reducible exact bailiwickref01_Same.mono _ _ _)
      | (with_reducible exact bailiwickref15_Bonus.mono _ _ _)
      | (with_reducible exact bailiwickref15_Order.mono _ _)
      | (with_reducible exact share_Bonus.mono _ _ _)
      | (with_reducible exact share_Order.mono _ _)
      | (with_reducible exact LeO.refl _)
      | (with_reducible exact LeO.none _)
      | (with_reducible refine LeO.ite ?_ ?_)
      | (with_reducible refine LeO.bind ?_ (fun _ => ?_))
      | exact bailiwicklaw15_awake.mono _
      | exact bailiwickref01_Same.mono _ _ _
      | exact bailiwickref15_Bonus.mono _ _ _
      | exact bailiwickref15_Order.mono _ _
      | exact share_Bonus.mono _ _ _
      | exact share_Order.mono _ _
      | exact LeO.none _
      | refine LeO.ite ?_ ?_
      | refine LeO.bind ?_ (fun _ => ?_)
set_option maxHeartbeats 8000000 in
set_option maxRecDepth 100000 in
theorem bailiwicklaw15_ShareRanks.calls (k : Nat) (A0 : Option Addr) (c0 : Nat) (l0 : List (S33)) (a1 : Int) (r : Bool) (w : World) (hr0 : Kd.C k33 w A0 l0.length l0) (hc0 : l0.length ≤ c0) (h : bailiwicklaw15_ShareRanks.f k l0 a1 = some r) :
    Calls Try.prog 3 #[.slice A0 l0.length c0, .int .i64 a1] w fun e w' => e = .returned (.bool r) ∧ Below w.heap.size w w' := by
  have HR0 := Aside0.mk hr0
  have HC0 := Aside0.mk hc0
  clear hr0 hc0
  have HB := Aside0.mk (Below.refl w.heap.size w)
  have H : ((bailiwicklaw15_awake.f k).bind fun t212 => (if t212 = true then (if 0 ≤ (mn (l0.length : Int) 60) then (if (mn (l0.length : Int) 60) ≤ (l0.length : Int) then ((some (l0.take ((mn (l0.length : Int) 60) : Int).toNat : List (S33))).bind fun y213 => ((share_Order.f k y213).bind fun t217 => ((bailiwickref15_Order.f k y213).bind fun t220 => ((bailiwickref01_Same.f k t217 t220).bind fun t223 => (if t223 = true then ((share_Bonus.f k y213 a1).bind fun t224 => ((bailiwickref15_Bonus.f k y213 a1).bind fun t225 => (some (t224 == t225)))) else (some false)))))) else (none)) else (none)) else (some false))) = some r := h
  clear h
  replace H := Option.bind_eq_some_iff.mp H
  obtain ⟨t212, A30, H⟩ := H
  replace H : (if t212 = true then (if 0 ≤ (mn (l0.length : Int) 60) then (if (mn (l0.length : Int) 60) ≤ (l0.length : Int) then ((some (l0.take ((mn (l0.length : Int) 60) : Int).toNat : List (S33))).bind fun y213 => ((share_Order.f k y213).bind fun t217 => ((bailiwickref15_Order.f k y213).bind fun t220 => ((bailiwickref01_Same.f k t217 t220).bind fun t223 => (if t223 = true then ((share_Bonus.f k y213 a1).bind fun t224 => ((bailiwickref15_Bonus.f k y213 a1).bind fun t225 => (some (t224 == t225)))) else (some false)))))) else (none)) else (none)) else (some false)) = some r := H
  have A3 := Aside0.mk A30
  clear A30
  by_cases c4 : t212 = true
  · subst c4
    have H1 : (if 0 ≤ (mn (l0.length : Int) 60) then (if (mn (l0.length : Int) 60) ≤ (l0.length : Int) then ((some (l0.take ((mn (l0.length : Int) 60) : Int).toNat : List (S33))).bind fun y213 => ((share_Order.f k y213).bind fun t217 => ((bailiwickref15_Order.f k y213).bind fun t220 => ((bailiwickref01_Same.f k t217 t220).bind fun t223 => (if t223 = true then ((share_Bonus.f k y213 a1).bind fun t224 => ((bailiwickref15_Bonus.f k y213 a1).bind fun t225 => (some (t224 == t225)))) else (some false)))))) else (none)) else (none)) = some r := by rw [if_pos rfl] at H; exact H
    clear H
    have H := H1
    clear H1
    obtain ⟨ji5, hji5⟩ : ∃ j_ : Int, (mn (l0.length : Int) 60) = j_ := ⟨_, rfl⟩
    replace H : (if 0 ≤ (ji5) then (if (ji5) ≤ (l0.length : Int) then ((some (l0.take ((ji5) : Int).toNat : List (S33))).bind fun y213 => ((share_Order.f k y213).bind fun t217 => ((bailiwickref15_Order.f k y213).bind fun t220 => ((bailiwickref01_Same.f k t217 t220).bind fun t223 => (if t223 = true then ((share_Bonus.f k y213 a1).bind fun t224 => ((bailiwickref15_Bonus.f k y213 a1).bind fun t225 => (some (t224 == t225)))) else (some false)))))) else (none)) else (none)) = some r := by first | (rw [hji5] at H; exact H) | (simp only [hji5] at H ⊢; exact H)
    (try rw [hji5] at A3)
    (try (have hji5h : ji5 ≤ 60 := by (rw [← hji5]; unfold mn; (repeat' split) <;> omega)))
    (try (have hji5g : ji5 ≤ 64 := by omega))
    (try (have hji5l : 0 ≤ ji5 := by (rw [← hji5]; unfold mn; (repeat' split) <;> omega)))
    (try (have hji5m : 0 ≤ ji5 := by omega))
    have hji5_ : (if 60 < (l0.length : Int) then 60 else (l0.length : Int)) = ji5 := hji5
    by_cases c6 : 0 ≤ (ji5)
    · rw [if_pos c6] at H
      have c6b0 := eq_true c6
      have c6b1 : decide (0 ≤ (ji5)) = true := decide_eq_true c6
      clear c6
      by_cases c7 : (ji5) ≤ (l0.length : Int)
      · rw [if_pos c7] at H
        have c7b0 := eq_true c7
        have c7b1 : decide ((ji5) ≤ (l0.length : Int)) = true := decide_eq_true c7
        clear c7
        obtain ⟨y213, hy213⟩ : ∃ y_ : List (S33), y_ = (l0.take ((ji5) : Int).toNat) := ⟨_, rfl⟩
        replace H : ((share_Order.f k y213).bind fun t217 => ((bailiwickref15_Order.f k y213).bind fun t220 => ((bailiwickref01_Same.f k t217 t220).bind fun t223 => (if t223 = true then ((share_Bonus.f k y213 a1).bind fun t224 => ((bailiwickref15_Bonus.f k y213 a1).bind fun t225 => (some (t224 == t225)))) else (some false))))) = some r := by first | (rw [hy213]; with_reducible exact H) | (have H2_ := (Option.bind_some _ _).symm.trans H; rw [hy213]; with_reducible exact H2_) | (have H2_ := (Option.bind_some _ _).symm.trans H; with_reducible exact H2_) | with_reducible exact H | (rw [hy213]; exact H) | exact H
        have Ny213 := Aside0.mk hy213
        clear hy213
        replace H := Option.bind_eq_some_iff.mp H
        obtain ⟨t217, A80, H⟩ := H
        replace H : ((bailiwickref15_Order.f k y213).bind fun t220 => ((bailiwickref01_Same.f k t217 t220).bind fun t223 => (if t223 = true then ((share_Bonus.f k y213 a1).bind fun t224 => ((bailiwickref15_Bonus.f k y213 a1).bind fun t225 => (some (t224 == t225)))) else (some false)))) = some r := H
        have A8 := Aside0.mk A80
        clear A80
        replace H := Option.bind_eq_some_iff.mp H
        obtain ⟨t220, A90, H⟩ := H
        replace H : ((bailiwickref01_Same.f k t217 t220).bind fun t223 => (if t223 = true then ((share_Bonus.f k y213 a1).bind fun t224 => ((bailiwickref15_Bonus.f k y213 a1).bind fun t225 => (some (t224 == t225)))) else (some false))) = some r := H
        have A9 := Aside0.mk A90
        clear A90
        replace H := Option.bind_eq_some_iff.mp H
        obtain ⟨t223, A100, H⟩ := H
        replace H : (if t223 = true then ((share_Bonus.f k y213 a1).bind fun t224 => ((bailiwickref15_Bonus.f k y213 a1).bind fun t225 => (some (t224 == t225)))) else (some false)) = some r := H
        have A10 := Aside0.mk A100
        clear A100
        by_cases c11 : t223 = true
        · subst c11
          have H1 : ((share_Bonus.f k y213 a1).bind fun t224 => ((bailiwickref15_Bonus.f k y213 a1).bind fun t225 => (some (t224 == t225)))) = some r := by rw [if_pos rfl] at H; exact H
          clear H
          have H := H1
          clear H1
          replace H := Option.bind_eq_some_iff.mp H
          obtain ⟨t224, A120, H⟩ := H
          replace H : ((bailiwickref15_Bonus.f k y213 a1).bind fun t225 => (some (t224 == t225))) = some r := H
          have A12 := Aside0.mk A120
          clear A120
          replace H := Option.bind_eq_some_iff.mp H
          obtain ⟨t225, A130, H⟩ := H
          replace H : (some (t224 == t225)) = some r := H
          have A13 := Aside0.mk A130
          clear A130
          obtain rfl := Option.some.inj H
          go_enter Try.func3, Try.ntmps3
          go_wp2_with (first | ((with_reducible refine gate_callee (f := 8) rfl ?_); refine goesL_ (some 5) rfl rfl Try.func8 (by kernel_rfl) rfl #[] rfl (by (try simp only [List.map_toArray, List.map_cons, List.map_nil]); first | done | rfl | (simp only [List.length_drop, List.length_take]; rfl)) ?_; (with_reducible refine (bailiwicklaw15_awake.calls k  true _ A3.out).mono ?_); rintro e w14 ⟨rfl, hb⟩; refine ⟨_, rfl, ?_⟩; have n0_ := Aside0.mk (below_step (by repeat (first | (with_reducible first | exact HB.out | apply below_alloc | apply pw_below_drewN | apply below_drew1) | exact HB.out)) hb); clear HB; have HB := n0_; clear n0_; (try clear hb); (try clear hb2); (try clear hk); (try clear hi); have q15 : ((ji5) : Int) ≤ ((l0.length : Int) : Int) := of_decide_eq_true (by first | (with_reducible assumption) | assumption); obtain ⟨i015, hi015, _, hsz15, _⟩ := info_parts info33; have hroom15 : l0.length ≤ c0 := HC0.out; have hC15 : Kd.C k33 _ A0 l0.length l0 := HR0.out; have hcut15 := cut_to (P := Try.prog) 22 33 .i64 Try.underlying22 hi015 A0 l0.length c0 (ji5) (of_decide_eq_true (by first | (with_reducible assumption) | assumption)) q15 hroom15; have hr15 := Kd.C_take (m := ((ji5) : Int).toNat) hC15 (by omega); have hy15 : y213.length = ((ji5) : Int).toNat := (by rw [Ny213.out, List.length_take]; omega); rw [← Ny213.out] at hr15; rw [← hy15] at hcut15; have HR216 := Aside0.mk hr15; have HC216 := Aside0.mk (show y213.length ≤ c0 from by omega); clear hr15 hC15 hroom15 hi015 hsz15; have KY15 := Aside0.mk hy15; clear hy15; replace q15 := eq_true q15) | ((with_reducible refine gate_callee (f := 10) rfl ?_); refine goesL_ (some 13) rfl rfl Try.func10 (by kernel_rfl) rfl #[.slice A0 y213.length c0] rfl (by (try simp only [List.map_toArray, List.map_cons, List.map_nil]); first | done | rfl | (simp only [List.length_drop, List.length_take]; rfl)) ?_; (with_reducible refine (share_Order.calls k _ _ y213 t217 _ ?side1 ?side2 A8.out).mono ?_); (case side1 => repeat (first | exact (Kd.C_below HR216.out HB.out) | (with_reducible refine Kd.C_alloc ?_ _) | (with_reducible refine Kd.C_drewN ?_ _) | (with_reducible refine Kd.C_drew ?_))); (case side2 => exact HC216.out); rintro e w16 ⟨v218, rfl, ho0, hb⟩; refine ⟨_, rfl, ?_⟩; have n0_ := Aside0.mk (Kd.R_lower ho0 (below_size (by repeat (first | (with_reducible first | exact HB.out | apply below_alloc | apply pw_below_drewN | apply below_drew1) | exact HB.out)))); have n1_ := Aside0.mk (below_step (by repeat (first | (with_reducible first | exact HB.out | apply below_alloc | apply pw_below_drewN | apply below_drew1) | exact HB.out)) hb); clear HB; have HO219 := n0_; have HB := n1_; clear n0_ n1_; (try clear hb); (try clear hb2); (try clear hk); (try clear hi); (try clear ho0)) | ((with_reducible refine gate_callee (f := 11) rfl ?_); refine goesL_ (some 15) rfl rfl Try.func11 (by kernel_rfl) rfl #[.slice A0 y213.length c0] rfl (by (try simp only [List.map_toArray, List.map_cons, List.map_nil]); first | done | rfl | (simp only [List.length_drop, List.length_take]; rfl)) ?_; (with_reducible refine (bailiwickref15_Order.calls k _ _ y213 t220 _ ?side1 ?side2 A9.out).mono ?_); (case side1 => repeat (first | exact (Kd.C_below HR216.out HB.out) | (with_reducible refine Kd.C_alloc ?_ _) | (with_reducible refine Kd.C_drewN ?_ _) | (with_reducible refine Kd.C_drew ?_))); (case side2 => exact HC216.out); rintro e w17 ⟨v221, rfl, ho0, hb⟩; refine ⟨_, rfl, ?_⟩; have n0_ := Aside0.mk (Kd.R_elder' (by (with_reducible repeat (first | apply Kd.R_alloc | apply Kd.R_drewN | apply Kd.R_drew)); exact HO219.out) (Kd.R_base ho0) hb); have n1_ := Aside0.mk (Kd.R_lower (Kd.R_new' ho0 (Kd.R_lt (by (with_reducible repeat (first | apply Kd.R_alloc | apply Kd.R_drewN | apply Kd.R_drew)); exact HO219.out))) (below_size (by repeat (first | (with_reducible first | exact HB.out | apply below_alloc | apply pw_below_drewN | apply below_drew1) | exact HB.out)))); have n2_ := Aside0.mk (below_step (by repeat (first | (with_reducible first | exact HB.out | apply below_alloc | apply pw_below_drewN | apply below_drew1) | exact HB.out)) hb); clear HO219; clear HB; have HO219 := n0_; have HO222 := n1_; have HB := n2_; clear n0_ n1_ n2_; (try clear hb); (try clear hb2); (try clear hk); (try clear hi); (try clear ho0); obtain ⟨Ao18, co18, eo18⟩ := Kd.R_slice HO219.out; subst eo18; obtain ⟨Ao19, co19, eo19⟩ := Kd.R_slice HO222.out; subst eo19) | ((with_reducible refine gate_callee (f := 9) rfl ?_); refine goesL_ (some 16) rfl rfl Try.func9 (by kernel_rfl) rfl #[.slice Ao18 t217.length co18, .slice Ao19 t220.length co19] rfl (by (try simp only [List.map_toArray, List.map_cons, List.map_nil]); first | done | rfl | (simp only [List.length_drop, List.length_take]; rfl)) ?_; (with_reducible refine (bailiwickref01_Same.calls k _ _ t217 _ _ t220 true _ ?side1 ?side2 ?side3 ?side4 A10.out).mono ?_); (case side1 => repeat (first | exact (Kd.R_reads' HO219.out).2.2 | (with_reducible refine Kd.C_alloc ?_ _) | (with_reducible refine Kd.C_drewN ?_ _) | (with_reducible refine Kd.C_drew ?_))); (case side2 => exact (Kd.R_reads' HO219.out).2.1); (case side3 => repeat (first | exact (Kd.R_reads' HO222.out).2.2 | (with_reducible refine Kd.C_alloc ?_ _) | (with_reducible refine Kd.C_drewN ?_ _) | (with_reducible refine Kd.C_drew ?_))); (case side4 => exact (Kd.R_reads' HO222.out).2.1); rintro e w' ⟨rfl, ⟨nd, rfl⟩⟩; refine ⟨_, rfl, ?_⟩) | (go_at_call 12; (with_reducible refine (share_Bonus.calls k _ _ y213 a1 t224 _ ?side1 ?side2 A12.out).mono ?_); (case side1 => repeat (first | exact (Kd.C_below HR216.out (by repeat (first | (with_reducible first | exact HB.out | apply below_alloc | apply pw_below_drewN | apply below_drew1) | exact HB.out))) | (with_reducible refine Kd.C_alloc ?_ _) | (with_reducible refine Kd.C_drewN ?_ _) | (with_reducible refine Kd.C_drew ?_))); (case side2 => exact HC216.out); rintro e w20 ⟨rfl, hb⟩; have n0_ := Aside0.mk (Kd.R_below (by (with_reducible repeat (first | apply Kd.R_alloc | apply Kd.R_drewN | apply Kd.R_drew)); exact HO219.out) hb); have n1_ := Aside0.mk (Kd.R_below (by (with_reducible repeat (first | apply Kd.R_alloc | apply Kd.R_drewN | apply Kd.R_drew)); exact HO222.out) hb); have n2_ := Aside0.mk (below_step (by repeat (first | (with_reducible first | exact HB.out | apply below_alloc | apply pw_below_drewN | apply below_drew1) | exact HB.out)) hb); clear HO219; clear HO222; clear HB; have HO219 := n0_; have HO222 := n1_; have HB := n2_; clear n0_ n1_ n2_; (try clear hb); (try clear hb2); (try clear hk); (try clear hi)) | (go_at_call 13; (with_reducible refine (bailiwickref15_Bonus.calls k _ _ y213 a1 t225 _ ?side1 ?side2 A13.out).mono ?_); (case side1 => repeat (first | exact (Kd.C_below HR216.out HB.out) | (with_reducible refine Kd.C_alloc ?_ _) | (with_reducible refine Kd.C_drewN ?_ _) | (with_reducible refine Kd.C_drew ?_))); (case side2 => exact HC216.out); rintro e w21 ⟨rfl, hb⟩; have n0_ := Aside0.mk (Kd.R_below (by (with_reducible repeat (first | apply Kd.R_alloc | apply Kd.R_drewN | apply Kd.R_drew)); exact HO219.out) hb); have n1_ := Aside0.mk (Kd.R_below (by (with_reducible repeat (first | apply Kd.R_alloc | apply Kd.R_drewN | apply Kd.R_drew)); exact HO222.out) hb); have n2_ := Aside0.mk (below_step (by repeat (first | (with_reducible first | exact HB.out | apply below_alloc | apply pw_below_drewN | apply below_drew1) | exact HB.out)) hb); clear HO219; clear HO222; clear HB; have HO219 := n0_; have HO222 := n1_; have HB := n2_; clear n0_ n1_ n2_; (try clear hb); (try clear hb2); (try clear hk); (try clear hi)))
          go_ret
          exact ⟨by first | rfl | (simp [errW_none, errW_some] <;> rfl) | (simp only [← hji5]; first | rfl | (simp [errW_none, errW_some] <;> rfl)) | (simp [*, errW_none, errW_some] <;> rfl), by repeat (first | (with_reducible first | exact HB.out | apply below_alloc | apply pw_below_drewN | apply below_drew1) | exact HB.out)⟩
        · replace c11 := Bool.eq_false_iff.mpr c11
          subst c11
          have H1 : (some false) = some r := by rw [if_neg (show ¬ (false = true) by decide)] at H; exact H
          clear H
          have H := H1
          clear H1
          obtain rfl := Option.some.inj H
          go_enter Try.func3, Try.ntmps3
          go_wp2_with (first | ((with_reducible refine gate_callee (f := 8) rfl ?_); refine goesL_ (some 5) rfl rfl Try.func8 (by kernel_rfl) rfl #[] rfl (by (try simp only [List.map_toArray, List.map_cons, List.map_nil]); first | done | rfl | (simp only [List.length_drop, List.length_take]; rfl)) ?_; (with_reducible refine (bailiwicklaw15_awake.calls k  true _ A3.out).mono ?_); rintro e w22 ⟨rfl, hb⟩; refine ⟨_, rfl, ?_⟩; have n0_ := Aside0.mk (below_step (by repeat (first | (with_reducible first | exact HB.out | apply below_alloc | apply pw_below_drewN | apply below_drew1) | exact HB.out)) hb); clear HB; have HB := n0_; clear n0_; (try clear hb); (try clear hb2); (try clear hk); (try clear hi); have q23 : ((ji5) : Int) ≤ ((l0.length : Int) : Int) := of_decide_eq_true (by first | (with_reducible assumption) | assumption); obtain ⟨i023, hi023, _, hsz23, _⟩ := info_parts info33; have hroom23 : l0.length ≤ c0 := HC0.out; have hC23 : Kd.C k33 _ A0 l0.length l0 := HR0.out; have hcut23 := cut_to (P := Try.prog) 22 33 .i64 Try.underlying22 hi023 A0 l0.length c0 (ji5) (of_decide_eq_true (by first | (with_reducible assumption) | assumption)) q23 hroom23; have hr23 := Kd.C_take (m := ((ji5) : Int).toNat) hC23 (by omega); have hy23 : y213.length = ((ji5) : Int).toNat := (by rw [Ny213.out, List.length_take]; omega); rw [← Ny213.out] at hr23; rw [← hy23] at hcut23; have HR216 := Aside0.mk hr23; have HC216 := Aside0.mk (show y213.length ≤ c0 from by omega); clear hr23 hC23 hroom23 hi023 hsz23; have KY23 := Aside0.mk hy23; clear hy23; replace q23 := eq_true q23) | ((with_reducible refine gate_callee (f := 10) rfl ?_); refine goesL_ (some 13) rfl rfl Try.func10 (by kernel_rfl) rfl #[.slice A0 y213.length c0] rfl (by (try simp only [List.map_toArray, List.map_cons, List.map_nil]); first | done | rfl | (simp only [List.length_drop, List.length_take]; rfl)) ?_; (with_reducible refine (share_Order.calls k _ _ y213 t217 _ ?side1 ?side2 A8.out).mono ?_); (case side1 => repeat (first | exact (Kd.C_below HR216.out HB.out) | (with_reducible refine Kd.C_alloc ?_ _) | (with_reducible refine Kd.C_drewN ?_ _) | (with_reducible refine Kd.C_drew ?_))); (case side2 => exact HC216.out); rintro e w24 ⟨v218, rfl, ho0, hb⟩; refine ⟨_, rfl, ?_⟩; have n0_ := Aside0.mk (Kd.R_lower ho0 (below_size (by repeat (first | (with_reducible first | exact HB.out | apply below_alloc | apply pw_below_drewN | apply below_drew1) | exact HB.out)))); have n1_ := Aside0.mk (below_step (by repeat (first | (with_reducible first | exact HB.out | apply below_alloc | apply pw_below_drewN | apply below_drew1) | exact HB.out)) hb); clear HB; have HO219 := n0_; have HB := n1_; clear n0_ n1_; (try clear hb); (try clear hb2); (try clear hk); (try clear hi); (try clear ho0)) | ((with_reducible refine gate_callee (f := 11) rfl ?_); refine goesL_ (some 15) rfl rfl Try.func11 (by kernel_rfl) rfl #[.slice A0 y213.length c0] rfl (by (try simp only [List.map_toArray, List.map_cons, List.map_nil]); first | done | rfl | (simp only [List.length_drop, List.length_take]; rfl)) ?_; (with_reducible refine (bailiwickref15_Order.calls k _ _ y213 t220 _ ?side1 ?side2 A9.out).mono ?_); (case side1 => repeat (first | exact (Kd.C_below HR216.out HB.out) | (with_reducible refine Kd.C_alloc ?_ _) | (with_reducible refine Kd.C_drewN ?_ _) | (with_reducible refine Kd.C_drew ?_))); (case side2 => exact HC216.out); rintro e w25 ⟨v221, rfl, ho0, hb⟩; refine ⟨_, rfl, ?_⟩; have n0_ := Aside0.mk (Kd.R_elder' (by (with_reducible repeat (first | apply Kd.R_alloc | apply Kd.R_drewN | apply Kd.R_drew)); exact HO219.out) (Kd.R_base ho0) hb); have n1_ := Aside0.mk (Kd.R_lower (Kd.R_new' ho0 (Kd.R_lt (by (with_reducible repeat (first | apply Kd.R_alloc | apply Kd.R_drewN | apply Kd.R_drew)); exact HO219.out))) (below_size (by repeat (first | (with_reducible first | exact HB.out | apply below_alloc | apply pw_below_drewN | apply below_drew1) | exact HB.out)))); have n2_ := Aside0.mk (below_step (by repeat (first | (with_reducible first | exact HB.out | apply below_alloc | apply pw_below_drewN | apply below_drew1) | exact HB.out)) hb); clear HO219; clear HB; have HO219 := n0_; have HO222 := n1_; have HB := n2_; clear n0_ n1_ n2_; (try clear hb); (try clear hb2); (try clear hk); (try clear hi); (try clear ho0); obtain ⟨Ao26, co26, eo26⟩ := Kd.R_slice HO219.out; subst eo26; obtain ⟨Ao27, co27, eo27⟩ := Kd.R_slice HO222.out; subst eo27) | ((with_reducible refine gate_callee (f := 9) rfl ?_); refine goesL_ (some 16) rfl rfl Try.func9 (by kernel_rfl) rfl #[.slice Ao26 t217.length co26, .slice Ao27 t220.length co27] rfl (by (try simp only [List.map_toArray, List.map_cons, List.map_nil]); first | done | rfl | (simp only [List.length_drop, List.length_take]; rfl)) ?_; (with_reducible refine (bailiwickref01_Same.calls k _ _ t217 _ _ t220 false _ ?side1 ?side2 ?side3 ?side4 A10.out).mono ?_); (case side1 => repeat (first | exact (Kd.R_reads' HO219.out).2.2 | (with_reducible refine Kd.C_alloc ?_ _) | (with_reducible refine Kd.C_drewN ?_ _) | (with_reducible refine Kd.C_drew ?_))); (case side2 => exact (Kd.R_reads' HO219.out).2.1); (case side3 => repeat (first | exact (Kd.R_reads' HO222.out).2.2 | (with_reducible refine Kd.C_alloc ?_ _) | (with_reducible refine Kd.C_drewN ?_ _) | (with_reducible refine Kd.C_drew ?_))); (case side4 => exact (Kd.R_reads' HO222.out).2.1); rintro e w' ⟨rfl, ⟨nd, rfl⟩⟩; refine ⟨_, rfl, ?_⟩))
          go_ret
          exact ⟨by first | rfl | (simp [errW_none, errW_some] <;> rfl) | (simp only [← hji5]; first | rfl | (simp [errW_none, errW_some] <;> rfl)) | (simp [*, errW_none, errW_some] <;> rfl), by repeat (first | (with_reducible first | exact HB.out | apply below_alloc | apply pw_below_drewN | apply below_drew1) | exact HB.out)⟩
      · rw [if_neg c7] at H
        exact absurd H (by simp)
    · rw [if_neg c6] at H
      exact absurd H (by simp)
  · replace c4 := Bool.eq_false_iff.mpr c4
    subst c4
    have H1 : (some false) = some r := by rw [if_neg (show ¬ (false = true) by decide)] at H; exact H
    clear H
    have H := H1
    clear H1
    obtain rfl := Option.some.inj H
    go_enter Try.func3, Try.ntmps3
    go_wp2_with (first | ((with_reducible refine gate_callee (f := 8) rfl ?_); refine goesL_ (some 5) rfl rfl Try.func8 (by kernel_rfl) rfl #[] rfl (by (try simp only [List.map_toArray, List.map_cons, List.map_nil]); first | done | rfl | (simp only [List.length_drop, List.length_take]; rfl)) ?_; (with_reducible refine (bailiwicklaw15_awake.calls k  false _ A3.out).mono ?_); rintro e w28 ⟨rfl, hb⟩; refine ⟨_, rfl, ?_⟩; have n0_ := Aside0.mk (below_step (by repeat (first | (with_reducible first | exact HB.out | apply below_alloc | apply pw_below_drewN | apply below_drew1) | exact HB.out)) hb); clear HB; have HB := n0_; clear n0_; (try clear hb); (try clear hb2); (try clear hk); (try clear hi)))
    go_ret
    exact ⟨by first | rfl | (simp [errW_none, errW_some] <;> rfl) | (simp [*, errW_none, errW_some] <;> rfl), by repeat (first | (with_reducible first | exact HB.out | apply below_alloc | apply pw_below_drewN | apply below_drew1) | exact HB.out)⟩

end Go.Proofs.Ytemlhkognjhgbaa.PAll
