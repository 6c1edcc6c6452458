-- Written by wip/tools/hprint.py of this claim's session (a driver over the kit's print, with contracts proved by hand among them).
import Derived.Test.YtpekjfmlpogfaaaPAllx0
import Derived.Test.YtpekjfmlpogfaaaPAllx15
import Derived.Test.YtpekjfmlpogfaaaPAllx17
namespace Go.Proofs.Ytpekjfmlpogfaaa.PAll
open Go.RowKit Go.Proofs.YtpekjfmlpogfaaaW.PrintWords Go.Proofs.YtpekjfmlpogfaaaW.PrintLast Go.Proofs.YtpekjfmlpogfaaaW.PrintMore
attribute [local go_sem] max2_int min2_int max_two min_two max_three min_three max_four min_four   -- for this text's walks alone
set_option linter.unusedVariables false
set_option linter.unusedSimpArgs false

/-! ### bailiwickref03_change: function 39 -/
mutual
def bailiwickref03_change.l0 : Nat → List (S38) → Int → Int → Int → List Int → List (S38) → Int → Option ((List (S38)) × Int)
  | 0, _, _, _, _, _, _, _ => none
  | k + 1, x0, x1, x2, x3, x10, x11, x12 => if x12 < (x10.length : Int) then (if 0 ≤ x12 then ((bailiwickref03_at.f k x0 (rd x10 x12)).bind fun t269 => (if (rd x10 x12) ≥ x1 then (bailiwickref03_change.j1 k x0 x1 x2 x3 x10 x11 x12 t269 (decide ((rd x10 x12) < x2))) else (bailiwickref03_change.j1 k x0 x1 x2 x3 x10 x11 x12 t269 false))) else (none)) else (if (x11.length : Int) > 1024 then (some (x0, 4)) else (some (x11, 0)))
def bailiwickref03_change.j1 : Nat → List (S38) → Int → Int → Int → List Int → List (S38) → Int → Int → Bool → Option ((List (S38)) × Int)
  | 0, _, _, _, _, _, _, _, _, _ => none
  | k + 1, x0, x1, x2, x3, x10, x11, x12, x13, x43 => if x43 = true then (if (x11.length : Int) = 0 then (if 0 ≤ x12 then (if x12 < (x10.length : Int) then (if x11.length < 8796093022208 then (bailiwickref03_change.l0 k x0 x1 x2 x3 x10 (x11 ++ [(⟨rd x10 x12, wrap64 (x13 + x3)⟩ : S38)]) (wrap64 (x12 + 1))) else (none)) else (none)) else (none)) else (if 0 ≤ (wrap64 ((x11.length : Int) - 1)) then (if (wrap64 ((x11.length : Int) - 1)) < (x11.length : Int) then (if ((rd_T38 x11 (wrap64 ((x11.length : Int) - 1))).f1) = (wrap64 (x13 + x3)) then (bailiwickref03_change.l0 k x0 x1 x2 x3 x10 x11 (wrap64 (x12 + 1))) else (if 0 ≤ x12 then (if x12 < (x10.length : Int) then (if x11.length < 8796093022208 then (bailiwickref03_change.l0 k x0 x1 x2 x3 x10 (x11 ++ [(⟨rd x10 x12, wrap64 (x13 + x3)⟩ : S38)]) (wrap64 (x12 + 1))) else (none)) else (none)) else (none))) else (none)) else (none))) else (if (x11.length : Int) = 0 then (if 0 ≤ x12 then (if x12 < (x10.length : Int) then (if x11.length < 8796093022208 then (bailiwickref03_change.l0 k x0 x1 x2 x3 x10 (x11 ++ [(⟨rd x10 x12, x13⟩ : S38)]) (wrap64 (x12 + 1))) else (none)) else (none)) else (none)) else (if 0 ≤ (wrap64 ((x11.length : Int) - 1)) then (if (wrap64 ((x11.length : Int) - 1)) < (x11.length : Int) then (if ((rd_T38 x11 (wrap64 ((x11.length : Int) - 1))).f1) = x13 then (bailiwickref03_change.l0 k x0 x1 x2 x3 x10 x11 (wrap64 (x12 + 1))) else (if 0 ≤ x12 then (if x12 < (x10.length : Int) then (if x11.length < 8796093022208 then (bailiwickref03_change.l0 k x0 x1 x2 x3 x10 (x11 ++ [(⟨rd x10 x12, x13⟩ : S38)]) (wrap64 (x12 + 1))) else (none)) else (none)) else (none))) else (none)) else (none)))
end
def bailiwickref03_change.f (k : Nat) (l0 : List (S38)) (a1 : Int) (a2 : Int) (a3 : Int) : Option ((List (S38)) × Int) := (bailiwickref03_times.f k l0 a1 a2).bind fun t265 => (bailiwickref03_change.l0 k l0 a1 a2 a3 t265 ([] : List (S38)) 0)
theorem bailiwickref03_change.mono_l : ∀ k, (∀ y0 y1 y2 y3 y4 y5 y6, LeO (bailiwickref03_change.l0 k y0 y1 y2 y3 y4 y5 y6) (bailiwickref03_change.l0 (k + 1) y0 y1 y2 y3 y4 y5 y6)) ∧ (∀ y0 y1 y2 y3 y4 y5 y6 y7 y8, LeO (bailiwickref03_change.j1 k y0 y1 y2 y3 y4 y5 y6 y7 y8) (bailiwickref03_change.j1 (k + 1) y0 y1 y2 y3 y4 y5 y6 y7 y8))
  | 0 => ⟨fun _ _ _ _ _ _ _ r h => by simp [bailiwickref03_change.l0] at h, fun _ _ _ _ _ _ _ _ _ r h => by simp [bailiwickref03_change.j1] at h⟩
  | k + 1 => by
    obtain ⟨ih0, ih1⟩ := bailiwickref03_change.mono_l k
    refine ⟨?_, ?_⟩
    · intro y0 y1 y2 y3 y4 y5 y6
      unfold bailiwickref03_change.l0
      repeat' first
      | (with_reducible exact ih0 _ _ _ _ _ _ _)
      | (with_reducible exact ih1 _ _ _ _ _ _ _ _ _)
      | (with_reducible exact bailiwickref03_at.mono _ _ _)
      | (with_reducible exact bailiwickref03_times.mono _ _ _ _)
      | (with_reducible exact LeO.refl _)
      | (with_reducible exact LeO.none _)
      | (with_reducible refine LeO.ite ?_ ?_)
      | (with_reducible refine LeO.bind ?_ (fun _ => ?_))
      | exact ih0 _ _ _ _ _ _ _
      | exact ih1 _ _ _ _ _ _ _ _ _
      | exact bailiwickref03_at.mono _ _ _
      | exact bailiwickref03_times.mono _ _ _ _
      | exact LeO.none _
      | refine LeO.ite ?_ ?_
      | refine LeO.bind ?_ (fun _ => ?_)
    intro y0 y1 y2 y3 y4 y5 y6 y7 y8
    unfold bailiwickref03_change.j1
    repeat' first
    | (with_reducible exact ih0 _ _ _ _ _ _ _)
    | (with_reducible exact ih1 _ _ _ _ _ _ _ _ _)
    | (with_reducible exact bailiwickref03_at.mono _ _ _)
    | (with_reducible exact bailiwickref03_times.mono _ _ _ _)
    | (with_reducible exact LeO.refl _)
    | (with_reducible exact LeO.none _)
    | (with_reducible refine LeO.ite ?_ ?_)
    | (with_reducible refine LeO.bind ?_ (fun _ => ?_))
    | exact ih0 _ _ _ _ _ _ _
    | exact ih1 _ _ _ _ _ _ _ _ _
    | exact bailiwickref03_at.mono _ _ _
    | exact bailiwickref03_times.mono _ _ _ _
    | exact LeO.none _
    | refine LeO.ite ?_ ?_
    | refine LeO.bind ?_ (fun _ => ?_)
theorem bailiwickref03_change.mono : ∀ a0 a1 a2 a3 k, LeO (bailiwickref03_change.f k a0 a1 a2 a3) (bailiwickref03_change.f (k + 1) a0 a1 a2 a3) := by
  intro a0 a1 a2 a3 k
  obtain ⟨ih0, ih1⟩ := bailiwickref03_change.mono_l k
  unfold bailiwickref03_change.f
  repeat' first
      | (with_reducible exact ih0 _ _ _ _ _ _ _)
      | (with_reducible exact ih1 _ _ _ _ _ _ _ _ _)
      | (with_reducible exact bailiwickref03_at.mono _ _ _)
      | (with_reducible exact bailiwickref03_times.mono _ _ _ _)
      | (with_reducible exact LeO.refl _)
      | (with_reducible exact LeO.none _)
      | (with_reducible refine LeO.ite ?_ ?_)
      | (with_reducible refine LeO.bind ?_ (fun _ => ?_))
      | exact ih0 _ _ _ _ _ _ _
      | exact ih1 _ _ _ _ _ _ _ _ _
      | exact bailiwickref03_at.mono _ _ _
      | exact bailiwickref03_times.mono _ _ _ _
      | exact LeO.none _
      | refine LeO.ite ?_ ?_
      | refine LeO.bind ?_ (fun _ => ?_)
set_option maxHeartbeats 8000000 in
set_option maxRecDepth 100000 in
theorem bailiwickref03_change.calls (k : Nat) (P0_ : Nat → Prop) (A0 : Option Addr) (c0 : Nat) (l0 : List (S38)) (a1 : Int) (a2 : Int) (a3 : Int) (r1 : List (S38)) (r2 : Int) (w : World) (hs0 : Kd.V k38 38 w w.heap.size (fun k_ => P0_ k_) (.slice A0 l0.length c0) l0) (h : bailiwickref03_change.f k l0 a1 a2 a3 = some (r1, r2)) :
    Calls Try.prog 39 #[.slice A0 l0.length c0, .int .i64 a1, .int .i64 a2, .int .i64 a3] w fun e w' => ∃ v0_ : Value, e = .returned (.tuple #[v0_, .int .i64 r2]) ∧ Kd.V k38 38 w' w.heap.size (fun k_ => (P0_ k_ ∨ w.heap.size ≤ k_)) v0_ r1 ∧ Below w.heap.size w w' := by
  have hu38 := Try.underlying38
  have HO0 := Aside0.mk (show Kd.V k38 38 w w.heap.size (fun k_ => (P0_ k_ ∨ w.heap.size ≤ k_)) (.slice A0 l0.length c0) l0 from Kd.V_mono hs0 (fun k_ hk => .inl hk))
  have HB := Aside0.mk (Below.refl w.heap.size w)
  have H : ((bailiwickref03_times.f k l0 a1 a2).bind fun t265 => (bailiwickref03_change.l0 k l0 a1 a2 a3 t265 ([] : List (S38)) 0)) = some (r1, r2) := h
  clear h
  replace H := Option.bind_eq_some_iff.mp H
  obtain ⟨t265, A50, H⟩ := H
  replace H : (bailiwickref03_change.l0 k l0 a1 a2 a3 t265 ([] : List (S38)) 0) = some (r1, r2) := H
  have A5 := Aside0.mk A50
  clear A50
  have H' := Aside0.mk H
  clear H
  go_enter Try.func39, Try.ntmps39
  go_wp2_with (first | ((with_reducible refine gate_callee (f := 50) rfl ?_); refine goesL_ (some 17) rfl rfl Try.func50 (by kernel_rfl) rfl #[.slice A0 l0.length c0, .int .i64 a1, .int .i64 a2] rfl (by (try simp only [List.map_toArray, List.map_cons, List.map_nil]); first | done | rfl) ?_; (with_reducible refine (bailiwickref03_times.calls k _ _ l0 a1 a2 t265 _ ?side1 ?side2 A5.out).mono ?_); (case side1 => repeat (first | exact (Kd.V_reads' HO0.out).2.2 | (with_reducible refine Kd.C_alloc ?_ _) | (with_reducible refine Kd.C_drewN ?_ _) | (with_reducible refine Kd.C_drew ?_))); (case side2 => exact (Kd.V_reads' HO0.out).2.1); rintro e w6 ⟨v266, rfl, ho0, hb⟩; refine ⟨_, rfl, ?_⟩; have n0_ := Aside0.mk (Kd.V_elder' (by (with_reducible repeat (first | apply Kd.V_alloc | apply Kd.V_drewN | apply Kd.V_drew)); exact HO0.out) (Kd.R_base ho0) hb); have n1_ := Aside0.mk (Kd.R_lower (Kd.R_newM (M := fun k_ => (w.heap.size ≤ k_)) ho0 (below_size (by repeat (first | (with_reducible first | exact HB.out | apply below_alloc | apply pw_below_drewN | apply below_drew1) | exact HB.out))) (fun k_ h_ => h_)) (below_size (by repeat (first | (with_reducible first | exact HB.out | apply below_alloc | apply pw_below_drewN | apply below_drew1) | exact HB.out)))); have n2_ := Aside0.mk (below_step (by repeat (first | (with_reducible first | exact HB.out | apply below_alloc | apply pw_below_drewN | apply below_drew1) | exact HB.out)) hb); clear HO0; clear HB; have HO0 := n0_; have HO267 := n1_; have HB := n2_; clear n0_ n1_ n2_; (try clear hb); (try clear hb2); (try clear hk); (try clear hi); (try clear ho0)))
  go_loopg [11, 12] k (fun kq v11 v12 w' => ∃ (x11_1 : List (S38)) (x12_1 : Int), v12 = .int .i64 x12_1 ∧ Aside0 (bailiwickref03_change.l0 kq l0 a1 a2 a3 t265 x11_1 x12_1 = some (r1, r2)) ∧ Aside0 (kq ≤ k) ∧ Aside0 (Kd.V k38 38 w' w.heap.size (fun k_ => (P0_ k_ ∨ w.heap.size ≤ k_) ∧ some k_ ≠ (v266 : Value).ownBlock ∧ some k_ ≠ (v11 : Value).ownBlock) (.slice A0 l0.length c0) l0) ∧ Aside0 (Kd.R (Kd.int .i64) 2 w' w.heap.size (fun k_ => (w.heap.size ≤ k_)) v266 t265) ∧ Aside0 (Kd.R k38 38 w' w.heap.size (fun k_ => (w.heap.size ≤ k_)) v11 x11_1) ∧ Aside0 (Below w.heap.size w w'))
  case atStart => exact ⟨(([] : List (S38))), (0), (by first | rfl | (simp; done) | (simp [*]; done)), H', ⟨Nat.le_refl _⟩, ⟨by (with_reducible repeat (first | apply Kd.V_alloc | apply Kd.V_drewN | apply Kd.V_drew)); exact Kd.V_mono HO0.out (fun _ hk => ⟨hk.1, ⟨hk.2, (by simp [Value.ownBlock])⟩⟩)⟩, ⟨by (with_reducible repeat (first | apply Kd.R_alloc | apply Kd.R_drewN | apply Kd.R_drew)); exact Kd.R_mono HO267.out (fun _ hk => hk.1)⟩, ⟨by first | exact Kd.R_nil _ _ _ _ _ | exact Kd.N_nil _ _ _ _ _ | exact Kd.V_nil _ _ _ _ _ | exact Kd.Q_nil _ _ _ _ _ | exact Kd.S_nil _ _ _ _ _⟩, ⟨by repeat (first | (with_reducible first | exact HB.out | apply below_alloc | apply pw_below_drewN | apply below_drew1) | exact HB.out)⟩⟩
  clear H'
  try clear p2
  try clear c3
  try clear c5
  obtain ⟨x11_1, x12_1, rfl, HA, HK1, HO_0, HO_10, HO_11, HB⟩ := hrel
  rcases gk with _ | k1
  · exact absurd HA.out (by simp [bailiwickref03_change.l0])
  have H := HA.out
  clear HA
  simp only [bailiwickref03_change.l0] at H
  by_cases c7 : x12_1 < (t265.length : Int)
  rotate_left
  · rw [if_neg c7] at H
    have c7b0 : decide (x12_1 < (t265.length : Int)) = false := decide_eq_false c7
    clear c7
    by_cases c46 : (x11_1.length : Int) > 1024
    · rw [if_pos c46] at H
      have c46b0 : decide (1024 < (x11_1.length : Int)) = true := decide_eq_true c46
      have c46b1 : decide (1024 < x11_1.length) = true := decide_eq_true (by omega)
      clear c46
      simp only [Option.some.injEq, Prod.mk.injEq] at H
      obtain ⟨rfl, rfl⟩ := H
      obtain ⟨Ao47, co47, eo47⟩ := Kd.R_slice HO_10.out
      subst eo47
      obtain ⟨Ao48, co48, eo48⟩ := Kd.R_slice HO_11.out
      subst eo48
      go_wp2
      go_ret2
      exact ⟨_, by first | rfl | (simp [errW_none, errW_some] <;> rfl) | (simp [*, errW_none, errW_some] <;> rfl), by (with_reducible repeat (first | apply Kd.V_alloc | apply Kd.V_drewN | apply Kd.V_drew)); exact Kd.V_mono HO_0.out (fun _ hk => hk.1), by repeat (first | (with_reducible first | exact HB.out | apply below_alloc | apply pw_below_drewN | apply below_drew1) | exact HB.out)⟩
    rw [if_neg c46] at H
    have c46b0 : decide (1024 < (x11_1.length : Int)) = false := decide_eq_false c46
    have c46b1 : decide (1024 < x11_1.length) = false := decide_eq_false (by omega)
    clear c46
    simp only [Option.some.injEq, Prod.mk.injEq] at H
    obtain ⟨rfl, rfl⟩ := H
    obtain ⟨Ao49, co49, eo49⟩ := Kd.R_slice HO_10.out
    subst eo49
    obtain ⟨Ao50, co50, eo50⟩ := Kd.R_slice HO_11.out
    subst eo50
    go_wp2
    go_ret2
    exact ⟨_, by first | rfl | (simp [errW_none, errW_some] <;> rfl) | (simp [*, errW_none, errW_some] <;> rfl), Kd.V_mono (Kd.R_V (by (with_reducible repeat (first | apply Kd.R_alloc | apply Kd.R_drewN | apply Kd.R_drew)); exact HO_11.out)) (fun k_ hk => by first | exact ⟨(.inr (hk.1)), hk.2⟩ | exact (.inr (hk))), by repeat (first | (with_reducible first | exact HB.out | apply below_alloc | apply pw_below_drewN | apply below_drew1) | exact HB.out)⟩
  rw [if_pos c7] at H
  have c7b0 : decide (x12_1 < (t265.length : Int)) = true := decide_eq_true c7
  clear c7
  by_cases c8 : 0 ≤ x12_1
  rotate_left
  · rw [if_neg c8] at H
    exact absurd H (by simp)
  rw [if_pos c8] at H
  have c8b0 : decide (0 ≤ x12_1) = true := decide_eq_true c8
  clear c8
  replace H := Option.bind_eq_some_iff.mp H
  obtain ⟨t269, A90, H⟩ := H
  replace H : (if (rd t265 x12_1) ≥ a1 then (bailiwickref03_change.j1 k1 l0 a1 a2 a3 t265 x11_1 x12_1 t269 (decide ((rd t265 x12_1) < a2))) else (bailiwickref03_change.j1 k1 l0 a1 a2 a3 t265 x11_1 x12_1 t269 false)) = some (r1, r2) := H
  have A9 := Aside0.mk A90
  clear A90
  have HC10 := Aside0.mk H
  clear H
  obtain ⟨Ao11, co11, eo11⟩ := Kd.R_slice HO_10.out
  subst eo11
  have p268 : 0 ≤ (x12_1 : Int) := of_decide_eq_true (by first | (with_reducible assumption) | assumption)
  have q268 : x12_1 < (t265.length : Int) := of_decide_eq_true (by first | (with_reducible assumption) | assumption)
  obtain ⟨ad268, e268, hx268_0⟩ := Kd.at_int (Kd.R_reads' HO_10.out).2.2 x12_1 p268 q268
  cases e268
  replace p268 := eq_true p268
  replace q268 := eq_true q268
  go_upto_region 7 with (first | ((with_reducible refine gate_callee (f := 42) rfl ?_); refine goesL_ (some 29) rfl rfl Try.func42 (by kernel_rfl) rfl #[.slice A0 l0.length c0, .int .i64 (rd t265 x12_1)] rfl (by (try simp only [List.map_toArray, List.map_cons, List.map_nil]); first | done | rfl) ?_; (with_reducible refine (bailiwickref03_at.calls k1 _ _ l0 (rd t265 x12_1) t269 _ ?side1 ?side2 A9.out).mono ?_); (case side1 => repeat (first | exact (Kd.V_reads' HO_0.out).2.2 | (with_reducible refine Kd.C_alloc ?_ _) | (with_reducible refine Kd.C_drewN ?_ _) | (with_reducible refine Kd.C_drew ?_))); (case side2 => exact (Kd.V_reads' HO_0.out).2.1); rintro e w' ⟨rfl, ⟨nd, rfl⟩⟩; refine ⟨_, rfl, ?_⟩))
  (try simp only [Act.put, List.setIfInBounds_toArray, List.set_cons_zero, List.set_cons_succ])
  go_cut [43] (fun v43 wc => ∃ (kq : Nat) (x43_9 : Bool), v43 = .bool x43_9 ∧ Aside0 (bailiwickref03_change.j1 kq l0 a1 a2 a3 t265 x11_1 x12_1 t269 x43_9 = some (r1, r2)) ∧ Aside0 (kq ≤ k1) ∧ Aside0 (Kd.V k38 38 wc w.heap.size (fun k_ => (P0_ k_ ∨ w.heap.size ≤ k_) ∧ some k_ ≠ ((.slice (some ad268) t265.length co11) : Value).ownBlock ∧ some k_ ≠ (u11 : Value).ownBlock) (.slice A0 l0.length c0) l0) ∧ Aside0 (Kd.R (Kd.int .i64) 2 wc w.heap.size (fun k_ => (w.heap.size ≤ k_)) (.slice (some ad268) t265.length co11) t265) ∧ Aside0 (Kd.R k38 38 wc w.heap.size (fun k_ => (w.heap.size ≤ k_)) u11 x11_1) ∧ Aside0 (Below w.heap.size w wc))
  case first =>
    have H := HC10.out
    clear HC10
    by_cases c12 : (rd t265 x12_1) ≥ a1
    rotate_left
    · rw [if_neg c12] at H
      have c12b0 : decide (a1 ≤ (rd t265 x12_1)) = false := decide_eq_false c12
      clear c12
      (first | rw [c12b0] | (simp only [i64_w, i32_w]; rw [c12b0]) | skip)
      have H' := Aside0.mk H
      clear H
      have p270 : 0 ≤ (x12_1 : Int) := of_decide_eq_true (by first | (with_reducible assumption) | assumption)
      have q270 : x12_1 < (t265.length : Int) := of_decide_eq_true (by first | (with_reducible assumption) | assumption)
      obtain ⟨ad270, e270, hx270_0⟩ := Kd.at_int (Kd.R_reads' HO_10.out).2.2 x12_1 p270 q270
      obtain rfl : ad268 = ad270 := (by injection e270)
      replace p270 := eq_true p270
      replace q270 := eq_true q270
      go_wp2
      go_meet
      case rel => exact ⟨_, (false), (by first | rfl | (simp; done) | (simp [*]; done)), H', ⟨by have := HK1.out; first | omega | exact Nat.le_refl _⟩, ⟨by (with_reducible repeat (first | apply Kd.V_alloc | apply Kd.V_drewN | apply Kd.V_drew)); exact HO_0.out⟩, ⟨by (with_reducible repeat (first | apply Kd.R_alloc | apply Kd.R_drewN | apply Kd.R_drew)); exact HO_10.out⟩, ⟨by (with_reducible repeat (first | apply Kd.R_alloc | apply Kd.R_drewN | apply Kd.R_drew)); exact HO_11.out⟩, ⟨by repeat (first | (with_reducible first | exact HB.out | apply below_alloc | apply pw_below_drewN | apply below_drew1) | exact HB.out)⟩⟩
    rw [if_pos c12] at H
    have c12b0 : decide (a1 ≤ (rd t265 x12_1)) = true := decide_eq_true c12
    clear c12
    (first | rw [c12b0] | (simp only [i64_w, i32_w]; rw [c12b0]) | skip)
    have H' := Aside0.mk H
    clear H
    have p270 : 0 ≤ (x12_1 : Int) := of_decide_eq_true (by first | (with_reducible assumption) | assumption)
    have q270 : x12_1 < (t265.length : Int) := of_decide_eq_true (by first | (with_reducible assumption) | assumption)
    obtain ⟨ad270, e270, hx270_0⟩ := Kd.at_int (Kd.R_reads' HO_10.out).2.2 x12_1 p270 q270
    obtain rfl : ad268 = ad270 := (by injection e270)
    replace p270 := eq_true p270
    replace q270 := eq_true q270
    have p271 : 0 ≤ (x12_1 : Int) := of_decide_eq_true (by first | (with_reducible assumption) | assumption)
    have q271 : x12_1 < (t265.length : Int) := of_decide_eq_true (by first | (with_reducible assumption) | assumption)
    obtain ⟨ad271, e271, hx271_0⟩ := Kd.at_int (Kd.R_reads' HO_10.out).2.2 x12_1 p271 q271
    obtain rfl : ad268 = ad271 := (by injection e271)
    replace p271 := eq_true p271
    replace q271 := eq_true q271
    go_wp2
    go_meet
    case rel => exact ⟨_, (decide ((rd t265 x12_1) < a2)), (by first | rfl | (simp; done) | (simp [*]; done)), H', ⟨by have := HK1.out; first | omega | exact Nat.le_refl _⟩, ⟨by (with_reducible repeat (first | apply Kd.V_alloc | apply Kd.V_drewN | apply Kd.V_drew)); exact HO_0.out⟩, ⟨by (with_reducible repeat (first | apply Kd.R_alloc | apply Kd.R_drewN | apply Kd.R_drew)); exact HO_10.out⟩, ⟨by (with_reducible repeat (first | apply Kd.R_alloc | apply Kd.R_drewN | apply Kd.R_drew)); exact HO_11.out⟩, ⟨by repeat (first | (with_reducible first | exact HB.out | apply below_alloc | apply pw_below_drewN | apply below_drew1) | exact HB.out)⟩⟩
  clear HC10
  try clear c1
  try clear p2
  try clear q2
  try clear hx2
  try clear c3
  try clear c4
  try clear c5
  try clear c7
  try clear c7b0
  try clear c8
  try clear c8b0
  try clear c12
  try clear c12b0
  try clear hx268_0
  try clear hx270_0
  try clear hx271_0
  try clear p2
  try clear p268
  try clear p270
  try clear p271
  try clear q268
  try clear q270
  try clear q271
  obtain ⟨kq, x43_9, rfl, HA, HJ9, HO_0, HO_10, HO_11, HB⟩ := hcut
  rcases kq with _ | kj9
  · exact absurd HA.out (by simp [bailiwickref03_change.j1])
  have H := HA.out
  clear HA
  simp only [bailiwickref03_change.j1] at H
  by_cases c13 : x43_9 = true
  · subst c13
    have H1 : (if (x11_1.length : Int) = 0 then (if 0 ≤ x12_1 then (if x12_1 < (t265.length : Int) then (if x11_1.length < 8796093022208 then (bailiwickref03_change.l0 kj9 l0 a1 a2 a3 t265 (x11_1 ++ [(⟨rd t265 x12_1, wrap64 (t269 + a3)⟩ : S38)]) (wrap64 (x12_1 + 1))) else (none)) else (none)) else (none)) else (if 0 ≤ (wrap64 ((x11_1.length : Int) - 1)) then (if (wrap64 ((x11_1.length : Int) - 1)) < (x11_1.length : Int) then (if ((rd_T38 x11_1 (wrap64 ((x11_1.length : Int) - 1))).f1) = (wrap64 (t269 + a3)) then (bailiwickref03_change.l0 kj9 l0 a1 a2 a3 t265 x11_1 (wrap64 (x12_1 + 1))) else (if 0 ≤ x12_1 then (if x12_1 < (t265.length : Int) then (if x11_1.length < 8796093022208 then (bailiwickref03_change.l0 kj9 l0 a1 a2 a3 t265 (x11_1 ++ [(⟨rd t265 x12_1, wrap64 (t269 + a3)⟩ : S38)]) (wrap64 (x12_1 + 1))) else (none)) else (none)) else (none))) else (none)) else (none))) = some (r1, r2) := by rw [if_pos rfl] at H; exact H
    clear H
    have H := H1
    clear H1
    by_cases c14 : (x11_1.length : Int) = 0
    · rw [if_pos c14] at H
      have c14b0 : ((x11_1.length : Int) == 0) = true := beq_iff_eq.mpr c14
      have c14b1 : ((x11_1.length : Int) != 0) = false := bne_eq_false_iff_eq.mpr c14
      clear c14
      by_cases c15 : 0 ≤ x12_1
      rotate_left
      · rw [if_neg c15] at H
        exact absurd H (by simp)
      rw [if_pos c15] at H
      have c15b0 : decide (0 ≤ x12_1) = true := decide_eq_true c15
      clear c15
      by_cases c16 : x12_1 < (t265.length : Int)
      rotate_left
      · rw [if_neg c16] at H
        exact absurd H (by simp)
      rw [if_pos c16] at H
      have c16b0 : decide (x12_1 < (t265.length : Int)) = true := decide_eq_true c16
      clear c16
      by_cases c17 : x11_1.length < 8796093022208
      rotate_left
      · rw [if_neg c17] at H
        exact absurd H (by simp)
      rw [if_pos c17] at H
      have LMc17 := Aside0.mk c17
      clear c17
      obtain ⟨y273, hy273⟩ : ∃ y_ : List (S38), y_ = (x11_1 ++ [(⟨rd t265 x12_1, wrap64 (t269 + a3)⟩ : S38)]) := ⟨_, rfl⟩
      replace H : (bailiwickref03_change.l0 kj9 l0 a1 a2 a3 t265 y273 (wrap64 (x12_1 + 1))) = some (r1, r2) := by first | (rw [hy273]; with_reducible exact H) | (have H2_ := (Option.bind_some _ _).symm.trans H; rw [hy273]; with_reducible exact H2_) | (have H2_ := (Option.bind_some _ _).symm.trans H; with_reducible exact H2_) | with_reducible exact H | (rw [hy273]; exact H) | exact H
      have Ny273 := Aside0.mk hy273
      clear hy273
      have H' := Aside0.mk H
      clear H
      obtain ⟨Ao18, co18, eo18⟩ := Kd.R_slice HO_11.out
      subst eo18
      have p272 : 0 ≤ (x12_1 : Int) := of_decide_eq_true (by first | (with_reducible assumption) | assumption)
      have q272 : x12_1 < (t265.length : Int) := of_decide_eq_true (by first | (with_reducible assumption) | assumption)
      obtain ⟨ad272, e272, hx272_0⟩ := Kd.at_int (Kd.R_reads' HO_10.out).2.2 x12_1 p272 q272
      obtain rfl : ad268 = ad272 := (by injection e272)
      replace p272 := eq_true p272
      replace q272 := eq_true q272
      go_wp2_with (first | ((with_reducible refine gate_builtin (b := .append) (xs := #[.tmp 61, .tmp 68]) rfl ?_); at_builtin; refine Kd.R_append k38 (w0 := w) w.heap.size rfl (.tmp 61) (.tmp 68) 22 38 (.agg #[(.int .i64 0), (.int .i64 0)]) 16 rfl Try.underlying22 info38 rfl (by decide) (by omega) (.slice Ao18 x11_1.length co18) x11_1 (⟨rd t265 x12_1, wrap64 (t269 + a3)⟩ : S38) [.int .i64 (rd t265 x12_1), .int .i64 (wrap64 (t269 + a3))] (fun k_ => (w.heap.size ≤ k_)) (fun _ => False) rfl rfl ?aP (fun _ hk => hk.elim) ?aF ?aO ?aB ?aS ?aL ?_; (case aP => exact k38_mkM _ _ _ (⟨rd t265 x12_1, wrap64 (t269 + a3)⟩ : S38)); (case aB => exact (by repeat (first | (with_reducible first | exact HB.out | apply below_alloc | apply pw_below_drewN | apply below_drew1) | exact HB.out))); (case aF => exact (fun k_ hk => (Nat.le_trans (below_size (by repeat (first | (with_reducible first | exact HB.out | apply below_alloc | apply pw_below_drewN | apply below_drew1) | exact HB.out))) hk))); (case aO => exact (by (with_reducible repeat (first | apply Kd.R_alloc | apply Kd.R_drewN | apply Kd.R_drew)); exact HO_11.out)); (case aS => exact (below_size (by repeat (first | (with_reducible first | exact HB.out | apply below_alloc | apply pw_below_drewN | apply below_drew1) | exact HB.out)))); (case aL => have := LMc17.out; omega); intro v274 w19 ho hb hg hat; rw [← Ny273.out] at ho; have n0_ := Aside0.mk (Kd.V_afterv (ok := (fun k_ => (P0_ k_ ∨ w.heap.size ≤ k_) ∧ some k_ ≠ (.slice (some ad268) t265.length co11 : Value).ownBlock)) (by (with_reducible repeat (first | apply Kd.V_alloc | apply Kd.V_drewN | apply Kd.V_drew)); exact Kd.V_mono HO_0.out (fun _ hk => ⟨⟨hk.1, hk.2.1⟩, hk.2.2⟩)) hg hat); have n1_ := Aside0.mk (Kd.R_over' (by (with_reducible repeat (first | apply Kd.R_alloc | apply Kd.R_drewN | apply Kd.R_drew)); exact HO_10.out) (Kd.R_typed (by (with_reducible repeat (first | apply Kd.R_alloc | apply Kd.R_drewN | apply Kd.R_drew)); exact HO_11.out)) (by decide) hg); have n2_ := Aside0.mk (hb); have n3_ := Aside0.mk (ho); clear HO_0; clear HO_10; clear HB; clear HO_11; have HO_0 := n0_; have HO_10 := n1_; have HB := n2_; have HO275 := n3_; clear n0_ n1_ n2_ n3_; clear ho hb hg hat))
      go_roundg kj9
      case measure => have := HK1.out; have := HJ9.out; omega
      case rel => exact ⟨(y273), (wrap64 (x12_1 + 1)), (by first | rfl | (simp; done) | (simp [*]; done)), H', ⟨by have := HK1.out; have := HJ9.out; omega⟩, ⟨by (with_reducible repeat (first | apply Kd.V_alloc | apply Kd.V_drewN | apply Kd.V_drew)); exact Kd.V_mono HO_0.out (fun _ hk => ⟨hk.1.1, ⟨hk.1.2, hk.2⟩⟩)⟩, ⟨by (with_reducible repeat (first | apply Kd.R_alloc | apply Kd.R_drewN | apply Kd.R_drew)); exact HO_10.out⟩, ⟨by (with_reducible repeat (first | apply Kd.R_alloc | apply Kd.R_drewN | apply Kd.R_drew)); exact HO275.out⟩, ⟨by repeat (first | (with_reducible first | exact HB.out | apply below_alloc | apply pw_below_drewN | apply below_drew1) | exact HB.out)⟩⟩
    rw [if_neg c14] at H
    have c14b0 : ((x11_1.length : Int) == 0) = false := beq_eq_false_iff_ne.mpr c14
    have c14b1 : ((x11_1.length : Int) != 0) = true := bne_iff_ne.mpr c14
    have c14b2 : ¬ (x11_1 = []) := fun h_ => c14 (by rw [h_]; rfl)
    obtain ⟨ji20, hji20⟩ : ∃ j_ : Int, (wrap64 ((x11_1.length : Int) - 1)) = j_ := ⟨_, rfl⟩
    replace H : (if 0 ≤ (ji20) then (if (ji20) < (x11_1.length : Int) then (if ((rd_T38 x11_1 (ji20)).f1) = (wrap64 (t269 + a3)) then (bailiwickref03_change.l0 kj9 l0 a1 a2 a3 t265 x11_1 (wrap64 (x12_1 + 1))) else (if 0 ≤ x12_1 then (if x12_1 < (t265.length : Int) then (if x11_1.length < 8796093022208 then (bailiwickref03_change.l0 kj9 l0 a1 a2 a3 t265 (x11_1 ++ [(⟨rd t265 x12_1, wrap64 (t269 + a3)⟩ : S38)]) (wrap64 (x12_1 + 1))) else (none)) else (none)) else (none))) else (none)) else (none)) = some (r1, r2) := by first | (rw [hji20] at H; exact H) | (simp only [hji20] at H ⊢; exact H)
    have hji20w : (IntKind.i64.wrap ((x11_1.length : Int) - 1)) = ji20 := (i64_w _).trans hji20
    by_cases c21 : 0 ≤ (ji20)
    rotate_left
    · rw [if_neg c21] at H
      exact absurd H (by simp)
    rw [if_pos c21] at H
    have c21b0 : decide (0 ≤ (ji20)) = true := decide_eq_true c21
    clear c21
    by_cases c22 : (ji20) < (x11_1.length : Int)
    rotate_left
    · rw [if_neg c22] at H
      exact absurd H (by simp)
    rw [if_pos c22] at H
    have c22b0 : decide ((ji20) < (x11_1.length : Int)) = true := decide_eq_true c22
    clear c22
    by_cases c23 : ((rd_T38 x11_1 (ji20)).f1) = (wrap64 (t269 + a3))
    · rw [if_pos c23] at H
      have c23b0 : (((rd_T38 x11_1 (ji20)).f1) == (wrap64 (t269 + a3))) = true := beq_iff_eq.mpr c23
      have c23b1 : (((rd_T38 x11_1 (ji20)).f1) != (wrap64 (t269 + a3))) = false := bne_eq_false_iff_eq.mpr c23
      clear c23
      have H' := Aside0.mk H
      clear H
      obtain ⟨Ao24, co24, eo24⟩ := Kd.R_slice HO_11.out
      subst eo24
      have p276 : 0 ≤ ((ji20) : Int) := of_decide_eq_true (by first | (with_reducible assumption) | assumption)
      have q276 : (ji20) < (x11_1.length : Int) := of_decide_eq_true (by first | (with_reducible assumption) | assumption)
      obtain ⟨ad276, e276, hx276_0, hx276_1⟩ := at_T38 (Kd.R_reads' HO_11.out).2.2 (ji20) p276 q276
      cases e276
      replace p276 := eq_true p276
      replace q276 := eq_true q276
      go_wp2
      go_roundg kj9
      case measure => have := HK1.out; have := HJ9.out; omega
      case rel => exact ⟨(x11_1), (wrap64 (x12_1 + 1)), (by first | rfl | (simp; done) | (simp [*]; done)), H', ⟨by have := HK1.out; have := HJ9.out; omega⟩, ⟨by (with_reducible repeat (first | apply Kd.V_alloc | apply Kd.V_drewN | apply Kd.V_drew)); exact HO_0.out⟩, ⟨by (with_reducible repeat (first | apply Kd.R_alloc | apply Kd.R_drewN | apply Kd.R_drew)); exact HO_10.out⟩, ⟨by (with_reducible repeat (first | apply Kd.R_alloc | apply Kd.R_drewN | apply Kd.R_drew)); exact HO_11.out⟩, ⟨by repeat (first | (with_reducible first | exact HB.out | apply below_alloc | apply pw_below_drewN | apply below_drew1) | exact HB.out)⟩⟩
    rw [if_neg c23] at H
    have c23b0 : (((rd_T38 x11_1 (ji20)).f1) == (wrap64 (t269 + a3))) = false := beq_eq_false_iff_ne.mpr c23
    have c23b1 : (((rd_T38 x11_1 (ji20)).f1) != (wrap64 (t269 + a3))) = true := bne_iff_ne.mpr c23
    by_cases c25 : 0 ≤ x12_1
    rotate_left
    · rw [if_neg c25] at H
      exact absurd H (by simp)
    rw [if_pos c25] at H
    have c25b0 : decide (0 ≤ x12_1) = true := decide_eq_true c25
    clear c25
    by_cases c26 : x12_1 < (t265.length : Int)
    rotate_left
    · rw [if_neg c26] at H
      exact absurd H (by simp)
    rw [if_pos c26] at H
    have c26b0 : decide (x12_1 < (t265.length : Int)) = true := decide_eq_true c26
    clear c26
    by_cases c27 : x11_1.length < 8796093022208
    rotate_left
    · rw [if_neg c27] at H
      exact absurd H (by simp)
    rw [if_pos c27] at H
    have LMc27 := Aside0.mk c27
    clear c27
    obtain ⟨y278, hy278⟩ : ∃ y_ : List (S38), y_ = (x11_1 ++ [(⟨rd t265 x12_1, wrap64 (t269 + a3)⟩ : S38)]) := ⟨_, rfl⟩
    replace H : (bailiwickref03_change.l0 kj9 l0 a1 a2 a3 t265 y278 (wrap64 (x12_1 + 1))) = some (r1, r2) := by first | (rw [hy278]; with_reducible exact H) | (have H2_ := (Option.bind_some _ _).symm.trans H; rw [hy278]; with_reducible exact H2_) | (have H2_ := (Option.bind_some _ _).symm.trans H; with_reducible exact H2_) | with_reducible exact H | (rw [hy278]; exact H) | exact H
    have Ny278 := Aside0.mk hy278
    clear hy278
    have H' := Aside0.mk H
    clear H
    obtain ⟨Ao28, co28, eo28⟩ := Kd.R_slice HO_11.out
    subst eo28
    have p276 : 0 ≤ ((ji20) : Int) := of_decide_eq_true (by first | (with_reducible assumption) | assumption)
    have q276 : (ji20) < (x11_1.length : Int) := of_decide_eq_true (by first | (with_reducible assumption) | assumption)
    obtain ⟨ad276, e276, hx276_0, hx276_1⟩ := at_T38 (Kd.R_reads' HO_11.out).2.2 (ji20) p276 q276
    cases e276
    replace p276 := eq_true p276
    replace q276 := eq_true q276
    have p277 : 0 ≤ (x12_1 : Int) := of_decide_eq_true (by first | (with_reducible assumption) | assumption)
    have q277 : x12_1 < (t265.length : Int) := of_decide_eq_true (by first | (with_reducible assumption) | assumption)
    obtain ⟨ad277, e277, hx277_0⟩ := Kd.at_int (Kd.R_reads' HO_10.out).2.2 x12_1 p277 q277
    obtain rfl : ad268 = ad277 := (by injection e277)
    replace p277 := eq_true p277
    replace q277 := eq_true q277
    go_wp2_with (first | ((with_reducible refine gate_builtin (b := .append) (xs := #[.tmp 61, .tmp 68]) rfl ?_); at_builtin; refine Kd.R_append k38 (w0 := w) w.heap.size rfl (.tmp 61) (.tmp 68) 22 38 (.agg #[(.int .i64 0), (.int .i64 0)]) 16 rfl Try.underlying22 info38 rfl (by decide) (by omega) (.slice (some ad276) x11_1.length co28) x11_1 (⟨rd t265 x12_1, wrap64 (t269 + a3)⟩ : S38) [.int .i64 (rd t265 x12_1), .int .i64 (wrap64 (t269 + a3))] (fun k_ => (w.heap.size ≤ k_)) (fun _ => False) rfl rfl ?aP (fun _ hk => hk.elim) ?aF ?aO ?aB ?aS ?aL ?_; (case aP => exact k38_mkM _ _ _ (⟨rd t265 x12_1, wrap64 (t269 + a3)⟩ : S38)); (case aB => exact (by repeat (first | (with_reducible first | exact HB.out | apply below_alloc | apply pw_below_drewN | apply below_drew1) | exact HB.out))); (case aF => exact (fun k_ hk => (Nat.le_trans (below_size (by repeat (first | (with_reducible first | exact HB.out | apply below_alloc | apply pw_below_drewN | apply below_drew1) | exact HB.out))) hk))); (case aO => exact (by (with_reducible repeat (first | apply Kd.R_alloc | apply Kd.R_drewN | apply Kd.R_drew)); exact HO_11.out)); (case aS => exact (below_size (by repeat (first | (with_reducible first | exact HB.out | apply below_alloc | apply pw_below_drewN | apply below_drew1) | exact HB.out)))); (case aL => have := LMc27.out; omega); intro v279 w29 ho hb hg hat; rw [← Ny278.out] at ho; have n0_ := Aside0.mk (Kd.V_afterv (ok := (fun k_ => (P0_ k_ ∨ w.heap.size ≤ k_) ∧ some k_ ≠ (.slice (some ad268) t265.length co11 : Value).ownBlock)) (by (with_reducible repeat (first | apply Kd.V_alloc | apply Kd.V_drewN | apply Kd.V_drew)); exact Kd.V_mono HO_0.out (fun _ hk => ⟨⟨hk.1, hk.2.1⟩, hk.2.2⟩)) hg hat); have n1_ := Aside0.mk (Kd.R_over' (by (with_reducible repeat (first | apply Kd.R_alloc | apply Kd.R_drewN | apply Kd.R_drew)); exact HO_10.out) (Kd.R_typed (by (with_reducible repeat (first | apply Kd.R_alloc | apply Kd.R_drewN | apply Kd.R_drew)); exact HO_11.out)) (by decide) hg); have n2_ := Aside0.mk (hb); have n3_ := Aside0.mk (ho); clear HO_0; clear HO_10; clear HB; clear HO_11; have HO_0 := n0_; have HO_10 := n1_; have HB := n2_; have HO280 := n3_; clear n0_ n1_ n2_ n3_; clear ho hb hg hat))
    go_roundg kj9
    case measure => have := HK1.out; have := HJ9.out; omega
    case rel => exact ⟨(y278), (wrap64 (x12_1 + 1)), (by first | rfl | (simp; done) | (simp [*]; done)), H', ⟨by have := HK1.out; have := HJ9.out; omega⟩, ⟨by (with_reducible repeat (first | apply Kd.V_alloc | apply Kd.V_drewN | apply Kd.V_drew)); exact Kd.V_mono HO_0.out (fun _ hk => ⟨hk.1.1, ⟨hk.1.2, hk.2⟩⟩)⟩, ⟨by (with_reducible repeat (first | apply Kd.R_alloc | apply Kd.R_drewN | apply Kd.R_drew)); exact HO_10.out⟩, ⟨by (with_reducible repeat (first | apply Kd.R_alloc | apply Kd.R_drewN | apply Kd.R_drew)); exact HO280.out⟩, ⟨by repeat (first | (with_reducible first | exact HB.out | apply below_alloc | apply pw_below_drewN | apply below_drew1) | exact HB.out)⟩⟩
  replace c13 := Bool.eq_false_iff.mpr c13
  subst c13
  have H1 : (if (x11_1.length : Int) = 0 then (if 0 ≤ x12_1 then (if x12_1 < (t265.length : Int) then (if x11_1.length < 8796093022208 then (bailiwickref03_change.l0 kj9 l0 a1 a2 a3 t265 (x11_1 ++ [(⟨rd t265 x12_1, t269⟩ : S38)]) (wrap64 (x12_1 + 1))) else (none)) else (none)) else (none)) else (if 0 ≤ (wrap64 ((x11_1.length : Int) - 1)) then (if (wrap64 ((x11_1.length : Int) - 1)) < (x11_1.length : Int) then (if ((rd_T38 x11_1 (wrap64 ((x11_1.length : Int) - 1))).f1) = t269 then (bailiwickref03_change.l0 kj9 l0 a1 a2 a3 t265 x11_1 (wrap64 (x12_1 + 1))) else (if 0 ≤ x12_1 then (if x12_1 < (t265.length : Int) then (if x11_1.length < 8796093022208 then (bailiwickref03_change.l0 kj9 l0 a1 a2 a3 t265 (x11_1 ++ [(⟨rd t265 x12_1, t269⟩ : S38)]) (wrap64 (x12_1 + 1))) else (none)) else (none)) else (none))) else (none)) else (none))) = some (r1, r2) := by rw [if_neg (show ¬ (false = true) by decide)] at H; exact H
  clear H
  have H := H1
  clear H1
  by_cases c30 : (x11_1.length : Int) = 0
  · rw [if_pos c30] at H
    have c30b0 : ((x11_1.length : Int) == 0) = true := beq_iff_eq.mpr c30
    have c30b1 : ((x11_1.length : Int) != 0) = false := bne_eq_false_iff_eq.mpr c30
    clear c30
    by_cases c31 : 0 ≤ x12_1
    rotate_left
    · rw [if_neg c31] at H
      exact absurd H (by simp)
    rw [if_pos c31] at H
    have c31b0 : decide (0 ≤ x12_1) = true := decide_eq_true c31
    clear c31
    by_cases c32 : x12_1 < (t265.length : Int)
    rotate_left
    · rw [if_neg c32] at H
      exact absurd H (by simp)
    rw [if_pos c32] at H
    have c32b0 : decide (x12_1 < (t265.length : Int)) = true := decide_eq_true c32
    clear c32
    by_cases c33 : x11_1.length < 8796093022208
    rotate_left
    · rw [if_neg c33] at H
      exact absurd H (by simp)
    rw [if_pos c33] at H
    have LMc33 := Aside0.mk c33
    clear c33
    obtain ⟨y282, hy282⟩ : ∃ y_ : List (S38), y_ = (x11_1 ++ [(⟨rd t265 x12_1, t269⟩ : S38)]) := ⟨_, rfl⟩
    replace H : (bailiwickref03_change.l0 kj9 l0 a1 a2 a3 t265 y282 (wrap64 (x12_1 + 1))) = some (r1, r2) := by first | (rw [hy282]; with_reducible exact H) | (have H2_ := (Option.bind_some _ _).symm.trans H; rw [hy282]; with_reducible exact H2_) | (have H2_ := (Option.bind_some _ _).symm.trans H; with_reducible exact H2_) | with_reducible exact H | (rw [hy282]; exact H) | exact H
    have Ny282 := Aside0.mk hy282
    clear hy282
    have H' := Aside0.mk H
    clear H
    obtain ⟨Ao34, co34, eo34⟩ := Kd.R_slice HO_11.out
    subst eo34
    have p281 : 0 ≤ (x12_1 : Int) := of_decide_eq_true (by first | (with_reducible assumption) | assumption)
    have q281 : x12_1 < (t265.length : Int) := of_decide_eq_true (by first | (with_reducible assumption) | assumption)
    obtain ⟨ad281, e281, hx281_0⟩ := Kd.at_int (Kd.R_reads' HO_10.out).2.2 x12_1 p281 q281
    obtain rfl : ad268 = ad281 := (by injection e281)
    replace p281 := eq_true p281
    replace q281 := eq_true q281
    go_wp2_with (first | ((with_reducible refine gate_builtin (b := .append) (xs := #[.tmp 61, .tmp 68]) rfl ?_); at_builtin; refine Kd.R_append k38 (w0 := w) w.heap.size rfl (.tmp 61) (.tmp 68) 22 38 (.agg #[(.int .i64 0), (.int .i64 0)]) 16 rfl Try.underlying22 info38 rfl (by decide) (by omega) (.slice Ao34 x11_1.length co34) x11_1 (⟨rd t265 x12_1, t269⟩ : S38) [.int .i64 (rd t265 x12_1), .int .i64 t269] (fun k_ => (w.heap.size ≤ k_)) (fun _ => False) rfl rfl ?aP (fun _ hk => hk.elim) ?aF ?aO ?aB ?aS ?aL ?_; (case aP => exact k38_mkM _ _ _ (⟨rd t265 x12_1, t269⟩ : S38)); (case aB => exact (by repeat (first | (with_reducible first | exact HB.out | apply below_alloc | apply pw_below_drewN | apply below_drew1) | exact HB.out))); (case aF => exact (fun k_ hk => (Nat.le_trans (below_size (by repeat (first | (with_reducible first | exact HB.out | apply below_alloc | apply pw_below_drewN | apply below_drew1) | exact HB.out))) hk))); (case aO => exact (by (with_reducible repeat (first | apply Kd.R_alloc | apply Kd.R_drewN | apply Kd.R_drew)); exact HO_11.out)); (case aS => exact (below_size (by repeat (first | (with_reducible first | exact HB.out | apply below_alloc | apply pw_below_drewN | apply below_drew1) | exact HB.out)))); (case aL => have := LMc33.out; omega); intro v283 w35 ho hb hg hat; rw [← Ny282.out] at ho; have n0_ := Aside0.mk (Kd.V_afterv (ok := (fun k_ => (P0_ k_ ∨ w.heap.size ≤ k_) ∧ some k_ ≠ (.slice (some ad268) t265.length co11 : Value).ownBlock)) (by (with_reducible repeat (first | apply Kd.V_alloc | apply Kd.V_drewN | apply Kd.V_drew)); exact Kd.V_mono HO_0.out (fun _ hk => ⟨⟨hk.1, hk.2.1⟩, hk.2.2⟩)) hg hat); have n1_ := Aside0.mk (Kd.R_over' (by (with_reducible repeat (first | apply Kd.R_alloc | apply Kd.R_drewN | apply Kd.R_drew)); exact HO_10.out) (Kd.R_typed (by (with_reducible repeat (first | apply Kd.R_alloc | apply Kd.R_drewN | apply Kd.R_drew)); exact HO_11.out)) (by decide) hg); have n2_ := Aside0.mk (hb); have n3_ := Aside0.mk (ho); clear HO_0; clear HO_10; clear HB; clear HO_11; have HO_0 := n0_; have HO_10 := n1_; have HB := n2_; have HO284 := n3_; clear n0_ n1_ n2_ n3_; clear ho hb hg hat))
    go_roundg kj9
    case measure => have := HK1.out; have := HJ9.out; omega
    case rel => exact ⟨(y282), (wrap64 (x12_1 + 1)), (by first | rfl | (simp; done) | (simp [*]; done)), H', ⟨by have := HK1.out; have := HJ9.out; omega⟩, ⟨by (with_reducible repeat (first | apply Kd.V_alloc | apply Kd.V_drewN | apply Kd.V_drew)); exact Kd.V_mono HO_0.out (fun _ hk => ⟨hk.1.1, ⟨hk.1.2, hk.2⟩⟩)⟩, ⟨by (with_reducible repeat (first | apply Kd.R_alloc | apply Kd.R_drewN | apply Kd.R_drew)); exact HO_10.out⟩, ⟨by (with_reducible repeat (first | apply Kd.R_alloc | apply Kd.R_drewN | apply Kd.R_drew)); exact HO284.out⟩, ⟨by repeat (first | (with_reducible first | exact HB.out | apply below_alloc | apply pw_below_drewN | apply below_drew1) | exact HB.out)⟩⟩
  rw [if_neg c30] at H
  have c30b0 : ((x11_1.length : Int) == 0) = false := beq_eq_false_iff_ne.mpr c30
  have c30b1 : ((x11_1.length : Int) != 0) = true := bne_iff_ne.mpr c30
  have c30b2 : ¬ (x11_1 = []) := fun h_ => c30 (by rw [h_]; rfl)
  obtain ⟨ji36, hji36⟩ : ∃ j_ : Int, (wrap64 ((x11_1.length : Int) - 1)) = j_ := ⟨_, rfl⟩
  replace H : (if 0 ≤ (ji36) then (if (ji36) < (x11_1.length : Int) then (if ((rd_T38 x11_1 (ji36)).f1) = t269 then (bailiwickref03_change.l0 kj9 l0 a1 a2 a3 t265 x11_1 (wrap64 (x12_1 + 1))) else (if 0 ≤ x12_1 then (if x12_1 < (t265.length : Int) then (if x11_1.length < 8796093022208 then (bailiwickref03_change.l0 kj9 l0 a1 a2 a3 t265 (x11_1 ++ [(⟨rd t265 x12_1, t269⟩ : S38)]) (wrap64 (x12_1 + 1))) else (none)) else (none)) else (none))) else (none)) else (none)) = some (r1, r2) := by first | (rw [hji36] at H; exact H) | (simp only [hji36] at H ⊢; exact H)
  have hji36w : (IntKind.i64.wrap ((x11_1.length : Int) - 1)) = ji36 := (i64_w _).trans hji36
  by_cases c37 : 0 ≤ (ji36)
  rotate_left
  · rw [if_neg c37] at H
    exact absurd H (by simp)
  rw [if_pos c37] at H
  have c37b0 : decide (0 ≤ (ji36)) = true := decide_eq_true c37
  clear c37
  by_cases c38 : (ji36) < (x11_1.length : Int)
  rotate_left
  · rw [if_neg c38] at H
    exact absurd H (by simp)
  rw [if_pos c38] at H
  have c38b0 : decide ((ji36) < (x11_1.length : Int)) = true := decide_eq_true c38
  clear c38
  by_cases c39 : ((rd_T38 x11_1 (ji36)).f1) = t269
  · rw [if_pos c39] at H
    have c39b0 : (((rd_T38 x11_1 (ji36)).f1) == t269) = true := beq_iff_eq.mpr c39
    have c39b1 : (((rd_T38 x11_1 (ji36)).f1) != t269) = false := bne_eq_false_iff_eq.mpr c39
    clear c39
    have H' := Aside0.mk H
    clear H
    obtain ⟨Ao40, co40, eo40⟩ := Kd.R_slice HO_11.out
    subst eo40
    have p285 : 0 ≤ ((ji36) : Int) := of_decide_eq_true (by first | (with_reducible assumption) | assumption)
    have q285 : (ji36) < (x11_1.length : Int) := of_decide_eq_true (by first | (with_reducible assumption) | assumption)
    obtain ⟨ad285, e285, hx285_0, hx285_1⟩ := at_T38 (Kd.R_reads' HO_11.out).2.2 (ji36) p285 q285
    cases e285
    replace p285 := eq_true p285
    replace q285 := eq_true q285
    go_wp2
    go_roundg kj9
    case measure => have := HK1.out; have := HJ9.out; omega
    case rel => exact ⟨(x11_1), (wrap64 (x12_1 + 1)), (by first | rfl | (simp; done) | (simp [*]; done)), H', ⟨by have := HK1.out; have := HJ9.out; omega⟩, ⟨by (with_reducible repeat (first | apply Kd.V_alloc | apply Kd.V_drewN | apply Kd.V_drew)); exact HO_0.out⟩, ⟨by (with_reducible repeat (first | apply Kd.R_alloc | apply Kd.R_drewN | apply Kd.R_drew)); exact HO_10.out⟩, ⟨by (with_reducible repeat (first | apply Kd.R_alloc | apply Kd.R_drewN | apply Kd.R_drew)); exact HO_11.out⟩, ⟨by repeat (first | (with_reducible first | exact HB.out | apply below_alloc | apply pw_below_drewN | apply below_drew1) | exact HB.out)⟩⟩
  rw [if_neg c39] at H
  have c39b0 : (((rd_T38 x11_1 (ji36)).f1) == t269) = false := beq_eq_false_iff_ne.mpr c39
  have c39b1 : (((rd_T38 x11_1 (ji36)).f1) != t269) = true := bne_iff_ne.mpr c39
  by_cases c41 : 0 ≤ x12_1
  rotate_left
  · rw [if_neg c41] at H
    exact absurd H (by simp)
  rw [if_pos c41] at H
  have c41b0 : decide (0 ≤ x12_1) = true := decide_eq_true c41
  clear c41
  by_cases c42 : x12_1 < (t265.length : Int)
  rotate_left
  · rw [if_neg c42] at H
    exact absurd H (by simp)
  rw [if_pos c42] at H
  have c42b0 : decide (x12_1 < (t265.length : Int)) = true := decide_eq_true c42
  clear c42
  by_cases c43 : x11_1.length < 8796093022208
  rotate_left
  · rw [if_neg c43] at H
    exact absurd H (by simp)
  rw [if_pos c43] at H
  have LMc43 := Aside0.mk c43
  clear c43
  obtain ⟨y287, hy287⟩ : ∃ y_ : List (S38), y_ = (x11_1 ++ [(⟨rd t265 x12_1, t269⟩ : S38)]) := ⟨_, rfl⟩
  replace H : (bailiwickref03_change.l0 kj9 l0 a1 a2 a3 t265 y287 (wrap64 (x12_1 + 1))) = some (r1, r2) := by first | (rw [hy287]; with_reducible exact H) | (have H2_ := (Option.bind_some _ _).symm.trans H; rw [hy287]; with_reducible exact H2_) | (have H2_ := (Option.bind_some _ _).symm.trans H; with_reducible exact H2_) | with_reducible exact H | (rw [hy287]; exact H) | exact H
  have Ny287 := Aside0.mk hy287
  clear hy287
  have H' := Aside0.mk H
  clear H
  obtain ⟨Ao44, co44, eo44⟩ := Kd.R_slice HO_11.out
  subst eo44
  have p285 : 0 ≤ ((ji36) : Int) := of_decide_eq_true (by first | (with_reducible assumption) | assumption)
  have q285 : (ji36) < (x11_1.length : Int) := of_decide_eq_true (by first | (with_reducible assumption) | assumption)
  obtain ⟨ad285, e285, hx285_0, hx285_1⟩ := at_T38 (Kd.R_reads' HO_11.out).2.2 (ji36) p285 q285
  cases e285
  replace p285 := eq_true p285
  replace q285 := eq_true q285
  have p286 : 0 ≤ (x12_1 : Int) := of_decide_eq_true (by first | (with_reducible assumption) | assumption)
  have q286 : x12_1 < (t265.length : Int) := of_decide_eq_true (by first | (with_reducible assumption) | assumption)
  obtain ⟨ad286, e286, hx286_0⟩ := Kd.at_int (Kd.R_reads' HO_10.out).2.2 x12_1 p286 q286
  obtain rfl : ad268 = ad286 := (by injection e286)
  replace p286 := eq_true p286
  replace q286 := eq_true q286
  go_wp2_with (first | ((with_reducible refine gate_builtin (b := .append) (xs := #[.tmp 61, .tmp 68]) rfl ?_); at_builtin; refine Kd.R_append k38 (w0 := w) w.heap.size rfl (.tmp 61) (.tmp 68) 22 38 (.agg #[(.int .i64 0), (.int .i64 0)]) 16 rfl Try.underlying22 info38 rfl (by decide) (by omega) (.slice (some ad285) x11_1.length co44) x11_1 (⟨rd t265 x12_1, t269⟩ : S38) [.int .i64 (rd t265 x12_1), .int .i64 t269] (fun k_ => (w.heap.size ≤ k_)) (fun _ => False) rfl rfl ?aP (fun _ hk => hk.elim) ?aF ?aO ?aB ?aS ?aL ?_; (case aP => exact k38_mkM _ _ _ (⟨rd t265 x12_1, t269⟩ : S38)); (case aB => exact (by repeat (first | (with_reducible first | exact HB.out | apply below_alloc | apply pw_below_drewN | apply below_drew1) | exact HB.out))); (case aF => exact (fun k_ hk => (Nat.le_trans (below_size (by repeat (first | (with_reducible first | exact HB.out | apply below_alloc | apply pw_below_drewN | apply below_drew1) | exact HB.out))) hk))); (case aO => exact (by (with_reducible repeat (first | apply Kd.R_alloc | apply Kd.R_drewN | apply Kd.R_drew)); exact HO_11.out)); (case aS => exact (below_size (by repeat (first | (with_reducible first | exact HB.out | apply below_alloc | apply pw_below_drewN | apply below_drew1) | exact HB.out)))); (case aL => have := LMc43.out; omega); intro v288 w45 ho hb hg hat; rw [← Ny287.out] at ho; have n0_ := Aside0.mk (Kd.V_afterv (ok := (fun k_ => (P0_ k_ ∨ w.heap.size ≤ k_) ∧ some k_ ≠ (.slice (some ad268) t265.length co11 : Value).ownBlock)) (by (with_reducible repeat (first | apply Kd.V_alloc | apply Kd.V_drewN | apply Kd.V_drew)); exact Kd.V_mono HO_0.out (fun _ hk => ⟨⟨hk.1, hk.2.1⟩, hk.2.2⟩)) hg hat); have n1_ := Aside0.mk (Kd.R_over' (by (with_reducible repeat (first | apply Kd.R_alloc | apply Kd.R_drewN | apply Kd.R_drew)); exact HO_10.out) (Kd.R_typed (by (with_reducible repeat (first | apply Kd.R_alloc | apply Kd.R_drewN | apply Kd.R_drew)); exact HO_11.out)) (by decide) hg); have n2_ := Aside0.mk (hb); have n3_ := Aside0.mk (ho); clear HO_0; clear HO_10; clear HB; clear HO_11; have HO_0 := n0_; have HO_10 := n1_; have HB := n2_; have HO289 := n3_; clear n0_ n1_ n2_ n3_; clear ho hb hg hat))
  go_roundg kj9
  case measure => have := HK1.out; have := HJ9.out; omega
  case rel => exact ⟨(y287), (wrap64 (x12_1 + 1)), (by first | rfl | (simp; done) | (simp [*]; done)), H', ⟨by have := HK1.out; have := HJ9.out; omega⟩, ⟨by (with_reducible repeat (first | apply Kd.V_alloc | apply Kd.V_drewN | apply Kd.V_drew)); exact Kd.V_mono HO_0.out (fun _ hk => ⟨hk.1.1, ⟨hk.1.2, hk.2⟩⟩)⟩, ⟨by (with_reducible repeat (first | apply Kd.R_alloc | apply Kd.R_drewN | apply Kd.R_drew)); exact HO_10.out⟩, ⟨by (with_reducible repeat (first | apply Kd.R_alloc | apply Kd.R_drewN | apply Kd.R_drew)); exact HO289.out⟩, ⟨by repeat (first | (with_reducible first | exact HB.out | apply below_alloc | apply pw_below_drewN | apply below_drew1) | exact HB.out)⟩⟩

end Go.Proofs.Ytpekjfmlpogfaaa.PAll
