-- Written by wip/tools/hprint.py of this claim's session (a driver over the kit's print, with contracts proved by hand among them).
import Derived.Test.YtpekjfmlpogfaaaPAllx0
namespace Go.Proofs.Ytpekjfmlpogfaaa.PAll
open Go.RowKit Go.Proofs.YtpekjfmlpogfaaaW.PrintWords Go.Proofs.YtpekjfmlpogfaaaW.PrintLast Go.Proofs.YtpekjfmlpogfaaaW.PrintMore
attribute [local go_sem] max2_int min2_int max_two min_two max_three min_three max_four min_four   -- for this text's walks alone
set_option linter.unusedVariables false
set_option linter.unusedSimpArgs false

/-! ### bailiwickref03_times: function 50 -/
mutual
def bailiwickref03_times.l0 : Nat → List (S38) → Int → Int → List Int → Int → Option (List Int)
  | 0, _, _, _, _, _ => none
  | k + 1, x0, x1, x2, x7, x8 => if x8 < (x0.length : Int) then (if 0 ≤ x8 then (if x1 < ((rd_T38 x0 x8).f0) then (if (x7.length : Int) = 0 then (bailiwickref03_times.j1 k x0 x1 x2 x7 x8 true) else (if 0 ≤ (wrap64 ((x7.length : Int) - 1)) then (if (wrap64 ((x7.length : Int) - 1)) < (x7.length : Int) then (bailiwickref03_times.j1 k x0 x1 x2 x7 x8 (decide ((rd x7 (wrap64 ((x7.length : Int) - 1))) < x1))) else (none)) else (none))) else (bailiwickref03_times.j1 k x0 x1 x2 x7 x8 false)) else (none)) else (if 0 ≤ (wrap64 ((x7.length : Int) - 1)) then (if (wrap64 ((x7.length : Int) - 1)) < (x7.length : Int) then (if (rd x7 (wrap64 ((x7.length : Int) - 1))) < x1 then (if x7.length < 17592186044416 then ((some (x7 ++ [x1] : List Int)).bind fun y254 => (if 0 ≤ (wrap64 ((y254.length : Int) - 1)) then (if (wrap64 ((y254.length : Int) - 1)) < (y254.length : Int) then (if (rd y254 (wrap64 ((y254.length : Int) - 1))) < x2 then (if y254.length < 17592186044416 then (some (y254 ++ [x2])) else (none)) else (some y254)) else (none)) else (none))) else (none)) else (if (rd x7 (wrap64 ((x7.length : Int) - 1))) < x2 then (if x7.length < 17592186044416 then (some (x7 ++ [x2])) else (none)) else (some x7))) else (none)) else (none))
def bailiwickref03_times.j1 : Nat → List (S38) → Int → Int → List Int → Int → Bool → Option (List Int)
  | 0, _, _, _, _, _, _ => none
  | k + 1, x0, x1, x2, x7, x8, x36 => if x36 = true then (if x7.length < 17592186044416 then (bailiwickref03_times.j2 k x0 x1 x2 (x7 ++ [x1]) x8) else (none)) else (bailiwickref03_times.j2 k x0 x1 x2 x7 x8)
def bailiwickref03_times.j2 : Nat → List (S38) → Int → Int → List Int → Int → Option (List Int)
  | 0, _, _, _, _, _ => none
  | k + 1, x0, x1, x2, x7, x8 => if 0 ≤ x8 then (if x8 < (x0.length : Int) then (if x2 < ((rd_T38 x0 x8).f0) then (if (x7.length : Int) = 0 then (bailiwickref03_times.j3 k x0 x1 x2 x7 x8 true) else (if 0 ≤ (wrap64 ((x7.length : Int) - 1)) then (if (wrap64 ((x7.length : Int) - 1)) < (x7.length : Int) then (bailiwickref03_times.j3 k x0 x1 x2 x7 x8 (decide ((rd x7 (wrap64 ((x7.length : Int) - 1))) < x2))) else (none)) else (none))) else (bailiwickref03_times.j3 k x0 x1 x2 x7 x8 false)) else (none)) else (none)
def bailiwickref03_times.j3 : Nat → List (S38) → Int → Int → List Int → Int → Bool → Option (List Int)
  | 0, _, _, _, _, _, _ => none
  | k + 1, x0, x1, x2, x7, x8, x62 => if x62 = true then (if x7.length < 17592186044416 then ((some (x7 ++ [x2] : List Int)).bind fun y230 => (if (y230.length : Int) = 0 then (if 0 ≤ x8 then (if x8 < (x0.length : Int) then (if y230.length < 17592186044416 then (bailiwickref03_times.l0 k x0 x1 x2 (y230 ++ [(rd_T38 x0 x8).f0]) (wrap64 (x8 + 1))) else (none)) else (none)) else (none)) else (if 0 ≤ (wrap64 ((y230.length : Int) - 1)) then (if (wrap64 ((y230.length : Int) - 1)) < (y230.length : Int) then (if 0 ≤ x8 then (if x8 < (x0.length : Int) then (if (rd y230 (wrap64 ((y230.length : Int) - 1))) < ((rd_T38 x0 x8).f0) then (if y230.length < 17592186044416 then (bailiwickref03_times.l0 k x0 x1 x2 (y230 ++ [(rd_T38 x0 x8).f0]) (wrap64 (x8 + 1))) else (none)) else (bailiwickref03_times.l0 k x0 x1 x2 y230 (wrap64 (x8 + 1)))) else (none)) else (none)) else (none)) else (none)))) else (none)) else (if (x7.length : Int) = 0 then (if 0 ≤ x8 then (if x8 < (x0.length : Int) then (if x7.length < 17592186044416 then (bailiwickref03_times.l0 k x0 x1 x2 (x7 ++ [(rd_T38 x0 x8).f0]) (wrap64 (x8 + 1))) else (none)) else (none)) else (none)) else (if 0 ≤ (wrap64 ((x7.length : Int) - 1)) then (if (wrap64 ((x7.length : Int) - 1)) < (x7.length : Int) then (if 0 ≤ x8 then (if x8 < (x0.length : Int) then (if (rd x7 (wrap64 ((x7.length : Int) - 1))) < ((rd_T38 x0 x8).f0) then (if x7.length < 17592186044416 then (bailiwickref03_times.l0 k x0 x1 x2 (x7 ++ [(rd_T38 x0 x8).f0]) (wrap64 (x8 + 1))) else (none)) else (bailiwickref03_times.l0 k x0 x1 x2 x7 (wrap64 (x8 + 1)))) else (none)) else (none)) else (none)) else (none)))
end
def bailiwickref03_times.f (k : Nat) (l0 : List (S38)) (a1 : Int) (a2 : Int) : Option (List Int) := bailiwickref03_times.l0 k l0 a1 a2 ([] : List Int) 0
theorem bailiwickref03_times.mono_l : ∀ k, (∀ y0 y1 y2 y3 y4, LeO (bailiwickref03_times.l0 k y0 y1 y2 y3 y4) (bailiwickref03_times.l0 (k + 1) y0 y1 y2 y3 y4)) ∧ (∀ y0 y1 y2 y3 y4 y5, LeO (bailiwickref03_times.j1 k y0 y1 y2 y3 y4 y5) (bailiwickref03_times.j1 (k + 1) y0 y1 y2 y3 y4 y5)) ∧ (∀ y0 y1 y2 y3 y4, LeO (bailiwickref03_times.j2 k y0 y1 y2 y3 y4) (bailiwickref03_times.j2 (k + 1) y0 y1 y2 y3 y4)) ∧ (∀ y0 y1 y2 y3 y4 y5, LeO (bailiwickref03_times.j3 k y0 y1 y2 y3 y4 y5) (bailiwickref03_times.j3 (k + 1) y0 y1 y2 y3 y4 y5))
  | 0 => ⟨fun _ _ _ _ _ r h => by simp [bailiwickref03_times.l0] at h, fun _ _ _ _ _ _ r h => by simp [bailiwickref03_times.j1] at h, fun _ _ _ _ _ r h => by simp [bailiwickref03_times.j2] at h, fun _ _ _ _ _ _ r h => by simp [bailiwickref03_times.j3] at h⟩
  | k + 1 => by
    obtain ⟨ih0, ih1, ih2, ih3⟩ := bailiwickref03_times.mono_l k
    refine ⟨?_, ?_, ?_, ?_⟩
    · intro y0 y1 y2 y3 y4
      unfold bailiwickref03_times.l0
      repeat' first
      | (with_reducible exact ih0 _ _ _ _ _)
      | (with_reducible exact ih1 _ _ _ _ _ _)
      | (with_reducible exact ih2 _ _ _ _ _)
      | (with_reducible exact ih3 _ _ _ _ _ _)
      | (with_reducible exact LeO.refl _)
      | (with_reducible exact LeO.none _)
      | (with_reducible refine LeO.ite ?_ ?_)
      | (with_reducible refine LeO.bind ?_ (fun _ => ?_))
      | exact ih0 _ _ _ _ _
      | exact ih1 _ _ _ _ _ _
      | exact ih2 _ _ _ _ _
      | exact ih3 _ _ _ _ _ _
      | exact LeO.none _
      | refine LeO.ite ?_ ?_
      | refine LeO.bind ?_ (fun _ => ?_)
    · intro y0 y1 y2 y3 y4 y5
      unfold bailiwickref03_times.j1
      repeat' first
      | (with_reducible exact ih0 _ _ _ _ _)
      | (with_reducible exact ih1 _ _ _ _ _ _)
      | (with_reducible exact ih2 _ _ _ _ _)
      | (with_reducible exact ih3 _ _ _ _ _ _)
      | (with_reducible exact LeO.refl _)
      | (with_reducible exact LeO.none _)
      | (with_reducible refine LeO.ite ?_ ?_)
      | (with_reducible refine LeO.bind ?_ (fun _ => ?_))
      | exact ih0 _ _ _ _ _
      | exact ih1 _ _ _ _ _ _
      | exact ih2 _ _ _ _ _
      | exact ih3 _ _ _ _ _ _
      | exact LeO.none _
      | refine LeO.ite ?_ ?_
      | refine LeO.bind ?_ (fun _ => ?_)
    · intro y0 y1 y2 y3 y4
      unfold bailiwickref03_times.j2
      repeat' first
      | (with_reducible exact ih0 _ _ _ _ _)
      | (with_reducible exact ih1 _ _ _ _ _ _)
      | (with_reducible exact ih2 _ _ _ _ _)
      | (with_reducible exact ih3 _ _ _ _ _ _)
      | (with_reducible exact LeO.refl _)
      | (with_reducible exact LeO.none _)
      | (with_reducible refine LeO.ite ?_ ?_)
      | (with_reducible refine LeO.bind ?_ (fun _ => ?_))
      | exact ih0 _ _ _ _ _
      | exact ih1 _ _ _ _ _ _
      | exact ih2 _ _ _ _ _
      | exact ih3 _ _ _ _ _ _
      | exact LeO.none _
      | refine LeO.ite ?_ ?_
      | refine LeO.bind ?_ (fun _ => ?_)
    intro y0 y1 y2 y3 y4 y5
    unfold bailiwickref03_times.j3
    repeat' first
    | (with_reducible exact ih0 _ _ _ _ _)
    | (with_reducible exact ih1 _ _ _ _ _ _)
    | (with_reducible exact ih2 _ _ _ _ _)
    | (with_reducible exact ih3 _ _ _ _ _ _)
    | (with_reducible exact LeO.refl _)
    | (with_reducible exact LeO.none _)
    | (with_reducible refine LeO.ite ?_ ?_)
    | (with_reducible refine LeO.bind ?_ (fun _ => ?_))
    | exact ih0 _ _ _ _ _
    | exact ih1 _ _ _ _ _ _
    | exact ih2 _ _ _ _ _
    | exact ih3 _ _ _ _ _ _
    | exact LeO.none _
    | refine LeO.ite ?_ ?_
    | refine LeO.bind ?_ (fun _ => ?_)
theorem bailiwickref03_times.mono : ∀ a0 a1 a2 k, LeO (bailiwickref03_times.f k a0 a1 a2) (bailiwickref03_times.f (k + 1) a0 a1 a2) := by
  intro a0 a1 a2 k
  obtain ⟨ih0, ih1, ih2, ih3⟩ := bailiwickref03_times.mono_l k
  unfold bailiwickref03_times.f
  repeat' first
      | (with_reducible exact ih0 _ _ _ _ _)
      | (with_reducible exact ih1 _ _ _ _ _ _)
      | (with_reducible exact ih2 _ _ _ _ _)
      | (with_reducible exact ih3 _ _ _ _ _ _)
      | (with_reducible exact LeO.refl _)
      | (with_reducible exact LeO.none _)
      | (with_reducible refine LeO.ite ?_ ?_)
      | (with_reducible refine LeO.bind ?_ (fun _ => ?_))
      | exact ih0 _ _ _ _ _
      | exact ih1 _ _ _ _ _ _
      | exact ih2 _ _ _ _ _
      | exact ih3 _ _ _ _ _ _
      | exact LeO.none _
      | refine LeO.ite ?_ ?_
      | refine LeO.bind ?_ (fun _ => ?_)
set_option maxHeartbeats 8000000 in
set_option maxRecDepth 100000 in
theorem bailiwickref03_times.calls (k : Nat) (A0 : Option Addr) (c0 : Nat) (l0 : List (S38)) (a1 : Int) (a2 : Int) (r : List Int) (w : World) (hr0 : Kd.C k38 w A0 l0.length l0) (hc0 : l0.length ≤ c0) (h : bailiwickref03_times.f k l0 a1 a2 = some r) :
    Calls Try.prog 50 #[.slice A0 l0.length c0, .int .i64 a1, .int .i64 a2] w fun e w' => ∃ v0_ : Value, e = .returned (v0_) ∧ Kd.R (Kd.int .i64) 2 w' w.heap.size (fun _ => True) v0_ r ∧ Below w.heap.size w w' := by
  have HR0 := Aside0.mk hr0
  have HC0 := Aside0.mk hc0
  clear hr0 hc0
  have HB := Aside0.mk (Below.refl w.heap.size w)
  have H : (bailiwickref03_times.l0 k l0 a1 a2 ([] : List Int) 0) = some r := h
  clear h
  have H' := Aside0.mk H
  clear H
  go_enter Try.func50, Try.ntmps50
  go_wp2
  repeat (go_quiet (fail); try go_wp2)
  go_loopg [7, 8] k (fun kq v7 v8 w' => ∃ (x7_1 : List Int) (x8_1 : Int), v8 = .int .i64 x8_1 ∧ Aside0 (bailiwickref03_times.l0 kq l0 a1 a2 x7_1 x8_1 = some r) ∧ Aside0 (kq ≤ k) ∧ Aside0 (Kd.R (Kd.int .i64) 2 w' w.heap.size (fun _ => True) v7 x7_1) ∧ Aside0 (Below w.heap.size w w'))
  case atStart => exact ⟨(([] : List Int)), (0), (by first | rfl | (simp; done) | (simp [*]; done)), H', ⟨Nat.le_refl _⟩, ⟨by first | exact Kd.R_nil _ _ _ _ _ | exact Kd.N_nil _ _ _ _ _ | exact Kd.V_nil _ _ _ _ _ | exact Kd.Q_nil _ _ _ _ _ | exact Kd.S_nil _ _ _ _ _⟩, ⟨by repeat (first | (with_reducible first | exact HB.out | apply below_alloc | apply pw_below_drewN | apply below_drew1) | exact HB.out)⟩⟩
  clear H'
  try clear p2
  obtain ⟨x7_1, x8_1, rfl, HA, HK1, HO_7, HB⟩ := hrel
  rcases gk with _ | k1
  · exact absurd HA.out (by simp [bailiwickref03_times.l0])
  have H := HA.out
  clear HA
  simp only [bailiwickref03_times.l0] at H
  by_cases c4 : x8_1 < (l0.length : Int)
  rotate_left
  · rw [if_neg c4] at H
    have c4b0 : decide (x8_1 < (l0.length : Int)) = false := decide_eq_false c4
    clear c4
    obtain ⟨ji65, hji65⟩ : ∃ j_ : Int, (wrap64 ((x7_1.length : Int) - 1)) = j_ := ⟨_, rfl⟩
    replace H : (if 0 ≤ (ji65) then (if (ji65) < (x7_1.length : Int) then (if (rd x7_1 (ji65)) < a1 then (if x7_1.length < 17592186044416 then ((some (x7_1 ++ [a1] : List Int)).bind fun y254 => (if 0 ≤ (wrap64 ((y254.length : Int) - 1)) then (if (wrap64 ((y254.length : Int) - 1)) < (y254.length : Int) then (if (rd y254 (wrap64 ((y254.length : Int) - 1))) < a2 then (if y254.length < 17592186044416 then (some (y254 ++ [a2])) else (none)) else (some y254)) else (none)) else (none))) else (none)) else (if (rd x7_1 (ji65)) < a2 then (if x7_1.length < 17592186044416 then (some (x7_1 ++ [a2])) else (none)) else (some x7_1))) else (none)) else (none)) = some r := by first | (rw [hji65] at H; exact H) | (simp only [hji65] at H ⊢; exact H)
    have hji65w : (IntKind.i64.wrap ((x7_1.length : Int) - 1)) = ji65 := (i64_w _).trans hji65
    by_cases c66 : 0 ≤ (ji65)
    rotate_left
    · rw [if_neg c66] at H
      exact absurd H (by simp)
    rw [if_pos c66] at H
    have c66b0 : decide (0 ≤ (ji65)) = true := decide_eq_true c66
    clear c66
    by_cases c67 : (ji65) < (x7_1.length : Int)
    rotate_left
    · rw [if_neg c67] at H
      exact absurd H (by simp)
    rw [if_pos c67] at H
    have c67b0 : decide ((ji65) < (x7_1.length : Int)) = true := decide_eq_true c67
    clear c67
    by_cases c68 : (rd x7_1 (ji65)) < a1
    rotate_left
    · rw [if_neg c68] at H
      have c68b0 : decide ((rd x7_1 (ji65)) < a1) = false := decide_eq_false c68
      clear c68
      by_cases c82 : (rd x7_1 (ji65)) < a2
      rotate_left
      · rw [if_neg c82] at H
        have c82b0 : decide ((rd x7_1 (ji65)) < a2) = false := decide_eq_false c82
        clear c82
        obtain rfl := Option.some.inj H
        obtain ⟨Ao86, co86, eo86⟩ := Kd.R_slice HO_7.out
        subst eo86
        have p253 : 0 ≤ ((ji65) : Int) := of_decide_eq_true (by first | (with_reducible assumption) | assumption)
        have q253 : (ji65) < (x7_1.length : Int) := of_decide_eq_true (by first | (with_reducible assumption) | assumption)
        obtain ⟨ad253, e253, hx253_0⟩ := Kd.at_int (Kd.R_reads' HO_7.out).2.2 (ji65) p253 q253
        cases e253
        replace p253 := eq_true p253
        replace q253 := eq_true q253
        have p261 : 0 ≤ ((ji65) : Int) := of_decide_eq_true (by first | (with_reducible assumption) | assumption)
        have q261 : (ji65) < (x7_1.length : Int) := of_decide_eq_true (by first | (with_reducible assumption) | assumption)
        obtain ⟨ad261, e261, hx261_0⟩ := Kd.at_int (Kd.R_reads' HO_7.out).2.2 (ji65) p261 q261
        obtain rfl : ad253 = ad261 := (by injection e261)
        replace p261 := eq_true p261
        replace q261 := eq_true q261
        go_wp2
        repeat (go_quiet (fail); try go_wp2)
        go_ret
        exact ⟨_, by first | rfl | (simp [errW_none, errW_some] <;> rfl) | (simp only [← hji65]; first | rfl | (simp [errW_none, errW_some] <;> rfl)) | (simp [*, errW_none, errW_some] <;> rfl), by (with_reducible repeat (first | apply Kd.R_alloc | apply Kd.R_drewN | apply Kd.R_drew)); exact HO_7.out, by repeat (first | (with_reducible first | exact HB.out | apply below_alloc | apply pw_below_drewN | apply below_drew1) | exact HB.out)⟩
      rw [if_pos c82] at H
      have c82b0 : decide ((rd x7_1 (ji65)) < a2) = true := decide_eq_true c82
      clear c82
      by_cases c83 : x7_1.length < 17592186044416
      rotate_left
      · rw [if_neg c83] at H
        exact absurd H (by simp)
      rw [if_pos c83] at H
      have LMc83 := Aside0.mk c83
      clear c83
      obtain ⟨y262, hy262⟩ : ∃ y_ : List Int, y_ = (x7_1 ++ [a2]) := ⟨_, rfl⟩
      replace H : (some y262) = some r := by first | (rw [hy262]; with_reducible exact H) | (have H2_ := (Option.bind_some _ _).symm.trans H; rw [hy262]; with_reducible exact H2_) | (have H2_ := (Option.bind_some _ _).symm.trans H; with_reducible exact H2_) | with_reducible exact H | (rw [hy262]; exact H) | exact H
      have Ny262 := Aside0.mk hy262
      clear hy262
      obtain rfl := Option.some.inj H
      obtain ⟨Ao84, co84, eo84⟩ := Kd.R_slice HO_7.out
      subst eo84
      have p253 : 0 ≤ ((ji65) : Int) := of_decide_eq_true (by first | (with_reducible assumption) | assumption)
      have q253 : (ji65) < (x7_1.length : Int) := of_decide_eq_true (by first | (with_reducible assumption) | assumption)
      obtain ⟨ad253, e253, hx253_0⟩ := Kd.at_int (Kd.R_reads' HO_7.out).2.2 (ji65) p253 q253
      cases e253
      replace p253 := eq_true p253
      replace q253 := eq_true q253
      have p261 : 0 ≤ ((ji65) : Int) := of_decide_eq_true (by first | (with_reducible assumption) | assumption)
      have q261 : (ji65) < (x7_1.length : Int) := of_decide_eq_true (by first | (with_reducible assumption) | assumption)
      obtain ⟨ad261, e261, hx261_0⟩ := Kd.at_int (Kd.R_reads' HO_7.out).2.2 (ji65) p261 q261
      obtain rfl : ad253 = ad261 := (by injection e261)
      replace p261 := eq_true p261
      replace q261 := eq_true q261
      go_wp2_with (first | ((with_reducible refine gate_builtin (b := .append) (xs := #[.tmp 112, .tmp 114]) rfl ?_); at_builtin; refine Kd.R_append (Kd.int .i64) (w0 := w) w.heap.size rfl (.tmp 112) (.tmp 114) 63 2 (.int .i64 0) 8 rfl Try.underlying63 info2 rfl (by decide) (by omega) (.slice (some ad253) x7_1.length co84) x7_1 a2 [.int .i64 a2] (fun _ => True) (fun _ => False) rfl rfl ?aP (fun _ hk => hk.elim) ?aF ?aO ?aB ?aS ?aL ?_; (case aP => exact rfl); (case aB => exact (by repeat (first | (with_reducible first | exact HB.out | apply below_alloc | apply pw_below_drewN | apply below_drew1) | exact HB.out))); (case aF => exact (fun _ _ => trivial)); (case aO => exact (by (with_reducible repeat (first | apply Kd.R_alloc | apply Kd.R_drewN | apply Kd.R_drew)); exact HO_7.out)); (case aS => exact (below_size (by repeat (first | (with_reducible first | exact HB.out | apply below_alloc | apply pw_below_drewN | apply below_drew1) | exact HB.out)))); (case aL => have := LMc83.out; omega); intro v263 w85 ho hb hg hat; rw [← Ny262.out] at ho; have n0_ := Aside0.mk (hb); have n1_ := Aside0.mk (ho); clear HB; clear HO_7; have HB := n0_; have HO264 := n1_; clear n0_ n1_; clear ho hb hg hat))
      repeat (go_quiet (first | ((with_reducible refine gate_builtin (b := .append) (xs := #[.tmp 112, .tmp 114]) rfl ?_); at_builtin; refine Kd.R_append (Kd.int .i64) (w0 := w) w.heap.size rfl (.tmp 112) (.tmp 114) 63 2 (.int .i64 0) 8 rfl Try.underlying63 info2 rfl (by decide) (by omega) (.slice (some ad253) x7_1.length co84) x7_1 a2 [.int .i64 a2] (fun _ => True) (fun _ => False) rfl rfl ?aP (fun _ hk => hk.elim) ?aF ?aO ?aB ?aS ?aL ?_; (case aP => exact rfl); (case aB => exact (by repeat (first | (with_reducible first | exact HB.out | apply below_alloc | apply pw_below_drewN | apply below_drew1) | exact HB.out))); (case aF => exact (fun _ _ => trivial)); (case aO => exact (by (with_reducible repeat (first | apply Kd.R_alloc | apply Kd.R_drewN | apply Kd.R_drew)); exact HO_7.out)); (case aS => exact (below_size (by repeat (first | (with_reducible first | exact HB.out | apply below_alloc | apply pw_below_drewN | apply below_drew1) | exact HB.out)))); (case aL => have := LMc83.out; omega); intro v263 w85 ho hb hg hat; rw [← Ny262.out] at ho; have n0_ := Aside0.mk (hb); have n1_ := Aside0.mk (ho); clear HB; clear HO_7; have HB := n0_; have HO264 := n1_; clear n0_ n1_; clear ho hb hg hat)); try go_wp2_with (first | ((with_reducible refine gate_builtin (b := .append) (xs := #[.tmp 112, .tmp 114]) rfl ?_); at_builtin; refine Kd.R_append (Kd.int .i64) (w0 := w) w.heap.size rfl (.tmp 112) (.tmp 114) 63 2 (.int .i64 0) 8 rfl Try.underlying63 info2 rfl (by decide) (by omega) (.slice (some ad253) x7_1.length co84) x7_1 a2 [.int .i64 a2] (fun _ => True) (fun _ => False) rfl rfl ?aP (fun _ hk => hk.elim) ?aF ?aO ?aB ?aS ?aL ?_; (case aP => exact rfl); (case aB => exact (by repeat (first | (with_reducible first | exact HB.out | apply below_alloc | apply pw_below_drewN | apply below_drew1) | exact HB.out))); (case aF => exact (fun _ _ => trivial)); (case aO => exact (by (with_reducible repeat (first | apply Kd.R_alloc | apply Kd.R_drewN | apply Kd.R_drew)); exact HO_7.out)); (case aS => exact (below_size (by repeat (first | (with_reducible first | exact HB.out | apply below_alloc | apply pw_below_drewN | apply below_drew1) | exact HB.out)))); (case aL => have := LMc83.out; omega); intro v263 w85 ho hb hg hat; rw [← Ny262.out] at ho; have n0_ := Aside0.mk (hb); have n1_ := Aside0.mk (ho); clear HB; clear HO_7; have HB := n0_; have HO264 := n1_; clear n0_ n1_; clear ho hb hg hat)))
      go_ret
      exact ⟨_, by first | rfl | (simp [errW_none, errW_some] <;> rfl) | (simp only [← hji65]; first | rfl | (simp [errW_none, errW_some] <;> rfl)) | (simp [*, errW_none, errW_some] <;> rfl), by (with_reducible repeat (first | apply Kd.R_alloc | apply Kd.R_drewN | apply Kd.R_drew)); exact HO264.out, by repeat (first | (with_reducible first | exact HB.out | apply below_alloc | apply pw_below_drewN | apply below_drew1) | exact HB.out)⟩
    rw [if_pos c68] at H
    have c68b0 : decide ((rd x7_1 (ji65)) < a1) = true := decide_eq_true c68
    clear c68
    by_cases c69 : x7_1.length < 17592186044416
    rotate_left
    · rw [if_neg c69] at H
      exact absurd H (by simp)
    rw [if_pos c69] at H
    have LMc69 := Aside0.mk c69
    clear c69
    obtain ⟨y254, hy254⟩ : ∃ y_ : List Int, y_ = (x7_1 ++ [a1]) := ⟨_, rfl⟩
    replace H : (if 0 ≤ (wrap64 ((y254.length : Int) - 1)) then (if (wrap64 ((y254.length : Int) - 1)) < (y254.length : Int) then (if (rd y254 (wrap64 ((y254.length : Int) - 1))) < a2 then (if y254.length < 17592186044416 then (some (y254 ++ [a2])) else (none)) else (some y254)) else (none)) else (none)) = some r := by first | (rw [hy254]; with_reducible exact H) | (have H2_ := (Option.bind_some _ _).symm.trans H; rw [hy254]; with_reducible exact H2_) | (have H2_ := (Option.bind_some _ _).symm.trans H; with_reducible exact H2_) | with_reducible exact H | (rw [hy254]; exact H) | exact H
    have Ny254 := Aside0.mk hy254
    clear hy254
    obtain ⟨ji70, hji70⟩ : ∃ j_ : Int, (wrap64 ((y254.length : Int) - 1)) = j_ := ⟨_, rfl⟩
    replace H : (if 0 ≤ (ji70) then (if (ji70) < (y254.length : Int) then (if (rd y254 (ji70)) < a2 then (if y254.length < 17592186044416 then (some (y254 ++ [a2])) else (none)) else (some y254)) else (none)) else (none)) = some r := by first | (rw [hji70] at H; exact H) | (simp only [hji70] at H ⊢; exact H)
    have hji70w : (IntKind.i64.wrap ((y254.length : Int) - 1)) = ji70 := (i64_w _).trans hji70
    by_cases c71 : 0 ≤ (ji70)
    rotate_left
    · rw [if_neg c71] at H
      exact absurd H (by simp)
    rw [if_pos c71] at H
    have c71b0 : decide (0 ≤ (ji70)) = true := decide_eq_true c71
    clear c71
    by_cases c72 : (ji70) < (y254.length : Int)
    rotate_left
    · rw [if_neg c72] at H
      exact absurd H (by simp)
    rw [if_pos c72] at H
    have c72b0 : decide ((ji70) < (y254.length : Int)) = true := decide_eq_true c72
    clear c72
    by_cases c73 : (rd y254 (ji70)) < a2
    rotate_left
    · rw [if_neg c73] at H
      have c73b0 : decide ((rd y254 (ji70)) < a2) = false := decide_eq_false c73
      clear c73
      obtain rfl := Option.some.inj H
      obtain ⟨Ao79, co79, eo79⟩ := Kd.R_slice HO_7.out
      subst eo79
      have p253 : 0 ≤ ((ji65) : Int) := of_decide_eq_true (by first | (with_reducible assumption) | assumption)
      have q253 : (ji65) < (x7_1.length : Int) := of_decide_eq_true (by first | (with_reducible assumption) | assumption)
      obtain ⟨ad253, e253, hx253_0⟩ := Kd.at_int (Kd.R_reads' HO_7.out).2.2 (ji65) p253 q253
      cases e253
      replace p253 := eq_true p253
      replace q253 := eq_true q253
      go_wp2_with (first | ((with_reducible refine gate_builtin (b := .append) (xs := #[.tmp 100, .tmp 102]) rfl ?_); at_builtin; refine Kd.R_append (Kd.int .i64) (w0 := w) w.heap.size rfl (.tmp 100) (.tmp 102) 63 2 (.int .i64 0) 8 rfl Try.underlying63 info2 rfl (by decide) (by omega) (.slice (some ad253) x7_1.length co79) x7_1 a1 [.int .i64 a1] (fun _ => True) (fun _ => False) rfl rfl ?aP (fun _ hk => hk.elim) ?aF ?aO ?aB ?aS ?aL ?_; (case aP => exact rfl); (case aB => exact (by repeat (first | (with_reducible first | exact HB.out | apply below_alloc | apply pw_below_drewN | apply below_drew1) | exact HB.out))); (case aF => exact (fun _ _ => trivial)); (case aO => exact (by (with_reducible repeat (first | apply Kd.R_alloc | apply Kd.R_drewN | apply Kd.R_drew)); exact HO_7.out)); (case aS => exact (below_size (by repeat (first | (with_reducible first | exact HB.out | apply below_alloc | apply pw_below_drewN | apply below_drew1) | exact HB.out)))); (case aL => have := LMc69.out; omega); intro v255 w80 ho hb hg hat; rw [← Ny254.out] at ho; have n0_ := Aside0.mk (hb); have n1_ := Aside0.mk (ho); clear HB; clear HO_7; have HB := n0_; have HO256 := n1_; clear n0_ n1_; clear ho hb hg hat; obtain ⟨Ao81, co81, eo81⟩ := Kd.R_slice HO256.out; subst eo81; have p257 : 0 ≤ ((ji70) : Int) := of_decide_eq_true (by first | (with_reducible assumption) | assumption); have q257 : (ji70) < (y254.length : Int) := of_decide_eq_true (by first | (with_reducible assumption) | assumption); obtain ⟨ad257, e257, hx257_0⟩ := Kd.at_int (Kd.R_reads' HO256.out).2.2 (ji70) p257 q257; cases e257; replace p257 := eq_true p257; replace q257 := eq_true q257))
      repeat (go_quiet (first | ((with_reducible refine gate_builtin (b := .append) (xs := #[.tmp 100, .tmp 102]) rfl ?_); at_builtin; refine Kd.R_append (Kd.int .i64) (w0 := w) w.heap.size rfl (.tmp 100) (.tmp 102) 63 2 (.int .i64 0) 8 rfl Try.underlying63 info2 rfl (by decide) (by omega) (.slice (some ad253) x7_1.length co79) x7_1 a1 [.int .i64 a1] (fun _ => True) (fun _ => False) rfl rfl ?aP (fun _ hk => hk.elim) ?aF ?aO ?aB ?aS ?aL ?_; (case aP => exact rfl); (case aB => exact (by repeat (first | (with_reducible first | exact HB.out | apply below_alloc | apply pw_below_drewN | apply below_drew1) | exact HB.out))); (case aF => exact (fun _ _ => trivial)); (case aO => exact (by (with_reducible repeat (first | apply Kd.R_alloc | apply Kd.R_drewN | apply Kd.R_drew)); exact HO_7.out)); (case aS => exact (below_size (by repeat (first | (with_reducible first | exact HB.out | apply below_alloc | apply pw_below_drewN | apply below_drew1) | exact HB.out)))); (case aL => have := LMc69.out; omega); intro v255 w80 ho hb hg hat; rw [← Ny254.out] at ho; have n0_ := Aside0.mk (hb); have n1_ := Aside0.mk (ho); clear HB; clear HO_7; have HB := n0_; have HO256 := n1_; clear n0_ n1_; clear ho hb hg hat; obtain ⟨Ao81, co81, eo81⟩ := Kd.R_slice HO256.out; subst eo81; have p257 : 0 ≤ ((ji70) : Int) := of_decide_eq_true (by first | (with_reducible assumption) | assumption); have q257 : (ji70) < (y254.length : Int) := of_decide_eq_true (by first | (with_reducible assumption) | assumption); obtain ⟨ad257, e257, hx257_0⟩ := Kd.at_int (Kd.R_reads' HO256.out).2.2 (ji70) p257 q257; cases e257; replace p257 := eq_true p257; replace q257 := eq_true q257)); try go_wp2_with (first | ((with_reducible refine gate_builtin (b := .append) (xs := #[.tmp 100, .tmp 102]) rfl ?_); at_builtin; refine Kd.R_append (Kd.int .i64) (w0 := w) w.heap.size rfl (.tmp 100) (.tmp 102) 63 2 (.int .i64 0) 8 rfl Try.underlying63 info2 rfl (by decide) (by omega) (.slice (some ad253) x7_1.length co79) x7_1 a1 [.int .i64 a1] (fun _ => True) (fun _ => False) rfl rfl ?aP (fun _ hk => hk.elim) ?aF ?aO ?aB ?aS ?aL ?_; (case aP => exact rfl); (case aB => exact (by repeat (first | (with_reducible first | exact HB.out | apply below_alloc | apply pw_below_drewN | apply below_drew1) | exact HB.out))); (case aF => exact (fun _ _ => trivial)); (case aO => exact (by (with_reducible repeat (first | apply Kd.R_alloc | apply Kd.R_drewN | apply Kd.R_drew)); exact HO_7.out)); (case aS => exact (below_size (by repeat (first | (with_reducible first | exact HB.out | apply below_alloc | apply pw_below_drewN | apply below_drew1) | exact HB.out)))); (case aL => have := LMc69.out; omega); intro v255 w80 ho hb hg hat; rw [← Ny254.out] at ho; have n0_ := Aside0.mk (hb); have n1_ := Aside0.mk (ho); clear HB; clear HO_7; have HB := n0_; have HO256 := n1_; clear n0_ n1_; clear ho hb hg hat; obtain ⟨Ao81, co81, eo81⟩ := Kd.R_slice HO256.out; subst eo81; have p257 : 0 ≤ ((ji70) : Int) := of_decide_eq_true (by first | (with_reducible assumption) | assumption); have q257 : (ji70) < (y254.length : Int) := of_decide_eq_true (by first | (with_reducible assumption) | assumption); obtain ⟨ad257, e257, hx257_0⟩ := Kd.at_int (Kd.R_reads' HO256.out).2.2 (ji70) p257 q257; cases e257; replace p257 := eq_true p257; replace q257 := eq_true q257)))
      go_ret
      exact ⟨_, by first | rfl | (simp [errW_none, errW_some] <;> rfl) | (simp only [← hji65, ← hji70]; first | rfl | (simp [errW_none, errW_some] <;> rfl)) | (simp [*, errW_none, errW_some] <;> rfl), by (with_reducible repeat (first | apply Kd.R_alloc | apply Kd.R_drewN | apply Kd.R_drew)); exact HO256.out, by repeat (first | (with_reducible first | exact HB.out | apply below_alloc | apply pw_below_drewN | apply below_drew1) | exact HB.out)⟩
    rw [if_pos c73] at H
    have c73b0 : decide ((rd y254 (ji70)) < a2) = true := decide_eq_true c73
    clear c73
    by_cases c74 : y254.length < 17592186044416
    rotate_left
    · rw [if_neg c74] at H
      exact absurd H (by simp)
    rw [if_pos c74] at H
    have LMc74 := Aside0.mk c74
    clear c74
    obtain ⟨y258, hy258⟩ : ∃ y_ : List Int, y_ = (y254 ++ [a2]) := ⟨_, rfl⟩
    replace H : (some y258) = some r := by first | (rw [hy258]; with_reducible exact H) | (have H2_ := (Option.bind_some _ _).symm.trans H; rw [hy258]; with_reducible exact H2_) | (have H2_ := (Option.bind_some _ _).symm.trans H; with_reducible exact H2_) | with_reducible exact H | (rw [hy258]; exact H) | exact H
    have Ny258 := Aside0.mk hy258
    clear hy258
    obtain rfl := Option.some.inj H
    obtain ⟨Ao75, co75, eo75⟩ := Kd.R_slice HO_7.out
    subst eo75
    have p253 : 0 ≤ ((ji65) : Int) := of_decide_eq_true (by first | (with_reducible assumption) | assumption)
    have q253 : (ji65) < (x7_1.length : Int) := of_decide_eq_true (by first | (with_reducible assumption) | assumption)
    obtain ⟨ad253, e253, hx253_0⟩ := Kd.at_int (Kd.R_reads' HO_7.out).2.2 (ji65) p253 q253
    cases e253
    replace p253 := eq_true p253
    replace q253 := eq_true q253
    go_wp2_with (first | ((with_reducible refine gate_builtin (b := .append) (xs := #[.tmp 100, .tmp 102]) rfl ?_); at_builtin; refine Kd.R_append (Kd.int .i64) (w0 := w) w.heap.size rfl (.tmp 100) (.tmp 102) 63 2 (.int .i64 0) 8 rfl Try.underlying63 info2 rfl (by decide) (by omega) (.slice (some ad253) x7_1.length co75) x7_1 a1 [.int .i64 a1] (fun _ => True) (fun _ => False) rfl rfl ?aP (fun _ hk => hk.elim) ?aF ?aO ?aB ?aS ?aL ?_; (case aP => exact rfl); (case aB => exact (by repeat (first | (with_reducible first | exact HB.out | apply below_alloc | apply pw_below_drewN | apply below_drew1) | exact HB.out))); (case aF => exact (fun _ _ => trivial)); (case aO => exact (by (with_reducible repeat (first | apply Kd.R_alloc | apply Kd.R_drewN | apply Kd.R_drew)); exact HO_7.out)); (case aS => exact (below_size (by repeat (first | (with_reducible first | exact HB.out | apply below_alloc | apply pw_below_drewN | apply below_drew1) | exact HB.out)))); (case aL => have := LMc69.out; omega); intro v255 w76 ho hb hg hat; rw [← Ny254.out] at ho; have n0_ := Aside0.mk (hb); have n1_ := Aside0.mk (ho); clear HB; clear HO_7; have HB := n0_; have HO256 := n1_; clear n0_ n1_; clear ho hb hg hat; obtain ⟨Ao77, co77, eo77⟩ := Kd.R_slice HO256.out; subst eo77; have p257 : 0 ≤ ((ji70) : Int) := of_decide_eq_true (by first | (with_reducible assumption) | assumption); have q257 : (ji70) < (y254.length : Int) := of_decide_eq_true (by first | (with_reducible assumption) | assumption); obtain ⟨ad257, e257, hx257_0⟩ := Kd.at_int (Kd.R_reads' HO256.out).2.2 (ji70) p257 q257; cases e257; replace p257 := eq_true p257; replace q257 := eq_true q257) | ((with_reducible refine gate_builtin (b := .append) (xs := #[.tmp 112, .tmp 114]) rfl ?_); at_builtin; refine Kd.R_append (Kd.int .i64) (w0 := w) w.heap.size rfl (.tmp 112) (.tmp 114) 63 2 (.int .i64 0) 8 rfl Try.underlying63 info2 rfl (by decide) (by omega) (.slice (some ad257) y254.length co77) y254 a2 [.int .i64 a2] (fun _ => True) (fun _ => False) rfl rfl ?aP (fun _ hk => hk.elim) ?aF ?aO ?aB ?aS ?aL ?_; (case aP => exact rfl); (case aB => exact (by repeat (first | (with_reducible first | exact HB.out | apply below_alloc | apply pw_below_drewN | apply below_drew1) | exact HB.out))); (case aF => exact (fun _ _ => trivial)); (case aO => exact (by (with_reducible repeat (first | apply Kd.R_alloc | apply Kd.R_drewN | apply Kd.R_drew)); exact HO256.out)); (case aS => exact (below_size (by repeat (first | (with_reducible first | exact HB.out | apply below_alloc | apply pw_below_drewN | apply below_drew1) | exact HB.out)))); (case aL => have := LMc74.out; omega); intro v259 w78 ho hb hg hat; rw [← Ny258.out] at ho; have n0_ := Aside0.mk (hb); have n1_ := Aside0.mk (ho); clear HB; clear HO256; have HB := n0_; have HO260 := n1_; clear n0_ n1_; clear ho hb hg hat))
    repeat (go_quiet (first | ((with_reducible refine gate_builtin (b := .append) (xs := #[.tmp 100, .tmp 102]) rfl ?_); at_builtin; refine Kd.R_append (Kd.int .i64) (w0 := w) w.heap.size rfl (.tmp 100) (.tmp 102) 63 2 (.int .i64 0) 8 rfl Try.underlying63 info2 rfl (by decide) (by omega) (.slice (some ad253) x7_1.length co75) x7_1 a1 [.int .i64 a1] (fun _ => True) (fun _ => False) rfl rfl ?aP (fun _ hk => hk.elim) ?aF ?aO ?aB ?aS ?aL ?_; (case aP => exact rfl); (case aB => exact (by repeat (first | (with_reducible first | exact HB.out | apply below_alloc | apply pw_below_drewN | apply below_drew1) | exact HB.out))); (case aF => exact (fun _ _ => trivial)); (case aO => exact (by (with_reducible repeat (first | apply Kd.R_alloc | apply Kd.R_drewN | apply Kd.R_drew)); exact HO_7.out)); (case aS => exact (below_size (by repeat (first | (with_reducible first | exact HB.out | apply below_alloc | apply pw_below_drewN | apply below_drew1) | exact HB.out)))); (case aL => have := LMc69.out; omega); intro v255 w76 ho hb hg hat; rw [← Ny254.out] at ho; have n0_ := Aside0.mk (hb); have n1_ := Aside0.mk (ho); clear HB; clear HO_7; have HB := n0_; have HO256 := n1_; clear n0_ n1_; clear ho hb hg hat; obtain ⟨Ao77, co77, eo77⟩ := Kd.R_slice HO256.out; subst eo77; have p257 : 0 ≤ ((ji70) : Int) := of_decide_eq_true (by first | (with_reducible assumption) | assumption); have q257 : (ji70) < (y254.length : Int) := of_decide_eq_true (by first | (with_reducible assumption) | assumption); obtain ⟨ad257, e257, hx257_0⟩ := Kd.at_int (Kd.R_reads' HO256.out).2.2 (ji70) p257 q257; cases e257; replace p257 := eq_true p257; replace q257 := eq_true q257) | ((with_reducible refine gate_builtin (b := .append) (xs := #[.tmp 112, .tmp 114]) rfl ?_); at_builtin; refine Kd.R_append (Kd.int .i64) (w0 := w) w.heap.size rfl (.tmp 112) (.tmp 114) 63 2 (.int .i64 0) 8 rfl Try.underlying63 info2 rfl (by decide) (by omega) (.slice (some ad257) y254.length co77) y254 a2 [.int .i64 a2] (fun _ => True) (fun _ => False) rfl rfl ?aP (fun _ hk => hk.elim) ?aF ?aO ?aB ?aS ?aL ?_; (case aP => exact rfl); (case aB => exact (by repeat (first | (with_reducible first | exact HB.out | apply below_alloc | apply pw_below_drewN | apply below_drew1) | exact HB.out))); (case aF => exact (fun _ _ => trivial)); (case aO => exact (by (with_reducible repeat (first | apply Kd.R_alloc | apply Kd.R_drewN | apply Kd.R_drew)); exact HO256.out)); (case aS => exact (below_size (by repeat (first | (with_reducible first | exact HB.out | apply below_alloc | apply pw_below_drewN | apply below_drew1) | exact HB.out)))); (case aL => have := LMc74.out; omega); intro v259 w78 ho hb hg hat; rw [← Ny258.out] at ho; have n0_ := Aside0.mk (hb); have n1_ := Aside0.mk (ho); clear HB; clear HO256; have HB := n0_; have HO260 := n1_; clear n0_ n1_; clear ho hb hg hat)); try go_wp2_with (first | ((with_reducible refine gate_builtin (b := .append) (xs := #[.tmp 100, .tmp 102]) rfl ?_); at_builtin; refine Kd.R_append (Kd.int .i64) (w0 := w) w.heap.size rfl (.tmp 100) (.tmp 102) 63 2 (.int .i64 0) 8 rfl Try.underlying63 info2 rfl (by decide) (by omega) (.slice (some ad253) x7_1.length co75) x7_1 a1 [.int .i64 a1] (fun _ => True) (fun _ => False) rfl rfl ?aP (fun _ hk => hk.elim) ?aF ?aO ?aB ?aS ?aL ?_; (case aP => exact rfl); (case aB => exact (by repeat (first | (with_reducible first | exact HB.out | apply below_alloc | apply pw_below_drewN | apply below_drew1) | exact HB.out))); (case aF => exact (fun _ _ => trivial)); (case aO => exact (by (with_reducible repeat (first | apply Kd.R_alloc | apply Kd.R_drewN | apply Kd.R_drew)); exact HO_7.out)); (case aS => exact (below_size (by repeat (first | (with_reducible first | exact HB.out | apply below_alloc | apply pw_below_drewN | apply below_drew1) | exact HB.out)))); (case aL => have := LMc69.out; omega); intro v255 w76 ho hb hg hat; rw [← Ny254.out] at ho; have n0_ := Aside0.mk (hb); have n1_ := Aside0.mk (ho); clear HB; clear HO_7; have HB := n0_; have HO256 := n1_; clear n0_ n1_; clear ho hb hg hat; obtain ⟨Ao77, co77, eo77⟩ := Kd.R_slice HO256.out; subst eo77; have p257 : 0 ≤ ((ji70) : Int) := of_decide_eq_true (by first | (with_reducible assumption) | assumption); have q257 : (ji70) < (y254.length : Int) := of_decide_eq_true (by first | (with_reducible assumption) | assumption); obtain ⟨ad257, e257, hx257_0⟩ := Kd.at_int (Kd.R_reads' HO256.out).2.2 (ji70) p257 q257; cases e257; replace p257 := eq_true p257; replace q257 := eq_true q257) | ((with_reducible refine gate_builtin (b := .append) (xs := #[.tmp 112, .tmp 114]) rfl ?_); at_builtin; refine Kd.R_append (Kd.int .i64) (w0 := w) w.heap.size rfl (.tmp 112) (.tmp 114) 63 2 (.int .i64 0) 8 rfl Try.underlying63 info2 rfl (by decide) (by omega) (.slice (some ad257) y254.length co77) y254 a2 [.int .i64 a2] (fun _ => True) (fun _ => False) rfl rfl ?aP (fun _ hk => hk.elim) ?aF ?aO ?aB ?aS ?aL ?_; (case aP => exact rfl); (case aB => exact (by repeat (first | (with_reducible first | exact HB.out | apply below_alloc | apply pw_below_drewN | apply below_drew1) | exact HB.out))); (case aF => exact (fun _ _ => trivial)); (case aO => exact (by (with_reducible repeat (first | apply Kd.R_alloc | apply Kd.R_drewN | apply Kd.R_drew)); exact HO256.out)); (case aS => exact (below_size (by repeat (first | (with_reducible first | exact HB.out | apply below_alloc | apply pw_below_drewN | apply below_drew1) | exact HB.out)))); (case aL => have := LMc74.out; omega); intro v259 w78 ho hb hg hat; rw [← Ny258.out] at ho; have n0_ := Aside0.mk (hb); have n1_ := Aside0.mk (ho); clear HB; clear HO256; have HB := n0_; have HO260 := n1_; clear n0_ n1_; clear ho hb hg hat)))
    go_ret
    exact ⟨_, by first | rfl | (simp [errW_none, errW_some] <;> rfl) | (simp only [← hji65, ← hji70]; first | rfl | (simp [errW_none, errW_some] <;> rfl)) | (simp [*, errW_none, errW_some] <;> rfl), by (with_reducible repeat (first | apply Kd.R_alloc | apply Kd.R_drewN | apply Kd.R_drew)); exact HO260.out, by repeat (first | (with_reducible first | exact HB.out | apply below_alloc | apply pw_below_drewN | apply below_drew1) | exact HB.out)⟩
  rw [if_pos c4] at H
  have c4b0 : decide (x8_1 < (l0.length : Int)) = true := decide_eq_true c4
  clear c4
  have HC5 := Aside0.mk H
  clear H
  go_upto_region 5 with (fail)
  repeat (go_quiet (fail); go_upto_region 5 with (fail))
  go_cut [36] (fun v36 wc => ∃ (kq : Nat) (x36_4 : Bool), v36 = .bool x36_4 ∧ Aside0 (bailiwickref03_times.j1 kq l0 a1 a2 x7_1 x8_1 x36_4 = some r) ∧ Aside0 (kq ≤ k1) ∧ Aside0 (Kd.R (Kd.int .i64) 2 wc w.heap.size (fun _ => True) u7 x7_1) ∧ Aside0 (Below w.heap.size w wc))
  case first =>
    have H := HC5.out
    clear HC5
    by_cases c6 : 0 ≤ x8_1
    rotate_left
    · rw [if_neg c6] at H
      exact absurd H (by simp)
    rw [if_pos c6] at H
    have c6b0 : decide (0 ≤ x8_1) = true := decide_eq_true c6
    clear c6
    (first | rw [c6b0] | (simp only [i64_w, i32_w]; rw [c6b0]) | skip)
    by_cases c7 : a1 < ((rd_T38 l0 x8_1).f0)
    rotate_left
    · rw [if_neg c7] at H
      have c7b0 : decide (a1 < ((rd_T38 l0 x8_1).f0)) = false := decide_eq_false c7
      clear c7
      have H' := Aside0.mk H
      clear H
      have p223 : 0 ≤ (x8_1 : Int) := of_decide_eq_true (by first | (with_reducible assumption) | assumption)
      have q223 : x8_1 < (l0.length : Int) := of_decide_eq_true (by first | (with_reducible assumption) | assumption)
      obtain ⟨ad223, e223, hx223_0, hx223_1⟩ := at_T38 HR0.out x8_1 p223 q223
      cases e223
      replace hx223_0 := (HB.out.cell (World.block_lt_of_cell? w _ hx223_0)).trans hx223_0
      replace hx223_1 := (HB.out.cell (World.block_lt_of_cell? w _ hx223_1)).trans hx223_1
      replace p223 := eq_true p223
      replace q223 := eq_true q223
      go_wp2
      repeat (go_quiet (fail); try go_wp2)
      go_meet
      case rel => exact ⟨_, (false), (by first | rfl | (simp; done) | (simp [*]; done)), H', ⟨by have := HK1.out; first | omega | exact Nat.le_refl _⟩, ⟨by (with_reducible repeat (first | apply Kd.R_alloc | apply Kd.R_drewN | apply Kd.R_drew)); exact HO_7.out⟩, ⟨by repeat (first | (with_reducible first | exact HB.out | apply below_alloc | apply pw_below_drewN | apply below_drew1) | exact HB.out)⟩⟩
    rw [if_pos c7] at H
    have c7b0 : decide (a1 < ((rd_T38 l0 x8_1).f0)) = true := decide_eq_true c7
    clear c7
    by_cases c8 : (x7_1.length : Int) = 0
    · rw [if_pos c8] at H
      have c8b0 : ((x7_1.length : Int) == 0) = true := beq_iff_eq.mpr c8
      have c8b1 : ((x7_1.length : Int) != 0) = false := bne_eq_false_iff_eq.mpr c8
      clear c8
      have H' := Aside0.mk H
      clear H
      have p223 : 0 ≤ (x8_1 : Int) := of_decide_eq_true (by first | (with_reducible assumption) | assumption)
      have q223 : x8_1 < (l0.length : Int) := of_decide_eq_true (by first | (with_reducible assumption) | assumption)
      obtain ⟨ad223, e223, hx223_0, hx223_1⟩ := at_T38 HR0.out x8_1 p223 q223
      cases e223
      replace hx223_0 := (HB.out.cell (World.block_lt_of_cell? w _ hx223_0)).trans hx223_0
      replace hx223_1 := (HB.out.cell (World.block_lt_of_cell? w _ hx223_1)).trans hx223_1
      replace p223 := eq_true p223
      replace q223 := eq_true q223
      obtain ⟨Ao9, co9, eo9⟩ := Kd.R_slice HO_7.out
      subst eo9
      go_wp2
      repeat (go_quiet (fail); try go_wp2)
      go_meet
      case rel => exact ⟨_, (true), (by first | rfl | (simp; done) | (simp [*]; done)), H', ⟨by have := HK1.out; first | omega | exact Nat.le_refl _⟩, ⟨by (with_reducible repeat (first | apply Kd.R_alloc | apply Kd.R_drewN | apply Kd.R_drew)); exact HO_7.out⟩, ⟨by repeat (first | (with_reducible first | exact HB.out | apply below_alloc | apply pw_below_drewN | apply below_drew1) | exact HB.out)⟩⟩
    rw [if_neg c8] at H
    have c8b0 : ((x7_1.length : Int) == 0) = false := beq_eq_false_iff_ne.mpr c8
    have c8b1 : ((x7_1.length : Int) != 0) = true := bne_iff_ne.mpr c8
    have c8b2 : ¬ (x7_1 = []) := fun h_ => c8 (by rw [h_]; rfl)
    obtain ⟨ji10, hji10⟩ : ∃ j_ : Int, (wrap64 ((x7_1.length : Int) - 1)) = j_ := ⟨_, rfl⟩
    replace H : (if 0 ≤ (ji10) then (if (ji10) < (x7_1.length : Int) then (bailiwickref03_times.j1 k1 l0 a1 a2 x7_1 x8_1 (decide ((rd x7_1 (ji10)) < a1))) else (none)) else (none)) = some r := by first | (rw [hji10] at H; exact H) | (simp only [hji10] at H ⊢; exact H)
    have hji10w : (IntKind.i64.wrap ((x7_1.length : Int) - 1)) = ji10 := (i64_w _).trans hji10
    by_cases c11 : 0 ≤ (ji10)
    rotate_left
    · rw [if_neg c11] at H
      exact absurd H (by simp)
    rw [if_pos c11] at H
    have c11b0 : decide (0 ≤ (ji10)) = true := decide_eq_true c11
    clear c11
    by_cases c12 : (ji10) < (x7_1.length : Int)
    rotate_left
    · rw [if_neg c12] at H
      exact absurd H (by simp)
    rw [if_pos c12] at H
    have c12b0 : decide ((ji10) < (x7_1.length : Int)) = true := decide_eq_true c12
    clear c12
    have H' := Aside0.mk H
    clear H
    have p223 : 0 ≤ (x8_1 : Int) := of_decide_eq_true (by first | (with_reducible assumption) | assumption)
    have q223 : x8_1 < (l0.length : Int) := of_decide_eq_true (by first | (with_reducible assumption) | assumption)
    obtain ⟨ad223, e223, hx223_0, hx223_1⟩ := at_T38 HR0.out x8_1 p223 q223
    cases e223
    replace hx223_0 := (HB.out.cell (World.block_lt_of_cell? w _ hx223_0)).trans hx223_0
    replace hx223_1 := (HB.out.cell (World.block_lt_of_cell? w _ hx223_1)).trans hx223_1
    replace p223 := eq_true p223
    replace q223 := eq_true q223
    obtain ⟨Ao13, co13, eo13⟩ := Kd.R_slice HO_7.out
    subst eo13
    have p224 : 0 ≤ ((ji10) : Int) := of_decide_eq_true (by first | (with_reducible assumption) | assumption)
    have q224 : (ji10) < (x7_1.length : Int) := of_decide_eq_true (by first | (with_reducible assumption) | assumption)
    obtain ⟨ad224, e224, hx224_0⟩ := Kd.at_int (Kd.R_reads' HO_7.out).2.2 (ji10) p224 q224
    cases e224
    replace p224 := eq_true p224
    replace q224 := eq_true q224
    go_wp2
    repeat (go_quiet (fail); try go_wp2)
    go_meet
    case rel => exact ⟨_, (decide ((rd x7_1 (ji10)) < a1)), (by first | rfl | (simp; done) | (simp only [← hji10] <;> (first | rfl | simp)) | (simp [*]; done)), H', ⟨by have := HK1.out; first | omega | exact Nat.le_refl _⟩, ⟨by (with_reducible repeat (first | apply Kd.R_alloc | apply Kd.R_drewN | apply Kd.R_drew)); exact HO_7.out⟩, ⟨by repeat (first | (with_reducible first | exact HB.out | apply below_alloc | apply pw_below_drewN | apply below_drew1) | exact HB.out)⟩⟩
  clear HC5
  try clear c1
  try clear p2
  try clear q2
  try clear hx2
  try clear c4
  try clear c4b0
  try clear c5
  try clear c6
  try clear c6b0
  try clear p6
  try clear c7
  try clear c7b0
  try clear c8
  try clear c8b0
  try clear c8b1
  try clear c8b2
  try clear c11
  try clear c11b0
  try clear c12
  try clear c12b0
  try clear hx223_0
  try clear hx223_1
  try clear hx224_0
  try clear p2
  try clear p223
  try clear p224
  try clear q223
  try clear q224
  obtain ⟨kq, x36_4, rfl, HA, HJ4, HO_7, HB⟩ := hcut
  rcases kq with _ | kj4
  · exact absurd HA.out (by simp [bailiwickref03_times.j1])
  have H := HA.out
  clear HA
  simp only [bailiwickref03_times.j1] at H
  have HC14 := Aside0.mk H
  clear H
  go_upto_if 36 with (fail)
  repeat (go_quiet (fail); go_upto_if 36 with (fail))
  go_cut [7] (fun v7 wc => ∃ (kq : Nat) (x7_13 : List Int), Aside0 (bailiwickref03_times.j2 kq l0 a1 a2 x7_13 x8_1 = some r) ∧ Aside0 (kq ≤ kj4) ∧ Aside0 (Kd.R (Kd.int .i64) 2 wc w.heap.size (fun _ => True) v7 x7_13) ∧ Aside0 (Below w.heap.size w wc))
  case first =>
    have H := HC14.out
    clear HC14
    by_cases c15 : x36_4 = true
    rotate_left
    · replace c15 := Bool.eq_false_iff.mpr c15
      subst c15
      have H1 : (bailiwickref03_times.j2 kj4 l0 a1 a2 x7_1 x8_1) = some r := by rw [if_neg (show ¬ (false = true) by decide)] at H; exact H
      clear H
      have H := H1
      clear H1
      have H' := Aside0.mk H
      clear H
      go_wp2
      repeat (go_quiet (fail); try go_wp2)
      go_meet
      case rel => exact ⟨_, (x7_1), H', ⟨by have := HK1.out; have := HJ4.out; first | omega | exact Nat.le_refl _⟩, ⟨by (with_reducible repeat (first | apply Kd.R_alloc | apply Kd.R_drewN | apply Kd.R_drew)); exact HO_7.out⟩, ⟨by repeat (first | (with_reducible first | exact HB.out | apply below_alloc | apply pw_below_drewN | apply below_drew1) | exact HB.out)⟩⟩
    subst c15
    have H1 : (if x7_1.length < 17592186044416 then (bailiwickref03_times.j2 kj4 l0 a1 a2 (x7_1 ++ [a1]) x8_1) else (none)) = some r := by rw [if_pos rfl] at H; exact H
    clear H
    have H := H1
    clear H1
    by_cases c16 : x7_1.length < 17592186044416
    rotate_left
    · rw [if_neg c16] at H
      exact absurd H (by simp)
    rw [if_pos c16] at H
    have LMc16 := Aside0.mk c16
    clear c16
    obtain ⟨y225, hy225⟩ : ∃ y_ : List Int, y_ = (x7_1 ++ [a1]) := ⟨_, rfl⟩
    replace H : (bailiwickref03_times.j2 kj4 l0 a1 a2 y225 x8_1) = some r := by first | (rw [hy225]; with_reducible exact H) | (have H2_ := (Option.bind_some _ _).symm.trans H; rw [hy225]; with_reducible exact H2_) | (have H2_ := (Option.bind_some _ _).symm.trans H; with_reducible exact H2_) | with_reducible exact H | (rw [hy225]; exact H) | exact H
    have Ny225 := Aside0.mk hy225
    clear hy225
    have H' := Aside0.mk H
    clear H
    go_wp2_with (first | ((with_reducible refine gate_builtin (b := .append) (xs := #[.tmp 37, .tmp 39]) rfl ?_); at_builtin; refine Kd.R_append (Kd.int .i64) (w0 := w) w.heap.size rfl (.tmp 37) (.tmp 39) 63 2 (.int .i64 0) 8 rfl Try.underlying63 info2 rfl (by decide) (by omega) u7 x7_1 a1 [.int .i64 a1] (fun _ => True) (fun _ => False) rfl rfl ?aP (fun _ hk => hk.elim) ?aF ?aO ?aB ?aS ?aL ?_; (case aP => exact rfl); (case aB => exact (by repeat (first | (with_reducible first | exact HB.out | apply below_alloc | apply pw_below_drewN | apply below_drew1) | exact HB.out))); (case aF => exact (fun _ _ => trivial)); (case aO => exact (by (with_reducible repeat (first | apply Kd.R_alloc | apply Kd.R_drewN | apply Kd.R_drew)); exact HO_7.out)); (case aS => exact (below_size (by repeat (first | (with_reducible first | exact HB.out | apply below_alloc | apply pw_below_drewN | apply below_drew1) | exact HB.out)))); (case aL => have := LMc16.out; omega); intro v226 w17 ho hb hg hat; rw [← Ny225.out] at ho; have n0_ := Aside0.mk (hb); have n1_ := Aside0.mk (ho); clear HB; clear HO_7; have HB := n0_; have HO227 := n1_; clear n0_ n1_; clear ho hb hg hat))
    repeat (go_quiet (first | ((with_reducible refine gate_builtin (b := .append) (xs := #[.tmp 37, .tmp 39]) rfl ?_); at_builtin; refine Kd.R_append (Kd.int .i64) (w0 := w) w.heap.size rfl (.tmp 37) (.tmp 39) 63 2 (.int .i64 0) 8 rfl Try.underlying63 info2 rfl (by decide) (by omega) u7 x7_1 a1 [.int .i64 a1] (fun _ => True) (fun _ => False) rfl rfl ?aP (fun _ hk => hk.elim) ?aF ?aO ?aB ?aS ?aL ?_; (case aP => exact rfl); (case aB => exact (by repeat (first | (with_reducible first | exact HB.out | apply below_alloc | apply pw_below_drewN | apply below_drew1) | exact HB.out))); (case aF => exact (fun _ _ => trivial)); (case aO => exact (by (with_reducible repeat (first | apply Kd.R_alloc | apply Kd.R_drewN | apply Kd.R_drew)); exact HO_7.out)); (case aS => exact (below_size (by repeat (first | (with_reducible first | exact HB.out | apply below_alloc | apply pw_below_drewN | apply below_drew1) | exact HB.out)))); (case aL => have := LMc16.out; omega); intro v226 w17 ho hb hg hat; rw [← Ny225.out] at ho; have n0_ := Aside0.mk (hb); have n1_ := Aside0.mk (ho); clear HB; clear HO_7; have HB := n0_; have HO227 := n1_; clear n0_ n1_; clear ho hb hg hat)); try go_wp2_with (first | ((with_reducible refine gate_builtin (b := .append) (xs := #[.tmp 37, .tmp 39]) rfl ?_); at_builtin; refine Kd.R_append (Kd.int .i64) (w0 := w) w.heap.size rfl (.tmp 37) (.tmp 39) 63 2 (.int .i64 0) 8 rfl Try.underlying63 info2 rfl (by decide) (by omega) u7 x7_1 a1 [.int .i64 a1] (fun _ => True) (fun _ => False) rfl rfl ?aP (fun _ hk => hk.elim) ?aF ?aO ?aB ?aS ?aL ?_; (case aP => exact rfl); (case aB => exact (by repeat (first | (with_reducible first | exact HB.out | apply below_alloc | apply pw_below_drewN | apply below_drew1) | exact HB.out))); (case aF => exact (fun _ _ => trivial)); (case aO => exact (by (with_reducible repeat (first | apply Kd.R_alloc | apply Kd.R_drewN | apply Kd.R_drew)); exact HO_7.out)); (case aS => exact (below_size (by repeat (first | (with_reducible first | exact HB.out | apply below_alloc | apply pw_below_drewN | apply below_drew1) | exact HB.out)))); (case aL => have := LMc16.out; omega); intro v226 w17 ho hb hg hat; rw [← Ny225.out] at ho; have n0_ := Aside0.mk (hb); have n1_ := Aside0.mk (ho); clear HB; clear HO_7; have HB := n0_; have HO227 := n1_; clear n0_ n1_; clear ho hb hg hat)))
    go_meet
    case rel => exact ⟨_, (y225), H', ⟨by have := HK1.out; have := HJ4.out; first | omega | exact Nat.le_refl _⟩, ⟨by (with_reducible repeat (first | apply Kd.R_alloc | apply Kd.R_drewN | apply Kd.R_drew)); exact HO227.out⟩, ⟨by repeat (first | (with_reducible first | exact HB.out | apply below_alloc | apply pw_below_drewN | apply below_drew1) | exact HB.out)⟩⟩
  clear HC14
  try clear c1
  try clear p2
  try clear q2
  try clear hx2
  try clear c4
  try clear c4b0
  try clear c5
  try clear c6
  try clear c6b0
  try clear p6
  try clear c7
  try clear c7b0
  try clear c8
  try clear c8b0
  try clear c8b1
  try clear c8b2
  try clear c11
  try clear c11b0
  try clear c12
  try clear c12b0
  try clear c15
  try clear c16
  try clear hx223_0
  try clear hx223_1
  try clear hx224_0
  try clear p2
  try clear p223
  try clear p224
  try clear p6
  try clear q2
  try clear q223
  try clear q224
  obtain ⟨kq, x7_13, HA, HJ13, HO_7, HB⟩ := hcut
  rcases kq with _ | kj13
  · exact absurd HA.out (by simp [bailiwickref03_times.j2])
  have H := HA.out
  clear HA
  simp only [bailiwickref03_times.j2] at H
  have HC18 := Aside0.mk H
  clear H
  go_upto_region 7 with (fail)
  repeat (go_quiet (fail); go_upto_region 7 with (fail))
  go_cut [62] (fun v62 wc => ∃ (kq : Nat) (x62_17 : Bool), v62 = .bool x62_17 ∧ Aside0 (bailiwickref03_times.j3 kq l0 a1 a2 x7_13 x8_1 x62_17 = some r) ∧ Aside0 (kq ≤ kj13) ∧ Aside0 (Kd.R (Kd.int .i64) 2 wc w.heap.size (fun _ => True) u7 x7_13) ∧ Aside0 (Below w.heap.size w wc))
  case first =>
    have H := HC18.out
    clear HC18
    by_cases c19 : 0 ≤ x8_1
    rotate_left
    · rw [if_neg c19] at H
      exact absurd H (by simp)
    rw [if_pos c19] at H
    have c19b0 : decide (0 ≤ x8_1) = true := decide_eq_true c19
    clear c19
    (first | rw [c19b0] | (simp only [i64_w, i32_w]; rw [c19b0]) | skip)
    by_cases c20 : x8_1 < (l0.length : Int)
    rotate_left
    · rw [if_neg c20] at H
      exact absurd H (by simp)
    rw [if_pos c20] at H
    have c20b0 : decide (x8_1 < (l0.length : Int)) = true := decide_eq_true c20
    clear c20
    by_cases c21 : a2 < ((rd_T38 l0 x8_1).f0)
    rotate_left
    · rw [if_neg c21] at H
      have c21b0 : decide (a2 < ((rd_T38 l0 x8_1).f0)) = false := decide_eq_false c21
      clear c21
      have H' := Aside0.mk H
      clear H
      have p228 : 0 ≤ (x8_1 : Int) := of_decide_eq_true (by first | (with_reducible assumption) | assumption)
      have q228 : x8_1 < (l0.length : Int) := of_decide_eq_true (by first | (with_reducible assumption) | assumption)
      obtain ⟨ad228, e228, hx228_0, hx228_1⟩ := at_T38 HR0.out x8_1 p228 q228
      cases e228
      replace hx228_0 := (HB.out.cell (World.block_lt_of_cell? w _ hx228_0)).trans hx228_0
      replace hx228_1 := (HB.out.cell (World.block_lt_of_cell? w _ hx228_1)).trans hx228_1
      replace p228 := eq_true p228
      replace q228 := eq_true q228
      go_wp2
      repeat (go_quiet (fail); try go_wp2)
      go_meet
      case rel => exact ⟨_, (false), (by first | rfl | (simp; done) | (simp [*]; done)), H', ⟨by have := HK1.out; have := HJ4.out; have := HJ13.out; first | omega | exact Nat.le_refl _⟩, ⟨by (with_reducible repeat (first | apply Kd.R_alloc | apply Kd.R_drewN | apply Kd.R_drew)); exact HO_7.out⟩, ⟨by repeat (first | (with_reducible first | exact HB.out | apply below_alloc | apply pw_below_drewN | apply below_drew1) | exact HB.out)⟩⟩
    rw [if_pos c21] at H
    have c21b0 : decide (a2 < ((rd_T38 l0 x8_1).f0)) = true := decide_eq_true c21
    clear c21
    by_cases c22 : (x7_13.length : Int) = 0
    · rw [if_pos c22] at H
      have c22b0 : ((x7_13.length : Int) == 0) = true := beq_iff_eq.mpr c22
      have c22b1 : ((x7_13.length : Int) != 0) = false := bne_eq_false_iff_eq.mpr c22
      clear c22
      have H' := Aside0.mk H
      clear H
      have p228 : 0 ≤ (x8_1 : Int) := of_decide_eq_true (by first | (with_reducible assumption) | assumption)
      have q228 : x8_1 < (l0.length : Int) := of_decide_eq_true (by first | (with_reducible assumption) | assumption)
      obtain ⟨ad228, e228, hx228_0, hx228_1⟩ := at_T38 HR0.out x8_1 p228 q228
      cases e228
      replace hx228_0 := (HB.out.cell (World.block_lt_of_cell? w _ hx228_0)).trans hx228_0
      replace hx228_1 := (HB.out.cell (World.block_lt_of_cell? w _ hx228_1)).trans hx228_1
      replace p228 := eq_true p228
      replace q228 := eq_true q228
      obtain ⟨Ao23, co23, eo23⟩ := Kd.R_slice HO_7.out
      subst eo23
      go_wp2
      repeat (go_quiet (fail); try go_wp2)
      go_meet
      case rel => exact ⟨_, (true), (by first | rfl | (simp; done) | (simp [*]; done)), H', ⟨by have := HK1.out; have := HJ4.out; have := HJ13.out; first | omega | exact Nat.le_refl _⟩, ⟨by (with_reducible repeat (first | apply Kd.R_alloc | apply Kd.R_drewN | apply Kd.R_drew)); exact HO_7.out⟩, ⟨by repeat (first | (with_reducible first | exact HB.out | apply below_alloc | apply pw_below_drewN | apply below_drew1) | exact HB.out)⟩⟩
    rw [if_neg c22] at H
    have c22b0 : ((x7_13.length : Int) == 0) = false := beq_eq_false_iff_ne.mpr c22
    have c22b1 : ((x7_13.length : Int) != 0) = true := bne_iff_ne.mpr c22
    have c22b2 : ¬ (x7_13 = []) := fun h_ => c22 (by rw [h_]; rfl)
    obtain ⟨ji24, hji24⟩ : ∃ j_ : Int, (wrap64 ((x7_13.length : Int) - 1)) = j_ := ⟨_, rfl⟩
    replace H : (if 0 ≤ (ji24) then (if (ji24) < (x7_13.length : Int) then (bailiwickref03_times.j3 kj13 l0 a1 a2 x7_13 x8_1 (decide ((rd x7_13 (ji24)) < a2))) else (none)) else (none)) = some r := by first | (rw [hji24] at H; exact H) | (simp only [hji24] at H ⊢; exact H)
    have hji24w : (IntKind.i64.wrap ((x7_13.length : Int) - 1)) = ji24 := (i64_w _).trans hji24
    by_cases c25 : 0 ≤ (ji24)
    rotate_left
    · rw [if_neg c25] at H
      exact absurd H (by simp)
    rw [if_pos c25] at H
    have c25b0 : decide (0 ≤ (ji24)) = true := decide_eq_true c25
    clear c25
    by_cases c26 : (ji24) < (x7_13.length : Int)
    rotate_left
    · rw [if_neg c26] at H
      exact absurd H (by simp)
    rw [if_pos c26] at H
    have c26b0 : decide ((ji24) < (x7_13.length : Int)) = true := decide_eq_true c26
    clear c26
    have H' := Aside0.mk H
    clear H
    have p228 : 0 ≤ (x8_1 : Int) := of_decide_eq_true (by first | (with_reducible assumption) | assumption)
    have q228 : x8_1 < (l0.length : Int) := of_decide_eq_true (by first | (with_reducible assumption) | assumption)
    obtain ⟨ad228, e228, hx228_0, hx228_1⟩ := at_T38 HR0.out x8_1 p228 q228
    cases e228
    replace hx228_0 := (HB.out.cell (World.block_lt_of_cell? w _ hx228_0)).trans hx228_0
    replace hx228_1 := (HB.out.cell (World.block_lt_of_cell? w _ hx228_1)).trans hx228_1
    replace p228 := eq_true p228
    replace q228 := eq_true q228
    obtain ⟨Ao27, co27, eo27⟩ := Kd.R_slice HO_7.out
    subst eo27
    have p229 : 0 ≤ ((ji24) : Int) := of_decide_eq_true (by first | (with_reducible assumption) | assumption)
    have q229 : (ji24) < (x7_13.length : Int) := of_decide_eq_true (by first | (with_reducible assumption) | assumption)
    obtain ⟨ad229, e229, hx229_0⟩ := Kd.at_int (Kd.R_reads' HO_7.out).2.2 (ji24) p229 q229
    cases e229
    replace p229 := eq_true p229
    replace q229 := eq_true q229
    go_wp2
    repeat (go_quiet (fail); try go_wp2)
    go_meet
    case rel => exact ⟨_, (decide ((rd x7_13 (ji24)) < a2)), (by first | rfl | (simp; done) | (simp only [← hji24] <;> (first | rfl | simp)) | (simp [*]; done)), H', ⟨by have := HK1.out; have := HJ4.out; have := HJ13.out; first | omega | exact Nat.le_refl _⟩, ⟨by (with_reducible repeat (first | apply Kd.R_alloc | apply Kd.R_drewN | apply Kd.R_drew)); exact HO_7.out⟩, ⟨by repeat (first | (with_reducible first | exact HB.out | apply below_alloc | apply pw_below_drewN | apply below_drew1) | exact HB.out)⟩⟩
  clear HC18
  try clear c1
  try clear c2
  try clear p2
  try clear q2
  try clear hx2
  try clear c4
  try clear c4b0
  try clear c5
  try clear c6
  try clear c6b0
  try clear p6
  try clear c7
  try clear c7b0
  try clear c8
  try clear c8b0
  try clear c8b1
  try clear c8b2
  try clear c11
  try clear c11b0
  try clear c12
  try clear c12b0
  try clear c15
  try clear c16
  try clear c19
  try clear c19b0
  try clear c20
  try clear c20b0
  try clear c21
  try clear c21b0
  try clear c22
  try clear c22b0
  try clear c22b1
  try clear c22b2
  try clear p22
  try clear q22
  try clear hx22
  try clear c25
  try clear c25b0
  try clear c26
  try clear c26b0
  try clear hx223_0
  try clear hx223_1
  try clear hx224_0
  try clear hx228_0
  try clear hx228_1
  try clear hx229_0
  try clear p2
  try clear p223
  try clear p224
  try clear p228
  try clear p229
  try clear p6
  try clear q2
  try clear q223
  try clear q224
  try clear q228
  try clear q229
  obtain ⟨kq, x62_17, rfl, HA, HJ17, HO_7, HB⟩ := hcut
  rcases kq with _ | kj17
  · exact absurd HA.out (by simp [bailiwickref03_times.j3])
  have H := HA.out
  clear HA
  simp only [bailiwickref03_times.j3] at H
  by_cases c28 : x62_17 = true
  · subst c28
    have H1 : (if x7_13.length < 17592186044416 then ((some (x7_13 ++ [a2] : List Int)).bind fun y230 => (if (y230.length : Int) = 0 then (if 0 ≤ x8_1 then (if x8_1 < (l0.length : Int) then (if y230.length < 17592186044416 then (bailiwickref03_times.l0 kj17 l0 a1 a2 (y230 ++ [(rd_T38 l0 x8_1).f0]) (wrap64 (x8_1 + 1))) else (none)) else (none)) else (none)) else (if 0 ≤ (wrap64 ((y230.length : Int) - 1)) then (if (wrap64 ((y230.length : Int) - 1)) < (y230.length : Int) then (if 0 ≤ x8_1 then (if x8_1 < (l0.length : Int) then (if (rd y230 (wrap64 ((y230.length : Int) - 1))) < ((rd_T38 l0 x8_1).f0) then (if y230.length < 17592186044416 then (bailiwickref03_times.l0 kj17 l0 a1 a2 (y230 ++ [(rd_T38 l0 x8_1).f0]) (wrap64 (x8_1 + 1))) else (none)) else (bailiwickref03_times.l0 kj17 l0 a1 a2 y230 (wrap64 (x8_1 + 1)))) else (none)) else (none)) else (none)) else (none)))) else (none)) = some r := by rw [if_pos rfl] at H; exact H
    clear H
    have H := H1
    clear H1
    by_cases c29 : x7_13.length < 17592186044416
    rotate_left
    · rw [if_neg c29] at H
      exact absurd H (by simp)
    rw [if_pos c29] at H
    have LMc29 := Aside0.mk c29
    clear c29
    obtain ⟨y230, hy230⟩ : ∃ y_ : List Int, y_ = (x7_13 ++ [a2]) := ⟨_, rfl⟩
    replace H : (if (y230.length : Int) = 0 then (if 0 ≤ x8_1 then (if x8_1 < (l0.length : Int) then (if y230.length < 17592186044416 then (bailiwickref03_times.l0 kj17 l0 a1 a2 (y230 ++ [(rd_T38 l0 x8_1).f0]) (wrap64 (x8_1 + 1))) else (none)) else (none)) else (none)) else (if 0 ≤ (wrap64 ((y230.length : Int) - 1)) then (if (wrap64 ((y230.length : Int) - 1)) < (y230.length : Int) then (if 0 ≤ x8_1 then (if x8_1 < (l0.length : Int) then (if (rd y230 (wrap64 ((y230.length : Int) - 1))) < ((rd_T38 l0 x8_1).f0) then (if y230.length < 17592186044416 then (bailiwickref03_times.l0 kj17 l0 a1 a2 (y230 ++ [(rd_T38 l0 x8_1).f0]) (wrap64 (x8_1 + 1))) else (none)) else (bailiwickref03_times.l0 kj17 l0 a1 a2 y230 (wrap64 (x8_1 + 1)))) else (none)) else (none)) else (none)) else (none))) = some r := by first | (rw [hy230]; with_reducible exact H) | (have H2_ := (Option.bind_some _ _).symm.trans H; rw [hy230]; with_reducible exact H2_) | (have H2_ := (Option.bind_some _ _).symm.trans H; with_reducible exact H2_) | with_reducible exact H | (rw [hy230]; exact H) | exact H
    have Ny230 := Aside0.mk hy230
    clear hy230
    by_cases c30 : (y230.length : Int) = 0
    · rw [if_pos c30] at H
      have c30b0 : ((y230.length : Int) == 0) = true := beq_iff_eq.mpr c30
      have c30b1 : ((y230.length : Int) != 0) = false := bne_eq_false_iff_eq.mpr c30
      clear c30
      by_cases c31 : 0 ≤ x8_1
      rotate_left
      · rw [if_neg c31] at H
        exact absurd H (by simp)
      rw [if_pos c31] at H
      have c31b0 : decide (0 ≤ x8_1) = true := decide_eq_true c31
      clear c31
      by_cases c32 : x8_1 < (l0.length : Int)
      rotate_left
      · rw [if_neg c32] at H
        exact absurd H (by simp)
      rw [if_pos c32] at H
      have c32b0 : decide (x8_1 < (l0.length : Int)) = true := decide_eq_true c32
      clear c32
      by_cases c33 : y230.length < 17592186044416
      rotate_left
      · rw [if_neg c33] at H
        exact absurd H (by simp)
      rw [if_pos c33] at H
      have LMc33 := Aside0.mk c33
      clear c33
      obtain ⟨y234, hy234⟩ : ∃ y_ : List Int, y_ = (y230 ++ [(rd_T38 l0 x8_1).f0]) := ⟨_, rfl⟩
      replace H : (bailiwickref03_times.l0 kj17 l0 a1 a2 y234 (wrap64 (x8_1 + 1))) = some r := by first | (rw [hy234]; with_reducible exact H) | (have H2_ := (Option.bind_some _ _).symm.trans H; rw [hy234]; with_reducible exact H2_) | (have H2_ := (Option.bind_some _ _).symm.trans H; with_reducible exact H2_) | with_reducible exact H | (rw [hy234]; exact H) | exact H
      have Ny234 := Aside0.mk hy234
      clear hy234
      have H' := Aside0.mk H
      clear H
      go_wp2_with (first | ((with_reducible refine gate_builtin (b := .append) (xs := #[.tmp 63, .tmp 65]) rfl ?_); at_builtin; refine Kd.R_append (Kd.int .i64) (w0 := w) w.heap.size rfl (.tmp 63) (.tmp 65) 63 2 (.int .i64 0) 8 rfl Try.underlying63 info2 rfl (by decide) (by omega) u7 x7_13 a2 [.int .i64 a2] (fun _ => True) (fun _ => False) rfl rfl ?aP (fun _ hk => hk.elim) ?aF ?aO ?aB ?aS ?aL ?_; (case aP => exact rfl); (case aB => exact (by repeat (first | (with_reducible first | exact HB.out | apply below_alloc | apply pw_below_drewN | apply below_drew1) | exact HB.out))); (case aF => exact (fun _ _ => trivial)); (case aO => exact (by (with_reducible repeat (first | apply Kd.R_alloc | apply Kd.R_drewN | apply Kd.R_drew)); exact HO_7.out)); (case aS => exact (below_size (by repeat (first | (with_reducible first | exact HB.out | apply below_alloc | apply pw_below_drewN | apply below_drew1) | exact HB.out)))); (case aL => have := LMc29.out; omega); intro v231 w34 ho hb hg hat; rw [← Ny230.out] at ho; have n0_ := Aside0.mk (hb); have n1_ := Aside0.mk (ho); clear HB; clear HO_7; have HB := n0_; have HO232 := n1_; clear n0_ n1_; clear ho hb hg hat; obtain ⟨Ao35, co35, eo35⟩ := Kd.R_slice HO232.out; subst eo35; have p233 : 0 ≤ (x8_1 : Int) := of_decide_eq_true (by first | (with_reducible assumption) | assumption); have q233 : x8_1 < (l0.length : Int) := of_decide_eq_true (by first | (with_reducible assumption) | assumption); obtain ⟨ad233, e233, hx233_0, hx233_1⟩ := at_T38 HR0.out x8_1 p233 q233; cases e233; replace hx233_0 := (HB.out.cell (World.block_lt_of_cell? w _ hx233_0)).trans hx233_0; replace hx233_1 := (HB.out.cell (World.block_lt_of_cell? w _ hx233_1)).trans hx233_1; replace p233 := eq_true p233; replace q233 := eq_true q233) | ((with_reducible refine gate_builtin (b := .append) (xs := #[.tmp 84, .tmp 90]) rfl ?_); at_builtin; refine Kd.R_append (Kd.int .i64) (w0 := w) w.heap.size rfl (.tmp 84) (.tmp 90) 63 2 (.int .i64 0) 8 rfl Try.underlying63 info2 rfl (by decide) (by omega) (.slice Ao35 y230.length co35) y230 ((rd_T38 l0 x8_1).f0) [.int .i64 ((rd_T38 l0 x8_1).f0)] (fun _ => True) (fun _ => False) rfl rfl ?aP (fun _ hk => hk.elim) ?aF ?aO ?aB ?aS ?aL ?_; (case aP => exact rfl); (case aB => exact (by repeat (first | (with_reducible first | exact HB.out | apply below_alloc | apply pw_below_drewN | apply below_drew1) | exact HB.out))); (case aF => exact (fun _ _ => trivial)); (case aO => exact (by (with_reducible repeat (first | apply Kd.R_alloc | apply Kd.R_drewN | apply Kd.R_drew)); exact HO232.out)); (case aS => exact (below_size (by repeat (first | (with_reducible first | exact HB.out | apply below_alloc | apply pw_below_drewN | apply below_drew1) | exact HB.out)))); (case aL => have := LMc33.out; omega); intro v235 w36 ho hb hg hat; rw [← Ny234.out] at ho; have n0_ := Aside0.mk (hb); have n1_ := Aside0.mk (ho); clear HB; clear HO232; have HB := n0_; have HO236 := n1_; clear n0_ n1_; clear ho hb hg hat))
      repeat (go_quiet (first | ((with_reducible refine gate_builtin (b := .append) (xs := #[.tmp 63, .tmp 65]) rfl ?_); at_builtin; refine Kd.R_append (Kd.int .i64) (w0 := w) w.heap.size rfl (.tmp 63) (.tmp 65) 63 2 (.int .i64 0) 8 rfl Try.underlying63 info2 rfl (by decide) (by omega) u7 x7_13 a2 [.int .i64 a2] (fun _ => True) (fun _ => False) rfl rfl ?aP (fun _ hk => hk.elim) ?aF ?aO ?aB ?aS ?aL ?_; (case aP => exact rfl); (case aB => exact (by repeat (first | (with_reducible first | exact HB.out | apply below_alloc | apply pw_below_drewN | apply below_drew1) | exact HB.out))); (case aF => exact (fun _ _ => trivial)); (case aO => exact (by (with_reducible repeat (first | apply Kd.R_alloc | apply Kd.R_drewN | apply Kd.R_drew)); exact HO_7.out)); (case aS => exact (below_size (by repeat (first | (with_reducible first | exact HB.out | apply below_alloc | apply pw_below_drewN | apply below_drew1) | exact HB.out)))); (case aL => have := LMc29.out; omega); intro v231 w34 ho hb hg hat; rw [← Ny230.out] at ho; have n0_ := Aside0.mk (hb); have n1_ := Aside0.mk (ho); clear HB; clear HO_7; have HB := n0_; have HO232 := n1_; clear n0_ n1_; clear ho hb hg hat; obtain ⟨Ao35, co35, eo35⟩ := Kd.R_slice HO232.out; subst eo35; have p233 : 0 ≤ (x8_1 : Int) := of_decide_eq_true (by first | (with_reducible assumption) | assumption); have q233 : x8_1 < (l0.length : Int) := of_decide_eq_true (by first | (with_reducible assumption) | assumption); obtain ⟨ad233, e233, hx233_0, hx233_1⟩ := at_T38 HR0.out x8_1 p233 q233; cases e233; replace hx233_0 := (HB.out.cell (World.block_lt_of_cell? w _ hx233_0)).trans hx233_0; replace hx233_1 := (HB.out.cell (World.block_lt_of_cell? w _ hx233_1)).trans hx233_1; replace p233 := eq_true p233; replace q233 := eq_true q233) | ((with_reducible refine gate_builtin (b := .append) (xs := #[.tmp 84, .tmp 90]) rfl ?_); at_builtin; refine Kd.R_append (Kd.int .i64) (w0 := w) w.heap.size rfl (.tmp 84) (.tmp 90) 63 2 (.int .i64 0) 8 rfl Try.underlying63 info2 rfl (by decide) (by omega) (.slice Ao35 y230.length co35) y230 ((rd_T38 l0 x8_1).f0) [.int .i64 ((rd_T38 l0 x8_1).f0)] (fun _ => True) (fun _ => False) rfl rfl ?aP (fun _ hk => hk.elim) ?aF ?aO ?aB ?aS ?aL ?_; (case aP => exact rfl); (case aB => exact (by repeat (first | (with_reducible first | exact HB.out | apply below_alloc | apply pw_below_drewN | apply below_drew1) | exact HB.out))); (case aF => exact (fun _ _ => trivial)); (case aO => exact (by (with_reducible repeat (first | apply Kd.R_alloc | apply Kd.R_drewN | apply Kd.R_drew)); exact HO232.out)); (case aS => exact (below_size (by repeat (first | (with_reducible first | exact HB.out | apply below_alloc | apply pw_below_drewN | apply below_drew1) | exact HB.out)))); (case aL => have := LMc33.out; omega); intro v235 w36 ho hb hg hat; rw [← Ny234.out] at ho; have n0_ := Aside0.mk (hb); have n1_ := Aside0.mk (ho); clear HB; clear HO232; have HB := n0_; have HO236 := n1_; clear n0_ n1_; clear ho hb hg hat)); try go_wp2_with (first | ((with_reducible refine gate_builtin (b := .append) (xs := #[.tmp 63, .tmp 65]) rfl ?_); at_builtin; refine Kd.R_append (Kd.int .i64) (w0 := w) w.heap.size rfl (.tmp 63) (.tmp 65) 63 2 (.int .i64 0) 8 rfl Try.underlying63 info2 rfl (by decide) (by omega) u7 x7_13 a2 [.int .i64 a2] (fun _ => True) (fun _ => False) rfl rfl ?aP (fun _ hk => hk.elim) ?aF ?aO ?aB ?aS ?aL ?_; (case aP => exact rfl); (case aB => exact (by repeat (first | (with_reducible first | exact HB.out | apply below_alloc | apply pw_below_drewN | apply below_drew1) | exact HB.out))); (case aF => exact (fun _ _ => trivial)); (case aO => exact (by (with_reducible repeat (first | apply Kd.R_alloc | apply Kd.R_drewN | apply Kd.R_drew)); exact HO_7.out)); (case aS => exact (below_size (by repeat (first | (with_reducible first | exact HB.out | apply below_alloc | apply pw_below_drewN | apply below_drew1) | exact HB.out)))); (case aL => have := LMc29.out; omega); intro v231 w34 ho hb hg hat; rw [← Ny230.out] at ho; have n0_ := Aside0.mk (hb); have n1_ := Aside0.mk (ho); clear HB; clear HO_7; have HB := n0_; have HO232 := n1_; clear n0_ n1_; clear ho hb hg hat; obtain ⟨Ao35, co35, eo35⟩ := Kd.R_slice HO232.out; subst eo35; have p233 : 0 ≤ (x8_1 : Int) := of_decide_eq_true (by first | (with_reducible assumption) | assumption); have q233 : x8_1 < (l0.length : Int) := of_decide_eq_true (by first | (with_reducible assumption) | assumption); obtain ⟨ad233, e233, hx233_0, hx233_1⟩ := at_T38 HR0.out x8_1 p233 q233; cases e233; replace hx233_0 := (HB.out.cell (World.block_lt_of_cell? w _ hx233_0)).trans hx233_0; replace hx233_1 := (HB.out.cell (World.block_lt_of_cell? w _ hx233_1)).trans hx233_1; replace p233 := eq_true p233; replace q233 := eq_true q233) | ((with_reducible refine gate_builtin (b := .append) (xs := #[.tmp 84, .tmp 90]) rfl ?_); at_builtin; refine Kd.R_append (Kd.int .i64) (w0 := w) w.heap.size rfl (.tmp 84) (.tmp 90) 63 2 (.int .i64 0) 8 rfl Try.underlying63 info2 rfl (by decide) (by omega) (.slice Ao35 y230.length co35) y230 ((rd_T38 l0 x8_1).f0) [.int .i64 ((rd_T38 l0 x8_1).f0)] (fun _ => True) (fun _ => False) rfl rfl ?aP (fun _ hk => hk.elim) ?aF ?aO ?aB ?aS ?aL ?_; (case aP => exact rfl); (case aB => exact (by repeat (first | (with_reducible first | exact HB.out | apply below_alloc | apply pw_below_drewN | apply below_drew1) | exact HB.out))); (case aF => exact (fun _ _ => trivial)); (case aO => exact (by (with_reducible repeat (first | apply Kd.R_alloc | apply Kd.R_drewN | apply Kd.R_drew)); exact HO232.out)); (case aS => exact (below_size (by repeat (first | (with_reducible first | exact HB.out | apply below_alloc | apply pw_below_drewN | apply below_drew1) | exact HB.out)))); (case aL => have := LMc33.out; omega); intro v235 w36 ho hb hg hat; rw [← Ny234.out] at ho; have n0_ := Aside0.mk (hb); have n1_ := Aside0.mk (ho); clear HB; clear HO232; have HB := n0_; have HO236 := n1_; clear n0_ n1_; clear ho hb hg hat)))
      go_roundg kj17
      case measure => have := HK1.out; have := HJ4.out; have := HJ13.out; have := HJ17.out; omega
      case rel => exact ⟨(y234), (wrap64 (x8_1 + 1)), (by first | rfl | (simp; done) | (simp [*]; done)), H', ⟨by have := HK1.out; have := HJ4.out; have := HJ13.out; have := HJ17.out; omega⟩, ⟨by (with_reducible repeat (first | apply Kd.R_alloc | apply Kd.R_drewN | apply Kd.R_drew)); exact HO236.out⟩, ⟨by repeat (first | (with_reducible first | exact HB.out | apply below_alloc | apply pw_below_drewN | apply below_drew1) | exact HB.out)⟩⟩
    rw [if_neg c30] at H
    have c30b0 : ((y230.length : Int) == 0) = false := beq_eq_false_iff_ne.mpr c30
    have c30b1 : ((y230.length : Int) != 0) = true := bne_iff_ne.mpr c30
    have c30b2 : ¬ (y230 = []) := fun h_ => c30 (by rw [h_]; rfl)
    obtain ⟨ji37, hji37⟩ : ∃ j_ : Int, (wrap64 ((y230.length : Int) - 1)) = j_ := ⟨_, rfl⟩
    replace H : (if 0 ≤ (ji37) then (if (ji37) < (y230.length : Int) then (if 0 ≤ x8_1 then (if x8_1 < (l0.length : Int) then (if (rd y230 (ji37)) < ((rd_T38 l0 x8_1).f0) then (if y230.length < 17592186044416 then (bailiwickref03_times.l0 kj17 l0 a1 a2 (y230 ++ [(rd_T38 l0 x8_1).f0]) (wrap64 (x8_1 + 1))) else (none)) else (bailiwickref03_times.l0 kj17 l0 a1 a2 y230 (wrap64 (x8_1 + 1)))) else (none)) else (none)) else (none)) else (none)) = some r := by first | (rw [hji37] at H; exact H) | (simp only [hji37] at H ⊢; exact H)
    have hji37w : (IntKind.i64.wrap ((y230.length : Int) - 1)) = ji37 := (i64_w _).trans hji37
    by_cases c38 : 0 ≤ (ji37)
    rotate_left
    · rw [if_neg c38] at H
      exact absurd H (by simp)
    rw [if_pos c38] at H
    have c38b0 : decide (0 ≤ (ji37)) = true := decide_eq_true c38
    clear c38
    by_cases c39 : (ji37) < (y230.length : Int)
    rotate_left
    · rw [if_neg c39] at H
      exact absurd H (by simp)
    rw [if_pos c39] at H
    have c39b0 : decide ((ji37) < (y230.length : Int)) = true := decide_eq_true c39
    clear c39
    by_cases c40 : 0 ≤ x8_1
    rotate_left
    · rw [if_neg c40] at H
      exact absurd H (by simp)
    rw [if_pos c40] at H
    have c40b0 : decide (0 ≤ x8_1) = true := decide_eq_true c40
    clear c40
    by_cases c41 : x8_1 < (l0.length : Int)
    rotate_left
    · rw [if_neg c41] at H
      exact absurd H (by simp)
    rw [if_pos c41] at H
    have c41b0 : decide (x8_1 < (l0.length : Int)) = true := decide_eq_true c41
    clear c41
    by_cases c42 : (rd y230 (ji37)) < ((rd_T38 l0 x8_1).f0)
    rotate_left
    · rw [if_neg c42] at H
      have c42b0 : decide ((rd y230 (ji37)) < ((rd_T38 l0 x8_1).f0)) = false := decide_eq_false c42
      clear c42
      have H' := Aside0.mk H
      clear H
      go_wp2_with (first | ((with_reducible refine gate_builtin (b := .append) (xs := #[.tmp 63, .tmp 65]) rfl ?_); at_builtin; refine Kd.R_append (Kd.int .i64) (w0 := w) w.heap.size rfl (.tmp 63) (.tmp 65) 63 2 (.int .i64 0) 8 rfl Try.underlying63 info2 rfl (by decide) (by omega) u7 x7_13 a2 [.int .i64 a2] (fun _ => True) (fun _ => False) rfl rfl ?aP (fun _ hk => hk.elim) ?aF ?aO ?aB ?aS ?aL ?_; (case aP => exact rfl); (case aB => exact (by repeat (first | (with_reducible first | exact HB.out | apply below_alloc | apply pw_below_drewN | apply below_drew1) | exact HB.out))); (case aF => exact (fun _ _ => trivial)); (case aO => exact (by (with_reducible repeat (first | apply Kd.R_alloc | apply Kd.R_drewN | apply Kd.R_drew)); exact HO_7.out)); (case aS => exact (below_size (by repeat (first | (with_reducible first | exact HB.out | apply below_alloc | apply pw_below_drewN | apply below_drew1) | exact HB.out)))); (case aL => have := LMc29.out; omega); intro v231 w47 ho hb hg hat; rw [← Ny230.out] at ho; have n0_ := Aside0.mk (hb); have n1_ := Aside0.mk (ho); clear HB; clear HO_7; have HB := n0_; have HO232 := n1_; clear n0_ n1_; clear ho hb hg hat; obtain ⟨Ao48, co48, eo48⟩ := Kd.R_slice HO232.out; subst eo48; have p237 : 0 ≤ ((ji37) : Int) := of_decide_eq_true (by first | (with_reducible assumption) | assumption); have q237 : (ji37) < (y230.length : Int) := of_decide_eq_true (by first | (with_reducible assumption) | assumption); obtain ⟨ad237, e237, hx237_0⟩ := Kd.at_int (Kd.R_reads' HO232.out).2.2 (ji37) p237 q237; cases e237; replace p237 := eq_true p237; replace q237 := eq_true q237; have p238 : 0 ≤ (x8_1 : Int) := of_decide_eq_true (by first | (with_reducible assumption) | assumption); have q238 : x8_1 < (l0.length : Int) := of_decide_eq_true (by first | (with_reducible assumption) | assumption); obtain ⟨ad238, e238, hx238_0, hx238_1⟩ := at_T38 HR0.out x8_1 p238 q238; cases e238; replace hx238_0 := (HB.out.cell (World.block_lt_of_cell? w _ hx238_0)).trans hx238_0; replace hx238_1 := (HB.out.cell (World.block_lt_of_cell? w _ hx238_1)).trans hx238_1; replace p238 := eq_true p238; replace q238 := eq_true q238))
      repeat (go_quiet (first | ((with_reducible refine gate_builtin (b := .append) (xs := #[.tmp 63, .tmp 65]) rfl ?_); at_builtin; refine Kd.R_append (Kd.int .i64) (w0 := w) w.heap.size rfl (.tmp 63) (.tmp 65) 63 2 (.int .i64 0) 8 rfl Try.underlying63 info2 rfl (by decide) (by omega) u7 x7_13 a2 [.int .i64 a2] (fun _ => True) (fun _ => False) rfl rfl ?aP (fun _ hk => hk.elim) ?aF ?aO ?aB ?aS ?aL ?_; (case aP => exact rfl); (case aB => exact (by repeat (first | (with_reducible first | exact HB.out | apply below_alloc | apply pw_below_drewN | apply below_drew1) | exact HB.out))); (case aF => exact (fun _ _ => trivial)); (case aO => exact (by (with_reducible repeat (first | apply Kd.R_alloc | apply Kd.R_drewN | apply Kd.R_drew)); exact HO_7.out)); (case aS => exact (below_size (by repeat (first | (with_reducible first | exact HB.out | apply below_alloc | apply pw_below_drewN | apply below_drew1) | exact HB.out)))); (case aL => have := LMc29.out; omega); intro v231 w47 ho hb hg hat; rw [← Ny230.out] at ho; have n0_ := Aside0.mk (hb); have n1_ := Aside0.mk (ho); clear HB; clear HO_7; have HB := n0_; have HO232 := n1_; clear n0_ n1_; clear ho hb hg hat; obtain ⟨Ao48, co48, eo48⟩ := Kd.R_slice HO232.out; subst eo48; have p237 : 0 ≤ ((ji37) : Int) := of_decide_eq_true (by first | (with_reducible assumption) | assumption); have q237 : (ji37) < (y230.length : Int) := of_decide_eq_true (by first | (with_reducible assumption) | assumption); obtain ⟨ad237, e237, hx237_0⟩ := Kd.at_int (Kd.R_reads' HO232.out).2.2 (ji37) p237 q237; cases e237; replace p237 := eq_true p237; replace q237 := eq_true q237; have p238 : 0 ≤ (x8_1 : Int) := of_decide_eq_true (by first | (with_reducible assumption) | assumption); have q238 : x8_1 < (l0.length : Int) := of_decide_eq_true (by first | (with_reducible assumption) | assumption); obtain ⟨ad238, e238, hx238_0, hx238_1⟩ := at_T38 HR0.out x8_1 p238 q238; cases e238; replace hx238_0 := (HB.out.cell (World.block_lt_of_cell? w _ hx238_0)).trans hx238_0; replace hx238_1 := (HB.out.cell (World.block_lt_of_cell? w _ hx238_1)).trans hx238_1; replace p238 := eq_true p238; replace q238 := eq_true q238)); try go_wp2_with (first | ((with_reducible refine gate_builtin (b := .append) (xs := #[.tmp 63, .tmp 65]) rfl ?_); at_builtin; refine Kd.R_append (Kd.int .i64) (w0 := w) w.heap.size rfl (.tmp 63) (.tmp 65) 63 2 (.int .i64 0) 8 rfl Try.underlying63 info2 rfl (by decide) (by omega) u7 x7_13 a2 [.int .i64 a2] (fun _ => True) (fun _ => False) rfl rfl ?aP (fun _ hk => hk.elim) ?aF ?aO ?aB ?aS ?aL ?_; (case aP => exact rfl); (case aB => exact (by repeat (first | (with_reducible first | exact HB.out | apply below_alloc | apply pw_below_drewN | apply below_drew1) | exact HB.out))); (case aF => exact (fun _ _ => trivial)); (case aO => exact (by (with_reducible repeat (first | apply Kd.R_alloc | apply Kd.R_drewN | apply Kd.R_drew)); exact HO_7.out)); (case aS => exact (below_size (by repeat (first | (with_reducible first | exact HB.out | apply below_alloc | apply pw_below_drewN | apply below_drew1) | exact HB.out)))); (case aL => have := LMc29.out; omega); intro v231 w47 ho hb hg hat; rw [← Ny230.out] at ho; have n0_ := Aside0.mk (hb); have n1_ := Aside0.mk (ho); clear HB; clear HO_7; have HB := n0_; have HO232 := n1_; clear n0_ n1_; clear ho hb hg hat; obtain ⟨Ao48, co48, eo48⟩ := Kd.R_slice HO232.out; subst eo48; have p237 : 0 ≤ ((ji37) : Int) := of_decide_eq_true (by first | (with_reducible assumption) | assumption); have q237 : (ji37) < (y230.length : Int) := of_decide_eq_true (by first | (with_reducible assumption) | assumption); obtain ⟨ad237, e237, hx237_0⟩ := Kd.at_int (Kd.R_reads' HO232.out).2.2 (ji37) p237 q237; cases e237; replace p237 := eq_true p237; replace q237 := eq_true q237; have p238 : 0 ≤ (x8_1 : Int) := of_decide_eq_true (by first | (with_reducible assumption) | assumption); have q238 : x8_1 < (l0.length : Int) := of_decide_eq_true (by first | (with_reducible assumption) | assumption); obtain ⟨ad238, e238, hx238_0, hx238_1⟩ := at_T38 HR0.out x8_1 p238 q238; cases e238; replace hx238_0 := (HB.out.cell (World.block_lt_of_cell? w _ hx238_0)).trans hx238_0; replace hx238_1 := (HB.out.cell (World.block_lt_of_cell? w _ hx238_1)).trans hx238_1; replace p238 := eq_true p238; replace q238 := eq_true q238)))
      go_roundg kj17
      case measure => have := HK1.out; have := HJ4.out; have := HJ13.out; have := HJ17.out; omega
      case rel => exact ⟨(y230), (wrap64 (x8_1 + 1)), (by first | rfl | (simp; done) | (simp [*]; done)), H', ⟨by have := HK1.out; have := HJ4.out; have := HJ13.out; have := HJ17.out; omega⟩, ⟨by (with_reducible repeat (first | apply Kd.R_alloc | apply Kd.R_drewN | apply Kd.R_drew)); exact HO232.out⟩, ⟨by repeat (first | (with_reducible first | exact HB.out | apply below_alloc | apply pw_below_drewN | apply below_drew1) | exact HB.out)⟩⟩
    rw [if_pos c42] at H
    have c42b0 : decide ((rd y230 (ji37)) < ((rd_T38 l0 x8_1).f0)) = true := decide_eq_true c42
    clear c42
    by_cases c43 : y230.length < 17592186044416
    rotate_left
    · rw [if_neg c43] at H
      exact absurd H (by simp)
    rw [if_pos c43] at H
    have LMc43 := Aside0.mk c43
    clear c43
    obtain ⟨y240, hy240⟩ : ∃ y_ : List Int, y_ = (y230 ++ [(rd_T38 l0 x8_1).f0]) := ⟨_, rfl⟩
    replace H : (bailiwickref03_times.l0 kj17 l0 a1 a2 y240 (wrap64 (x8_1 + 1))) = some r := by first | (rw [hy240]; with_reducible exact H) | (have H2_ := (Option.bind_some _ _).symm.trans H; rw [hy240]; with_reducible exact H2_) | (have H2_ := (Option.bind_some _ _).symm.trans H; with_reducible exact H2_) | with_reducible exact H | (rw [hy240]; exact H) | exact H
    have Ny240 := Aside0.mk hy240
    clear hy240
    have H' := Aside0.mk H
    clear H
    go_wp2_with (first | ((with_reducible refine gate_builtin (b := .append) (xs := #[.tmp 63, .tmp 65]) rfl ?_); at_builtin; refine Kd.R_append (Kd.int .i64) (w0 := w) w.heap.size rfl (.tmp 63) (.tmp 65) 63 2 (.int .i64 0) 8 rfl Try.underlying63 info2 rfl (by decide) (by omega) u7 x7_13 a2 [.int .i64 a2] (fun _ => True) (fun _ => False) rfl rfl ?aP (fun _ hk => hk.elim) ?aF ?aO ?aB ?aS ?aL ?_; (case aP => exact rfl); (case aB => exact (by repeat (first | (with_reducible first | exact HB.out | apply below_alloc | apply pw_below_drewN | apply below_drew1) | exact HB.out))); (case aF => exact (fun _ _ => trivial)); (case aO => exact (by (with_reducible repeat (first | apply Kd.R_alloc | apply Kd.R_drewN | apply Kd.R_drew)); exact HO_7.out)); (case aS => exact (below_size (by repeat (first | (with_reducible first | exact HB.out | apply below_alloc | apply pw_below_drewN | apply below_drew1) | exact HB.out)))); (case aL => have := LMc29.out; omega); intro v231 w44 ho hb hg hat; rw [← Ny230.out] at ho; have n0_ := Aside0.mk (hb); have n1_ := Aside0.mk (ho); clear HB; clear HO_7; have HB := n0_; have HO232 := n1_; clear n0_ n1_; clear ho hb hg hat; obtain ⟨Ao45, co45, eo45⟩ := Kd.R_slice HO232.out; subst eo45; have p237 : 0 ≤ ((ji37) : Int) := of_decide_eq_true (by first | (with_reducible assumption) | assumption); have q237 : (ji37) < (y230.length : Int) := of_decide_eq_true (by first | (with_reducible assumption) | assumption); obtain ⟨ad237, e237, hx237_0⟩ := Kd.at_int (Kd.R_reads' HO232.out).2.2 (ji37) p237 q237; cases e237; replace p237 := eq_true p237; replace q237 := eq_true q237; have p238 : 0 ≤ (x8_1 : Int) := of_decide_eq_true (by first | (with_reducible assumption) | assumption); have q238 : x8_1 < (l0.length : Int) := of_decide_eq_true (by first | (with_reducible assumption) | assumption); obtain ⟨ad238, e238, hx238_0, hx238_1⟩ := at_T38 HR0.out x8_1 p238 q238; cases e238; replace hx238_0 := (HB.out.cell (World.block_lt_of_cell? w _ hx238_0)).trans hx238_0; replace hx238_1 := (HB.out.cell (World.block_lt_of_cell? w _ hx238_1)).trans hx238_1; replace p238 := eq_true p238; replace q238 := eq_true q238; have p239 : 0 ≤ (x8_1 : Int) := of_decide_eq_true (by first | (with_reducible assumption) | assumption); have q239 : x8_1 < (l0.length : Int) := of_decide_eq_true (by first | (with_reducible assumption) | assumption); obtain ⟨ad239, e239, hx239_0, hx239_1⟩ := at_T38 HR0.out x8_1 p239 q239; obtain rfl : ad238 = ad239 := (by injection e239); replace hx239_0 := (HB.out.cell (World.block_lt_of_cell? w _ hx239_0)).trans hx239_0; replace hx239_1 := (HB.out.cell (World.block_lt_of_cell? w _ hx239_1)).trans hx239_1; replace p239 := eq_true p239; replace q239 := eq_true q239) | ((with_reducible refine gate_builtin (b := .append) (xs := #[.tmp 84, .tmp 90]) rfl ?_); at_builtin; refine Kd.R_append (Kd.int .i64) (w0 := w) w.heap.size rfl (.tmp 84) (.tmp 90) 63 2 (.int .i64 0) 8 rfl Try.underlying63 info2 rfl (by decide) (by omega) (.slice (some ad237) y230.length co45) y230 ((rd_T38 l0 x8_1).f0) [.int .i64 ((rd_T38 l0 x8_1).f0)] (fun _ => True) (fun _ => False) rfl rfl ?aP (fun _ hk => hk.elim) ?aF ?aO ?aB ?aS ?aL ?_; (case aP => exact rfl); (case aB => exact (by repeat (first | (with_reducible first | exact HB.out | apply below_alloc | apply pw_below_drewN | apply below_drew1) | exact HB.out))); (case aF => exact (fun _ _ => trivial)); (case aO => exact (by (with_reducible repeat (first | apply Kd.R_alloc | apply Kd.R_drewN | apply Kd.R_drew)); exact HO232.out)); (case aS => exact (below_size (by repeat (first | (with_reducible first | exact HB.out | apply below_alloc | apply pw_below_drewN | apply below_drew1) | exact HB.out)))); (case aL => have := LMc43.out; omega); intro v241 w46 ho hb hg hat; rw [← Ny240.out] at ho; have n0_ := Aside0.mk (hb); have n1_ := Aside0.mk (ho); clear HB; clear HO232; have HB := n0_; have HO242 := n1_; clear n0_ n1_; clear ho hb hg hat))
    repeat (go_quiet (first | ((with_reducible refine gate_builtin (b := .append) (xs := #[.tmp 63, .tmp 65]) rfl ?_); at_builtin; refine Kd.R_append (Kd.int .i64) (w0 := w) w.heap.size rfl (.tmp 63) (.tmp 65) 63 2 (.int .i64 0) 8 rfl Try.underlying63 info2 rfl (by decide) (by omega) u7 x7_13 a2 [.int .i64 a2] (fun _ => True) (fun _ => False) rfl rfl ?aP (fun _ hk => hk.elim) ?aF ?aO ?aB ?aS ?aL ?_; (case aP => exact rfl); (case aB => exact (by repeat (first | (with_reducible first | exact HB.out | apply below_alloc | apply pw_below_drewN | apply below_drew1) | exact HB.out))); (case aF => exact (fun _ _ => trivial)); (case aO => exact (by (with_reducible repeat (first | apply Kd.R_alloc | apply Kd.R_drewN | apply Kd.R_drew)); exact HO_7.out)); (case aS => exact (below_size (by repeat (first | (with_reducible first | exact HB.out | apply below_alloc | apply pw_below_drewN | apply below_drew1) | exact HB.out)))); (case aL => have := LMc29.out; omega); intro v231 w44 ho hb hg hat; rw [← Ny230.out] at ho; have n0_ := Aside0.mk (hb); have n1_ := Aside0.mk (ho); clear HB; clear HO_7; have HB := n0_; have HO232 := n1_; clear n0_ n1_; clear ho hb hg hat; obtain ⟨Ao45, co45, eo45⟩ := Kd.R_slice HO232.out; subst eo45; have p237 : 0 ≤ ((ji37) : Int) := of_decide_eq_true (by first | (with_reducible assumption) | assumption); have q237 : (ji37) < (y230.length : Int) := of_decide_eq_true (by first | (with_reducible assumption) | assumption); obtain ⟨ad237, e237, hx237_0⟩ := Kd.at_int (Kd.R_reads' HO232.out).2.2 (ji37) p237 q237; cases e237; replace p237 := eq_true p237; replace q237 := eq_true q237; have p238 : 0 ≤ (x8_1 : Int) := of_decide_eq_true (by first | (with_reducible assumption) | assumption); have q238 : x8_1 < (l0.length : Int) := of_decide_eq_true (by first | (with_reducible assumption) | assumption); obtain ⟨ad238, e238, hx238_0, hx238_1⟩ := at_T38 HR0.out x8_1 p238 q238; cases e238; replace hx238_0 := (HB.out.cell (World.block_lt_of_cell? w _ hx238_0)).trans hx238_0; replace hx238_1 := (HB.out.cell (World.block_lt_of_cell? w _ hx238_1)).trans hx238_1; replace p238 := eq_true p238; replace q238 := eq_true q238; have p239 : 0 ≤ (x8_1 : Int) := of_decide_eq_true (by first | (with_reducible assumption) | assumption); have q239 : x8_1 < (l0.length : Int) := of_decide_eq_true (by first | (with_reducible assumption) | assumption); obtain ⟨ad239, e239, hx239_0, hx239_1⟩ := at_T38 HR0.out x8_1 p239 q239; obtain rfl : ad238 = ad239 := (by injection e239); replace hx239_0 := (HB.out.cell (World.block_lt_of_cell? w _ hx239_0)).trans hx239_0; replace hx239_1 := (HB.out.cell (World.block_lt_of_cell? w _ hx239_1)).trans hx239_1; replace p239 := eq_true p239; replace q239 := eq_true q239) | ((with_reducible refine gate_builtin (b := .append) (xs := #[.tmp 84, .tmp 90]) rfl ?_); at_builtin; refine Kd.R_append (Kd.int .i64) (w0 := w) w.heap.size rfl (.tmp 84) (.tmp 90) 63 2 (.int .i64 0) 8 rfl Try.underlying63 info2 rfl (by decide) (by omega) (.slice (some ad237) y230.length co45) y230 ((rd_T38 l0 x8_1).f0) [.int .i64 ((rd_T38 l0 x8_1).f0)] (fun _ => True) (fun _ => False) rfl rfl ?aP (fun _ hk => hk.elim) ?aF ?aO ?aB ?aS ?aL ?_; (case aP => exact rfl); (case aB => exact (by repeat (first | (with_reducible first | exact HB.out | apply below_alloc | apply pw_below_drewN | apply below_drew1) | exact HB.out))); (case aF => exact (fun _ _ => trivial)); (case aO => exact (by (with_reducible repeat (first | apply Kd.R_alloc | apply Kd.R_drewN | apply Kd.R_drew)); exact HO232.out)); (case aS => exact (below_size (by repeat (first | (with_reducible first | exact HB.out | apply below_alloc | apply pw_below_drewN | apply below_drew1) | exact HB.out)))); (case aL => have := LMc43.out; omega); intro v241 w46 ho hb hg hat; rw [← Ny240.out] at ho; have n0_ := Aside0.mk (hb); have n1_ := Aside0.mk (ho); clear HB; clear HO232; have HB := n0_; have HO242 := n1_; clear n0_ n1_; clear ho hb hg hat)); try go_wp2_with (first | ((with_reducible refine gate_builtin (b := .append) (xs := #[.tmp 63, .tmp 65]) rfl ?_); at_builtin; refine Kd.R_append (Kd.int .i64) (w0 := w) w.heap.size rfl (.tmp 63) (.tmp 65) 63 2 (.int .i64 0) 8 rfl Try.underlying63 info2 rfl (by decide) (by omega) u7 x7_13 a2 [.int .i64 a2] (fun _ => True) (fun _ => False) rfl rfl ?aP (fun _ hk => hk.elim) ?aF ?aO ?aB ?aS ?aL ?_; (case aP => exact rfl); (case aB => exact (by repeat (first | (with_reducible first | exact HB.out | apply below_alloc | apply pw_below_drewN | apply below_drew1) | exact HB.out))); (case aF => exact (fun _ _ => trivial)); (case aO => exact (by (with_reducible repeat (first | apply Kd.R_alloc | apply Kd.R_drewN | apply Kd.R_drew)); exact HO_7.out)); (case aS => exact (below_size (by repeat (first | (with_reducible first | exact HB.out | apply below_alloc | apply pw_below_drewN | apply below_drew1) | exact HB.out)))); (case aL => have := LMc29.out; omega); intro v231 w44 ho hb hg hat; rw [← Ny230.out] at ho; have n0_ := Aside0.mk (hb); have n1_ := Aside0.mk (ho); clear HB; clear HO_7; have HB := n0_; have HO232 := n1_; clear n0_ n1_; clear ho hb hg hat; obtain ⟨Ao45, co45, eo45⟩ := Kd.R_slice HO232.out; subst eo45; have p237 : 0 ≤ ((ji37) : Int) := of_decide_eq_true (by first | (with_reducible assumption) | assumption); have q237 : (ji37) < (y230.length : Int) := of_decide_eq_true (by first | (with_reducible assumption) | assumption); obtain ⟨ad237, e237, hx237_0⟩ := Kd.at_int (Kd.R_reads' HO232.out).2.2 (ji37) p237 q237; cases e237; replace p237 := eq_true p237; replace q237 := eq_true q237; have p238 : 0 ≤ (x8_1 : Int) := of_decide_eq_true (by first | (with_reducible assumption) | assumption); have q238 : x8_1 < (l0.length : Int) := of_decide_eq_true (by first | (with_reducible assumption) | assumption); obtain ⟨ad238, e238, hx238_0, hx238_1⟩ := at_T38 HR0.out x8_1 p238 q238; cases e238; replace hx238_0 := (HB.out.cell (World.block_lt_of_cell? w _ hx238_0)).trans hx238_0; replace hx238_1 := (HB.out.cell (World.block_lt_of_cell? w _ hx238_1)).trans hx238_1; replace p238 := eq_true p238; replace q238 := eq_true q238; have p239 : 0 ≤ (x8_1 : Int) := of_decide_eq_true (by first | (with_reducible assumption) | assumption); have q239 : x8_1 < (l0.length : Int) := of_decide_eq_true (by first | (with_reducible assumption) | assumption); obtain ⟨ad239, e239, hx239_0, hx239_1⟩ := at_T38 HR0.out x8_1 p239 q239; obtain rfl : ad238 = ad239 := (by injection e239); replace hx239_0 := (HB.out.cell (World.block_lt_of_cell? w _ hx239_0)).trans hx239_0; replace hx239_1 := (HB.out.cell (World.block_lt_of_cell? w _ hx239_1)).trans hx239_1; replace p239 := eq_true p239; replace q239 := eq_true q239) | ((with_reducible refine gate_builtin (b := .append) (xs := #[.tmp 84, .tmp 90]) rfl ?_); at_builtin; refine Kd.R_append (Kd.int .i64) (w0 := w) w.heap.size rfl (.tmp 84) (.tmp 90) 63 2 (.int .i64 0) 8 rfl Try.underlying63 info2 rfl (by decide) (by omega) (.slice (some ad237) y230.length co45) y230 ((rd_T38 l0 x8_1).f0) [.int .i64 ((rd_T38 l0 x8_1).f0)] (fun _ => True) (fun _ => False) rfl rfl ?aP (fun _ hk => hk.elim) ?aF ?aO ?aB ?aS ?aL ?_; (case aP => exact rfl); (case aB => exact (by repeat (first | (with_reducible first | exact HB.out | apply below_alloc | apply pw_below_drewN | apply below_drew1) | exact HB.out))); (case aF => exact (fun _ _ => trivial)); (case aO => exact (by (with_reducible repeat (first | apply Kd.R_alloc | apply Kd.R_drewN | apply Kd.R_drew)); exact HO232.out)); (case aS => exact (below_size (by repeat (first | (with_reducible first | exact HB.out | apply below_alloc | apply pw_below_drewN | apply below_drew1) | exact HB.out)))); (case aL => have := LMc43.out; omega); intro v241 w46 ho hb hg hat; rw [← Ny240.out] at ho; have n0_ := Aside0.mk (hb); have n1_ := Aside0.mk (ho); clear HB; clear HO232; have HB := n0_; have HO242 := n1_; clear n0_ n1_; clear ho hb hg hat)))
    go_roundg kj17
    case measure => have := HK1.out; have := HJ4.out; have := HJ13.out; have := HJ17.out; omega
    case rel => exact ⟨(y240), (wrap64 (x8_1 + 1)), (by first | rfl | (simp; done) | (simp [*]; done)), H', ⟨by have := HK1.out; have := HJ4.out; have := HJ13.out; have := HJ17.out; omega⟩, ⟨by (with_reducible repeat (first | apply Kd.R_alloc | apply Kd.R_drewN | apply Kd.R_drew)); exact HO242.out⟩, ⟨by repeat (first | (with_reducible first | exact HB.out | apply below_alloc | apply pw_below_drewN | apply below_drew1) | exact HB.out)⟩⟩
  replace c28 := Bool.eq_false_iff.mpr c28
  subst c28
  have H1 : (if (x7_13.length : Int) = 0 then (if 0 ≤ x8_1 then (if x8_1 < (l0.length : Int) then (if x7_13.length < 17592186044416 then (bailiwickref03_times.l0 kj17 l0 a1 a2 (x7_13 ++ [(rd_T38 l0 x8_1).f0]) (wrap64 (x8_1 + 1))) else (none)) else (none)) else (none)) else (if 0 ≤ (wrap64 ((x7_13.length : Int) - 1)) then (if (wrap64 ((x7_13.length : Int) - 1)) < (x7_13.length : Int) then (if 0 ≤ x8_1 then (if x8_1 < (l0.length : Int) then (if (rd x7_13 (wrap64 ((x7_13.length : Int) - 1))) < ((rd_T38 l0 x8_1).f0) then (if x7_13.length < 17592186044416 then (bailiwickref03_times.l0 kj17 l0 a1 a2 (x7_13 ++ [(rd_T38 l0 x8_1).f0]) (wrap64 (x8_1 + 1))) else (none)) else (bailiwickref03_times.l0 kj17 l0 a1 a2 x7_13 (wrap64 (x8_1 + 1)))) else (none)) else (none)) else (none)) else (none))) = some r := by rw [if_neg (show ¬ (false = true) by decide)] at H; exact H
  clear H
  have H := H1
  clear H1
  by_cases c49 : (x7_13.length : Int) = 0
  · rw [if_pos c49] at H
    have c49b0 : ((x7_13.length : Int) == 0) = true := beq_iff_eq.mpr c49
    have c49b1 : ((x7_13.length : Int) != 0) = false := bne_eq_false_iff_eq.mpr c49
    clear c49
    by_cases c50 : 0 ≤ x8_1
    rotate_left
    · rw [if_neg c50] at H
      exact absurd H (by simp)
    rw [if_pos c50] at H
    have c50b0 : decide (0 ≤ x8_1) = true := decide_eq_true c50
    clear c50
    by_cases c51 : x8_1 < (l0.length : Int)
    rotate_left
    · rw [if_neg c51] at H
      exact absurd H (by simp)
    rw [if_pos c51] at H
    have c51b0 : decide (x8_1 < (l0.length : Int)) = true := decide_eq_true c51
    clear c51
    by_cases c52 : x7_13.length < 17592186044416
    rotate_left
    · rw [if_neg c52] at H
      exact absurd H (by simp)
    rw [if_pos c52] at H
    have LMc52 := Aside0.mk c52
    clear c52
    obtain ⟨y244, hy244⟩ : ∃ y_ : List Int, y_ = (x7_13 ++ [(rd_T38 l0 x8_1).f0]) := ⟨_, rfl⟩
    replace H : (bailiwickref03_times.l0 kj17 l0 a1 a2 y244 (wrap64 (x8_1 + 1))) = some r := by first | (rw [hy244]; with_reducible exact H) | (have H2_ := (Option.bind_some _ _).symm.trans H; rw [hy244]; with_reducible exact H2_) | (have H2_ := (Option.bind_some _ _).symm.trans H; with_reducible exact H2_) | with_reducible exact H | (rw [hy244]; exact H) | exact H
    have Ny244 := Aside0.mk hy244
    clear hy244
    have H' := Aside0.mk H
    clear H
    obtain ⟨Ao53, co53, eo53⟩ := Kd.R_slice HO_7.out
    subst eo53
    have p243 : 0 ≤ (x8_1 : Int) := of_decide_eq_true (by first | (with_reducible assumption) | assumption)
    have q243 : x8_1 < (l0.length : Int) := of_decide_eq_true (by first | (with_reducible assumption) | assumption)
    obtain ⟨ad243, e243, hx243_0, hx243_1⟩ := at_T38 HR0.out x8_1 p243 q243
    cases e243
    replace hx243_0 := (HB.out.cell (World.block_lt_of_cell? w _ hx243_0)).trans hx243_0
    replace hx243_1 := (HB.out.cell (World.block_lt_of_cell? w _ hx243_1)).trans hx243_1
    replace p243 := eq_true p243
    replace q243 := eq_true q243
    go_wp2_with (first | ((with_reducible refine gate_builtin (b := .append) (xs := #[.tmp 84, .tmp 90]) rfl ?_); at_builtin; refine Kd.R_append (Kd.int .i64) (w0 := w) w.heap.size rfl (.tmp 84) (.tmp 90) 63 2 (.int .i64 0) 8 rfl Try.underlying63 info2 rfl (by decide) (by omega) (.slice Ao53 x7_13.length co53) x7_13 ((rd_T38 l0 x8_1).f0) [.int .i64 ((rd_T38 l0 x8_1).f0)] (fun _ => True) (fun _ => False) rfl rfl ?aP (fun _ hk => hk.elim) ?aF ?aO ?aB ?aS ?aL ?_; (case aP => exact rfl); (case aB => exact (by repeat (first | (with_reducible first | exact HB.out | apply below_alloc | apply pw_below_drewN | apply below_drew1) | exact HB.out))); (case aF => exact (fun _ _ => trivial)); (case aO => exact (by (with_reducible repeat (first | apply Kd.R_alloc | apply Kd.R_drewN | apply Kd.R_drew)); exact HO_7.out)); (case aS => exact (below_size (by repeat (first | (with_reducible first | exact HB.out | apply below_alloc | apply pw_below_drewN | apply below_drew1) | exact HB.out)))); (case aL => have := LMc52.out; omega); intro v245 w54 ho hb hg hat; rw [← Ny244.out] at ho; have n0_ := Aside0.mk (hb); have n1_ := Aside0.mk (ho); clear HB; clear HO_7; have HB := n0_; have HO246 := n1_; clear n0_ n1_; clear ho hb hg hat))
    repeat (go_quiet (first | ((with_reducible refine gate_builtin (b := .append) (xs := #[.tmp 84, .tmp 90]) rfl ?_); at_builtin; refine Kd.R_append (Kd.int .i64) (w0 := w) w.heap.size rfl (.tmp 84) (.tmp 90) 63 2 (.int .i64 0) 8 rfl Try.underlying63 info2 rfl (by decide) (by omega) (.slice Ao53 x7_13.length co53) x7_13 ((rd_T38 l0 x8_1).f0) [.int .i64 ((rd_T38 l0 x8_1).f0)] (fun _ => True) (fun _ => False) rfl rfl ?aP (fun _ hk => hk.elim) ?aF ?aO ?aB ?aS ?aL ?_; (case aP => exact rfl); (case aB => exact (by repeat (first | (with_reducible first | exact HB.out | apply below_alloc | apply pw_below_drewN | apply below_drew1) | exact HB.out))); (case aF => exact (fun _ _ => trivial)); (case aO => exact (by (with_reducible repeat (first | apply Kd.R_alloc | apply Kd.R_drewN | apply Kd.R_drew)); exact HO_7.out)); (case aS => exact (below_size (by repeat (first | (with_reducible first | exact HB.out | apply below_alloc | apply pw_below_drewN | apply below_drew1) | exact HB.out)))); (case aL => have := LMc52.out; omega); intro v245 w54 ho hb hg hat; rw [← Ny244.out] at ho; have n0_ := Aside0.mk (hb); have n1_ := Aside0.mk (ho); clear HB; clear HO_7; have HB := n0_; have HO246 := n1_; clear n0_ n1_; clear ho hb hg hat)); try go_wp2_with (first | ((with_reducible refine gate_builtin (b := .append) (xs := #[.tmp 84, .tmp 90]) rfl ?_); at_builtin; refine Kd.R_append (Kd.int .i64) (w0 := w) w.heap.size rfl (.tmp 84) (.tmp 90) 63 2 (.int .i64 0) 8 rfl Try.underlying63 info2 rfl (by decide) (by omega) (.slice Ao53 x7_13.length co53) x7_13 ((rd_T38 l0 x8_1).f0) [.int .i64 ((rd_T38 l0 x8_1).f0)] (fun _ => True) (fun _ => False) rfl rfl ?aP (fun _ hk => hk.elim) ?aF ?aO ?aB ?aS ?aL ?_; (case aP => exact rfl); (case aB => exact (by repeat (first | (with_reducible first | exact HB.out | apply below_alloc | apply pw_below_drewN | apply below_drew1) | exact HB.out))); (case aF => exact (fun _ _ => trivial)); (case aO => exact (by (with_reducible repeat (first | apply Kd.R_alloc | apply Kd.R_drewN | apply Kd.R_drew)); exact HO_7.out)); (case aS => exact (below_size (by repeat (first | (with_reducible first | exact HB.out | apply below_alloc | apply pw_below_drewN | apply below_drew1) | exact HB.out)))); (case aL => have := LMc52.out; omega); intro v245 w54 ho hb hg hat; rw [← Ny244.out] at ho; have n0_ := Aside0.mk (hb); have n1_ := Aside0.mk (ho); clear HB; clear HO_7; have HB := n0_; have HO246 := n1_; clear n0_ n1_; clear ho hb hg hat)))
    go_roundg kj17
    case measure => have := HK1.out; have := HJ4.out; have := HJ13.out; have := HJ17.out; omega
    case rel => exact ⟨(y244), (wrap64 (x8_1 + 1)), (by first | rfl | (simp; done) | (simp [*]; done)), H', ⟨by have := HK1.out; have := HJ4.out; have := HJ13.out; have := HJ17.out; omega⟩, ⟨by (with_reducible repeat (first | apply Kd.R_alloc | apply Kd.R_drewN | apply Kd.R_drew)); exact HO246.out⟩, ⟨by repeat (first | (with_reducible first | exact HB.out | apply below_alloc | apply pw_below_drewN | apply below_drew1) | exact HB.out)⟩⟩
  rw [if_neg c49] at H
  have c49b0 : ((x7_13.length : Int) == 0) = false := beq_eq_false_iff_ne.mpr c49
  have c49b1 : ((x7_13.length : Int) != 0) = true := bne_iff_ne.mpr c49
  have c49b2 : ¬ (x7_13 = []) := fun h_ => c49 (by rw [h_]; rfl)
  obtain ⟨ji55, hji55⟩ : ∃ j_ : Int, (wrap64 ((x7_13.length : Int) - 1)) = j_ := ⟨_, rfl⟩
  replace H : (if 0 ≤ (ji55) then (if (ji55) < (x7_13.length : Int) then (if 0 ≤ x8_1 then (if x8_1 < (l0.length : Int) then (if (rd x7_13 (ji55)) < ((rd_T38 l0 x8_1).f0) then (if x7_13.length < 17592186044416 then (bailiwickref03_times.l0 kj17 l0 a1 a2 (x7_13 ++ [(rd_T38 l0 x8_1).f0]) (wrap64 (x8_1 + 1))) else (none)) else (bailiwickref03_times.l0 kj17 l0 a1 a2 x7_13 (wrap64 (x8_1 + 1)))) else (none)) else (none)) else (none)) else (none)) = some r := by first | (rw [hji55] at H; exact H) | (simp only [hji55] at H ⊢; exact H)
  have hji55w : (IntKind.i64.wrap ((x7_13.length : Int) - 1)) = ji55 := (i64_w _).trans hji55
  by_cases c56 : 0 ≤ (ji55)
  rotate_left
  · rw [if_neg c56] at H
    exact absurd H (by simp)
  rw [if_pos c56] at H
  have c56b0 : decide (0 ≤ (ji55)) = true := decide_eq_true c56
  clear c56
  by_cases c57 : (ji55) < (x7_13.length : Int)
  rotate_left
  · rw [if_neg c57] at H
    exact absurd H (by simp)
  rw [if_pos c57] at H
  have c57b0 : decide ((ji55) < (x7_13.length : Int)) = true := decide_eq_true c57
  clear c57
  by_cases c58 : 0 ≤ x8_1
  rotate_left
  · rw [if_neg c58] at H
    exact absurd H (by simp)
  rw [if_pos c58] at H
  have c58b0 : decide (0 ≤ x8_1) = true := decide_eq_true c58
  clear c58
  by_cases c59 : x8_1 < (l0.length : Int)
  rotate_left
  · rw [if_neg c59] at H
    exact absurd H (by simp)
  rw [if_pos c59] at H
  have c59b0 : decide (x8_1 < (l0.length : Int)) = true := decide_eq_true c59
  clear c59
  by_cases c60 : (rd x7_13 (ji55)) < ((rd_T38 l0 x8_1).f0)
  rotate_left
  · rw [if_neg c60] at H
    have c60b0 : decide ((rd x7_13 (ji55)) < ((rd_T38 l0 x8_1).f0)) = false := decide_eq_false c60
    clear c60
    have H' := Aside0.mk H
    clear H
    obtain ⟨Ao64, co64, eo64⟩ := Kd.R_slice HO_7.out
    subst eo64
    have p247 : 0 ≤ ((ji55) : Int) := of_decide_eq_true (by first | (with_reducible assumption) | assumption)
    have q247 : (ji55) < (x7_13.length : Int) := of_decide_eq_true (by first | (with_reducible assumption) | assumption)
    obtain ⟨ad247, e247, hx247_0⟩ := Kd.at_int (Kd.R_reads' HO_7.out).2.2 (ji55) p247 q247
    cases e247
    replace p247 := eq_true p247
    replace q247 := eq_true q247
    have p248 : 0 ≤ (x8_1 : Int) := of_decide_eq_true (by first | (with_reducible assumption) | assumption)
    have q248 : x8_1 < (l0.length : Int) := of_decide_eq_true (by first | (with_reducible assumption) | assumption)
    obtain ⟨ad248, e248, hx248_0, hx248_1⟩ := at_T38 HR0.out x8_1 p248 q248
    cases e248
    replace hx248_0 := (HB.out.cell (World.block_lt_of_cell? w _ hx248_0)).trans hx248_0
    replace hx248_1 := (HB.out.cell (World.block_lt_of_cell? w _ hx248_1)).trans hx248_1
    replace p248 := eq_true p248
    replace q248 := eq_true q248
    go_wp2
    repeat (go_quiet (fail); try go_wp2)
    go_roundg kj17
    case measure => have := HK1.out; have := HJ4.out; have := HJ13.out; have := HJ17.out; omega
    case rel => exact ⟨(x7_13), (wrap64 (x8_1 + 1)), (by first | rfl | (simp; done) | (simp [*]; done)), H', ⟨by have := HK1.out; have := HJ4.out; have := HJ13.out; have := HJ17.out; omega⟩, ⟨by (with_reducible repeat (first | apply Kd.R_alloc | apply Kd.R_drewN | apply Kd.R_drew)); exact HO_7.out⟩, ⟨by repeat (first | (with_reducible first | exact HB.out | apply below_alloc | apply pw_below_drewN | apply below_drew1) | exact HB.out)⟩⟩
  rw [if_pos c60] at H
  have c60b0 : decide ((rd x7_13 (ji55)) < ((rd_T38 l0 x8_1).f0)) = true := decide_eq_true c60
  clear c60
  by_cases c61 : x7_13.length < 17592186044416
  rotate_left
  · rw [if_neg c61] at H
    exact absurd H (by simp)
  rw [if_pos c61] at H
  have LMc61 := Aside0.mk c61
  clear c61
  obtain ⟨y250, hy250⟩ : ∃ y_ : List Int, y_ = (x7_13 ++ [(rd_T38 l0 x8_1).f0]) := ⟨_, rfl⟩
  replace H : (bailiwickref03_times.l0 kj17 l0 a1 a2 y250 (wrap64 (x8_1 + 1))) = some r := by first | (rw [hy250]; with_reducible exact H) | (have H2_ := (Option.bind_some _ _).symm.trans H; rw [hy250]; with_reducible exact H2_) | (have H2_ := (Option.bind_some _ _).symm.trans H; with_reducible exact H2_) | with_reducible exact H | (rw [hy250]; exact H) | exact H
  have Ny250 := Aside0.mk hy250
  clear hy250
  have H' := Aside0.mk H
  clear H
  obtain ⟨Ao62, co62, eo62⟩ := Kd.R_slice HO_7.out
  subst eo62
  have p247 : 0 ≤ ((ji55) : Int) := of_decide_eq_true (by first | (with_reducible assumption) | assumption)
  have q247 : (ji55) < (x7_13.length : Int) := of_decide_eq_true (by first | (with_reducible assumption) | assumption)
  obtain ⟨ad247, e247, hx247_0⟩ := Kd.at_int (Kd.R_reads' HO_7.out).2.2 (ji55) p247 q247
  cases e247
  replace p247 := eq_true p247
  replace q247 := eq_true q247
  have p248 : 0 ≤ (x8_1 : Int) := of_decide_eq_true (by first | (with_reducible assumption) | assumption)
  have q248 : x8_1 < (l0.length : Int) := of_decide_eq_true (by first | (with_reducible assumption) | assumption)
  obtain ⟨ad248, e248, hx248_0, hx248_1⟩ := at_T38 HR0.out x8_1 p248 q248
  cases e248
  replace hx248_0 := (HB.out.cell (World.block_lt_of_cell? w _ hx248_0)).trans hx248_0
  replace hx248_1 := (HB.out.cell (World.block_lt_of_cell? w _ hx248_1)).trans hx248_1
  replace p248 := eq_true p248
  replace q248 := eq_true q248
  have p249 : 0 ≤ (x8_1 : Int) := of_decide_eq_true (by first | (with_reducible assumption) | assumption)
  have q249 : x8_1 < (l0.length : Int) := of_decide_eq_true (by first | (with_reducible assumption) | assumption)
  obtain ⟨ad249, e249, hx249_0, hx249_1⟩ := at_T38 HR0.out x8_1 p249 q249
  obtain rfl : ad248 = ad249 := (by injection e249)
  replace hx249_0 := (HB.out.cell (World.block_lt_of_cell? w _ hx249_0)).trans hx249_0
  replace hx249_1 := (HB.out.cell (World.block_lt_of_cell? w _ hx249_1)).trans hx249_1
  replace p249 := eq_true p249
  replace q249 := eq_true q249
  go_wp2_with (first | ((with_reducible refine gate_builtin (b := .append) (xs := #[.tmp 84, .tmp 90]) rfl ?_); at_builtin; refine Kd.R_append (Kd.int .i64) (w0 := w) w.heap.size rfl (.tmp 84) (.tmp 90) 63 2 (.int .i64 0) 8 rfl Try.underlying63 info2 rfl (by decide) (by omega) (.slice (some ad247) x7_13.length co62) x7_13 ((rd_T38 l0 x8_1).f0) [.int .i64 ((rd_T38 l0 x8_1).f0)] (fun _ => True) (fun _ => False) rfl rfl ?aP (fun _ hk => hk.elim) ?aF ?aO ?aB ?aS ?aL ?_; (case aP => exact rfl); (case aB => exact (by repeat (first | (with_reducible first | exact HB.out | apply below_alloc | apply pw_below_drewN | apply below_drew1) | exact HB.out))); (case aF => exact (fun _ _ => trivial)); (case aO => exact (by (with_reducible repeat (first | apply Kd.R_alloc | apply Kd.R_drewN | apply Kd.R_drew)); exact HO_7.out)); (case aS => exact (below_size (by repeat (first | (with_reducible first | exact HB.out | apply below_alloc | apply pw_below_drewN | apply below_drew1) | exact HB.out)))); (case aL => have := LMc61.out; omega); intro v251 w63 ho hb hg hat; rw [← Ny250.out] at ho; have n0_ := Aside0.mk (hb); have n1_ := Aside0.mk (ho); clear HB; clear HO_7; have HB := n0_; have HO252 := n1_; clear n0_ n1_; clear ho hb hg hat))
  repeat (go_quiet (first | ((with_reducible refine gate_builtin (b := .append) (xs := #[.tmp 84, .tmp 90]) rfl ?_); at_builtin; refine Kd.R_append (Kd.int .i64) (w0 := w) w.heap.size rfl (.tmp 84) (.tmp 90) 63 2 (.int .i64 0) 8 rfl Try.underlying63 info2 rfl (by decide) (by omega) (.slice (some ad247) x7_13.length co62) x7_13 ((rd_T38 l0 x8_1).f0) [.int .i64 ((rd_T38 l0 x8_1).f0)] (fun _ => True) (fun _ => False) rfl rfl ?aP (fun _ hk => hk.elim) ?aF ?aO ?aB ?aS ?aL ?_; (case aP => exact rfl); (case aB => exact (by repeat (first | (with_reducible first | exact HB.out | apply below_alloc | apply pw_below_drewN | apply below_drew1) | exact HB.out))); (case aF => exact (fun _ _ => trivial)); (case aO => exact (by (with_reducible repeat (first | apply Kd.R_alloc | apply Kd.R_drewN | apply Kd.R_drew)); exact HO_7.out)); (case aS => exact (below_size (by repeat (first | (with_reducible first | exact HB.out | apply below_alloc | apply pw_below_drewN | apply below_drew1) | exact HB.out)))); (case aL => have := LMc61.out; omega); intro v251 w63 ho hb hg hat; rw [← Ny250.out] at ho; have n0_ := Aside0.mk (hb); have n1_ := Aside0.mk (ho); clear HB; clear HO_7; have HB := n0_; have HO252 := n1_; clear n0_ n1_; clear ho hb hg hat)); try go_wp2_with (first | ((with_reducible refine gate_builtin (b := .append) (xs := #[.tmp 84, .tmp 90]) rfl ?_); at_builtin; refine Kd.R_append (Kd.int .i64) (w0 := w) w.heap.size rfl (.tmp 84) (.tmp 90) 63 2 (.int .i64 0) 8 rfl Try.underlying63 info2 rfl (by decide) (by omega) (.slice (some ad247) x7_13.length co62) x7_13 ((rd_T38 l0 x8_1).f0) [.int .i64 ((rd_T38 l0 x8_1).f0)] (fun _ => True) (fun _ => False) rfl rfl ?aP (fun _ hk => hk.elim) ?aF ?aO ?aB ?aS ?aL ?_; (case aP => exact rfl); (case aB => exact (by repeat (first | (with_reducible first | exact HB.out | apply below_alloc | apply pw_below_drewN | apply below_drew1) | exact HB.out))); (case aF => exact (fun _ _ => trivial)); (case aO => exact (by (with_reducible repeat (first | apply Kd.R_alloc | apply Kd.R_drewN | apply Kd.R_drew)); exact HO_7.out)); (case aS => exact (below_size (by repeat (first | (with_reducible first | exact HB.out | apply below_alloc | apply pw_below_drewN | apply below_drew1) | exact HB.out)))); (case aL => have := LMc61.out; omega); intro v251 w63 ho hb hg hat; rw [← Ny250.out] at ho; have n0_ := Aside0.mk (hb); have n1_ := Aside0.mk (ho); clear HB; clear HO_7; have HB := n0_; have HO252 := n1_; clear n0_ n1_; clear ho hb hg hat)))
  go_roundg kj17
  case measure => have := HK1.out; have := HJ4.out; have := HJ13.out; have := HJ17.out; omega
  case rel => exact ⟨(y250), (wrap64 (x8_1 + 1)), (by first | rfl | (simp; done) | (simp [*]; done)), H', ⟨by have := HK1.out; have := HJ4.out; have := HJ13.out; have := HJ17.out; omega⟩, ⟨by (with_reducible repeat (first | apply Kd.R_alloc | apply Kd.R_drewN | apply Kd.R_drew)); exact HO252.out⟩, ⟨by repeat (first | (with_reducible first | exact HB.out | apply below_alloc | apply pw_below_drewN | apply below_drew1) | exact HB.out)⟩⟩

end Go.Proofs.Ytpekjfmlpogfaaa.PAll
