-- Written by wip/tools/hprint.py of this claim's session (a driver over the kit's print, with contracts proved by hand among them).
import Derived.Test.YtemlhkognjhgbaaPAllx0
import Derived.Test.YtemlhkognjhgbaaPAllx1
import Derived.Test.YtemlhkognjhgbaaPAllx2
import Derived.Test.YtemlhkognjhgbaaPAllx10
namespace Go.Proofs.Ytemlhkognjhgbaa.PAll
open Go.RowKit Go.Proofs.YtemlhkognjhgbaaW.PrintWords Go.Proofs.YtemlhkognjhgbaaW.PrintLast Go.Proofs.YtemlhkognjhgbaaW.PrintMore
attribute [local go_sem] max2_int min2_int max_two min_two max_three min_three max_four min_four   -- for this text's walks alone
set_option linter.unusedVariables false
set_option linter.unusedSimpArgs false

/-! ### share_Bonus: function 12, by hand -/
def bonusTo (k : Nat) (l0 : List S33) (who : Int) (own : Nat) : Nat → Option Int
  | 0 => some 0
  | i + 1 => (bonusTo k l0 who own i).bind fun n => if (rd_T33 l0 (i : Int)).f0 = who then some n else (share_Share.f k (rd_T33 l0 (i : Int)).f0 (rd_T33 l0 (i : Int)).f1 (rd_T33 l0 (i : Int)).f2).bind fun s => some (if fgt s own = true then wrap64 (n + 1) else n)
theorem bonusTo_mono (l0 : List S33) (who : Int) (own : Nat) (k : Nat) : ∀ i, LeO (bonusTo k l0 who own i) (bonusTo (k + 1) l0 who own i)
  | 0 => LeO.refl _
  | i + 1 => by
    refine LeO.bind (bonusTo_mono l0 who own k i) (fun n => ?_)
    refine LeO.ite (LeO.refl _) (LeO.bind (share_Share.mono _ _ _ _) (fun _ => LeO.refl _))
theorem bonusTo_some {k : Nat} {l0 : List S33} {who : Int} {own : Nat} : ∀ {j i : Nat}, i ≤ j → ∀ {r}, bonusTo k l0 who own j = some r → ∃ n, bonusTo k l0 who own i = some n
  | 0, i, h, r, e => by obtain rfl : i = 0 := by omega
                        exact ⟨r, e⟩
  | j + 1, i, h, r, e => by
    by_cases c : i = j + 1
    · subst c; exact ⟨r, e⟩
    · obtain ⟨n, hn, _⟩ := Option.bind_eq_some_iff.mp e
      exact bonusTo_some (by omega) hn
def share_Bonus.f (k : Nat) (l0 : List S33) (a1 : Int) : Option Int :=
  (@api_Use.f ⟨a1⟩ k l0).bind fun at_ => if at_ < 0 then some 0 else if at_ < (l0.length : Int) then (share_Share.f k (rd_T33 l0 at_).f0 (rd_T33 l0 at_).f1 (rd_T33 l0 at_).f2).bind fun own => if l0.length ≤ 1000000000 then bonusTo k l0 a1 own l0.length else none else none
theorem share_Bonus.mono : ∀ a0 a1 k, LeO (share_Bonus.f k a0 a1) (share_Bonus.f (k + 1) a0 a1) := by
  intro a0 a1 k
  unfold share_Bonus.f
  refine LeO.bind (@api_Use.mono ⟨a1⟩ _ _) (fun _ => LeO.ite (LeO.refl _) (LeO.ite (LeO.bind (share_Share.mono _ _ _ _) (fun _ => LeO.ite (bonusTo_mono _ _ _ _ _) (LeO.refl _))) (LeO.refl _)))
set_option maxHeartbeats 8000000 in
set_option maxRecDepth 100000 in
theorem share_Bonus.calls (k : Nat) (A0 : Option Addr) (c0 : Nat) (l0 : List S33) (a1 : Int) (r : Int) (w : World) (hr0 : Kd.C k33 w A0 l0.length l0) (hc0 : l0.length ≤ c0) (h : share_Bonus.f k l0 a1 = some r) :
    Calls Try.prog 12 #[.slice A0 l0.length c0, .int .i64 a1] w fun e w' => e = .returned (.int .i64 r) ∧ Below w.heap.size w w' := by
  unfold share_Bonus.f at h
  have hu33 := Try.underlying33
  letI iV : CapV := ⟨a1⟩
  letI iX : CapX := { W0 := w.alloc (.cells #[.int .i64 a1] 3), CB := w.heap.size, hb := blk_new w _ }
  obtain ⟨at_, hA, h⟩ := Option.bind_eq_some_iff.mp h
  have HA := Aside0.mk hA
  clear hA
  have HR0 := Aside0.mk hr0
  clear hr0
  by_cases c : at_ < 0
  · rw [if_pos c] at h
    obtain rfl := Option.some.inj h
    have cb : decide (at_ < 0) = true := decide_eq_true c
    go_enter Try.func12, Try.ntmps12
    go_wp2_with (first | (go_at_call 31; refine (api_Use.calls k _ _ l0 at_ _ (Kd.C_alloc HR0.out _) hc0 (Below.refl _ _) HA.out).mono ?_; rintro e w2 ⟨rfl, hb⟩; have HB := Aside0.mk hb; clear hb))
    go_ret
    exact ⟨rfl, below_step (below_alloc (Below.refl _ _) _) HB.out⟩
  · rw [if_neg c] at h
    have cb : decide (at_ < 0) = false := decide_eq_false c
    by_cases c1 : at_ < (l0.length : Int)
    · rw [if_pos c1] at h
      obtain ⟨own, hO, h⟩ := Option.bind_eq_some_iff.mp h
      by_cases hlen : l0.length ≤ 1000000000
      · rw [if_pos hlen] at h
        have HO := Aside0.mk hO
        clear hO
        have HX := Aside0.mk h
        clear h
        go_enter Try.func12, Try.ntmps12
        go_wp2_with (first | (go_at_call 31; refine (api_Use.calls k _ _ l0 at_ _ (Kd.C_alloc HR0.out _) hc0 (Below.refl _ _) HA.out).mono ?_; rintro e w2 ⟨rfl, hb⟩; have HB := Aside0.mk hb; clear hb; obtain ⟨ad, e_, hx0, hx1, hx2⟩ := at_T33 (Kd.C_below (Kd.C_alloc HR0.out _) HB.out) at_ (by omega) c1; cases e_; have p0 := eq_true (show 0 ≤ at_ by omega); have q0 := eq_true c1) | (go_at_call 14; refine (share_Share.calls k _ _ _ own _ HO.out).mono ?_; rintro e w3 ⟨rfl, hb⟩; have HB3 := Aside0.mk (below_step HB.out hb); clear hb))
        clear p0 q0 hx0 hx1 hx2
        have hl0 := Aside0.mk HR0.out
        go_loopw [7, 22] (fun v7 v22 wc => ∃ (x : Int) (n : Int), 0 ≤ x ∧ x ≤ (l0.length : Int) ∧ v22 = .int .i64 x ∧ v7 = .int .i64 n ∧ Aside0 (bonusTo k l0 a1 own x.toNat = some n) ∧ Aside0 (Below (CapX.W0 (self := iX)).heap.size (CapX.W0 (self := iX)) wc)) (fun _ v22 _ => l0.length - (intOf v22).toNat)
        case atStart => exact ⟨0, 0, by omega, by omega, rfl, rfl, ⟨rfl⟩, ⟨HB3.out⟩⟩
        case round =>
          obtain ⟨x, n, h0x, hi, rfl, rfl, HN, HB4⟩ := hrel
          by_cases c8 : x < (l0.length : Int)
          · have c8b : decide (x < (l0.length : Int)) = true := decide_eq_true c8
            obtain ⟨m, hm⟩ := bonusTo_some (show x.toNat + 1 ≤ l0.length by omega) HX.out
            have HM := Aside0.mk hm
            rw [bonusTo, HN.out, Option.bind_some, Int.toNat_of_nonneg h0x] at hm
            have hl1 := Kd.C_below (Kd.C_alloc HR0.out (.cells #[.int .i64 a1] 3)) HB4.out
            obtain ⟨ad2, e2, hx0, hx1, hx2⟩ := at_T33 hl1 x h0x c8
            cases e2
            have p0 := eq_true h0x
            have q0 := eq_true c8
            have hxB : wr.cell? ⟨w.heap.size, 0, none⟩ = some (.int .i64 a1) := (blk_cell (blk_below (CapX.hb (self := iX)) HB4.out) 0).trans rfl
            have hltB : w.heap.size < wr.heap.size := World.block_lt_of_cell? wr _ hxB
            have hx1n : (x + 1).toNat = x.toNat + 1 := by omega
            have hxl : l0.length - (x + 1).toNat < l0.length - x.toNat := by omega
            have hxb : x + 1 ≤ (l0.length : Int) := by omega
            by_cases cw : (rd_T33 l0 x).f0 = a1
            · rw [if_pos cw] at hm
              obtain rfl := Option.some.inj hm
              clear hm
              have cw0 : ((rd_T33 l0 x).f0 == a1) = true := beq_iff_eq.mpr cw
              have cw1 : ((rd_T33 l0 x).f0 != a1) = false := bne_eq_false_iff_eq.mpr cw
              go_wp2
              exact ⟨⟨x + 1, _, by omega, hxb, rfl, rfl, ⟨by rw [hx1n]; exact HM.out⟩, ⟨below_alloc HB4.out _⟩⟩, hxl⟩
            · rw [if_neg cw] at hm
              obtain ⟨s_, hS, hm⟩ := Option.bind_eq_some_iff.mp hm
              have HS := Aside0.mk hS
              clear hS
              have cw0 : ((rd_T33 l0 x).f0 == a1) = false := beq_eq_false_iff_ne.mpr cw
              have cw1 : ((rd_T33 l0 x).f0 != a1) = true := bne_iff_ne.mpr cw
              by_cases cs : fgt s_ own = true
              · rw [if_pos cs] at hm
                obtain rfl := Option.some.inj hm
                clear hm
                go_wp2_with (first | (go_at_call 14; refine (share_Share.calls k _ _ _ s_ _ HS.out).mono ?_; rintro e w6 ⟨rfl, hb⟩; have HB6 := Aside0.mk (below_step (below_alloc HB4.out _) hb); clear hb))
                exact ⟨⟨x + 1, _, by omega, hxb, rfl, rfl, ⟨by rw [hx1n]; exact HM.out⟩, HB6⟩, hxl⟩
              · rw [if_neg cs] at hm
                obtain rfl := Option.some.inj hm
                clear hm
                have cs0 : fgt s_ own = false := by simpa using cs
                go_wp2_with (first | (go_at_call 14; refine (share_Share.calls k _ _ _ s_ _ HS.out).mono ?_; rintro e w6 ⟨rfl, hb⟩; have HB6 := Aside0.mk (below_step (below_alloc HB4.out _) hb); clear hb))
                exact ⟨⟨x + 1, _, by omega, hxb, rfl, rfl, ⟨by rw [hx1n]; exact HM.out⟩, HB6⟩, hxl⟩
          · have c8b : decide (x < (l0.length : Int)) = false := decide_eq_false c8
            obtain rfl : x = (l0.length : Int) := by omega
            obtain rfl := Option.some.inj (HN.out.symm.trans HX.out)
            go_wp2
            go_ret
            exact ⟨rfl, below_step (below_alloc (Below.refl _ _) _) HB4.out⟩
      · rw [if_neg hlen] at h
        cases h
    · rw [if_neg c1] at h
      cases h


-- NOT PRINTED: function 43 (math_archFrexp)

/-! ### math_normalize: function 49 -/
def math_normalize.f (a0 : Nat) : Option (Nat × Int) := (math_Abs.f a0).bind fun t156 => (if flt t156 4503599627370496 = true then (if fok .mul a0 4841369599423283200 = true then (some (fop .mul a0 4841369599423283200, (-52))) else (none)) else (some (a0, 0)))
set_option maxHeartbeats 8000000 in
set_option maxRecDepth 100000 in
theorem math_normalize.calls (a0 : Nat) (r1 : Nat) (r2 : Int) (w : World) (h : math_normalize.f a0 = some (r1, r2)) :
    Calls Try.prog 49 #[.float .f64 a0] w fun e w' => e = .returned (.tuple #[.float .f64 r1, .int .i64 r2]) ∧ Drawn0 w w' := by
  have H : ((math_Abs.f a0).bind fun t156 => (if flt t156 4503599627370496 = true then (if fok .mul a0 4841369599423283200 = true then (some (fop .mul a0 4841369599423283200, (-52))) else (none)) else (some (a0, 0)))) = some (r1, r2) := h
  clear h
  replace H := Option.bind_eq_some_iff.mp H
  obtain ⟨t156, A20, H⟩ := H
  replace H : (if flt t156 4503599627370496 = true then (if fok .mul a0 4841369599423283200 = true then (some (fop .mul a0 4841369599423283200, (-52))) else (none)) else (some (a0, 0))) = some (r1, r2) := H
  have A2 := Aside0.mk A20
  clear A20
  by_cases c3 : flt t156 4503599627370496 = true
  · rw [if_pos c3] at H
    have c3b0 : flt t156 4503599627370496 = true := c3
    clear c3
    by_cases c4 : fok .mul a0 4841369599423283200 = true
    · rw [if_pos c4] at H
      have c4b0 : fok .mul a0 4841369599423283200 = true := c4
      clear c4
      simp only [Option.some.injEq, Prod.mk.injEq] at H
      obtain ⟨rfl, rfl⟩ := H
      go_enter Try.func49, Try.ntmps49
      go_wp2_with (first | ((with_reducible refine gate_callee (f := 42) rfl ?_); refine goesL_ (some 5) rfl rfl Try.func42 (by kernel_rfl) rfl #[.float .f64 a0] rfl (by (try simp only [List.map_toArray, List.map_cons, List.map_nil]); first | done | rfl | (simp only [List.length_drop, List.length_take]; rfl)) ?_; (with_reducible refine (math_Abs.calls a0 t156 _ A2.out).mono ?_); rintro e w' ⟨rfl, ⟨nd, rfl⟩⟩; refine ⟨_, rfl, ?_⟩))
      go_ret2
      exact ⟨by first | rfl | (simp; done) | (simp [*]; done), by repeat (first | exact Drawn0.refl _ | apply Drawn0.step)⟩
    · rw [if_neg c4] at H
      exact absurd H (by simp)
  · rw [if_neg c3] at H
    have c3b0 : flt t156 4503599627370496 = false := by simpa using c3
    clear c3
    simp only [Option.some.injEq, Prod.mk.injEq] at H
    obtain ⟨rfl, rfl⟩ := H
    go_enter Try.func49, Try.ntmps49
    go_wp2_with (first | ((with_reducible refine gate_callee (f := 42) rfl ?_); refine goesL_ (some 5) rfl rfl Try.func42 (by kernel_rfl) rfl #[.float .f64 a0] rfl (by (try simp only [List.map_toArray, List.map_cons, List.map_nil]); first | done | rfl | (simp only [List.length_drop, List.length_take]; rfl)) ?_; (with_reducible refine (math_Abs.calls a0 t156 _ A2.out).mono ?_); rintro e w' ⟨rfl, ⟨nd, rfl⟩⟩; refine ⟨_, rfl, ?_⟩))
    go_ret2
    exact ⟨by first | rfl | (simp; done) | (simp [*]; done), by repeat (first | exact Drawn0.refl _ | apply Drawn0.step)⟩

/-! ### math_frexp: function 44 -/
def math_frexp.j0 : Nat → Nat → Bool → Option (Nat × Int)
  | 0, _, _ => none
  | k + 1, x0, x9 => if x9 = true then (some (x0, 0)) else ((math_normalize.f x0).bind fun bt159 => (some (Int.toNat (Go.bits .or .u64 (Go.bits .andNot .u64 (bt159.1 : Int) 9218868437227405312) 4602678819172646912), wrap64 (bt159.2 + (wrap64 ((wrap64 ((wrap64 (Go.bits .and .u64 ((bt159.1 : Int) / 4503599627370496) 2047)) - 1023)) + 1))))))
def math_frexp.f (k : Nat) (a0 : Nat) : Option (Nat × Int) := if feq a0 0 = true then (some (a0, 0)) else ((math_IsInf.f a0 0).bind fun t157 => (if t157 = true then (math_frexp.j0 k a0 true) else ((math_IsNaN.f a0).bind fun t158 => (math_frexp.j0 k a0 t158))))
theorem math_frexp.mono_l : ∀ k, (∀ y0 y1, LeO (math_frexp.j0 k y0 y1) (math_frexp.j0 (k + 1) y0 y1))
  | 0 => fun _ _ r h => by simp [math_frexp.j0] at h
  | k + 1 => by
    have ih0 := math_frexp.mono_l k
    · intro y0 y1
      unfold math_frexp.j0
      repeat' first
      | (with_reducible exact ih0 _ _)
      | (with_reducible exact LeO.refl _)
      | (with_reducible exact LeO.none _)
      | (with_reducible refine LeO.ite ?_ ?_)
      | (with_reducible refine LeO.bind ?_ (fun _ => ?_))
      | exact ih0 _ _
      | exact LeO.none _
      | refine LeO.ite ?_ ?_
      | refine LeO.bind ?_ (fun _ => ?_)
theorem math_frexp.mono : ∀ a0 k, LeO (math_frexp.f k a0) (math_frexp.f (k + 1) a0) := by
  intro a0 k
  have ih0 := math_frexp.mono_l k
  unfold math_frexp.f
  repeat' first
      | (with_reducible exact ih0 _ _)
      | (with_reducible exact LeO.refl _)
      | (with_reducible exact LeO.none _)
      | (with_reducible refine LeO.ite ?_ ?_)
      | (with_reducible refine LeO.bind ?_ (fun _ => ?_))
      | exact ih0 _ _
      | exact LeO.none _
      | refine LeO.ite ?_ ?_
      | refine LeO.bind ?_ (fun _ => ?_)
set_option maxHeartbeats 8000000 in
set_option maxRecDepth 100000 in
theorem math_frexp.calls (k : Nat) (a0 : Nat) (r1 : Nat) (r2 : Int) (w : World) (h : math_frexp.f k a0 = some (r1, r2)) :
    Calls Try.prog 44 #[.float .f64 a0] w fun e w' => e = .returned (.tuple #[.float .f64 r1, .int .i64 r2]) ∧ Drawn0 w w' := by
  have H : (if feq a0 0 = true then (some (a0, 0)) else ((math_IsInf.f a0 0).bind fun t157 => (if t157 = true then (math_frexp.j0 k a0 true) else ((math_IsNaN.f a0).bind fun t158 => (math_frexp.j0 k a0 t158))))) = some (r1, r2) := h
  clear h
  by_cases c2 : feq a0 0 = true
  · rw [if_pos c2] at H
    have c2b0 : feq a0 0 = true := c2
    clear c2
    simp only [Option.some.injEq, Prod.mk.injEq] at H
    obtain ⟨rfl, rfl⟩ := H
    go_enter Try.func44, Try.ntmps44
    go_wp2
    go_ret2
    exact ⟨by first | rfl | (simp; done) | (simp [*]; done), by repeat (first | exact Drawn0.refl _ | apply Drawn0.step)⟩
  · rw [if_neg c2] at H
    have c2b0 : feq a0 0 = false := by simpa using c2
    clear c2
    have HC3 := Aside0.mk H
    clear H
    go_enter Try.func44, Try.ntmps44
    go_upto_region 3 with (fail)
    go_cut [9] (fun v9 wc => ∃ (kq : Nat) (x9_2 : Bool), v9 = .bool x9_2 ∧ Aside0 (math_frexp.j0 kq a0 x9_2 = some (r1, r2)) ∧ Aside0 (kq ≤ k) ∧ Drawn0 w wc)
    case first =>
      have H := HC3.out
      clear HC3
      replace H := Option.bind_eq_some_iff.mp H
      obtain ⟨t157, A40, H⟩ := H
      replace H : (if t157 = true then (math_frexp.j0 k a0 true) else ((math_IsNaN.f a0).bind fun t158 => (math_frexp.j0 k a0 t158))) = some (r1, r2) := H
      have A4 := Aside0.mk A40
      clear A40
      by_cases c5 : t157 = true
      · subst c5
        have H1 : (math_frexp.j0 k a0 true) = some (r1, r2) := by rw [if_pos rfl] at H; exact H
        clear H
        have H := H1
        clear H1
        have H' := Aside0.mk H
        clear H
        go_wp2_with (first | ((with_reducible refine gate_callee (f := 35) rfl ?_); refine goesL_ (some 11) rfl rfl Try.func35 (by kernel_rfl) rfl #[.float .f64 a0, .int .i64 0] rfl (by (try simp only [List.map_toArray, List.map_cons, List.map_nil]); first | done | rfl | (simp only [List.length_drop, List.length_take]; rfl)) ?_; (with_reducible refine (math_IsInf.calls a0 0 true _ A4.out).mono ?_); rintro e w' ⟨rfl, ⟨nd, rfl⟩⟩; refine ⟨_, rfl, ?_⟩))
        go_meet
        case rel => exact ⟨_, (true), (by first | rfl | (simp; done) | (simp [*]; done)), H', ⟨by first | omega | exact Nat.le_refl _⟩, by repeat (first | exact Drawn0.refl _ | apply Drawn0.step)⟩
      · replace c5 := Bool.eq_false_iff.mpr c5
        subst c5
        have H1 : ((math_IsNaN.f a0).bind fun t158 => (math_frexp.j0 k a0 t158)) = some (r1, r2) := by rw [if_neg (show ¬ (false = true) by decide)] at H; exact H
        clear H
        have H := H1
        clear H1
        replace H := Option.bind_eq_some_iff.mp H
        obtain ⟨t158, A60, H⟩ := H
        replace H : (math_frexp.j0 k a0 t158) = some (r1, r2) := H
        have A6 := Aside0.mk A60
        clear A60
        have H' := Aside0.mk H
        clear H
        go_wp2_with (first | ((with_reducible refine gate_callee (f := 35) rfl ?_); refine goesL_ (some 11) rfl rfl Try.func35 (by kernel_rfl) rfl #[.float .f64 a0, .int .i64 0] rfl (by (try simp only [List.map_toArray, List.map_cons, List.map_nil]); first | done | rfl | (simp only [List.length_drop, List.length_take]; rfl)) ?_; (with_reducible refine (math_IsInf.calls a0 0 false _ A4.out).mono ?_); rintro e w' ⟨rfl, ⟨nd, rfl⟩⟩; refine ⟨_, rfl, ?_⟩) | (go_at_call 34; (with_reducible refine (math_IsNaN.calls a0 t158 _ A6.out).mono ?_); rintro e w' ⟨rfl, ⟨nd, rfl⟩⟩))
        go_meet
        case rel => exact ⟨_, (t158), (by first | rfl | (simp; done) | (simp [*]; done)), H', ⟨by first | omega | exact Nat.le_refl _⟩, by repeat (first | exact Drawn0.refl _ | apply Drawn0.step)⟩
    case rest =>
      clear HC3
      try clear c2
      try clear c2b0
      try clear p2
      try clear c3
      try clear c4
      try clear c5
      obtain ⟨kq, x9_2, rfl, HA, HJ2, ⟨mc2, rfl⟩⟩ := hcut
      cases kq with
      | zero => exact absurd HA.out (by simp [math_frexp.j0])
      | succ kj2 =>
        have H := HA.out
        clear HA
        simp only [math_frexp.j0] at H
        by_cases c7 : x9_2 = true
        · subst c7
          have H1 : (some (a0, 0)) = some (r1, r2) := by rw [if_pos rfl] at H; exact H
          clear H
          have H := H1
          clear H1
          simp only [Option.some.injEq, Prod.mk.injEq] at H
          obtain ⟨rfl, rfl⟩ := H
          go_wp2
          go_ret2
          exact ⟨by first | rfl | (simp; done) | (simp [*]; done), by repeat (first | exact Drawn0.refl _ | apply Drawn0.step)⟩
        · replace c7 := Bool.eq_false_iff.mpr c7
          subst c7
          have H1 : ((math_normalize.f a0).bind fun bt159 => (some (Int.toNat (Go.bits .or .u64 (Go.bits .andNot .u64 (bt159.1 : Int) 9218868437227405312) 4602678819172646912), wrap64 (bt159.2 + (wrap64 ((wrap64 ((wrap64 (Go.bits .and .u64 ((bt159.1 : Int) / 4503599627370496) 2047)) - 1023)) + 1)))))) = some (r1, r2) := by rw [if_neg (show ¬ (false = true) by decide)] at H; exact H
          clear H
          have H := H1
          clear H1
          replace H := Option.bind_eq_some_iff.mp H
          obtain ⟨⟨t159, t160⟩, A80, H⟩ := H
          replace H : (some (Int.toNat (Go.bits .or .u64 (Go.bits .andNot .u64 (t159 : Int) 9218868437227405312) 4602678819172646912), wrap64 (t160 + (wrap64 ((wrap64 ((wrap64 (Go.bits .and .u64 ((t159 : Int) / 4503599627370496) 2047)) - 1023)) + 1))))) = some (r1, r2) := H
          have A8 := Aside0.mk A80
          clear A80
          simp only [Option.some.injEq, Prod.mk.injEq] at H
          obtain ⟨rfl, rfl⟩ := H
          go_wp2_with (first | ((with_reducible refine gate_callee (f := 49) rfl ?_); refine goesL_ (some 19) rfl rfl Try.func49 (by kernel_rfl) rfl #[.float .f64 a0] rfl (by (try simp only [List.map_toArray, List.map_cons, List.map_nil]); first | done | rfl | (simp only [List.length_drop, List.length_take]; rfl)) ?_; (with_reducible refine (math_normalize.calls a0 t159 t160 _ A8.out).mono ?_); rintro e w' ⟨rfl, ⟨nd, rfl⟩⟩; refine ⟨_, rfl, ?_⟩))
          go_ret2
          exact ⟨by first | rfl | (simp; done) | (simp [*]; done), by repeat (first | exact Drawn0.refl _ | apply Drawn0.step)⟩

end Go.Proofs.Ytemlhkognjhgbaa.PAll
