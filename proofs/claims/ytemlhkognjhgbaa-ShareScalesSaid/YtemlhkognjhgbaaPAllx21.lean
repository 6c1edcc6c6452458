-- Written by wip/tools/hprint.py of this claim's session (a driver over the kit's print, with contracts proved by hand among them).
import Derived.Test.YtemlhkognjhgbaaPAllx0
import Derived.Test.YtemlhkognjhgbaaPAllx2
import Derived.Test.YtemlhkognjhgbaaPAllx11
import Derived.Test.YtemlhkognjhgbaaPAllx13
import Derived.Test.YtemlhkognjhgbaaPAllx20
namespace Go.Proofs.Ytemlhkognjhgbaa.PAll
open Go.RowKit Go.Proofs.YtemlhkognjhgbaaW.PrintWords Go.Proofs.YtemlhkognjhgbaaW.PrintLast Go.Proofs.YtemlhkognjhgbaaW.PrintMore
attribute [local go_sem] max2_int min2_int max_two min_two max_three min_three max_four min_four   -- for this text's walks alone
set_option linter.unusedVariables false
set_option linter.unusedSimpArgs false

/-! ### bailiwicklaw15_ShareScales: function 5 -/
mutual
def bailiwicklaw15_ShareScales.j0 : Nat → List (S33) → Int → Bool → Option (Bool)
  | 0, _, _, _ => none
  | k + 1, x3, x4, x54 => if x54 = true then (some false) else (bailiwicklaw15_ShareScales.l0 k x3 x4 0 0)
def bailiwicklaw15_ShareScales.l0 : Nat → List (S33) → Int → Int → Int → Option (Bool)
  | 0, _, _, _, _ => none
  | k + 1, x3, x4, x15, x16 => if x16 < (x3.length : Int) then (if 0 ≤ x16 then (if ((rd_T33 x3 x16).f0) = x4 then (bailiwicklaw15_ShareScales.l0 k x3 x4 x15 (wrap64 (x16 + 1))) else (bailiwicklaw15_ShareScales.l0 k x3 x4 (wrap64 (x15 + 1)) (wrap64 (x16 + 1)))) else (none)) else ((share_Bonus.f k x3 x4).bind fun t261 => (if t261 ≥ 0 then (if t261 ≤ x15 then ((some (([] : List (S33)) : List (S33))).bind fun y262 => (if y262.length + x3.length < 5864062014805 then ((some (y262 ++ x3 : List (S33))).bind fun y265 => (if y265.length < 5864062014805 then ((share_Bonus.f k (y265 ++ [(⟨x4, 0, 0⟩ : S33)]) x4).bind fun t271 => (some (decide (t271 ≥ t261)))) else (none))) else (none))) else (some false)) else (some false)))
end
def bailiwicklaw15_ShareScales.f (k : Nat) (a0 : Int) (a1 : Int) (a2 : Int) (l3 : List (S33)) (a4 : Int) : Option (Bool) := (bailiwicklaw15_awake.f k).bind fun t249 => (if t249 = true then (if 0 ≤ (mn (l3.length : Int) 60) then (if (mn (l3.length : Int) 60) ≤ (l3.length : Int) then ((some (l3.take ((mn (l3.length : Int) 60) : Int).toNat : List (S33))).bind fun y250 => ((share_Share.f k 0 (floatOfInt .f64 a0) (floatOfInt .f64 a1)).bind fun t255 => (if fok .mul 4611686018427387904 (floatOfInt .f64 a0) = true then (if fok .mul 4611686018427387904 (floatOfInt .f64 a1) = true then ((share_Share.f k 0 (fop .mul 4611686018427387904 (floatOfInt .f64 a0)) (fop .mul 4611686018427387904 (floatOfInt .f64 a1))).bind fun t256 => ((bailiwicklaw15_same.f t255 t256).bind fun t257 => (if t257 = true then (if fok .add (floatOfInt .f64 a0) (floatOfInt .f64 a2) = true then ((share_Share.f k 0 (fop .add (floatOfInt .f64 a0) (floatOfInt .f64 a2)) (floatOfInt .f64 a1)).bind fun t258 => ((share_Share.f k 0 (floatOfInt .f64 a0) (floatOfInt .f64 a1)).bind fun t259 => (bailiwicklaw15_ShareScales.j0 k y250 a4 (flt t258 t259)))) else (none)) else (bailiwicklaw15_ShareScales.j0 k y250 a4 true)))) else (none)) else (none)))) else (none)) else (none)) else (some false))
theorem bailiwicklaw15_ShareScales.mono_l : ∀ k, (∀ y0 y1 y2, LeO (bailiwicklaw15_ShareScales.j0 k y0 y1 y2) (bailiwicklaw15_ShareScales.j0 (k + 1) y0 y1 y2)) ∧ (∀ y0 y1 y2 y3, LeO (bailiwicklaw15_ShareScales.l0 k y0 y1 y2 y3) (bailiwicklaw15_ShareScales.l0 (k + 1) y0 y1 y2 y3))
  | 0 => ⟨fun _ _ _ r h => by simp [bailiwicklaw15_ShareScales.j0] at h, fun _ _ _ _ r h => by simp [bailiwicklaw15_ShareScales.l0] at h⟩
  | k + 1 => by
    obtain ⟨ih0, ih1⟩ := bailiwicklaw15_ShareScales.mono_l k
    refine ⟨?_, ?_⟩
    · intro y0 y1 y2
      unfold bailiwicklaw15_ShareScales.j0
      repeat' first
      | (with_reducible exact ih0 _ _ _)
      | (with_reducible exact ih1 _ _ _ _)
      | (with_reducible exact bailiwicklaw15_awake.mono _)
      | (with_reducible exact share_Bonus.mono _ _ _)
      | (with_reducible exact share_Share.mono _ _ _ _)
      | (with_reducible exact LeO.refl _)
      | (with_reducible exact LeO.none _)
      | (with_reducible refine LeO.ite ?_ ?_)
      | (with_reducible refine LeO.bind ?_ (fun _ => ?_))
      | exact ih0 _ _ _
      | exact ih1 _ _ _ _
      | exact bailiwicklaw15_awake.mono _
      | exact share_Bonus.mono _ _ _
      | exact share_Share.mono _ _ _ _
      | exact LeO.none _
      | refine LeO.ite ?_ ?_
      | refine LeO.bind ?_ (fun _ => ?_)
    · intro y0 y1 y2 y3
      unfold bailiwicklaw15_ShareScales.l0
      repeat' first
      | (with_reducible exact ih0 _ _ _)
      | (with_reducible exact ih1 _ _ _ _)
      | (with_reducible exact bailiwicklaw15_awake.mono _)
      | (with_reducible exact share_Bonus.mono _ _ _)
      | (with_reducible exact share_Share.mono _ _ _ _)
      | (with_reducible exact LeO.refl _)
      | (with_reducible exact LeO.none _)
      | (with_reducible refine LeO.ite ?_ ?_)
      | (with_reducible refine LeO.bind ?_ (fun _ => ?_))
      | exact ih0 _ _ _
      | exact ih1 _ _ _ _
      | exact bailiwicklaw15_awake.mono _
      | exact share_Bonus.mono _ _ _
      | exact share_Share.mono _ _ _ _
      | exact LeO.none _
      | refine LeO.ite ?_ ?_
      | refine LeO.bind ?_ (fun _ => ?_)
theorem bailiwicklaw15_ShareScales.mono : ∀ a0 a1 a2 a3 a4 k, LeO (bailiwicklaw15_ShareScales.f k a0 a1 a2 a3 a4) (bailiwicklaw15_ShareScales.f (k + 1) a0 a1 a2 a3 a4) := by
  intro a0 a1 a2 a3 a4 k
  obtain ⟨ih0, ih1⟩ := bailiwicklaw15_ShareScales.mono_l k
  unfold bailiwicklaw15_ShareScales.f
  repeat' first
      | (with_reducible exact ih0 _ _ _)
      | (with_reducible exact ih1 _ _ _ _)
      | (with_reducible exact bailiwicklaw15_awake.mono _)
      | (with_reducible exact share_Bonus.mono _ _ _)
      | (with_reducible exact share_Share.mono _ _ _ _)
      | (with_reducible exact LeO.refl _)
      | (with_reducible exact LeO.none _)
      | (with_reducible refine LeO.ite ?_ ?_)
      | (with_reducible refine LeO.bind ?_ (fun _ => ?_))
      | exact ih0 _ _ _
      | exact ih1 _ _ _ _
      | exact bailiwicklaw15_awake.mono _
      | exact share_Bonus.mono _ _ _
      | exact share_Share.mono _ _ _ _
      | exact LeO.none _
      | refine LeO.ite ?_ ?_
      | refine LeO.bind ?_ (fun _ => ?_)
def bailiwicklaw15_ShareScales.T6 : Bool × List (List Nat × List Nat) := (true, [([], []), ([0], [0]), ([], []), ([2], [2]), ([], []), ([4], [4]), ([3, 5], [3, 5]), ([6, 1], [6]), ([1, 7, 7], [1, 7]), ([8], [8]), ([9, 8], [9]), ([10], [10]), ([10], [10]), ([11, 12, 10], [10, 11, 12]), ([10], [10]), ([13, 14, 10], [10, 13, 14]), ([15, 10, 10], [10, 15]), ([10], [10]), ([17, 16, 10], [10, 17]), ([16, 18, 10], [10, 16, 18]), ([10, 19], [10, 19])])
def bailiwicklaw15_ShareScales.B6 : List Nat := [0, 1, 0, 4, 0, 16, 60, 127, 255, 511, 1023, 2047, 2047, 8191, 2047, 32767, 65535, 2047, 262143, 524287, 1048575]
theorem bailiwicklaw15_ShareScales.tab6 : rtab .any (opsOf Try.f5 6) = bailiwicklaw15_ShareScales.T6 := by kernel_rfl
theorem bailiwicklaw15_ShareScales.bits6 : waitsOk bailiwicklaw15_ShareScales.T6.2 bailiwicklaw15_ShareScales.B6 = true := by kernel_rfl
set_option maxHeartbeats 8000000 in
set_option maxRecDepth 100000 in
theorem bailiwicklaw15_ShareScales.calls (k : Nat) (a0 : Int) (a1 : Int) (a2 : Int) (A3 : Option Addr) (c3 : Nat) (l3 : List (S33)) (a4 : Int) (r : Bool) (w : World) (hr3 : Kd.C k33 w A3 l3.length l3) (hc3 : l3.length ≤ c3) (h : bailiwicklaw15_ShareScales.f k a0 a1 a2 l3 a4 = some r) :
    Calls Try.prog 5 #[.int .u32 a0, .int .u32 a1, .int .u32 a2, .slice A3 l3.length c3, .int .i64 a4] w fun e w' => e = .returned (.bool r) ∧ Below w.heap.size w w' := by
  have hu33 := Try.underlying33
  have HR3 := Aside0.mk hr3
  have HC3 := Aside0.mk hc3
  clear hr3 hc3
  have HB := Aside0.mk (Below.refl w.heap.size w)
  have H : ((bailiwicklaw15_awake.f k).bind fun t249 => (if t249 = true then (if 0 ≤ (mn (l3.length : Int) 60) then (if (mn (l3.length : Int) 60) ≤ (l3.length : Int) then ((some (l3.take ((mn (l3.length : Int) 60) : Int).toNat : List (S33))).bind fun y250 => ((share_Share.f k 0 (floatOfInt .f64 a0) (floatOfInt .f64 a1)).bind fun t255 => (if fok .mul 4611686018427387904 (floatOfInt .f64 a0) = true then (if fok .mul 4611686018427387904 (floatOfInt .f64 a1) = true then ((share_Share.f k 0 (fop .mul 4611686018427387904 (floatOfInt .f64 a0)) (fop .mul 4611686018427387904 (floatOfInt .f64 a1))).bind fun t256 => ((bailiwicklaw15_same.f t255 t256).bind fun t257 => (if t257 = true then (if fok .add (floatOfInt .f64 a0) (floatOfInt .f64 a2) = true then ((share_Share.f k 0 (fop .add (floatOfInt .f64 a0) (floatOfInt .f64 a2)) (floatOfInt .f64 a1)).bind fun t258 => ((share_Share.f k 0 (floatOfInt .f64 a0) (floatOfInt .f64 a1)).bind fun t259 => (bailiwicklaw15_ShareScales.j0 k y250 a4 (flt t258 t259)))) else (none)) else (bailiwicklaw15_ShareScales.j0 k y250 a4 true)))) else (none)) else (none)))) else (none)) else (none)) else (some false))) = some r := h
  clear h
  replace H := Option.bind_eq_some_iff.mp H
  obtain ⟨t249, A60, H⟩ := H
  replace H : (if t249 = true then (if 0 ≤ (mn (l3.length : Int) 60) then (if (mn (l3.length : Int) 60) ≤ (l3.length : Int) then ((some (l3.take ((mn (l3.length : Int) 60) : Int).toNat : List (S33))).bind fun y250 => ((share_Share.f k 0 (floatOfInt .f64 a0) (floatOfInt .f64 a1)).bind fun t255 => (if fok .mul 4611686018427387904 (floatOfInt .f64 a0) = true then (if fok .mul 4611686018427387904 (floatOfInt .f64 a1) = true then ((share_Share.f k 0 (fop .mul 4611686018427387904 (floatOfInt .f64 a0)) (fop .mul 4611686018427387904 (floatOfInt .f64 a1))).bind fun t256 => ((bailiwicklaw15_same.f t255 t256).bind fun t257 => (if t257 = true then (if fok .add (floatOfInt .f64 a0) (floatOfInt .f64 a2) = true then ((share_Share.f k 0 (fop .add (floatOfInt .f64 a0) (floatOfInt .f64 a2)) (floatOfInt .f64 a1)).bind fun t258 => ((share_Share.f k 0 (floatOfInt .f64 a0) (floatOfInt .f64 a1)).bind fun t259 => (bailiwicklaw15_ShareScales.j0 k y250 a4 (flt t258 t259)))) else (none)) else (bailiwicklaw15_ShareScales.j0 k y250 a4 true)))) else (none)) else (none)))) else (none)) else (none)) else (some false)) = some r := H
  have A6 := Aside0.mk A60
  clear A60
  by_cases c7 : t249 = true
  · subst c7
    have H1 : (if 0 ≤ (mn (l3.length : Int) 60) then (if (mn (l3.length : Int) 60) ≤ (l3.length : Int) then ((some (l3.take ((mn (l3.length : Int) 60) : Int).toNat : List (S33))).bind fun y250 => ((share_Share.f k 0 (floatOfInt .f64 a0) (floatOfInt .f64 a1)).bind fun t255 => (if fok .mul 4611686018427387904 (floatOfInt .f64 a0) = true then (if fok .mul 4611686018427387904 (floatOfInt .f64 a1) = true then ((share_Share.f k 0 (fop .mul 4611686018427387904 (floatOfInt .f64 a0)) (fop .mul 4611686018427387904 (floatOfInt .f64 a1))).bind fun t256 => ((bailiwicklaw15_same.f t255 t256).bind fun t257 => (if t257 = true then (if fok .add (floatOfInt .f64 a0) (floatOfInt .f64 a2) = true then ((share_Share.f k 0 (fop .add (floatOfInt .f64 a0) (floatOfInt .f64 a2)) (floatOfInt .f64 a1)).bind fun t258 => ((share_Share.f k 0 (floatOfInt .f64 a0) (floatOfInt .f64 a1)).bind fun t259 => (bailiwicklaw15_ShareScales.j0 k y250 a4 (flt t258 t259)))) else (none)) else (bailiwicklaw15_ShareScales.j0 k y250 a4 true)))) else (none)) else (none)))) else (none)) else (none)) = some r := by rw [if_pos rfl] at H; exact H
    clear H
    have H := H1
    clear H1
    obtain ⟨ji8, hji8⟩ : ∃ j_ : Int, (mn (l3.length : Int) 60) = j_ := ⟨_, rfl⟩
    replace H : (if 0 ≤ (ji8) then (if (ji8) ≤ (l3.length : Int) then ((some (l3.take ((ji8) : Int).toNat : List (S33))).bind fun y250 => ((share_Share.f k 0 (floatOfInt .f64 a0) (floatOfInt .f64 a1)).bind fun t255 => (if fok .mul 4611686018427387904 (floatOfInt .f64 a0) = true then (if fok .mul 4611686018427387904 (floatOfInt .f64 a1) = true then ((share_Share.f k 0 (fop .mul 4611686018427387904 (floatOfInt .f64 a0)) (fop .mul 4611686018427387904 (floatOfInt .f64 a1))).bind fun t256 => ((bailiwicklaw15_same.f t255 t256).bind fun t257 => (if t257 = true then (if fok .add (floatOfInt .f64 a0) (floatOfInt .f64 a2) = true then ((share_Share.f k 0 (fop .add (floatOfInt .f64 a0) (floatOfInt .f64 a2)) (floatOfInt .f64 a1)).bind fun t258 => ((share_Share.f k 0 (floatOfInt .f64 a0) (floatOfInt .f64 a1)).bind fun t259 => (bailiwicklaw15_ShareScales.j0 k y250 a4 (flt t258 t259)))) else (none)) else (bailiwicklaw15_ShareScales.j0 k y250 a4 true)))) else (none)) else (none)))) else (none)) else (none)) = some r := by first | (rw [hji8] at H; exact H) | (simp only [hji8] at H ⊢; exact H)
    (try rw [hji8] at A6)
    (try (have hji8h : ji8 ≤ 60 := by (rw [← hji8]; unfold mn; (repeat' split) <;> omega)))
    (try (have hji8g : ji8 ≤ 64 := by omega))
    (try (have hji8l : 0 ≤ ji8 := by (rw [← hji8]; unfold mn; (repeat' split) <;> omega)))
    (try (have hji8m : 0 ≤ ji8 := by omega))
    have hji8_ : (if 60 < (l3.length : Int) then 60 else (l3.length : Int)) = ji8 := hji8
    by_cases c9 : 0 ≤ (ji8)
    · rw [if_pos c9] at H
      have c9b0 := eq_true c9
      have c9b1 : decide (0 ≤ (ji8)) = true := decide_eq_true c9
      clear c9
      by_cases c10 : (ji8) ≤ (l3.length : Int)
      · rw [if_pos c10] at H
        have c10b0 := eq_true c10
        have c10b1 : decide ((ji8) ≤ (l3.length : Int)) = true := decide_eq_true c10
        clear c10
        obtain ⟨y250, hy250⟩ : ∃ y_ : List (S33), y_ = (l3.take ((ji8) : Int).toNat) := ⟨_, rfl⟩
        replace H : ((share_Share.f k 0 (floatOfInt .f64 a0) (floatOfInt .f64 a1)).bind fun t255 => (if fok .mul 4611686018427387904 (floatOfInt .f64 a0) = true then (if fok .mul 4611686018427387904 (floatOfInt .f64 a1) = true then ((share_Share.f k 0 (fop .mul 4611686018427387904 (floatOfInt .f64 a0)) (fop .mul 4611686018427387904 (floatOfInt .f64 a1))).bind fun t256 => ((bailiwicklaw15_same.f t255 t256).bind fun t257 => (if t257 = true then (if fok .add (floatOfInt .f64 a0) (floatOfInt .f64 a2) = true then ((share_Share.f k 0 (fop .add (floatOfInt .f64 a0) (floatOfInt .f64 a2)) (floatOfInt .f64 a1)).bind fun t258 => ((share_Share.f k 0 (floatOfInt .f64 a0) (floatOfInt .f64 a1)).bind fun t259 => (bailiwicklaw15_ShareScales.j0 k y250 a4 (flt t258 t259)))) else (none)) else (bailiwicklaw15_ShareScales.j0 k y250 a4 true)))) else (none)) else (none))) = some r := by first | (rw [hy250]; with_reducible exact H) | (have H2_ := (Option.bind_some _ _).symm.trans H; rw [hy250]; with_reducible exact H2_) | (have H2_ := (Option.bind_some _ _).symm.trans H; with_reducible exact H2_) | with_reducible exact H | (rw [hy250]; exact H) | exact H
        have Ny250 := Aside0.mk hy250
        clear hy250
        have HC11 := Aside0.mk H
        clear H
        go_enter Try.func5, Try.ntmps5
        go_upto_region 6 with (first | ((with_reducible refine gate_callee (f := 8) rfl ?_); refine goesL_ (some 18) rfl rfl Try.func8 (by kernel_rfl) rfl #[] rfl (by (try simp only [List.map_toArray, List.map_cons, List.map_nil]); first | done | rfl | (simp only [List.length_drop, List.length_take]; rfl)) ?_; (with_reducible refine (bailiwicklaw15_awake.calls k  true _ A6.out).mono ?_); rintro e w12 ⟨rfl, hb⟩; refine ⟨_, rfl, ?_⟩; have n0_ := Aside0.mk (below_step (by repeat (first | (with_reducible first | exact HB.out | apply below_alloc | apply pw_below_drewN | apply below_drew1) | exact HB.out)) hb); clear HB; have HB := n0_; clear n0_; (try clear hb); (try clear hb2); (try clear hk); (try clear hi); have q13 : ((ji8) : Int) ≤ ((l3.length : Int) : Int) := of_decide_eq_true (by first | (with_reducible assumption) | assumption); obtain ⟨i013, hi013, _, hsz13, _⟩ := info_parts info33; have hroom13 : l3.length ≤ c3 := HC3.out; have hC13 : Kd.C k33 _ A3 l3.length l3 := HR3.out; have hcut13 := cut_to (P := Try.prog) 22 33 .i64 Try.underlying22 hi013 A3 l3.length c3 (ji8) (of_decide_eq_true (by first | (with_reducible assumption) | assumption)) q13 hroom13; have hr13 := Kd.C_take (m := ((ji8) : Int).toNat) hC13 (by omega); have hy13 : y250.length = ((ji8) : Int).toNat := (by rw [Ny250.out, List.length_take]; omega); rw [← Ny250.out] at hr13; rw [← hy13] at hcut13; have HR253 := Aside0.mk hr13; have HC253 := Aside0.mk (show y250.length ≤ c3 from by omega); clear hr13 hC13 hroom13 hi013 hsz13; have KY13 := Aside0.mk hy13; clear hy13; replace q13 := eq_true q13) | ((with_reducible refine gate_dst (N := 14) rfl ?_); (try (refine gate_guard (by rfl) ?_; dsimp only)); refine box_event ?hg (N := 14) ?hd (cs := #[.int .i64 0, .float .f64 0, .float .f64 0]) (t := 33) ?hr ?_; (case hd => rfl); (case hg => rfl); (case hr => first | (go_simp; done) | (go_simp; rfl)); intro gb254 hg w14 hbox hb; have n0_ := Aside0.mk (below_step (by repeat (first | (with_reducible first | exact HB.out | apply below_alloc | apply pw_below_drewN | apply below_drew1) | exact HB.out)) hb); have n1_ := Aside0.mk (hbox); have n2_ := Aside0.mk ((by rw [hg]; exact (below_size (by repeat (first | (with_reducible first | exact HB.out | apply below_alloc | apply pw_below_drewN | apply below_drew1) | exact HB.out))) : w.heap.size ≤ gb254)); have n3_ := Aside0.mk ((by rw [hg]; exact (below_size (by repeat (first | (with_reducible first | exact HB.out | apply below_alloc | apply pw_below_drewN | apply below_drew1) | exact HB.out))) : w.heap.size ≤ gb254)); clear HB; have HB := n0_; have BK254 := n1_; have GW254 := n2_; have GE254 := n3_; clear n0_ n1_ n2_ n3_; clear hb hbox hg; have hcz15_0 : w14.cell? ⟨gb254, 0, none⟩ = some (.int .i64 0) := (blk_cell BK254.out 0).trans rfl; have hcz15_1 : w14.cell? ⟨gb254, 1, none⟩ = some (.float .f64 0) := (blk_cell BK254.out 1).trans rfl; have hcz15_2 : w14.cell? ⟨gb254, 2, none⟩ = some (.float .f64 0) := (blk_cell BK254.out 2).trans rfl; have hfz15_0 := blk_frozen BK254.out 0; have hfz15_1 := blk_frozen BK254.out 1; have hfz15_2 := blk_frozen BK254.out 2))
        (try simp only [Act.put, List.setIfInBounds_toArray, List.set_cons_zero, List.set_cons_succ])
        go_cut [54] (fun v54 wc => ∃ (kq : Nat) (x54_10 : Bool), v54 = .bool x54_10 ∧ Aside0 (bailiwicklaw15_ShareScales.j0 kq y250 a4 x54_10 = some r) ∧ Aside0 (kq ≤ k) ∧ Aside0 (wc.heap[gb254]? = some (.cells #[.int .i64 0, .float .f64 (floatOfInt .f64 a0), .float .f64 (floatOfInt .f64 a1)] 33 (0, 0))) ∧ Aside0 (Below w.heap.size w wc))
        case first =>
          have H := HC11.out
          clear HC11
          replace H := Option.bind_eq_some_iff.mp H
          obtain ⟨t255, A160, H⟩ := H
          replace H : (if fok .mul 4611686018427387904 (floatOfInt .f64 a0) = true then (if fok .mul 4611686018427387904 (floatOfInt .f64 a1) = true then ((share_Share.f k 0 (fop .mul 4611686018427387904 (floatOfInt .f64 a0)) (fop .mul 4611686018427387904 (floatOfInt .f64 a1))).bind fun t256 => ((bailiwicklaw15_same.f t255 t256).bind fun t257 => (if t257 = true then (if fok .add (floatOfInt .f64 a0) (floatOfInt .f64 a2) = true then ((share_Share.f k 0 (fop .add (floatOfInt .f64 a0) (floatOfInt .f64 a2)) (floatOfInt .f64 a1)).bind fun t258 => ((share_Share.f k 0 (floatOfInt .f64 a0) (floatOfInt .f64 a1)).bind fun t259 => (bailiwicklaw15_ShareScales.j0 k y250 a4 (flt t258 t259)))) else (none)) else (bailiwicklaw15_ShareScales.j0 k y250 a4 true)))) else (none)) else (none)) = some r := H
          have A16 := Aside0.mk A160
          clear A160
          by_cases c17 : fok .mul 4611686018427387904 (floatOfInt .f64 a0) = true
          · rw [if_pos c17] at H
            have c17b0 : fok .mul 4611686018427387904 (floatOfInt .f64 a0) = true := c17
            clear c17
            (first | rw [c17b0] | (simp only [i64_w, i32_w]; rw [c17b0]) | skip)
            by_cases c18 : fok .mul 4611686018427387904 (floatOfInt .f64 a1) = true
            · rw [if_pos c18] at H
              have c18b0 : fok .mul 4611686018427387904 (floatOfInt .f64 a1) = true := c18
              clear c18
              replace H := Option.bind_eq_some_iff.mp H
              obtain ⟨t256, A190, H⟩ := H
              replace H : ((bailiwicklaw15_same.f t255 t256).bind fun t257 => (if t257 = true then (if fok .add (floatOfInt .f64 a0) (floatOfInt .f64 a2) = true then ((share_Share.f k 0 (fop .add (floatOfInt .f64 a0) (floatOfInt .f64 a2)) (floatOfInt .f64 a1)).bind fun t258 => ((share_Share.f k 0 (floatOfInt .f64 a0) (floatOfInt .f64 a1)).bind fun t259 => (bailiwicklaw15_ShareScales.j0 k y250 a4 (flt t258 t259)))) else (none)) else (bailiwicklaw15_ShareScales.j0 k y250 a4 true))) = some r := H
              have A19 := Aside0.mk A190
              clear A190
              replace H := Option.bind_eq_some_iff.mp H
              obtain ⟨t257, A200, H⟩ := H
              replace H : (if t257 = true then (if fok .add (floatOfInt .f64 a0) (floatOfInt .f64 a2) = true then ((share_Share.f k 0 (fop .add (floatOfInt .f64 a0) (floatOfInt .f64 a2)) (floatOfInt .f64 a1)).bind fun t258 => ((share_Share.f k 0 (floatOfInt .f64 a0) (floatOfInt .f64 a1)).bind fun t259 => (bailiwicklaw15_ShareScales.j0 k y250 a4 (flt t258 t259)))) else (none)) else (bailiwicklaw15_ShareScales.j0 k y250 a4 true)) = some r := H
              have A20 := Aside0.mk A200
              clear A200
              by_cases c21 : t257 = true
              · subst c21
                have H1 : (if fok .add (floatOfInt .f64 a0) (floatOfInt .f64 a2) = true then ((share_Share.f k 0 (fop .add (floatOfInt .f64 a0) (floatOfInt .f64 a2)) (floatOfInt .f64 a1)).bind fun t258 => ((share_Share.f k 0 (floatOfInt .f64 a0) (floatOfInt .f64 a1)).bind fun t259 => (bailiwicklaw15_ShareScales.j0 k y250 a4 (flt t258 t259)))) else (none)) = some r := by rw [if_pos rfl] at H; exact H
                clear H
                have H := H1
                clear H1
                by_cases c22 : fok .add (floatOfInt .f64 a0) (floatOfInt .f64 a2) = true
                · rw [if_pos c22] at H
                  have c22b0 : fok .add (floatOfInt .f64 a0) (floatOfInt .f64 a2) = true := c22
                  clear c22
                  replace H := Option.bind_eq_some_iff.mp H
                  obtain ⟨t258, A230, H⟩ := H
                  replace H : ((share_Share.f k 0 (floatOfInt .f64 a0) (floatOfInt .f64 a1)).bind fun t259 => (bailiwicklaw15_ShareScales.j0 k y250 a4 (flt t258 t259))) = some r := H
                  have A23 := Aside0.mk A230
                  clear A230
                  replace H := Option.bind_eq_some_iff.mp H
                  obtain ⟨t259, A240, H⟩ := H
                  replace H : (bailiwicklaw15_ShareScales.j0 k y250 a4 (flt t258 t259)) = some r := H
                  have A24 := Aside0.mk A240
                  clear A240
                  have H' := Aside0.mk H
                  clear H
                  try go_wp2
                  have n0_ : Aside0 ((((w14.setCell ⟨gb254, 0, none⟩ (.int .i64 0)).setCell ⟨gb254, 1, none⟩ (.float .f64 (floatOfInt .f64 a0))).setCell ⟨gb254, 2, none⟩ (.float .f64 (floatOfInt .f64 a1))).heap[gb254]? = some (.cells #[.int .i64 0, .float .f64 (floatOfInt .f64 a0), .float .f64 (floatOfInt .f64 a1)] 33 (0, 0))) := ⟨by (with_reducible repeat (first | refine blk_drewN ?_ _ | refine blk_drew ?_ | refine blk_alloc ?_ _)); refine blk_put (cs := #[.int .i64 0, .float .f64 (floatOfInt .f64 a0), .float .f64 0]) ?_ 2 _ rfl; (with_reducible repeat (first | refine blk_drewN ?_ _ | refine blk_drew ?_ | refine blk_alloc ?_ _)); refine blk_put (cs := #[.int .i64 0, .float .f64 0, .float .f64 0]) ?_ 1 _ rfl; (with_reducible repeat (first | refine blk_drewN ?_ _ | refine blk_drew ?_ | refine blk_alloc ?_ _)); refine blk_put (cs := #[.int .i64 0, .float .f64 0, .float .f64 0]) ?_ 0 _ rfl; (with_reducible repeat (first | refine blk_drewN ?_ _ | refine blk_drew ?_ | refine blk_alloc ?_ _)); exact BK254.out⟩
                  have n1_ : Aside0 (Below w.heap.size w (((w14.setCell ⟨gb254, 0, none⟩ (.int .i64 0)).setCell ⟨gb254, 1, none⟩ (.float .f64 (floatOfInt .f64 a0))).setCell ⟨gb254, 2, none⟩ (.float .f64 (floatOfInt .f64 a1)))) := ⟨by repeat (first | (with_reducible first | exact HB.out | apply below_alloc | apply pw_below_drewN | apply below_drew1 | refine below_set ?_ GE254.out) | exact HB.out)⟩
                  (try clear BK254)
                  (try clear HB)
                  generalize (((w14.setCell ⟨gb254, 0, none⟩ (.int .i64 0)).setCell ⟨gb254, 1, none⟩ (.float .f64 (floatOfInt .f64 a0))).setCell ⟨gb254, 2, none⟩ (.float .f64 (floatOfInt .f64 a1))) = w25 at n0_ n1_ ⊢
                  have BK254 := n0_
                  have HB := n1_
                  clear n0_ n1_
                  have n0_ := Aside0.mk (blk_drew BK254.out)
                  have n1_ := Aside0.mk (below_drew1 HB.out)
                  clear BK254
                  clear HB
                  have BK254 := n0_
                  have HB := n1_
                  clear n0_ n1_
                  refine start_ (n := 21) (S := fun w' => w'.cell? ⟨gb254, 0, none⟩ = some (.int .i64 0) ∧ w'.cell? ⟨gb254, 1, none⟩ = some (.float .f64 (floatOfInt .f64 a0)) ∧ w'.cell? ⟨gb254, 2, none⟩ = some (.float .f64 (floatOfInt .f64 a1))) (ds := []) #[false, false, false, false, false, false, false, false, false, false, false, false, false, false, false, false, false, false, false, false, false] (by kernel_rfl) rfl rfl ⟨(blk_cell BK254.out 0).trans rfl, (blk_cell BK254.out 1).trans rfl, (blk_cell BK254.out 2).trans rfl⟩ (fun hHeld => ?_); refine with_tabW bailiwicklaw15_ShareScales.tab6 bailiwicklaw15_ShareScales.bits6 (fun HT_ HW_ => ?_)
                  generalize w25.drew = w26 at BK254 HB hHeld ⊢
                  refine pure_ (i := 2) (N := some 36) (v := ?_) (a' := ?_) #[false, false, true, false, false, false, false, false, false, false, false, false, false, false, false, false, false, false, false, false, false] rfl rfl (any_of HT_.out (by kernel_rfl)) (fun _ _ _ h => h) (Or.inl ⟨by rfl, ?_⟩) ?_ ?_
                  rotate_left
                  · intro w'
                    go_simp
                    with_reducible rfl
                  rotate_left
                  · simp only [Act.put, List.setIfInBounds_toArray, List.set_cons_zero, List.set_cons_succ, i64_w, i32_w]
                    rfl
                  refine pure_ (i := 3) (N := some 37) (v := ?_) (a' := ?_) #[false, false, true, true, false, false, false, false, false, false, false, false, false, false, false, false, false, false, false, false, false] rfl rfl (any_of HT_.out (by kernel_rfl)) (fun _ _ _ h => h) (Or.inl ⟨by rfl, ?_⟩) ?_ ?_
                  rotate_left
                  · intro w'
                    go_simp
                    with_reducible rfl
                  rotate_left
                  · simp only [Act.put, List.setIfInBounds_toArray, List.set_cons_zero, List.set_cons_succ, i64_w, i32_w]
                    rfl
                  refine pure_ (i := 4) (N := some 38) (v := ?_) (a' := ?_) #[false, false, true, true, true, false, false, false, false, false, false, false, false, false, false, false, false, false, false, false, false] rfl rfl (any_of HT_.out (by kernel_rfl)) (fun _ _ _ h => h) (Or.inl ⟨by rfl, ?_⟩) ?_ ?_
                  rotate_left
                  · intro w'
                    go_simp
                    with_reducible rfl
                  rotate_left
                  · simp only [Act.put, List.setIfInBounds_toArray, List.set_cons_zero, List.set_cons_succ, i64_w, i32_w]
                    rfl
                  refine pure_ (i := 5) (N := some 39) (v := ?_) (a' := ?_) #[false, false, true, true, true, true, false, false, false, false, false, false, false, false, false, false, false, false, false, false, false] rfl rfl (any_of HT_.out (by kernel_rfl)) (fun _ _ _ h => h) (Or.inl ⟨by rfl, ?_⟩) ?_ ?_
                  rotate_left
                  · intro w'
                    go_simp
                    with_reducible rfl
                  rotate_left
                  · simp only [Act.put, List.setIfInBounds_toArray, List.set_cons_zero, List.set_cons_succ, i64_w, i32_w]
                    rfl
                  refine pure_ (i := 6) (N := some 40) (v := ?_) (a' := ?_) #[false, false, true, true, true, true, true, false, false, false, false, false, false, false, false, false, false, false, false, false, false] rfl rfl (any_of HT_.out (by kernel_rfl)) (fun _ _ _ h => h) (Or.inl ⟨by rfl, ?_⟩) ?_ ?_
                  rotate_left
                  · intro w'
                    go_simp
                    with_reducible rfl
                  rotate_left
                  · simp only [Act.put, List.setIfInBounds_toArray, List.set_cons_zero, List.set_cons_succ, i64_w, i32_w]
                    rfl
                  refine take_ (i := 0) (N := some 34) (v := ?_) (a' := ?_) #[true, false, true, true, true, true, true, false, false, false, false, false, false, false, false, false, false, false, false, false, false] rfl rfl (take_ofW HT_.out HW_.out (by kernel_rfl)) (fun _ _ _ h => h) (Or.inl ⟨by rfl, ?_⟩) hHeld ?_ ?_
                  rotate_left
                  · rintro w' ⟨s0, s1, s2⟩
                    go_simp
                    with_reducible rfl
                  rotate_left
                  · simp only [Act.put, List.setIfInBounds_toArray, List.set_cons_zero, List.set_cons_succ, i64_w, i32_w]
                    rfl
                  refine one_ (i := 1) (N := some 35) #[true, true, true, true, true, true, true, false, false, false, false, false, false, false, false, false, false, false, false, false, false] rfl rfl (one_of HT_.out (by kernel_rfl)) (by decide) (fun K hK => ?_)
                  refine goes_ Try.func14 (by kernel_rfl) rfl #[.agg #[.int .i64 0, .float .f64 (floatOfInt .f64 a0), .float .f64 (floatOfInt .f64 a1)]] (by rfl) rfl rfl (by (try simp only [List.map_toArray, List.map_cons, List.map_nil]); first | done | rfl | (simp only [List.length_drop, List.length_take]; rfl)) ?_
                  with_reducible refine (share_Share.calls k 0 (floatOfInt .f64 a0) (floatOfInt .f64 a1) t255 _ A16.out).mono ?_
                  rintro e w27 ⟨rfl, hb⟩
                  refine ⟨_, rfl, ?_⟩
                  have n0_ := Aside0.mk (blk_below (g := gb254) (o := .cells #[.int .i64 0, .float .f64 (floatOfInt .f64 a0), .float .f64 (floatOfInt .f64 a1)] 33 (0, 0)) (by (with_reducible repeat (first | refine blk_drewN ?_ _ | refine blk_drew ?_ | refine blk_alloc ?_ _)); exact BK254.out) hb)
                  have n1_ := Aside0.mk (below_step (by repeat (first | (with_reducible first | exact HB.out | apply below_alloc | apply pw_below_drewN | apply below_drew1 | refine below_set ?_ GE254.out) | exact HB.out)) hb)
                  clear BK254
                  clear HB
                  have BK254 := n0_
                  have HB := n1_
                  clear n0_ n1_
                  (try clear hb)
                  (try clear hb2)
                  (try clear hk)
                  (try clear hi)
                  refine hK.out _ _ ⟨(blk_cell BK254.out 0).trans rfl, (blk_cell BK254.out 1).trans rfl, (blk_cell BK254.out 2).trans rfl⟩ (fun hHeld => ?_)
                  clear hK K
                  refine norm_ (a' := ?_) ?_ ?_
                  rotate_left
                  · show Act.put _ (some 35) _ = _
                    simp only [Act.put, List.setIfInBounds_toArray, List.set_cons_zero, List.set_cons_succ, i64_w, i32_w]
                    rfl
                  refine one_ (i := 7) (N := some 41) #[true, true, true, true, true, true, true, true, false, false, false, false, false, false, false, false, false, false, false, false, false] rfl rfl (one_of HT_.out (by kernel_rfl)) (by decide) (fun K hK => ?_)
                  refine goes_ Try.func14 (by kernel_rfl) rfl #[.agg #[.int .i64 0, .float .f64 (fop .mul 4611686018427387904 (floatOfInt .f64 a0)), .float .f64 (fop .mul 4611686018427387904 (floatOfInt .f64 a1))]] (by rfl) rfl rfl (by (try simp only [List.map_toArray, List.map_cons, List.map_nil]); first | done | rfl | (simp only [List.length_drop, List.length_take]; rfl)) ?_
                  with_reducible refine (share_Share.calls k 0 (fop .mul 4611686018427387904 (floatOfInt .f64 a0)) (fop .mul 4611686018427387904 (floatOfInt .f64 a1)) t256 _ A19.out).mono ?_
                  rintro e w28 ⟨rfl, hb⟩
                  refine ⟨_, rfl, ?_⟩
                  have n0_ := Aside0.mk (blk_below (g := gb254) (o := .cells #[.int .i64 0, .float .f64 (floatOfInt .f64 a0), .float .f64 (floatOfInt .f64 a1)] 33 (0, 0)) (by (with_reducible repeat (first | refine blk_drewN ?_ _ | refine blk_drew ?_ | refine blk_alloc ?_ _)); exact BK254.out) hb)
                  have n1_ := Aside0.mk (below_step (by repeat (first | (with_reducible first | exact HB.out | apply below_alloc | apply pw_below_drewN | apply below_drew1 | refine below_set ?_ GE254.out) | exact HB.out)) hb)
                  clear BK254
                  clear HB
                  have BK254 := n0_
                  have HB := n1_
                  clear n0_ n1_
                  (try clear hb)
                  (try clear hb2)
                  (try clear hk)
                  (try clear hi)
                  refine hK.out _ _ ⟨(blk_cell BK254.out 0).trans rfl, (blk_cell BK254.out 1).trans rfl, (blk_cell BK254.out 2).trans rfl⟩ (fun hHeld => ?_)
                  clear hK K
                  refine norm_ (a' := ?_) ?_ ?_
                  rotate_left
                  · show Act.put _ (some 41) _ = _
                    simp only [Act.put, List.setIfInBounds_toArray, List.set_cons_zero, List.set_cons_succ, i64_w, i32_w]
                    rfl
                  refine one_ (i := 8) (N := some 42) #[true, true, true, true, true, true, true, true, true, false, false, false, false, false, false, false, false, false, false, false, false] rfl rfl (one_of HT_.out (by kernel_rfl)) (by decide) (fun K hK => ?_)
                  refine goes_ Try.func15 (by kernel_rfl) rfl #[.float .f64 t255, .float .f64 t256] (by rfl) rfl rfl (by (try simp only [List.map_toArray, List.map_cons, List.map_nil]); first | done | rfl | (simp only [List.length_drop, List.length_take]; rfl)) ?_
                  with_reducible refine (bailiwicklaw15_same.calls t255 t256 true _ A20.out).mono ?_
                  rintro e w' ⟨rfl, ⟨nd, rfl⟩⟩
                  refine ⟨_, rfl, ?_⟩
                  refine hK.out _ _ ⟨(blk_cell BK254.out 0).trans rfl, (blk_cell BK254.out 1).trans rfl, (blk_cell BK254.out 2).trans rfl⟩ (fun hHeld => ?_)
                  clear hK K
                  refine norm_ (a' := ?_) ?_ ?_
                  rotate_left
                  · show Act.put _ (some 42) _ = _
                    simp only [Act.put, List.setIfInBounds_toArray, List.set_cons_zero, List.set_cons_succ, i64_w, i32_w]
                    rfl
                  refine pure_ (i := 9) (N := some 43) (v := ?_) (a' := ?_) #[true, true, true, true, true, true, true, true, true, true, false, false, false, false, false, false, false, false, false, false, false] rfl rfl (any_of HT_.out (by kernel_rfl)) (fun _ _ _ h => h) (Or.inl ⟨by rfl, ?_⟩) ?_ ?_
                  rotate_left
                  · intro w'
                    go_simp
                    with_reducible rfl
                  rotate_left
                  · simp only [Act.put, List.setIfInBounds_toArray, List.set_cons_zero, List.set_cons_succ, i64_w, i32_w]
                    rfl
                  refine pure_ (i := 10) (N := some 44) (v := ?_) (a' := ?_) #[true, true, true, true, true, true, true, true, true, true, true, false, false, false, false, false, false, false, false, false, false] rfl rfl (any_of HT_.out (by kernel_rfl)) (fun _ _ _ h => h) (Or.inl ⟨by rfl, ?_⟩) ?_ ?_
                  rotate_left
                  · intro w'
                    go_simp
                    with_reducible rfl
                  rotate_left
                  · simp only [Act.put, List.setIfInBounds_toArray, List.set_cons_zero, List.set_cons_succ, i64_w, i32_w]
                    rfl
                  refine pure_ (i := 11) (N := some 45) (v := ?_) (a' := ?_) #[true, true, true, true, true, true, true, true, true, true, true, true, false, false, false, false, false, false, false, false, false] rfl rfl (any_of HT_.out (by kernel_rfl)) (fun _ _ _ h => h) (Or.inl ⟨by rfl, ?_⟩) ?_ ?_
                  rotate_left
                  · intro w'
                    go_simp
                    with_reducible rfl
                  rotate_left
                  · simp only [Act.put, List.setIfInBounds_toArray, List.set_cons_zero, List.set_cons_succ, i64_w, i32_w]
                    rfl
                  refine pure_ (i := 12) (N := some 46) (v := ?_) (a' := ?_) #[true, true, true, true, true, true, true, true, true, true, true, true, true, false, false, false, false, false, false, false, false] rfl rfl (any_of HT_.out (by kernel_rfl)) (fun _ _ _ h => h) (Or.inl ⟨by rfl, ?_⟩) ?_ ?_
                  rotate_left
                  · intro w'
                    go_simp
                    with_reducible rfl
                  rotate_left
                  · simp only [Act.put, List.setIfInBounds_toArray, List.set_cons_zero, List.set_cons_succ, i64_w, i32_w]
                    rfl
                  refine pure_ (i := 13) (N := some 47) (v := ?_) (a' := ?_) #[true, true, true, true, true, true, true, true, true, true, true, true, true, true, false, false, false, false, false, false, false] rfl rfl (any_of HT_.out (by kernel_rfl)) (fun _ _ _ h => h) (Or.inl ⟨by rfl, ?_⟩) ?_ ?_
                  rotate_left
                  · intro w'
                    go_simp
                    with_reducible rfl
                  rotate_left
                  · simp only [Act.put, List.setIfInBounds_toArray, List.set_cons_zero, List.set_cons_succ, i64_w, i32_w]
                    rfl
                  refine pure_ (i := 14) (N := some 48) (v := ?_) (a' := ?_) #[true, true, true, true, true, true, true, true, true, true, true, true, true, true, true, false, false, false, false, false, false] rfl rfl (any_of HT_.out (by kernel_rfl)) (fun _ _ _ h => h) (Or.inl ⟨by rfl, ?_⟩) ?_ ?_
                  rotate_left
                  · intro w'
                    go_simp
                    with_reducible rfl
                  rotate_left
                  · simp only [Act.put, List.setIfInBounds_toArray, List.set_cons_zero, List.set_cons_succ, i64_w, i32_w]
                    rfl
                  refine pure_ (i := 15) (N := some 49) (v := ?_) (a' := ?_) #[true, true, true, true, true, true, true, true, true, true, true, true, true, true, true, true, false, false, false, false, false] rfl rfl (any_of HT_.out (by kernel_rfl)) (fun _ _ _ h => h) (Or.inl ⟨by rfl, ?_⟩) ?_ ?_
                  rotate_left
                  · intro w'
                    go_simp
                    with_reducible rfl
                  rotate_left
                  · simp only [Act.put, List.setIfInBounds_toArray, List.set_cons_zero, List.set_cons_succ, i64_w, i32_w]
                    rfl
                  refine take_ (i := 17) (N := some 51) (v := ?_) (a' := ?_) #[true, true, true, true, true, true, true, true, true, true, true, true, true, true, true, true, false, true, false, false, false] rfl rfl (take_ofW HT_.out HW_.out (by kernel_rfl)) (fun _ _ _ h => h) (Or.inl ⟨by rfl, ?_⟩) hHeld ?_ ?_
                  rotate_left
                  · rintro w' ⟨s0, s1, s2⟩
                    go_simp
                    with_reducible rfl
                  rotate_left
                  · simp only [Act.put, List.setIfInBounds_toArray, List.set_cons_zero, List.set_cons_succ, i64_w, i32_w]
                    rfl
                  refine one_ (i := 16) (N := some 50) #[true, true, true, true, true, true, true, true, true, true, true, true, true, true, true, true, true, true, false, false, false] rfl rfl (one_of HT_.out (by kernel_rfl)) (by decide) (fun K hK => ?_)
                  refine goes_ Try.func14 (by kernel_rfl) rfl #[.agg #[.int .i64 0, .float .f64 (fop .add (floatOfInt .f64 a0) (floatOfInt .f64 a2)), .float .f64 (floatOfInt .f64 a1)]] (by rfl) rfl rfl (by (try simp only [List.map_toArray, List.map_cons, List.map_nil]); first | done | rfl | (simp only [List.length_drop, List.length_take]; rfl)) ?_
                  with_reducible refine (share_Share.calls k 0 (fop .add (floatOfInt .f64 a0) (floatOfInt .f64 a2)) (floatOfInt .f64 a1) t258 _ A23.out).mono ?_
                  rintro e w29 ⟨rfl, hb⟩
                  refine ⟨_, rfl, ?_⟩
                  have n0_ := Aside0.mk (blk_below (g := gb254) (o := .cells #[.int .i64 0, .float .f64 (floatOfInt .f64 a0), .float .f64 (floatOfInt .f64 a1)] 33 (0, 0)) (by (with_reducible repeat (first | refine blk_drewN ?_ _ | refine blk_drew ?_ | refine blk_alloc ?_ _)); exact BK254.out) hb)
                  have n1_ := Aside0.mk (below_step (by repeat (first | (with_reducible first | exact HB.out | apply below_alloc | apply pw_below_drewN | apply below_drew1 | refine below_set ?_ GE254.out) | exact HB.out)) hb)
                  clear BK254
                  clear HB
                  have BK254 := n0_
                  have HB := n1_
                  clear n0_ n1_
                  (try clear hb)
                  (try clear hb2)
                  (try clear hk)
                  (try clear hi)
                  refine hK.out _ _ ⟨(blk_cell BK254.out 0).trans rfl, (blk_cell BK254.out 1).trans rfl, (blk_cell BK254.out 2).trans rfl⟩ (fun hHeld => ?_)
                  clear hK K
                  refine norm_ (a' := ?_) ?_ ?_
                  rotate_left
                  · show Act.put _ (some 50) _ = _
                    simp only [Act.put, List.setIfInBounds_toArray, List.set_cons_zero, List.set_cons_succ, i64_w, i32_w]
                    rfl
                  refine one_ (i := 18) (N := some 52) #[true, true, true, true, true, true, true, true, true, true, true, true, true, true, true, true, true, true, true, false, false] rfl rfl (one_of HT_.out (by kernel_rfl)) (by decide) (fun K hK => ?_)
                  refine goes_ Try.func14 (by kernel_rfl) rfl #[.agg #[.int .i64 0, .float .f64 (floatOfInt .f64 a0), .float .f64 (floatOfInt .f64 a1)]] (by rfl) rfl rfl (by (try simp only [List.map_toArray, List.map_cons, List.map_nil]); first | done | rfl | (simp only [List.length_drop, List.length_take]; rfl)) ?_
                  with_reducible refine (share_Share.calls k 0 (floatOfInt .f64 a0) (floatOfInt .f64 a1) t259 _ A24.out).mono ?_
                  rintro e w30 ⟨rfl, hb⟩
                  refine ⟨_, rfl, ?_⟩
                  have n0_ := Aside0.mk (blk_below (g := gb254) (o := .cells #[.int .i64 0, .float .f64 (floatOfInt .f64 a0), .float .f64 (floatOfInt .f64 a1)] 33 (0, 0)) (by (with_reducible repeat (first | refine blk_drewN ?_ _ | refine blk_drew ?_ | refine blk_alloc ?_ _)); exact BK254.out) hb)
                  have n1_ := Aside0.mk (below_step (by repeat (first | (with_reducible first | exact HB.out | apply below_alloc | apply pw_below_drewN | apply below_drew1 | refine below_set ?_ GE254.out) | exact HB.out)) hb)
                  clear BK254
                  clear HB
                  have BK254 := n0_
                  have HB := n1_
                  clear n0_ n1_
                  (try clear hb)
                  (try clear hb2)
                  (try clear hk)
                  (try clear hi)
                  refine hK.out _ _ ⟨(blk_cell BK254.out 0).trans rfl, (blk_cell BK254.out 1).trans rfl, (blk_cell BK254.out 2).trans rfl⟩ (fun hHeld => ?_)
                  clear hK K
                  refine norm_ (a' := ?_) ?_ ?_
                  rotate_left
                  · show Act.put _ (some 52) _ = _
                    simp only [Act.put, List.setIfInBounds_toArray, List.set_cons_zero, List.set_cons_succ, i64_w, i32_w]
                    rfl
                  refine pure_ (i := 19) (N := some 53) (v := ?_) (a' := ?_) #[true, true, true, true, true, true, true, true, true, true, true, true, true, true, true, true, true, true, true, true, false] rfl rfl (any_of HT_.out (by kernel_rfl)) (fun _ _ _ h => h) (Or.inl ⟨by rfl, ?_⟩) ?_ ?_
                  rotate_left
                  · intro w'
                    go_simp
                    with_reducible rfl
                  rotate_left
                  · simp only [Act.put, List.setIfInBounds_toArray, List.set_cons_zero, List.set_cons_succ, i64_w, i32_w]
                    rfl
                  refine pure_ (i := 20) (N := some 54) (v := ?_) (a' := ?_) #[true, true, true, true, true, true, true, true, true, true, true, true, true, true, true, true, true, true, true, true, true] rfl rfl (any_of HT_.out (by kernel_rfl)) (fun _ _ _ h => h) (Or.inl ⟨by rfl, ?_⟩) ?_ ?_
                  rotate_left
                  · intro w'
                    go_simp
                    with_reducible rfl
                  rotate_left
                  · simp only [Act.put, List.setIfInBounds_toArray, List.set_cons_zero, List.set_cons_succ, i64_w, i32_w]
                    rfl
                  refine done_ (done_of HT_.out (by kernel_rfl)) ?_
                  try go_wp2
                  go_meet
                  case rel => exact ⟨_, ((flt t258 t259)), (by first | rfl | (simp; done) | (simp [*]; done)), H', ⟨by first | omega | exact Nat.le_refl _⟩, ⟨by (with_reducible repeat (first | refine blk_drewN ?_ _ | refine blk_drew ?_ | refine blk_alloc ?_ _)); exact BK254.out⟩, ⟨by repeat (first | (with_reducible first | exact HB.out | apply below_alloc | apply pw_below_drewN | apply below_drew1 | refine below_set ?_ GE254.out) | exact HB.out)⟩⟩
                · rw [if_neg c22] at H
                  exact absurd H (by simp)
              · replace c21 := Bool.eq_false_iff.mpr c21
                subst c21
                have H1 : (bailiwicklaw15_ShareScales.j0 k y250 a4 true) = some r := by rw [if_neg (show ¬ (false = true) by decide)] at H; exact H
                clear H
                have H := H1
                clear H1
                have H' := Aside0.mk H
                clear H
                try go_wp2
                have n0_ : Aside0 ((((w14.setCell ⟨gb254, 0, none⟩ (.int .i64 0)).setCell ⟨gb254, 1, none⟩ (.float .f64 (floatOfInt .f64 a0))).setCell ⟨gb254, 2, none⟩ (.float .f64 (floatOfInt .f64 a1))).heap[gb254]? = some (.cells #[.int .i64 0, .float .f64 (floatOfInt .f64 a0), .float .f64 (floatOfInt .f64 a1)] 33 (0, 0))) := ⟨by (with_reducible repeat (first | refine blk_drewN ?_ _ | refine blk_drew ?_ | refine blk_alloc ?_ _)); refine blk_put (cs := #[.int .i64 0, .float .f64 (floatOfInt .f64 a0), .float .f64 0]) ?_ 2 _ rfl; (with_reducible repeat (first | refine blk_drewN ?_ _ | refine blk_drew ?_ | refine blk_alloc ?_ _)); refine blk_put (cs := #[.int .i64 0, .float .f64 0, .float .f64 0]) ?_ 1 _ rfl; (with_reducible repeat (first | refine blk_drewN ?_ _ | refine blk_drew ?_ | refine blk_alloc ?_ _)); refine blk_put (cs := #[.int .i64 0, .float .f64 0, .float .f64 0]) ?_ 0 _ rfl; (with_reducible repeat (first | refine blk_drewN ?_ _ | refine blk_drew ?_ | refine blk_alloc ?_ _)); exact BK254.out⟩
                have n1_ : Aside0 (Below w.heap.size w (((w14.setCell ⟨gb254, 0, none⟩ (.int .i64 0)).setCell ⟨gb254, 1, none⟩ (.float .f64 (floatOfInt .f64 a0))).setCell ⟨gb254, 2, none⟩ (.float .f64 (floatOfInt .f64 a1)))) := ⟨by repeat (first | (with_reducible first | exact HB.out | apply below_alloc | apply pw_below_drewN | apply below_drew1 | refine below_set ?_ GE254.out) | exact HB.out)⟩
                (try clear BK254)
                (try clear HB)
                generalize (((w14.setCell ⟨gb254, 0, none⟩ (.int .i64 0)).setCell ⟨gb254, 1, none⟩ (.float .f64 (floatOfInt .f64 a0))).setCell ⟨gb254, 2, none⟩ (.float .f64 (floatOfInt .f64 a1))) = w31 at n0_ n1_ ⊢
                have BK254 := n0_
                have HB := n1_
                clear n0_ n1_
                have n0_ := Aside0.mk (blk_drew BK254.out)
                have n1_ := Aside0.mk (below_drew1 HB.out)
                clear BK254
                clear HB
                have BK254 := n0_
                have HB := n1_
                clear n0_ n1_
                refine start_ (n := 21) (S := fun w' => w'.cell? ⟨gb254, 0, none⟩ = some (.int .i64 0) ∧ w'.cell? ⟨gb254, 1, none⟩ = some (.float .f64 (floatOfInt .f64 a0)) ∧ w'.cell? ⟨gb254, 2, none⟩ = some (.float .f64 (floatOfInt .f64 a1))) (ds := []) #[false, false, false, false, false, false, false, false, false, false, false, false, false, false, false, false, false, false, false, false, false] (by kernel_rfl) rfl rfl ⟨(blk_cell BK254.out 0).trans rfl, (blk_cell BK254.out 1).trans rfl, (blk_cell BK254.out 2).trans rfl⟩ (fun hHeld => ?_); refine with_tabW bailiwicklaw15_ShareScales.tab6 bailiwicklaw15_ShareScales.bits6 (fun HT_ HW_ => ?_)
                generalize w31.drew = w32 at BK254 HB hHeld ⊢
                refine pure_ (i := 2) (N := some 36) (v := ?_) (a' := ?_) #[false, false, true, false, false, false, false, false, false, false, false, false, false, false, false, false, false, false, false, false, false] rfl rfl (any_of HT_.out (by kernel_rfl)) (fun _ _ _ h => h) (Or.inl ⟨by rfl, ?_⟩) ?_ ?_
                rotate_left
                · intro w'
                  go_simp
                  with_reducible rfl
                rotate_left
                · simp only [Act.put, List.setIfInBounds_toArray, List.set_cons_zero, List.set_cons_succ, i64_w, i32_w]
                  rfl
                refine pure_ (i := 3) (N := some 37) (v := ?_) (a' := ?_) #[false, false, true, true, false, false, false, false, false, false, false, false, false, false, false, false, false, false, false, false, false] rfl rfl (any_of HT_.out (by kernel_rfl)) (fun _ _ _ h => h) (Or.inl ⟨by rfl, ?_⟩) ?_ ?_
                rotate_left
                · intro w'
                  go_simp
                  with_reducible rfl
                rotate_left
                · simp only [Act.put, List.setIfInBounds_toArray, List.set_cons_zero, List.set_cons_succ, i64_w, i32_w]
                  rfl
                refine pure_ (i := 4) (N := some 38) (v := ?_) (a' := ?_) #[false, false, true, true, true, false, false, false, false, false, false, false, false, false, false, false, false, false, false, false, false] rfl rfl (any_of HT_.out (by kernel_rfl)) (fun _ _ _ h => h) (Or.inl ⟨by rfl, ?_⟩) ?_ ?_
                rotate_left
                · intro w'
                  go_simp
                  with_reducible rfl
                rotate_left
                · simp only [Act.put, List.setIfInBounds_toArray, List.set_cons_zero, List.set_cons_succ, i64_w, i32_w]
                  rfl
                refine pure_ (i := 5) (N := some 39) (v := ?_) (a' := ?_) #[false, false, true, true, true, true, false, false, false, false, false, false, false, false, false, false, false, false, false, false, false] rfl rfl (any_of HT_.out (by kernel_rfl)) (fun _ _ _ h => h) (Or.inl ⟨by rfl, ?_⟩) ?_ ?_
                rotate_left
                · intro w'
                  go_simp
                  with_reducible rfl
                rotate_left
                · simp only [Act.put, List.setIfInBounds_toArray, List.set_cons_zero, List.set_cons_succ, i64_w, i32_w]
                  rfl
                refine pure_ (i := 6) (N := some 40) (v := ?_) (a' := ?_) #[false, false, true, true, true, true, true, false, false, false, false, false, false, false, false, false, false, false, false, false, false] rfl rfl (any_of HT_.out (by kernel_rfl)) (fun _ _ _ h => h) (Or.inl ⟨by rfl, ?_⟩) ?_ ?_
                rotate_left
                · intro w'
                  go_simp
                  with_reducible rfl
                rotate_left
                · simp only [Act.put, List.setIfInBounds_toArray, List.set_cons_zero, List.set_cons_succ, i64_w, i32_w]
                  rfl
                refine take_ (i := 0) (N := some 34) (v := ?_) (a' := ?_) #[true, false, true, true, true, true, true, false, false, false, false, false, false, false, false, false, false, false, false, false, false] rfl rfl (take_ofW HT_.out HW_.out (by kernel_rfl)) (fun _ _ _ h => h) (Or.inl ⟨by rfl, ?_⟩) hHeld ?_ ?_
                rotate_left
                · rintro w' ⟨s0, s1, s2⟩
                  go_simp
                  with_reducible rfl
                rotate_left
                · simp only [Act.put, List.setIfInBounds_toArray, List.set_cons_zero, List.set_cons_succ, i64_w, i32_w]
                  rfl
                refine one_ (i := 1) (N := some 35) #[true, true, true, true, true, true, true, false, false, false, false, false, false, false, false, false, false, false, false, false, false] rfl rfl (one_of HT_.out (by kernel_rfl)) (by decide) (fun K hK => ?_)
                refine goes_ Try.func14 (by kernel_rfl) rfl #[.agg #[.int .i64 0, .float .f64 (floatOfInt .f64 a0), .float .f64 (floatOfInt .f64 a1)]] (by rfl) rfl rfl (by (try simp only [List.map_toArray, List.map_cons, List.map_nil]); first | done | rfl | (simp only [List.length_drop, List.length_take]; rfl)) ?_
                with_reducible refine (share_Share.calls k 0 (floatOfInt .f64 a0) (floatOfInt .f64 a1) t255 _ A16.out).mono ?_
                rintro e w33 ⟨rfl, hb⟩
                refine ⟨_, rfl, ?_⟩
                have n0_ := Aside0.mk (blk_below (g := gb254) (o := .cells #[.int .i64 0, .float .f64 (floatOfInt .f64 a0), .float .f64 (floatOfInt .f64 a1)] 33 (0, 0)) (by (with_reducible repeat (first | refine blk_drewN ?_ _ | refine blk_drew ?_ | refine blk_alloc ?_ _)); exact BK254.out) hb)
                have n1_ := Aside0.mk (below_step (by repeat (first | (with_reducible first | exact HB.out | apply below_alloc | apply pw_below_drewN | apply below_drew1 | refine below_set ?_ GE254.out) | exact HB.out)) hb)
                clear BK254
                clear HB
                have BK254 := n0_
                have HB := n1_
                clear n0_ n1_
                (try clear hb)
                (try clear hb2)
                (try clear hk)
                (try clear hi)
                refine hK.out _ _ ⟨(blk_cell BK254.out 0).trans rfl, (blk_cell BK254.out 1).trans rfl, (blk_cell BK254.out 2).trans rfl⟩ (fun hHeld => ?_)
                clear hK K
                refine norm_ (a' := ?_) ?_ ?_
                rotate_left
                · show Act.put _ (some 35) _ = _
                  simp only [Act.put, List.setIfInBounds_toArray, List.set_cons_zero, List.set_cons_succ, i64_w, i32_w]
                  rfl
                refine one_ (i := 7) (N := some 41) #[true, true, true, true, true, true, true, true, false, false, false, false, false, false, false, false, false, false, false, false, false] rfl rfl (one_of HT_.out (by kernel_rfl)) (by decide) (fun K hK => ?_)
                refine goes_ Try.func14 (by kernel_rfl) rfl #[.agg #[.int .i64 0, .float .f64 (fop .mul 4611686018427387904 (floatOfInt .f64 a0)), .float .f64 (fop .mul 4611686018427387904 (floatOfInt .f64 a1))]] (by rfl) rfl rfl (by (try simp only [List.map_toArray, List.map_cons, List.map_nil]); first | done | rfl | (simp only [List.length_drop, List.length_take]; rfl)) ?_
                with_reducible refine (share_Share.calls k 0 (fop .mul 4611686018427387904 (floatOfInt .f64 a0)) (fop .mul 4611686018427387904 (floatOfInt .f64 a1)) t256 _ A19.out).mono ?_
                rintro e w34 ⟨rfl, hb⟩
                refine ⟨_, rfl, ?_⟩
                have n0_ := Aside0.mk (blk_below (g := gb254) (o := .cells #[.int .i64 0, .float .f64 (floatOfInt .f64 a0), .float .f64 (floatOfInt .f64 a1)] 33 (0, 0)) (by (with_reducible repeat (first | refine blk_drewN ?_ _ | refine blk_drew ?_ | refine blk_alloc ?_ _)); exact BK254.out) hb)
                have n1_ := Aside0.mk (below_step (by repeat (first | (with_reducible first | exact HB.out | apply below_alloc | apply pw_below_drewN | apply below_drew1 | refine below_set ?_ GE254.out) | exact HB.out)) hb)
                clear BK254
                clear HB
                have BK254 := n0_
                have HB := n1_
                clear n0_ n1_
                (try clear hb)
                (try clear hb2)
                (try clear hk)
                (try clear hi)
                refine hK.out _ _ ⟨(blk_cell BK254.out 0).trans rfl, (blk_cell BK254.out 1).trans rfl, (blk_cell BK254.out 2).trans rfl⟩ (fun hHeld => ?_)
                clear hK K
                refine norm_ (a' := ?_) ?_ ?_
                rotate_left
                · show Act.put _ (some 41) _ = _
                  simp only [Act.put, List.setIfInBounds_toArray, List.set_cons_zero, List.set_cons_succ, i64_w, i32_w]
                  rfl
                refine one_ (i := 8) (N := some 42) #[true, true, true, true, true, true, true, true, true, false, false, false, false, false, false, false, false, false, false, false, false] rfl rfl (one_of HT_.out (by kernel_rfl)) (by decide) (fun K hK => ?_)
                refine goes_ Try.func15 (by kernel_rfl) rfl #[.float .f64 t255, .float .f64 t256] (by rfl) rfl rfl (by (try simp only [List.map_toArray, List.map_cons, List.map_nil]); first | done | rfl | (simp only [List.length_drop, List.length_take]; rfl)) ?_
                with_reducible refine (bailiwicklaw15_same.calls t255 t256 false _ A20.out).mono ?_
                rintro e w' ⟨rfl, ⟨nd, rfl⟩⟩
                refine ⟨_, rfl, ?_⟩
                refine hK.out _ _ ⟨(blk_cell BK254.out 0).trans rfl, (blk_cell BK254.out 1).trans rfl, (blk_cell BK254.out 2).trans rfl⟩ (fun hHeld => ?_)
                clear hK K
                refine norm_ (a' := ?_) ?_ ?_
                rotate_left
                · show Act.put _ (some 42) _ = _
                  simp only [Act.put, List.setIfInBounds_toArray, List.set_cons_zero, List.set_cons_succ, i64_w, i32_w]
                  rfl
                refine pure_ (i := 9) (N := some 43) (v := ?_) (a' := ?_) #[true, true, true, true, true, true, true, true, true, true, false, false, false, false, false, false, false, false, false, false, false] rfl rfl (any_of HT_.out (by kernel_rfl)) (fun _ _ _ h => h) (Or.inl ⟨by rfl, ?_⟩) ?_ ?_
                rotate_left
                · intro w'
                  go_simp
                  with_reducible rfl
                rotate_left
                · simp only [Act.put, List.setIfInBounds_toArray, List.set_cons_zero, List.set_cons_succ, i64_w, i32_w]
                  rfl
                refine pure_ (i := 10) (N := some 44) (v := ?_) (a' := ?_) #[true, true, true, true, true, true, true, true, true, true, true, false, false, false, false, false, false, false, false, false, false] rfl rfl (any_of HT_.out (by kernel_rfl)) (fun _ _ _ h => h) (Or.inl ⟨by rfl, ?_⟩) ?_ ?_
                rotate_left
                · intro w'
                  go_simp
                  with_reducible rfl
                rotate_left
                · simp only [Act.put, List.setIfInBounds_toArray, List.set_cons_zero, List.set_cons_succ, i64_w, i32_w]
                  rfl
                refine pure_ (i := 11) (N := some 45) (v := undef) (a' := ?_) #[true, true, true, true, true, true, true, true, true, true, true, true, false, false, false, false, false, false, false, false, false] rfl rfl (any_of HT_.out (by kernel_rfl)) (fun _ _ _ h => h) (Or.inr ⟨by rfl, rfl⟩) ?_ ?_
                rotate_left
                · simp only [Act.put, List.setIfInBounds_toArray, List.set_cons_zero, List.set_cons_succ, i64_w, i32_w]
                  rfl
                refine pure_ (i := 12) (N := some 46) (v := undef) (a' := ?_) #[true, true, true, true, true, true, true, true, true, true, true, true, true, false, false, false, false, false, false, false, false] rfl rfl (any_of HT_.out (by kernel_rfl)) (fun _ _ _ h => h) (Or.inr ⟨by rfl, rfl⟩) ?_ ?_
                rotate_left
                · simp only [Act.put, List.setIfInBounds_toArray, List.set_cons_zero, List.set_cons_succ, i64_w, i32_w]
                  rfl
                refine pure_ (i := 13) (N := some 47) (v := undef) (a' := ?_) #[true, true, true, true, true, true, true, true, true, true, true, true, true, true, false, false, false, false, false, false, false] rfl rfl (any_of HT_.out (by kernel_rfl)) (fun _ _ _ h => h) (Or.inr ⟨by rfl, rfl⟩) ?_ ?_
                rotate_left
                · simp only [Act.put, List.setIfInBounds_toArray, List.set_cons_zero, List.set_cons_succ, i64_w, i32_w]
                  rfl
                refine pure_ (i := 14) (N := some 48) (v := undef) (a' := ?_) #[true, true, true, true, true, true, true, true, true, true, true, true, true, true, true, false, false, false, false, false, false] rfl rfl (any_of HT_.out (by kernel_rfl)) (fun _ _ _ h => h) (Or.inr ⟨by rfl, rfl⟩) ?_ ?_
                rotate_left
                · simp only [Act.put, List.setIfInBounds_toArray, List.set_cons_zero, List.set_cons_succ, i64_w, i32_w]
                  rfl
                refine pure_ (i := 15) (N := some 49) (v := undef) (a' := ?_) #[true, true, true, true, true, true, true, true, true, true, true, true, true, true, true, true, false, false, false, false, false] rfl rfl (any_of HT_.out (by kernel_rfl)) (fun _ _ _ h => h) (Or.inr ⟨by rfl, rfl⟩) ?_ ?_
                rotate_left
                · simp only [Act.put, List.setIfInBounds_toArray, List.set_cons_zero, List.set_cons_succ, i64_w, i32_w]
                  rfl
                refine pure_ (i := 16) (N := some 50) (v := undef) (a' := ?_) #[true, true, true, true, true, true, true, true, true, true, true, true, true, true, true, true, true, false, false, false, false] rfl rfl (any_of HT_.out (by kernel_rfl)) (fun _ _ _ h => h) (Or.inr ⟨by rfl, rfl⟩) ?_ ?_
                rotate_left
                · simp only [Act.put, List.setIfInBounds_toArray, List.set_cons_zero, List.set_cons_succ, i64_w, i32_w]
                  rfl
                refine pure_ (i := 17) (N := some 51) (v := undef) (a' := ?_) #[true, true, true, true, true, true, true, true, true, true, true, true, true, true, true, true, true, true, false, false, false] rfl rfl (any_of HT_.out (by kernel_rfl)) (fun _ _ _ h => h) (Or.inr ⟨by rfl, rfl⟩) ?_ ?_
                rotate_left
                · simp only [Act.put, List.setIfInBounds_toArray, List.set_cons_zero, List.set_cons_succ, i64_w, i32_w]
                  rfl
                refine pure_ (i := 18) (N := some 52) (v := undef) (a' := ?_) #[true, true, true, true, true, true, true, true, true, true, true, true, true, true, true, true, true, true, true, false, false] rfl rfl (any_of HT_.out (by kernel_rfl)) (fun _ _ _ h => h) (Or.inr ⟨by rfl, rfl⟩) ?_ ?_
                rotate_left
                · simp only [Act.put, List.setIfInBounds_toArray, List.set_cons_zero, List.set_cons_succ, i64_w, i32_w]
                  rfl
                refine pure_ (i := 19) (N := some 53) (v := undef) (a' := ?_) #[true, true, true, true, true, true, true, true, true, true, true, true, true, true, true, true, true, true, true, true, false] rfl rfl (any_of HT_.out (by kernel_rfl)) (fun _ _ _ h => h) (Or.inr ⟨by rfl, rfl⟩) ?_ ?_
                rotate_left
                · simp only [Act.put, List.setIfInBounds_toArray, List.set_cons_zero, List.set_cons_succ, i64_w, i32_w]
                  rfl
                refine pure_ (i := 20) (N := some 54) (v := ?_) (a' := ?_) #[true, true, true, true, true, true, true, true, true, true, true, true, true, true, true, true, true, true, true, true, true] rfl rfl (any_of HT_.out (by kernel_rfl)) (fun _ _ _ h => h) (Or.inl ⟨by rfl, ?_⟩) ?_ ?_
                rotate_left
                · intro w'
                  go_simp
                  with_reducible rfl
                rotate_left
                · simp only [Act.put, List.setIfInBounds_toArray, List.set_cons_zero, List.set_cons_succ, i64_w, i32_w]
                  rfl
                refine done_ (done_of HT_.out (by kernel_rfl)) ?_
                try go_wp2
                go_meet
                case rel => exact ⟨_, (true), (by first | rfl | (simp; done) | (simp [*]; done)), H', ⟨by first | omega | exact Nat.le_refl _⟩, ⟨by (with_reducible repeat (first | refine blk_drewN ?_ _ | refine blk_drew ?_ | refine blk_alloc ?_ _)); exact BK254.out⟩, ⟨by repeat (first | (with_reducible first | exact HB.out | apply below_alloc | apply pw_below_drewN | apply below_drew1 | refine below_set ?_ GE254.out) | exact HB.out)⟩⟩
            · rw [if_neg c18] at H
              exact absurd H (by simp)
          · rw [if_neg c17] at H
            exact absurd H (by simp)
        case rest =>
          clear HC11
          try clear c1
          try clear q1
          try clear c2
          try clear p2
          try clear c3
          try clear c5
          try clear c7
          try clear c8
          try clear c9
          try clear c9b0
          try clear c9b1
          try clear c10
          try clear c10b0
          try clear c10b1
          try clear q13
          try clear c14
          try clear c15
          try clear c17
          try clear c17b0
          try clear c18
          try clear c18b0
          try clear c21
          try clear c22
          try clear c22b0
          try clear hcz15_0
          try clear hcz15_1
          try clear hcz15_2
          try clear hfz15_0
          try clear hfz15_1
          try clear hfz15_2
          try clear q13
          obtain ⟨kq, x54_10, rfl, HA, HJ10, BK254, HB⟩ := hcut
          cases kq with
          | zero => exact absurd HA.out (by simp [bailiwicklaw15_ShareScales.j0])
          | succ kj10 =>
            have H := HA.out
            clear HA
            simp only [bailiwicklaw15_ShareScales.j0] at H
            by_cases c35 : x54_10 = true
            · subst c35
              have H1 : (some false) = some r := by rw [if_pos rfl] at H; exact H
              clear H
              have H := H1
              clear H1
              obtain rfl := Option.some.inj H
              go_wp2
              go_ret
              exact ⟨by first | rfl | (simp [errW_none, errW_some] <;> rfl) | (simp only [← hji8]; first | rfl | (simp [errW_none, errW_some] <;> rfl)) | (simp [*, errW_none, errW_some] <;> rfl), by repeat (first | (with_reducible first | exact HB.out | apply below_alloc | apply pw_below_drewN | apply below_drew1 | refine below_set ?_ GE254.out) | exact HB.out)⟩
            · replace c35 := Bool.eq_false_iff.mpr c35
              subst c35
              have H1 : (bailiwicklaw15_ShareScales.l0 kj10 y250 a4 0 0) = some r := by rw [if_neg (show ¬ (false = true) by decide)] at H; exact H
              clear H
              have H := H1
              clear H1
              have H' := Aside0.mk H
              clear H
              go_wp2
              go_loopg [15, 16] kj10 (fun kq v15 v16 w' => ∃ (x15_2 : Int) (x16_2 : Int), v15 = .int .i64 x15_2 ∧ v16 = .int .i64 x16_2 ∧ Aside0 (bailiwicklaw15_ShareScales.l0 kq y250 a4 x15_2 x16_2 = some r) ∧ Aside0 (kq ≤ kj10) ∧ Aside0 (w'.heap[gb254]? = some (.cells #[.int .i64 0, .float .f64 (floatOfInt .f64 a0), .float .f64 (floatOfInt .f64 a1)] 33 (0, 0))) ∧ Aside0 (Below w.heap.size w w'))
              case atStart => exact ⟨(0), (0), (by first | rfl | (simp; done) | (simp [*]; done)), (by first | rfl | (simp; done) | (simp [*]; done)), H', ⟨Nat.le_refl _⟩, ⟨by (with_reducible repeat (first | refine blk_drewN ?_ _ | refine blk_drew ?_ | refine blk_alloc ?_ _)); exact BK254.out⟩, ⟨by repeat (first | (with_reducible first | exact HB.out | apply below_alloc | apply pw_below_drewN | apply below_drew1 | refine below_set ?_ GE254.out) | exact HB.out)⟩⟩
              case round =>
                clear H'
                try clear c1
                try clear q1
                try clear c2
                try clear p2
                try clear c3
                try clear c5
                try clear c7
                try clear c8
                try clear c9
                try clear c9b0
                try clear c9b1
                try clear c10
                try clear c10b0
                try clear c10b1
                try clear q13
                try clear c14
                try clear c15
                try clear c17
                try clear c17b0
                try clear c18
                try clear c18b0
                try clear c21
                try clear c22
                try clear c22b0
                try clear c35
                try clear hcz15_0
                try clear hcz15_1
                try clear hcz15_2
                try clear hfz15_0
                try clear hfz15_1
                try clear hfz15_2
                try clear p2
                try clear q1
                try clear q13
                obtain ⟨x15_2, x16_2, rfl, rfl, HA, HK2, BK254, HB⟩ := hrel
                cases gk with
                | zero => exact absurd HA.out (by simp [bailiwicklaw15_ShareScales.l0])
                | succ k2 =>
                  have H := HA.out
                  clear HA
                  simp only [bailiwicklaw15_ShareScales.l0] at H
                  by_cases c36 : x16_2 < (y250.length : Int)
                  · rw [if_pos c36] at H
                    have c36b0 : decide (x16_2 < (y250.length : Int)) = true := decide_eq_true c36
                    clear c36
                    by_cases c37 : 0 ≤ x16_2
                    · rw [if_pos c37] at H
                      have c37b0 : decide (0 ≤ x16_2) = true := decide_eq_true c37
                      clear c37
                      by_cases c38 : ((rd_T33 y250 x16_2).f0) = a4
                      · rw [if_pos c38] at H
                        have c38b0 : (((rd_T33 y250 x16_2).f0) == a4) = true := beq_iff_eq.mpr c38
                        have c38b1 : (((rd_T33 y250 x16_2).f0) != a4) = false := bne_eq_false_iff_eq.mpr c38
                        clear c38
                        have H' := Aside0.mk H
                        clear H
                        have p260 : 0 ≤ (x16_2 : Int) := of_decide_eq_true (by first | (with_reducible assumption) | assumption)
                        have q260 : x16_2 < (y250.length : Int) := of_decide_eq_true (by first | (with_reducible assumption) | assumption)
                        obtain ⟨ad260, e260, hx260_0, hx260_1, hx260_2⟩ := at_T33 HR253.out x16_2 p260 q260
                        cases e260
                        replace hx260_0 := (HB.out.cell (World.block_lt_of_cell? w _ hx260_0)).trans hx260_0
                        replace hx260_1 := (HB.out.cell (World.block_lt_of_cell? w _ hx260_1)).trans hx260_1
                        replace hx260_2 := (HB.out.cell (World.block_lt_of_cell? w _ hx260_2)).trans hx260_2
                        replace p260 := eq_true p260
                        replace q260 := eq_true q260
                        go_wp2
                        go_roundg k2
                        case measure => have := HJ10.out; have := HK2.out; omega
                        case rel => exact ⟨(x15_2), (wrap64 (x16_2 + 1)), (by first | rfl | (simp; done) | (simp [*]; done)), (by first | rfl | (simp; done) | (simp [*]; done)), H', ⟨by have := HJ10.out; have := HK2.out; omega⟩, ⟨by (with_reducible repeat (first | refine blk_drewN ?_ _ | refine blk_drew ?_ | refine blk_alloc ?_ _)); exact BK254.out⟩, ⟨by repeat (first | (with_reducible first | exact HB.out | apply below_alloc | apply pw_below_drewN | apply below_drew1 | refine below_set ?_ GE254.out) | exact HB.out)⟩⟩
                      · rw [if_neg c38] at H
                        have c38b0 : (((rd_T33 y250 x16_2).f0) == a4) = false := beq_eq_false_iff_ne.mpr c38
                        have c38b1 : (((rd_T33 y250 x16_2).f0) != a4) = true := bne_iff_ne.mpr c38
                        have H' := Aside0.mk H
                        clear H
                        have p260 : 0 ≤ (x16_2 : Int) := of_decide_eq_true (by first | (with_reducible assumption) | assumption)
                        have q260 : x16_2 < (y250.length : Int) := of_decide_eq_true (by first | (with_reducible assumption) | assumption)
                        obtain ⟨ad260, e260, hx260_0, hx260_1, hx260_2⟩ := at_T33 HR253.out x16_2 p260 q260
                        cases e260
                        replace hx260_0 := (HB.out.cell (World.block_lt_of_cell? w _ hx260_0)).trans hx260_0
                        replace hx260_1 := (HB.out.cell (World.block_lt_of_cell? w _ hx260_1)).trans hx260_1
                        replace hx260_2 := (HB.out.cell (World.block_lt_of_cell? w _ hx260_2)).trans hx260_2
                        replace p260 := eq_true p260
                        replace q260 := eq_true q260
                        go_wp2
                        go_roundg k2
                        case measure => have := HJ10.out; have := HK2.out; omega
                        case rel => exact ⟨(wrap64 (x15_2 + 1)), (wrap64 (x16_2 + 1)), (by first | rfl | (simp; done) | (simp [*]; done)), (by first | rfl | (simp; done) | (simp [*]; done)), H', ⟨by have := HJ10.out; have := HK2.out; omega⟩, ⟨by (with_reducible repeat (first | refine blk_drewN ?_ _ | refine blk_drew ?_ | refine blk_alloc ?_ _)); exact BK254.out⟩, ⟨by repeat (first | (with_reducible first | exact HB.out | apply below_alloc | apply pw_below_drewN | apply below_drew1 | refine below_set ?_ GE254.out) | exact HB.out)⟩⟩
                    · rw [if_neg c37] at H
                      exact absurd H (by simp)
                  · rw [if_neg c36] at H
                    have c36b0 : decide (x16_2 < (y250.length : Int)) = false := decide_eq_false c36
                    clear c36
                    replace H := Option.bind_eq_some_iff.mp H
                    obtain ⟨t261, A390, H⟩ := H
                    replace H : (if t261 ≥ 0 then (if t261 ≤ x15_2 then ((some (([] : List (S33)) : List (S33))).bind fun y262 => (if y262.length + y250.length < 5864062014805 then ((some (y262 ++ y250 : List (S33))).bind fun y265 => (if y265.length < 5864062014805 then ((share_Bonus.f k2 (y265 ++ [(⟨a4, 0, 0⟩ : S33)]) a4).bind fun t271 => (some (decide (t271 ≥ t261)))) else (none))) else (none))) else (some false)) else (some false)) = some r := H
                    have A39 := Aside0.mk A390
                    clear A390
                    by_cases c40 : t261 ≥ 0
                    · rw [if_pos c40] at H
                      have c40b0 : decide (0 ≤ t261) = true := decide_eq_true c40
                      clear c40
                      by_cases c41 : t261 ≤ x15_2
                      · rw [if_pos c41] at H
                        have c41b0 : decide (t261 ≤ x15_2) = true := decide_eq_true c41
                        clear c41
                        obtain ⟨y262, hy262⟩ : ∃ y_ : List (S33), y_ = (([] : List (S33))) := ⟨_, rfl⟩
                        replace H : (if y262.length + y250.length < 5864062014805 then ((some (y262 ++ y250 : List (S33))).bind fun y265 => (if y265.length < 5864062014805 then ((share_Bonus.f k2 (y265 ++ [(⟨a4, 0, 0⟩ : S33)]) a4).bind fun t271 => (some (decide (t271 ≥ t261)))) else (none))) else (none)) = some r := by first | (rw [hy262]; with_reducible exact H) | (have H2_ := (Option.bind_some _ _).symm.trans H; rw [hy262]; with_reducible exact H2_) | (have H2_ := (Option.bind_some _ _).symm.trans H; with_reducible exact H2_) | with_reducible exact H | (rw [hy262]; exact H) | exact H
                        have Ny262 := Aside0.mk hy262
                        clear hy262
                        by_cases c42 : y262.length + y250.length < 5864062014805
                        · rw [if_pos c42] at H
                          have LMc42 := Aside0.mk c42
                          clear c42
                          obtain ⟨y265, hy265⟩ : ∃ y_ : List (S33), y_ = (y262 ++ y250) := ⟨_, rfl⟩
                          replace H : (if y265.length < 5864062014805 then ((share_Bonus.f k2 (y265 ++ [(⟨a4, 0, 0⟩ : S33)]) a4).bind fun t271 => (some (decide (t271 ≥ t261)))) else (none)) = some r := by first | (rw [hy265]; with_reducible exact H) | (have H2_ := (Option.bind_some _ _).symm.trans H; rw [hy265]; with_reducible exact H2_) | (have H2_ := (Option.bind_some _ _).symm.trans H; with_reducible exact H2_) | with_reducible exact H | (rw [hy265]; exact H) | exact H
                          have Ny265 := Aside0.mk hy265
                          clear hy265
                          by_cases c43 : y265.length < 5864062014805
                          · rw [if_pos c43] at H
                            have LMc43 := Aside0.mk c43
                            clear c43
                            obtain ⟨y268, hy268⟩ : ∃ y_ : List (S33), y_ = (y265 ++ [(⟨a4, 0, 0⟩ : S33)]) := ⟨_, rfl⟩
                            replace H : ((share_Bonus.f k2 y268 a4).bind fun t271 => (some (decide (t271 ≥ t261)))) = some r := by first | (rw [hy268]; with_reducible exact H) | (have H2_ := (Option.bind_some _ _).symm.trans H; rw [hy268]; with_reducible exact H2_) | (have H2_ := (Option.bind_some _ _).symm.trans H; with_reducible exact H2_) | with_reducible exact H | (rw [hy268]; exact H) | exact H
                            have Ny268 := Aside0.mk hy268
                            clear hy268
                            replace H := Option.bind_eq_some_iff.mp H
                            obtain ⟨t271, A440, H⟩ := H
                            replace H : (some (decide (t271 ≥ t261))) = some r := H
                            have A44 := Aside0.mk A440
                            clear A440
                            obtain rfl := Option.some.inj H
                            go_wp2_with (first | ((with_reducible refine gate_callee (f := 12) rfl ?_); refine goesL_ (some 72) rfl rfl Try.func12 (by kernel_rfl) rfl #[.slice A3 y250.length c3, .int .i64 a4] rfl (by (try simp only [List.map_toArray, List.map_cons, List.map_nil]); first | done | rfl | (simp only [List.length_drop, List.length_take]; rfl)) ?_; (with_reducible refine (share_Bonus.calls k2 _ _ y250 a4 t261 _ ?side1 ?side2 A39.out).mono ?_); (case side1 => repeat (first | exact (Kd.C_below HR253.out HB.out) | (with_reducible refine Kd.C_alloc ?_ _) | (with_reducible refine Kd.C_drewN ?_ _) | (with_reducible refine Kd.C_drew ?_))); (case side2 => exact HC253.out); rintro e w45 ⟨rfl, hb⟩; refine ⟨_, rfl, ?_⟩; have n0_ := Aside0.mk (blk_below (g := gb254) (o := .cells #[.int .i64 0, .float .f64 (floatOfInt .f64 a0), .float .f64 (floatOfInt .f64 a1)] 33 (0, 0)) (by (with_reducible repeat (first | refine blk_drewN ?_ _ | refine blk_drew ?_ | refine blk_alloc ?_ _)); exact BK254.out) hb); have n1_ := Aside0.mk (below_step (by repeat (first | (with_reducible first | exact HB.out | apply below_alloc | apply pw_below_drewN | apply below_drew1 | refine below_set ?_ GE254.out) | exact HB.out)) hb); clear BK254; clear HB; have BK254 := n0_; have HB := n1_; clear n0_ n1_; (try clear hb); (try clear hb2); (try clear hk); (try clear hi)) | ((with_reducible refine gate_dst (N := 81) rfl ?_); (try (refine gate_guard (by rfl) ?_; dsimp only)); refine Kd.R_lit k33 _ 33 ?hg (N := 81) ?hd (xs := ([] : List (S33))) (inner := []) (ok := fun _ => True) (okp := fun _ => True) ?hr ?hp (fun _ hk => hk) trivial (Below.refl _ _) (Nat.le_refl _) (by simp) ?_; (case hd => rfl); (case hg => rfl); (case hr => first | (go_simp; done) | (go_simp; rfl)); (case hp => exact (Reps.none _ _)); intro v263 w46 ho47 hb hg_ hnew_; clear hg_ hnew_; (first | rw [← Ny262.out] at ho47 | (simp only [Int.reduceToNat] at ho47; rw [← Ny262.out] at ho47)); have n0_ := Aside0.mk (Kd.R_lower (Kd.R_newB ho47 (g := gb254) (o := .cells #[.int .i64 0, .float .f64 (floatOfInt .f64 a0), .float .f64 (floatOfInt .f64 a1)] 33 (0, 0)) (by (with_reducible repeat (first | refine blk_drewN ?_ _ | refine blk_drew ?_ | refine blk_alloc ?_ _)); exact BK254.out)) (below_size (by repeat (first | (with_reducible first | exact HB.out | apply below_alloc | apply pw_below_drewN | apply below_drew1 | refine below_set ?_ GE254.out) | exact HB.out)))); have n1_ := Aside0.mk (blk_below (g := gb254) (o := .cells #[.int .i64 0, .float .f64 (floatOfInt .f64 a0), .float .f64 (floatOfInt .f64 a1)] 33 (0, 0)) (by (with_reducible repeat (first | refine blk_drewN ?_ _ | refine blk_drew ?_ | refine blk_alloc ?_ _)); exact BK254.out) hb); have n2_ := Aside0.mk (below_step (by repeat (first | (with_reducible first | exact HB.out | apply below_alloc | apply pw_below_drewN | apply below_drew1 | refine below_set ?_ GE254.out) | exact HB.out)) hb); clear BK254; clear HB; have HO264 := n0_; have BK254 := n1_; have HB := n2_; clear n0_ n1_ n2_; clear hb ho47) | ((with_reducible refine gate_builtin (b := .append) (xs := #[.tmp 81, .tmp 82]) rfl ?_); (try (refine gate_guard (by rfl) ?_; dsimp only)); at_builtin; refine Kd.R_append_rows k33 (w0 := w) w.heap.size rfl (.tmp 81) (.tmp 82) 22 33 (.agg #[(.int .i64 0), (.float .f64 0), (.float .f64 0)]) 24 rfl Try.underlying22 info33 rfl (by decide) (by omega) v263 y262 y250 _ _ _ (fun k_ => k_ ≠ gb254) (fun _ => False) rfl rfl ?aO ?aR (fun _ _ h => h) (fun _ h => h.elim) ?aF ?aB ?aS ?aL ?_; (case aR => repeat (first | exact (Kd.C_below HR253.out HB.out) | (with_reducible refine Kd.C_alloc ?_ _) | (with_reducible refine Kd.C_drewN ?_ _) | (with_reducible refine Kd.C_drew ?_))); (case aB => exact (by repeat (first | (with_reducible first | exact HB.out | apply below_alloc | apply pw_below_drewN | apply below_drew1 | refine below_set ?_ GE254.out) | exact HB.out))); (case aF => exact (fun k_ hk => Kd.freshB (g := gb254) (o := .cells #[.int .i64 0, .float .f64 (floatOfInt .f64 a0), .float .f64 (floatOfInt .f64 a1)] 33 (0, 0)) (by (with_reducible repeat (first | refine blk_drewN ?_ _ | refine blk_drew ?_ | refine blk_alloc ?_ _)); exact BK254.out) k_ hk)); (case aO => exact (by (with_reducible repeat (first | apply Kd.R_alloc | apply Kd.R_drewN | apply Kd.R_drew)); exact Kd.R_mono HO264.out (fun _ hk => hk.2))); (case aS => exact (below_size (by repeat (first | (with_reducible first | exact HB.out | apply below_alloc | apply pw_below_drewN | apply below_drew1 | refine below_set ?_ GE254.out) | exact HB.out)))); (case aL => have := LMc42.out; omega); intro v266 w48 ho hb hg hat; rw [← Ny265.out] at ho; have n0_ := Aside0.mk (blk_grown (g := gb254) (o := .cells #[.int .i64 0, .float .f64 (floatOfInt .f64 a0), .float .f64 (floatOfInt .f64 a1)] 33 (0, 0)) (by (with_reducible repeat (first | refine blk_drewN ?_ _ | refine blk_drew ?_ | refine blk_alloc ?_ _)); exact BK254.out) hg (Kd.R_away HO264.out (fun _ hk => hk.2))); have n1_ := Aside0.mk (hb); have n2_ := Aside0.mk (ho); clear BK254; clear HB; clear HO264; have BK254 := n0_; have HB := n1_; have HO267 := n2_; clear n0_ n1_ n2_; clear ho hb hg hat) | ((with_reducible refine gate_builtin (b := .append) (xs := #[.tmp 83, .tmp 86]) rfl ?_); (try (refine gate_guard (by rfl) ?_; dsimp only)); at_builtin; refine Kd.R_append k33 (w0 := w) w.heap.size rfl (.tmp 83) (.tmp 86) 22 33 (.agg #[(.int .i64 0), (.float .f64 0), (.float .f64 0)]) 24 rfl Try.underlying22 info33 rfl (by decide) (by omega) v266 y265 (⟨a4, 0, 0⟩ : S33) [.int .i64 a4, .float .f64 0, .float .f64 0] (fun k_ => k_ ≠ gb254) (fun _ => False) rfl rfl ?aP (fun _ hk => hk.elim) ?aF ?aO ?aB ?aS ?aL ?_; (case aP => exact k33_mkM _ _ _ (⟨a4, 0, 0⟩ : S33)); (case aB => exact (by repeat (first | (with_reducible first | exact HB.out | apply below_alloc | apply pw_below_drewN | apply below_drew1 | refine below_set ?_ GE254.out) | exact HB.out))); (case aF => exact (fun k_ hk => Kd.freshB (g := gb254) (o := .cells #[.int .i64 0, .float .f64 (floatOfInt .f64 a0), .float .f64 (floatOfInt .f64 a1)] 33 (0, 0)) (by (with_reducible repeat (first | refine blk_drewN ?_ _ | refine blk_drew ?_ | refine blk_alloc ?_ _)); exact BK254.out) k_ hk)); (case aO => exact (by (with_reducible repeat (first | apply Kd.R_alloc | apply Kd.R_drewN | apply Kd.R_drew)); exact HO267.out)); (case aS => exact (below_size (by repeat (first | (with_reducible first | exact HB.out | apply below_alloc | apply pw_below_drewN | apply below_drew1 | refine below_set ?_ GE254.out) | exact HB.out)))); (case aL => have := LMc43.out; omega); intro v269 w49 ho hb hg hat; rw [← Ny268.out] at ho; have n0_ := Aside0.mk (blk_grown (g := gb254) (o := .cells #[.int .i64 0, .float .f64 (floatOfInt .f64 a0), .float .f64 (floatOfInt .f64 a1)] 33 (0, 0)) (by (with_reducible repeat (first | refine blk_drewN ?_ _ | refine blk_drew ?_ | refine blk_alloc ?_ _)); exact BK254.out) hg (Kd.R_away HO267.out (fun _ hk => hk))); have n1_ := Aside0.mk (hb); have n2_ := Aside0.mk (ho); clear BK254; clear HB; clear HO267; have BK254 := n0_; have HB := n1_; have HO270 := n2_; clear n0_ n1_ n2_; clear ho hb hg hat; obtain ⟨Ao50, co50, eo50⟩ := Kd.R_slice HO270.out; subst eo50) | (go_at_call 12; (with_reducible refine (share_Bonus.calls k2 _ _ y268 a4 t271 _ ?side1 ?side2 A44.out).mono ?_); (case side1 => repeat (first | exact (Kd.R_reads' HO270.out).2.2 | (with_reducible refine Kd.C_alloc ?_ _) | (with_reducible refine Kd.C_drewN ?_ _) | (with_reducible refine Kd.C_drew ?_))); (case side2 => exact (Kd.R_reads' HO270.out).2.1); rintro e w51 ⟨rfl, hb⟩; have n0_ := Aside0.mk (Kd.R_below (by (with_reducible repeat (first | apply Kd.R_alloc | apply Kd.R_drewN | apply Kd.R_drew)); exact HO270.out) hb); have n1_ := Aside0.mk (blk_below (g := gb254) (o := .cells #[.int .i64 0, .float .f64 (floatOfInt .f64 a0), .float .f64 (floatOfInt .f64 a1)] 33 (0, 0)) (by (with_reducible repeat (first | refine blk_drewN ?_ _ | refine blk_drew ?_ | refine blk_alloc ?_ _)); exact BK254.out) hb); have n2_ := Aside0.mk (below_step (by repeat (first | (with_reducible first | exact HB.out | apply below_alloc | apply pw_below_drewN | apply below_drew1 | refine below_set ?_ GE254.out) | exact HB.out)) hb); clear HO270; clear BK254; clear HB; have HO270 := n0_; have BK254 := n1_; have HB := n2_; clear n0_ n1_ n2_; (try clear hb); (try clear hb2); (try clear hk); (try clear hi)))
                            go_ret
                            exact ⟨by first | rfl | (simp [errW_none, errW_some] <;> rfl) | (simp only [← hji8]; first | rfl | (simp [errW_none, errW_some] <;> rfl)) | (simp [*, errW_none, errW_some] <;> rfl), by repeat (first | (with_reducible first | exact HB.out | apply below_alloc | apply pw_below_drewN | apply below_drew1 | refine below_set ?_ GE254.out) | exact HB.out)⟩
                          · rw [if_neg c43] at H
                            exact absurd H (by simp)
                        · rw [if_neg c42] at H
                          exact absurd H (by simp)
                      · rw [if_neg c41] at H
                        have c41b0 : decide (t261 ≤ x15_2) = false := decide_eq_false c41
                        clear c41
                        obtain rfl := Option.some.inj H
                        go_wp2_with (first | ((with_reducible refine gate_callee (f := 12) rfl ?_); refine goesL_ (some 72) rfl rfl Try.func12 (by kernel_rfl) rfl #[.slice A3 y250.length c3, .int .i64 a4] rfl (by (try simp only [List.map_toArray, List.map_cons, List.map_nil]); first | done | rfl | (simp only [List.length_drop, List.length_take]; rfl)) ?_; (with_reducible refine (share_Bonus.calls k2 _ _ y250 a4 t261 _ ?side1 ?side2 A39.out).mono ?_); (case side1 => repeat (first | exact (Kd.C_below HR253.out HB.out) | (with_reducible refine Kd.C_alloc ?_ _) | (with_reducible refine Kd.C_drewN ?_ _) | (with_reducible refine Kd.C_drew ?_))); (case side2 => exact HC253.out); rintro e w52 ⟨rfl, hb⟩; refine ⟨_, rfl, ?_⟩; have n0_ := Aside0.mk (blk_below (g := gb254) (o := .cells #[.int .i64 0, .float .f64 (floatOfInt .f64 a0), .float .f64 (floatOfInt .f64 a1)] 33 (0, 0)) (by (with_reducible repeat (first | refine blk_drewN ?_ _ | refine blk_drew ?_ | refine blk_alloc ?_ _)); exact BK254.out) hb); have n1_ := Aside0.mk (below_step (by repeat (first | (with_reducible first | exact HB.out | apply below_alloc | apply pw_below_drewN | apply below_drew1 | refine below_set ?_ GE254.out) | exact HB.out)) hb); clear BK254; clear HB; have BK254 := n0_; have HB := n1_; clear n0_ n1_; (try clear hb); (try clear hb2); (try clear hk); (try clear hi)))
                        go_ret
                        exact ⟨by first | rfl | (simp [errW_none, errW_some] <;> rfl) | (simp only [← hji8]; first | rfl | (simp [errW_none, errW_some] <;> rfl)) | (simp [*, errW_none, errW_some] <;> rfl), by repeat (first | (with_reducible first | exact HB.out | apply below_alloc | apply pw_below_drewN | apply below_drew1 | refine below_set ?_ GE254.out) | exact HB.out)⟩
                    · rw [if_neg c40] at H
                      have c40b0 : decide (0 ≤ t261) = false := decide_eq_false c40
                      clear c40
                      obtain rfl := Option.some.inj H
                      go_wp2_with (first | ((with_reducible refine gate_callee (f := 12) rfl ?_); refine goesL_ (some 72) rfl rfl Try.func12 (by kernel_rfl) rfl #[.slice A3 y250.length c3, .int .i64 a4] rfl (by (try simp only [List.map_toArray, List.map_cons, List.map_nil]); first | done | rfl | (simp only [List.length_drop, List.length_take]; rfl)) ?_; (with_reducible refine (share_Bonus.calls k2 _ _ y250 a4 t261 _ ?side1 ?side2 A39.out).mono ?_); (case side1 => repeat (first | exact (Kd.C_below HR253.out HB.out) | (with_reducible refine Kd.C_alloc ?_ _) | (with_reducible refine Kd.C_drewN ?_ _) | (with_reducible refine Kd.C_drew ?_))); (case side2 => exact HC253.out); rintro e w53 ⟨rfl, hb⟩; refine ⟨_, rfl, ?_⟩; have n0_ := Aside0.mk (blk_below (g := gb254) (o := .cells #[.int .i64 0, .float .f64 (floatOfInt .f64 a0), .float .f64 (floatOfInt .f64 a1)] 33 (0, 0)) (by (with_reducible repeat (first | refine blk_drewN ?_ _ | refine blk_drew ?_ | refine blk_alloc ?_ _)); exact BK254.out) hb); have n1_ := Aside0.mk (below_step (by repeat (first | (with_reducible first | exact HB.out | apply below_alloc | apply pw_below_drewN | apply below_drew1 | refine below_set ?_ GE254.out) | exact HB.out)) hb); clear BK254; clear HB; have BK254 := n0_; have HB := n1_; clear n0_ n1_; (try clear hb); (try clear hb2); (try clear hk); (try clear hi)))
                      go_ret
                      exact ⟨by first | rfl | (simp [errW_none, errW_some] <;> rfl) | (simp only [← hji8]; first | rfl | (simp [errW_none, errW_some] <;> rfl)) | (simp [*, errW_none, errW_some] <;> rfl), by repeat (first | (with_reducible first | exact HB.out | apply below_alloc | apply pw_below_drewN | apply below_drew1 | refine below_set ?_ GE254.out) | exact HB.out)⟩
      · rw [if_neg c10] at H
        exact absurd H (by simp)
    · rw [if_neg c9] at H
      exact absurd H (by simp)
  · replace c7 := Bool.eq_false_iff.mpr c7
    subst c7
    have H1 : (some false) = some r := by rw [if_neg (show ¬ (false = true) by decide)] at H; exact H
    clear H
    have H := H1
    clear H1
    obtain rfl := Option.some.inj H
    go_enter Try.func5, Try.ntmps5
    go_wp2_with (first | ((with_reducible refine gate_callee (f := 8) rfl ?_); refine goesL_ (some 18) rfl rfl Try.func8 (by kernel_rfl) rfl #[] rfl (by (try simp only [List.map_toArray, List.map_cons, List.map_nil]); first | done | rfl | (simp only [List.length_drop, List.length_take]; rfl)) ?_; (with_reducible refine (bailiwicklaw15_awake.calls k  false _ A6.out).mono ?_); rintro e w54 ⟨rfl, hb⟩; refine ⟨_, rfl, ?_⟩; have n0_ := Aside0.mk (below_step (by repeat (first | (with_reducible first | exact HB.out | apply below_alloc | apply pw_below_drewN | apply below_drew1) | exact HB.out)) hb); clear HB; have HB := n0_; clear n0_; (try clear hb); (try clear hb2); (try clear hk); (try clear hi)))
    go_ret
    exact ⟨by first | rfl | (simp [errW_none, errW_some] <;> rfl) | (simp [*, errW_none, errW_some] <;> rfl), by repeat (first | (with_reducible first | exact HB.out | apply below_alloc | apply pw_below_drewN | apply below_drew1) | exact HB.out)⟩

end Go.Proofs.Ytemlhkognjhgbaa.PAll
