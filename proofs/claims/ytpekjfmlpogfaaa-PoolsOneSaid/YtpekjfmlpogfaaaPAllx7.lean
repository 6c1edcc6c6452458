-- Written by wip/tools/hprint.py of this claim's session (a driver over the kit's print, with contracts proved by hand among them).
import Derived.Test.YtpekjfmlpogfaaaPAllx0
import Derived.Test.YtpekjfmlpogfaaaPAllx4
import Derived.Test.YtpekjfmlpogfaaaPAllx6
namespace Go.Proofs.Ytpekjfmlpogfaaa.PAll
open Go.RowKit Go.Proofs.YtpekjfmlpogfaaaW.PrintWords Go.Proofs.YtpekjfmlpogfaaaW.PrintLast Go.Proofs.YtpekjfmlpogfaaaW.PrintMore
attribute [local go_sem] max2_int min2_int max_two min_two max_three min_three max_four min_four   -- for this text's walks alone
set_option linter.unusedVariables false
set_option linter.unusedSimpArgs false

/-! ### step_plus: function 49, by hand -/
def addIf (c : Bool) (xs : List S38) (a f : Int) : List S38 := if c = true then addF xs a f else xs
theorem addIf_len (c : Bool) (xs : List S38) (a f : Int) : (addIf c xs a f).length ≤ xs.length + 1 := by
  unfold addIf; split
  · exact addF_len xs a f
  omega
/-- Where a step ends. -/
def finOf (l0 : List S38) (i : Nat) : Int := if (i : Int) + 1 < (l0.length : Int) then (rd_T38 l0 ((i : Int) + 1)).f0 else 4611686018427387905
/-- What one round of step.plus makes of what was made. -/
def plusR (l0 : List S38) (a1 a2 a3 : Int) (i : Nat) (xs : List S38) : List S38 :=
  addIf (decide (a2 < finOf l0 i)) (addIf (decide (mx (rd_T38 l0 i).f0 a1 < mn (finOf l0 i) a2)) (addIf (decide ((rd_T38 l0 i).f0 < a1)) xs (rd_T38 l0 i).f0 (rd_T38 l0 i).f1) (mx (rd_T38 l0 i).f0 a1) (wrap64 ((rd_T38 l0 i).f1 + a3))) (mx (rd_T38 l0 i).f0 a2) (rd_T38 l0 i).f1
def plusTo (l0 : List S38) (a1 a2 a3 : Int) : Nat → List S38
  | 0 => []
  | i + 1 => plusR l0 a1 a2 a3 i (plusTo l0 a1 a2 a3 i)
theorem plusR_len (l0 : List S38) (a1 a2 a3 : Int) (i : Nat) (xs : List S38) : (plusR l0 a1 a2 a3 i xs).length ≤ xs.length + 3 := by
  unfold plusR
  exact Nat.le_trans (addIf_len _ _ _ _) (Nat.succ_le_succ (Nat.le_trans (addIf_len _ _ _ _) (Nat.succ_le_succ (addIf_len _ _ _ _))))
theorem plusTo_len (l0 : List S38) (a1 a2 a3 : Int) (i : Nat) : (plusTo l0 a1 a2 a3 i).length ≤ 3 * i := by
  induction i with
  | zero => simp [plusTo]
  | succ i ih =>
    have := plusR_len l0 a1 a2 a3 i (plusTo l0 a1 a2 a3 i)
    simp only [plusTo]
    omega
def step_plus.f (l0 : List S38) (a1 a2 a3 : Int) : Option (List S38) := if l0.length ≤ 1000000000 then some (plusTo l0 a1 a2 a3 l0.length) else none
def PlusRel (w : World) (l0 : List S38) (a1 a2 a3 : Int) (k : Nat) (wc : World) : Prop :=
  ∃ v, wc.heap[w.heap.size]? = some (.cells #[v] 22 (0, 0)) ∧ Kd.R k38 38 wc w.heap.size (fun q => q ≠ w.heap.size) v (plusTo l0 a1 a2 a3 k) ∧ Below w.heap.size w wc
/-- Inside a round: what was made, and the copied step. -/
def StP (w : World) (g : Nat) (s0 s1 : Int) (m : Nat) (xs : List S38) (W : World) : Prop :=
  ∃ v, W.heap[w.heap.size]? = some (.cells #[v] 22 (0, 0)) ∧ Kd.R k38 38 W w.heap.size (fun q => q ≠ w.heap.size ∧ q ≠ g) v xs ∧ Below w.heap.size w W ∧ W.heap[g]? = some (.cells #[.int .i64 s0, .int .i64 s1] 38 (0, 0)) ∧ xs.length ≤ m
theorem StP.start {w wr : World} {l0 : List S38} {a1 a2 a3 : Int} {k : Nat} (h : PlusRel w l0 a1 a2 a3 k wr) (s0 s1 : Int) : StP w wr.heap.size s0 s1 (3 * k) (plusTo l0 a1 a2 a3 k) (wr.alloc (.cells #[.int .i64 s0, .int .i64 s1] 38)) := by
  obtain ⟨v, hB, hR, hb⟩ := h
  refine ⟨v, blk_alloc hB _, ?_, below_alloc hb _, blk_new wr _, plusTo_len l0 a1 a2 a3 k⟩
  exact Kd.R_below (Kd.R_mono (Kd.R_bound hR) (fun q hq => ⟨hq.1, by have := hq.2.2.1; omega⟩)) (below_alloc (Below.refl _ _) _)
theorem StP.cell0 {w W : World} {g m : Nat} {s0 s1 : Int} {xs : List S38} (h : StP w g s0 s1 m xs W) : W.cell? ⟨g, 0, none⟩ = some (.int .i64 s0) := by
  obtain ⟨v, _, _, _, hS, _⟩ := h
  exact (blk_cell hS 0).trans rfl
theorem StP.cell1 {w W : World} {g m : Nat} {s0 s1 : Int} {xs : List S38} (h : StP w g s0 s1 m xs W) : W.cell? ⟨g, 1, none⟩ = some (.int .i64 s1) := by
  obtain ⟨v, _, _, _, hS, _⟩ := h
  exact (blk_cell hS 1).trans rfl
theorem StP.below {w W W2 : World} {g m : Nat} {s0 s1 : Int} {xs : List S38} (h : StP w g s0 s1 m xs W) (hb : Below W.heap.size W W2) : StP w g s0 s1 m xs W2 := by
  obtain ⟨v, hB, hR, hbl, hS, hm⟩ := h
  exact ⟨v, blk_below hB hb, Kd.R_below hR hb, below_step hbl hb, blk_below hS hb, hm⟩
theorem StP.done {w W : World} {g m : Nat} {s0 s1 a1 a2 a3 : Int} {xs l0 : List S38} {k : Nat} (h : StP w g s0 s1 m xs W) (e : plusTo l0 a1 a2 a3 k = xs) : PlusRel w l0 a1 a2 a3 k W := by
  obtain ⟨v, hB, hR, hbl, _, _⟩ := h
  exact ⟨v, hB, by rw [e]; exact Kd.R_mono hR (fun _ hq => hq.1), hbl⟩
theorem StP.add {w W : World} {g m : Nat} {s0 s1 : Int} {xs : List S38} {a f : Int} (h : StP w g s0 s1 m xs W) (hm : m < 8796093022208) :
    Calls Try.prog 56 #[.int .i64 a, .int .i64 f, .pointer (some ⟨w.heap.size, 0, none⟩)] W fun e W' => e = .returned (.tuple #[]) ∧ StP w g s0 s1 (m + 1) (addF xs a f) W' := by
  obtain ⟨v, hB, hR, hbl, hS, hx⟩ := h
  have hg := blk_lt hS
  have hBl := blk_lt hB
  refine (plus_add w W w.heap.size v xs a f (fun q => q ≠ w.heap.size ∧ q ≠ g) (Nat.le_refl _) hbl.size hB hR hbl (fun k hk => hk.1) (fun k hk => ⟨by omega, by omega⟩) (by omega)).mono ?_
  rintro e W' ⟨he, v', hB', hR', hb', hk'⟩
  refine ⟨he, v', hB', hR', hb', ?_, Nat.le_trans (addF_len _ _ _) (Nat.succ_le_succ hx)⟩
  refine blk_kept hS hk' ?_
  rintro (⟨_, h2⟩ | h2)
  · exact h2 rfl
  subst h2
  rw [hS] at hB
  simp at hB
set_option maxHeartbeats 8000000 in
set_option maxRecDepth 100000 in
theorem step_plus.calls (A0 : Option Addr) (c0 : Nat) (l0 : List S38) (a1 a2 a3 : Int) (r : List S38) (w : World) (hr0 : Kd.C k38 w A0 l0.length l0) (hc0 : l0.length ≤ c0) (h : step_plus.f l0 a1 a2 a3 = some r) :
    Calls Try.prog 49 #[.slice A0 l0.length c0, .int .i64 a1, .int .i64 a2, .int .i64 a3] w fun e w' => ∃ v0_ : Value, e = .returned (v0_) ∧ Kd.R k38 38 w' w.heap.size (fun _ => True) v0_ r ∧ Below w.heap.size w w' := by
  unfold step_plus.f at h
  by_cases hlen : l0.length ≤ 1000000000
  rotate_left
  · rw [if_neg hlen] at h
    exact absurd h (by simp)
  rw [if_pos hlen] at h
  obtain rfl := Option.some.inj h
  clear h
  have HR0 := Aside0.mk hr0
  clear hr0
  go_enter Try.func49, Try.ntmps49
  go_wp2
  go_loopw [17] (fun v17 wc => ∃ k : Nat, k ≤ l0.length ∧ v17 = .int .i64 k ∧ PlusRel w l0 a1 a2 a3 k wc) (fun v17 _ => l0.length - (intOf v17).toNat)
  case atStart => exact ⟨0, Nat.zero_le _, rfl, .slice none 0 0, blk_new w _, Kd.R_nil _ _ _ _ _, below_alloc (Below.refl _ _) _⟩
  obtain ⟨k, hk, rfl, hrel⟩ := hrel
  by_cases hlt : k < l0.length
  rotate_left
  · obtain rfl : k = l0.length := by omega
    obtain ⟨v, hB, hR, hb⟩ := hrel
    obtain ⟨Av, cv, rfl⟩ := Kd.R_slice hR
    have hc := (blk_cell hB 0).trans rfl
    have HR := Aside0.mk hR
    clear hR hB
    go_wp2
    go_ret
    exact ⟨_, rfl, Kd.R_mono HR.out (fun _ _ => trivial), hb⟩
  have HBL := Aside0.mk (show Below w.heap.size w wr from by obtain ⟨_, _, _, hb⟩ := hrel; exact hb)
  obtain ⟨ad, rfl, hx0, hx1⟩ := at_T38 (Kd.C_below HR0.out HBL.out) (k : Int) (by omega) (by omega)
  rw [Int.toNat_natCast] at hx0 hx1
  have HST := Aside0.mk (StP.start hrel (rd_T38 l0 k).f0 (rd_T38 l0 k).f1)
  clear hrel
  by_cases c4 : k + 1 < l0.length
  rotate_left
  · have hE : finOf l0 k = 4611686018427387905 := by unfold finOf; rw [if_neg (by omega)]
    have HE := Aside0.mk hE
    clear hE
    cases t1 : decide ((rd_T38 l0 k).f0 < a1) <;> cases t2 : decide (mx (rd_T38 l0 k).f0 a1 < mn 4611686018427387905 a2) <;> cases t3 : decide (a2 < 4611686018427387905)
    all_goals
      have HX := Aside0.mk (show plusTo l0 a1 a2 a3 (k + 1) = _ from by show plusR l0 a1 a2 a3 k _ = _; unfold plusR addIf; rw [HE.out, t1, t2, t3])
      go_wp2_with (first | (go_at_call 56; refine (StP.add HST.out (by omega)).mono ?_; rintro e W2 ⟨rfl, hst⟩; have n0 := Aside0.mk hst; clear hst HST; (try clear hs0 hs1); have HST := n0; clear n0; have hs0 := HST.out.cell0; have hs1 := HST.out.cell1) | (go_at_call 57; refine (when_Meets.calls _ _ _ _ _ _ rfl).mono ?_; rintro e W2 ⟨rfl, hbb⟩; have n0 := Aside0.mk (HST.out.below hbb); clear hbb HST; (try clear hs0 hs1); have HST := n0; clear n0; have hs0 := HST.out.cell0; have hs1 := HST.out.cell1))
      go_roundw
      case rel => exact ⟨k + 1, by omega, by go_num, HST.out.done HX.out⟩
      case measure => simp [intOf]; omega
  obtain ⟨ad', e_, hy0, hy1⟩ := at_T38 (Kd.C_below HR0.out HBL.out) ((k : Int) + 1) (by omega) (by omega)
  cases e_
  rw [show ((k : Int) + 1).toNat = k + 1 from by omega] at hy0 hy1
  have hy2 := fun (o : Obj) => pw_cell_below (below_alloc (Below.refl _ _) o) hy0
  clear hy0 hy1
  have hE : finOf l0 k = (rd_T38 l0 ((k : Int) + 1)).f0 := by unfold finOf; rw [if_pos (by omega)]
  have HE := Aside0.mk hE
  clear hE
  cases t1 : decide ((rd_T38 l0 k).f0 < a1) <;> cases t2 : decide (mx (rd_T38 l0 k).f0 a1 < mn (rd_T38 l0 ((k : Int) + 1)).f0 a2) <;> cases t3 : decide (a2 < (rd_T38 l0 ((k : Int) + 1)).f0)
  all_goals
    have HX := Aside0.mk (show plusTo l0 a1 a2 a3 (k + 1) = _ from by show plusR l0 a1 a2 a3 k _ = _; unfold plusR addIf; rw [HE.out, t1, t2, t3])
    go_wp2_with (first | (go_at_call 56; refine (StP.add HST.out (by omega)).mono ?_; rintro e W2 ⟨rfl, hst⟩; have n0 := Aside0.mk hst; clear hst HST; (try clear hs0 hs1); have HST := n0; clear n0; have hs0 := HST.out.cell0; have hs1 := HST.out.cell1) | (go_at_call 57; refine (when_Meets.calls _ _ _ _ _ _ rfl).mono ?_; rintro e W2 ⟨rfl, hbb⟩; have n0 := Aside0.mk (HST.out.below hbb); clear hbb HST; (try clear hs0 hs1); have HST := n0; clear n0; have hs0 := HST.out.cell0; have hs1 := HST.out.cell1))
    go_roundw
    case rel => exact ⟨k + 1, by omega, by go_num, HST.out.done HX.out⟩
    case measure => simp [intOf]; omega


/-! ### step_change: function 38 -/
def step_change.f (l0 : List (S38)) (a1 : Int) (a2 : Int) (a3 : Int) : Option ((List (S38)) × Int) := (step_plus.f l0 a1 a2 a3).bind fun t121 => (if (t121.length : Int) > 1024 then ((api_Step_36.f l0).bind fun t124 => (some (t124, 4))) else (some (t121, 0)))
set_option maxHeartbeats 8000000 in
set_option maxRecDepth 100000 in
theorem step_change.calls (A0 : Option Addr) (c0 : Nat) (l0 : List (S38)) (a1 : Int) (a2 : Int) (a3 : Int) (r1 : List (S38)) (r2 : Int) (w : World) (hr0 : Kd.C k38 w A0 l0.length l0) (hc0 : l0.length ≤ c0) (h : step_change.f l0 a1 a2 a3 = some (r1, r2)) :
    Calls Try.prog 38 #[.slice A0 l0.length c0, .int .i64 a1, .int .i64 a2, .int .i64 a3] w fun e w' => ∃ v0_ : Value, e = .returned (.tuple #[v0_, .int .i64 r2]) ∧ Kd.R k38 38 w' w.heap.size (fun _ => True) v0_ r1 ∧ Below w.heap.size w w' := by
  have HR0 := Aside0.mk hr0
  have HC0 := Aside0.mk hc0
  clear hr0 hc0
  have HB := Aside0.mk (Below.refl w.heap.size w)
  have H : ((step_plus.f l0 a1 a2 a3).bind fun t121 => (if (t121.length : Int) > 1024 then ((api_Step_36.f l0).bind fun t124 => (some (t124, 4))) else (some (t121, 0)))) = some (r1, r2) := h
  clear h
  replace H := Option.bind_eq_some_iff.mp H
  obtain ⟨t121, A50, H⟩ := H
  replace H : (if (t121.length : Int) > 1024 then ((api_Step_36.f l0).bind fun t124 => (some (t124, 4))) else (some (t121, 0))) = some (r1, r2) := H
  have A5 := Aside0.mk A50
  clear A50
  by_cases c6 : (t121.length : Int) > 1024
  rotate_left
  · rw [if_neg c6] at H
    have c6b0 : decide (1024 < (t121.length : Int)) = false := decide_eq_false c6
    have c6b1 : decide (1024 < t121.length) = false := decide_eq_false (by omega)
    clear c6
    simp only [Option.some.injEq, Prod.mk.injEq] at H
    obtain ⟨rfl, rfl⟩ := H
    go_enter Try.func38, Try.ntmps38
    go_wp2_with (first | ((with_reducible refine gate_callee (f := 49) rfl ?_); refine goesL_ (some 15) rfl rfl Try.func49 (by kernel_rfl) rfl #[.slice A0 l0.length c0, .int .i64 a1, .int .i64 a2, .int .i64 a3] rfl (by (try simp only [List.map_toArray, List.map_cons, List.map_nil]); first | done | rfl) ?_; (with_reducible refine (step_plus.calls _ _ l0 a1 a2 a3 t121 _ ?side1 ?side2 A5.out).mono ?_); (case side1 => repeat (first | exact HR0.out | (with_reducible refine Kd.C_alloc ?_ _) | (with_reducible refine Kd.C_drewN ?_ _) | (with_reducible refine Kd.C_drew ?_))); (case side2 => exact HC0.out); rintro e w11 ⟨v122, rfl, ho0, hb⟩; refine ⟨_, rfl, ?_⟩; have n0_ := Aside0.mk (Kd.R_lower ho0 (below_size (by repeat (first | (with_reducible first | exact HB.out | apply below_alloc | apply pw_below_drewN | apply below_drew1) | exact HB.out)))); have n1_ := Aside0.mk (below_step (by repeat (first | (with_reducible first | exact HB.out | apply below_alloc | apply pw_below_drewN | apply below_drew1) | exact HB.out)) hb); clear HB; have HO123 := n0_; have HB := n1_; clear n0_ n1_; (try clear hb); (try clear hb2); (try clear hk); (try clear hi); (try clear ho0); obtain ⟨Ao12, co12, eo12⟩ := Kd.R_slice HO123.out; subst eo12))
    go_ret2
    exact ⟨_, by first | rfl | (simp [errW_none, errW_some] <;> rfl) | (simp [*, errW_none, errW_some] <;> rfl), by (with_reducible repeat (first | apply Kd.R_alloc | apply Kd.R_drewN | apply Kd.R_drew)); exact HO123.out, by repeat (first | (with_reducible first | exact HB.out | apply below_alloc | apply pw_below_drewN | apply below_drew1) | exact HB.out)⟩
  rw [if_pos c6] at H
  have c6b0 : decide (1024 < (t121.length : Int)) = true := decide_eq_true c6
  have c6b1 : decide (1024 < t121.length) = true := decide_eq_true (by omega)
  clear c6
  replace H := Option.bind_eq_some_iff.mp H
  obtain ⟨t124, A70, H⟩ := H
  replace H : (some (t124, 4)) = some (r1, r2) := H
  have A7 := Aside0.mk A70
  clear A70
  simp only [Option.some.injEq, Prod.mk.injEq] at H
  obtain ⟨rfl, rfl⟩ := H
  go_enter Try.func38, Try.ntmps38
  go_wp2_with (first | ((with_reducible refine gate_callee (f := 49) rfl ?_); refine goesL_ (some 15) rfl rfl Try.func49 (by kernel_rfl) rfl #[.slice A0 l0.length c0, .int .i64 a1, .int .i64 a2, .int .i64 a3] rfl (by (try simp only [List.map_toArray, List.map_cons, List.map_nil]); first | done | rfl) ?_; (with_reducible refine (step_plus.calls _ _ l0 a1 a2 a3 t121 _ ?side1 ?side2 A5.out).mono ?_); (case side1 => repeat (first | exact HR0.out | (with_reducible refine Kd.C_alloc ?_ _) | (with_reducible refine Kd.C_drewN ?_ _) | (with_reducible refine Kd.C_drew ?_))); (case side2 => exact HC0.out); rintro e w8 ⟨v122, rfl, ho0, hb⟩; refine ⟨_, rfl, ?_⟩; have n0_ := Aside0.mk (Kd.R_lower ho0 (below_size (by repeat (first | (with_reducible first | exact HB.out | apply below_alloc | apply pw_below_drewN | apply below_drew1) | exact HB.out)))); have n1_ := Aside0.mk (below_step (by repeat (first | (with_reducible first | exact HB.out | apply below_alloc | apply pw_below_drewN | apply below_drew1) | exact HB.out)) hb); clear HB; have HO123 := n0_; have HB := n1_; clear n0_ n1_; (try clear hb); (try clear hb2); (try clear hk); (try clear hi); (try clear ho0); obtain ⟨Ao9, co9, eo9⟩ := Kd.R_slice HO123.out; subst eo9) | ((with_reducible refine gate_callee (f := 36) rfl ?_); refine goesL_ (some 20) rfl rfl Try.func36 (by kernel_rfl) rfl #[.slice A0 l0.length c0] rfl (by (try simp only [List.map_toArray, List.map_cons, List.map_nil]); first | done | rfl) ?_; (with_reducible refine (api_Step_36.calls _ _ l0 t124 _ ?side1 ?side2 A7.out).mono ?_); (case side1 => repeat (first | exact (Kd.C_below HR0.out HB.out) | (with_reducible refine Kd.C_alloc ?_ _) | (with_reducible refine Kd.C_drewN ?_ _) | (with_reducible refine Kd.C_drew ?_))); (case side2 => exact HC0.out); rintro e w10 ⟨v125, rfl, ho0, hb⟩; refine ⟨_, rfl, ?_⟩; have n0_ := Aside0.mk (Kd.R_elder' (by (with_reducible repeat (first | apply Kd.R_alloc | apply Kd.R_drewN | apply Kd.R_drew)); exact HO123.out) (Kd.R_base ho0) hb); have n1_ := Aside0.mk (Kd.R_lower (Kd.R_new' ho0 (Kd.R_lt (by (with_reducible repeat (first | apply Kd.R_alloc | apply Kd.R_drewN | apply Kd.R_drew)); exact HO123.out))) (below_size (by repeat (first | (with_reducible first | exact HB.out | apply below_alloc | apply pw_below_drewN | apply below_drew1) | exact HB.out)))); have n2_ := Aside0.mk (below_step (by repeat (first | (with_reducible first | exact HB.out | apply below_alloc | apply pw_below_drewN | apply below_drew1) | exact HB.out)) hb); clear HO123; clear HB; have HO123 := n0_; have HO126 := n1_; have HB := n2_; clear n0_ n1_ n2_; (try clear hb); (try clear hb2); (try clear hk); (try clear hi); (try clear ho0)))
  go_ret2
  exact ⟨_, by first | rfl | (simp [errW_none, errW_some] <;> rfl) | (simp [*, errW_none, errW_some] <;> rfl), by (with_reducible repeat (first | apply Kd.R_alloc | apply Kd.R_drewN | apply Kd.R_drew)); exact Kd.R_mono HO126.out (fun _ hk => trivial), by repeat (first | (with_reducible first | exact HB.out | apply below_alloc | apply pw_below_drewN | apply below_drew1) | exact HB.out)⟩

end Go.Proofs.Ytpekjfmlpogfaaa.PAll
