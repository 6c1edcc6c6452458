/- The law ShareRight: for every input it returns true, and each argument reads behind the call as it read before. Conditions: none. -/
import Derived.Test.YtemlhkognjhgbaaRows
import Derived.Test.YtemlhkognjhgbaaHOpen
import Derived.Test.YtemlhkognjhgbaaPAllx24
import Derived.Test.YtemlhkognjhgbaaPureShareRight
import Derived.WalkKit
import Derived.ProofKit
import Derived.OpenShut
import Derived.ShutString
import Derived.ChangeOld
import Derived.Below
import Derived.SizedLaws
namespace Go.Proofs.Ytemlhkognjhgbaa.shareRight
open Go.ChangeShapes Go.WideShapes Go.ChangeAt Go.RowKit Go.Proofs.YtemlhkognjhgbaaH Go.Proofs.YtemlhkognjhgbaaW.PrintWords
open Go.ChangeMaps (open_string shut_string)
set_option linter.unusedVariables false
set_option linter.unusedSimpArgs false
theorem own : ownKnob Try.prog.godebug = none := by kernel_rfl
theorem laidOut : laidOutB Try.prog = true := by kernel_rfl
theorem opens33 {H : Type} {enc : TypeId × Value → H} {W : World} : Opens enc Try.prog W 0 (fun _ => true) true 33 PAll.k33 (fun x => (Lit.int .i64 x.f0).wf = true ∧ x.f1 < 2 ^ 64 ∧ x.f2 < 2 ^ 64) :=
  Opens.iso (fun (x : Int × Nat × Nat) => (⟨x.1, x.2.1, x.2.2⟩ : PAll.S33)) (fun _ => rfl) (Opens.triple (t := 33) Try.underlying33 (by kernel_rfl) rfl rfl rfl (by kernel_rfl) (by kernel_rfl) (by kernel_rfl) (Opens.int Try.underlying3) (Opens.float Try.underlying30) (Opens.float Try.underlying30))
set_option maxRecDepth 100000 in
set_option maxHeartbeats 1000000 in
theorem lifted (os : Os) (started : os.Started) (H : Type) (enc : TypeId × Value → H) :
    ReturnsInHanded {} Try.checked os 6 .any (Rows.shareRightSpec.pre6 enc Try.prog Try.f6 Rows.shareRightRow.domain false) (Rows.shareRightSpec.post enc Try.prog Try.f6 false true false false) := by
  refine returnsInHanded_of_change_sized (C := Try.checked) own started (by kernel_rfl) Try.func6
    (ChangeSpec.witness6 (enc := enc) (C := Try.checked) false ⟨#[], #[.float .f64 0, .int .i64 0, .slice none 0 0, .agg #[.int .i64 0, .float .f64 0, .float .f64 0]], []⟩ 8 (by kernel_rfl) (by kernel_rfl) (by kernel_rfl) (by kernel_rfl)) ?_
  intro W base args ds gs before hval0 hW hcnd hsz0 _
  have hsz : (DataW.weightsEach Try.prog (Try.f6.params.toList ++ Rows.shareRightSpec.plain.varTypes Try.prog) (ds ++ gs)).all (· ≤ reachBytes) = true := hsz0
  have hval : ∀ (j : Nat) t v, Try.f6.params[j]? = some t → args[j]? = some v → Value.okWide Try.prog W .any base t v := hval0
  have hW' := hW
  obtain ⟨p, q, hA0, hV, rfl, hfz, hnd⟩ := hW
  have hA : DataW.TrodAll enc Try.prog W 0 (fun _ => true) true Try.f6.params.toList args.toList ds p := hA0
  rw [Try.params6] at hA hval hsz
  obtain ⟨v0, vs0, d0, ds0, p0, q0, hargs, rfl, rfl, h0, r0⟩ := trodAll_cons hA
  obtain ⟨v1, vs1, d1, ds1, p1, q1, rfl, rfl, rfl, h1, r1⟩ := trodAll_cons r0
  obtain ⟨v2, vs2, d2, ds2, p2, q2, rfl, rfl, rfl, h2, r2⟩ := trodAll_cons r1
  obtain ⟨v3, vs3, d3, ds3, p3, q3, rfl, rfl, rfl, h3, r3⟩ := trodAll_cons r2
  obtain ⟨rfl, rfl, rfl⟩ := trodAll_nil r3
  obtain rfl : args = #[v0, v1, v2, v3] := by cases args; simp_all
  obtain ⟨rfl, rfl⟩ := trodVars_none hV
  obtain ⟨a0, rfl, rfl, rfl, w0⟩ := open_float Try.underlying30 (hval 0 30 v0 rfl rfl) h0
  obtain ⟨a1, rfl, rfl, rfl, w1⟩ := open_int Try.underlying3 (hval 1 3 v1 rfl rfl) h1
  have k2 := h2
  have lt2 : ∀ x ∈ p2, x.block < W.heap.size := by obtain ⟨m, hm⟩ := k2; exact DataW.trod_lt m _ _ _ hm
  obtain ⟨b2, len2, cap2, rfl⟩ := okWide_slice Try.underlying38 (hval 2 38 v2 rfl rfl)
  obtain ⟨l2, A2, c2, e2, hc2, hr2, hp2⟩ : ∃ (l : List Nat) (A : Option Addr) (c : Nat), Value.slice b2 len2 cap2 = .slice A l.length c ∧ l.length ≤ c ∧ Kd.C Kd.float W A l.length l ∧ (fun l => l.length ≤ maxLen ∧ ∀ x ∈ l, x < 2 ^ 64) l := by
    obtain ⟨fuel, hf⟩ := h2
    obtain ⟨l, ⟨A, c, e, hc, hr⟩, hp⟩ := (Opens.slice Try.underlying38 (by kernel_rfl) (Opens.float Try.underlying30)) _ _ _ hf
    refine ⟨l, A, c, ?_, hc, hr, hp⟩
    simpa [Value.cells] using e
  cases e2
  have k3 := h3
  have lt3 : ∀ x ∈ p3, x.block < W.heap.size := by obtain ⟨m, hm⟩ := k3; exact DataW.trod_lt m _ _ _ hm
  obtain ⟨cs3, e3⟩ : ∃ cs, v3 = .agg cs := by
    have hv := hval 3 33 v3 rfl rfl
    simp only [Value.okWide, Try.underlying33] at hv
    obtain ⟨cs, h, _⟩ := hv
    exact ⟨cs, h⟩
  subst e3
  obtain ⟨u3, hK3, hp3⟩ : ∃ u : PAll.S33, PAll.k33.K W u cs3.toList ∧ ((Lit.int .i64 u.f0).wf = true ∧ u.f1 < 2 ^ 64 ∧ u.f2 < 2 ^ 64) := by
    obtain ⟨fuel, hf⟩ := h3
    obtain ⟨u, g1, g2⟩ := opens33 _ _ _ hf
    exact ⟨u, by simpa [Value.cells] using g1, g2⟩
  obtain rfl : cs3 = #[.int .i64 u3.f0, .float .f64 u3.f1, .float .f64 u3.f2] := by
    have ec := PAll.k33_open hK3
    cases cs3
    simp_all
  clear hA0 hval0 hsz0 hsz
  have b0 : a0 < 2 ^ 64 := by simpa [Lit.wf] using w0
  obtain ⟨k, h⟩ := Pure.ShareRight a0 a1 l2 u3.f0 u3.f1 u3.f2 b0 hp2.2 hp3.2.1 hp3.2.2
  refine (PAll.bailiwicklaw15_ShareRight.calls k a0 a1 _ _ l2 u3.f0 u3.f1 u3.f2 true W hr2 hc2 h).mono fun e W' ⟨he, bel⟩ => ?_
  subst he
  exact ⟨_, rfl, _, _, _, [], _, [], hW', trodAll_mk1 (shut_bool Try.underlying4 _), (trodAll_cons_mk (shut_float Try.underlying30 w0) (trodAll_cons_mk (shut_int Try.underlying3 w1) (trodAll_cons_mk (Below.trod laidOut (by kernel_rfl) (of_decide_eq_true (by kernel_rfl)) k2 bel lt2) (trodAll_cons_mk (Below.trod laidOut (by kernel_rfl) (of_decide_eq_true (by kernel_rfl)) k3 bel lt3) trodAll_mk0)))), rfl, bel.frame _, fun h => by cases h⟩
theorem over : Rows.shareRightRow.holds Try.pinned (OpenSpec.ofChange Rows.shareRightSpec) :=
  OpenClaim.holds_of_wide 6 Try.f6 rfl rfl rfl rfl rfl rfl rfl ⟨rfl, rfl, rfl, rfl, rfl⟩ rfl rfl rfl rfl rfl (by kernel_rfl) Try.func6 (by kernel_rfl)
    (of_decide_eq_true (by kernel_rfl)) (by unfold Func.isWrapper; first | (rw [if_pos (by decide +kernel)]; kernel_rfl) | (rw [if_neg (by decide +kernel)]; exact ⟨rfl, rfl⟩))
    (fun os started H enc _ => lifted os started H enc)
theorem proved : Rows.ShareRightSaid := over
#print axioms proved
end Go.Proofs.Ytemlhkognjhgbaa.shareRight
namespace Go.Proofs.Ytemlhkognjhgbaa
/-- The row, under a short name, for the claim. -/
theorem shareRight_holds : Rows.ShareRightSaid := shareRight.proved
end Go.Proofs.Ytemlhkognjhgbaa

