/- The law ShareScales: for every input it returns true, and each argument reads behind the call as it read before. Conditions: none. -/
import Derived.Test.YtemlhkognjhgbaaRows
import Derived.Test.YtemlhkognjhgbaaHOpen
import Derived.Test.YtemlhkognjhgbaaPAllx21
import Derived.Test.YtemlhkognjhgbaaPureShareScales
import Derived.WalkKit
import Derived.ProofKit
import Derived.OpenShut
import Derived.ShutString
import Derived.ChangeOld
import Derived.Below
import Derived.SizedLaws
namespace Go.Proofs.Ytemlhkognjhgbaa.shareScales
open Go.ChangeShapes Go.WideShapes Go.ChangeAt Go.RowKit Go.Proofs.YtemlhkognjhgbaaH Go.Proofs.YtemlhkognjhgbaaW.PrintWords
open Go.ChangeMaps (open_string shut_string)
set_option linter.unusedVariables false
set_option linter.unusedSimpArgs false
theorem own : ownKnob Try.prog.godebug = none := by kernel_rfl
theorem laidOut : laidOutB Try.prog = true := by kernel_rfl
theorem opens33 {H : Type} {enc : TypeId × Value → H} {W : World} : Opens enc Try.prog W 0 (fun _ => true) true 33 PAll.k33 (fun x => (Lit.int .i64 x.f0).wf = true ∧ x.f1 < 2 ^ 64 ∧ x.f2 < 2 ^ 64) :=
  Opens.iso (fun (x : Int × Nat × Nat) => (⟨x.1, x.2.1, x.2.2⟩ : PAll.S33)) (fun _ => rfl) (Opens.triple (t := 33) Try.underlying33 (by kernel_rfl) rfl rfl rfl (by kernel_rfl) (by kernel_rfl) (by kernel_rfl) (Opens.int Try.underlying3) (Opens.float Try.underlying30) (Opens.float Try.underlying30))
set_option maxRecDepth 100000 in
set_option maxHeartbeats 1000000 in
theorem lifted (os : Os) (started : os.Started) (H : Type) (enc : TypeId × Value → H) :
    ReturnsInHanded {} Try.checked os 5 .any (Rows.shareScalesSpec.pre6 enc Try.prog Try.f5 Rows.shareScalesRow.domain false) (Rows.shareScalesSpec.post enc Try.prog Try.f5 false true false false) := by
  refine returnsInHanded_of_change_sized (C := Try.checked) own started (by kernel_rfl) Try.func5
    (ChangeSpec.witness6 (enc := enc) (C := Try.checked) false ⟨#[], #[.int .u32 0, .int .u32 0, .int .u32 0, .slice none 0 0, .int .i64 0], []⟩ 8 (by kernel_rfl) (by kernel_rfl) (by kernel_rfl) (by kernel_rfl)) ?_
  intro W base args ds gs before hval0 hW hcnd hsz0 _
  have hsz : (DataW.weightsEach Try.prog (Try.f5.params.toList ++ Rows.shareScalesSpec.plain.varTypes Try.prog) (ds ++ gs)).all (· ≤ reachBytes) = true := hsz0
  have hval : ∀ (j : Nat) t v, Try.f5.params[j]? = some t → args[j]? = some v → Value.okWide Try.prog W .any base t v := hval0
  have hW' := hW
  obtain ⟨p, q, hA0, hV, rfl, hfz, hnd⟩ := hW
  have hA : DataW.TrodAll enc Try.prog W 0 (fun _ => true) true Try.f5.params.toList args.toList ds p := hA0
  rw [Try.params5] at hA hval hsz
  obtain ⟨v0, vs0, d0, ds0, p0, q0, hargs, rfl, rfl, h0, r0⟩ := trodAll_cons hA
  obtain ⟨v1, vs1, d1, ds1, p1, q1, rfl, rfl, rfl, h1, r1⟩ := trodAll_cons r0
  obtain ⟨v2, vs2, d2, ds2, p2, q2, rfl, rfl, rfl, h2, r2⟩ := trodAll_cons r1
  obtain ⟨v3, vs3, d3, ds3, p3, q3, rfl, rfl, rfl, h3, r3⟩ := trodAll_cons r2
  obtain ⟨v4, vs4, d4, ds4, p4, q4, rfl, rfl, rfl, h4, r4⟩ := trodAll_cons r3
  obtain ⟨rfl, rfl, rfl⟩ := trodAll_nil r4
  obtain rfl : args = #[v0, v1, v2, v3, v4] := by cases args; simp_all
  obtain ⟨rfl, rfl⟩ := trodVars_none hV
  obtain ⟨a0, rfl, rfl, rfl, w0⟩ := open_int Try.underlying35 (hval 0 35 v0 rfl rfl) h0
  obtain ⟨a1, rfl, rfl, rfl, w1⟩ := open_int Try.underlying35 (hval 1 35 v1 rfl rfl) h1
  obtain ⟨a2, rfl, rfl, rfl, w2⟩ := open_int Try.underlying35 (hval 2 35 v2 rfl rfl) h2
  have k3 := h3
  have lt3 : ∀ x ∈ p3, x.block < W.heap.size := by obtain ⟨m, hm⟩ := k3; exact DataW.trod_lt m _ _ _ hm
  obtain ⟨b3, len3, cap3, rfl⟩ := okWide_slice Try.underlying22 (hval 3 22 v3 rfl rfl)
  obtain ⟨l3, A3, c3, e3, hc3, hr3, hp3⟩ : ∃ (l : List PAll.S33) (A : Option Addr) (c : Nat), Value.slice b3 len3 cap3 = .slice A l.length c ∧ l.length ≤ c ∧ Kd.C PAll.k33 W A l.length l ∧ (fun l => l.length ≤ maxLen ∧ ∀ x ∈ l, (Lit.int .i64 x.f0).wf = true ∧ x.f1 < 2 ^ 64 ∧ x.f2 < 2 ^ 64) l := by
    obtain ⟨fuel, hf⟩ := h3
    obtain ⟨l, ⟨A, c, e, hc, hr⟩, hp⟩ := (Opens.slice Try.underlying22 (by kernel_rfl) opens33) _ _ _ hf
    refine ⟨l, A, c, ?_, hc, hr, hp⟩
    simpa [Value.cells] using e
  cases e3
  obtain ⟨a4, rfl, rfl, rfl, w4⟩ := open_int Try.underlying3 (hval 4 3 v4 rfl rfl) h4
  clear hA0 hval0 hsz0 hsz
  have b0 : 0 ≤ a0 ∧ a0 < 2 ^ 32 := by
    have z : 0 ≤ a0 ∧ a0 ≤ 4294967295 := by simpa [Lit.wf, IntKind.min, IntKind.max, IntKind.signed, IntKind.bits] using w0
    omega
  have b1 : 0 ≤ a1 ∧ a1 < 2 ^ 32 := by
    have z : 0 ≤ a1 ∧ a1 ≤ 4294967295 := by simpa [Lit.wf, IntKind.min, IntKind.max, IntKind.signed, IntKind.bits] using w1
    omega
  have b2 : 0 ≤ a2 ∧ a2 < 2 ^ 32 := by
    have z : 0 ≤ a2 ∧ a2 ≤ 4294967295 := by simpa [Lit.wf, IntKind.min, IntKind.max, IntKind.signed, IntKind.bits] using w2
    omega
  obtain ⟨k, h⟩ := Pure.ShareScales a0 a1 a2 l3 a4 b0 b1 b2 (fun u hu => (hp3.2 u hu).2)
  refine (PAll.bailiwicklaw15_ShareScales.calls k a0 a1 a2 _ _ l3 a4 true W hr3 hc3 h).mono fun e W' ⟨he, bel⟩ => ?_
  subst he
  exact ⟨_, rfl, _, _, _, [], _, [], hW', trodAll_mk1 (shut_bool Try.underlying4 _), (trodAll_cons_mk (shut_int Try.underlying35 w0) (trodAll_cons_mk (shut_int Try.underlying35 w1) (trodAll_cons_mk (shut_int Try.underlying35 w2) (trodAll_cons_mk (Below.trod laidOut (by kernel_rfl) (of_decide_eq_true (by kernel_rfl)) k3 bel lt3) (trodAll_cons_mk (shut_int Try.underlying3 w4) trodAll_mk0))))), rfl, bel.frame _, fun h => by cases h⟩
theorem over : Rows.shareScalesRow.holds Try.pinned (OpenSpec.ofChange Rows.shareScalesSpec) :=
  OpenClaim.holds_of_wide 5 Try.f5 rfl rfl rfl rfl rfl rfl rfl ⟨rfl, rfl, rfl, rfl, rfl⟩ rfl rfl rfl rfl rfl (by kernel_rfl) Try.func5 (by kernel_rfl)
    (of_decide_eq_true (by kernel_rfl)) (by unfold Func.isWrapper; first | (rw [if_pos (by decide +kernel)]; kernel_rfl) | (rw [if_neg (by decide +kernel)]; exact ⟨rfl, rfl⟩))
    (fun os started H enc _ => lifted os started H enc)
theorem proved : Rows.ShareScalesSaid := over
#print axioms proved
end Go.Proofs.Ytemlhkognjhgbaa.shareScales
namespace Go.Proofs.Ytemlhkognjhgbaa
/-- The row, under a short name, for the claim. -/
theorem shareScales_holds : Rows.ShareScalesSaid := shareScales.proved
end Go.Proofs.Ytemlhkognjhgbaa

