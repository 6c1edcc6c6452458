/- The law ShareFades: for every input it returns true, and each argument reads behind the call as it read before. Conditions: none. -/
import Derived.Test.YtemlhkognjhgbaaRows
import Derived.Test.YtemlhkognjhgbaaHOpen
import Derived.Test.YtemlhkognjhgbaaPAllx26
import Derived.Test.YtemlhkognjhgbaaPureShareFades
import Derived.WalkKit
import Derived.ProofKit
import Derived.OpenShut
import Derived.ShutString
import Derived.ChangeOld
import Derived.Below
import Derived.SizedLaws
namespace Go.Proofs.Ytemlhkognjhgbaa.shareFades
open Go.ChangeShapes Go.WideShapes Go.ChangeAt Go.RowKit Go.Proofs.YtemlhkognjhgbaaH Go.Proofs.YtemlhkognjhgbaaW.PrintWords
open Go.ChangeMaps (open_string shut_string)
set_option linter.unusedVariables false
set_option linter.unusedSimpArgs false
theorem own : ownKnob Try.prog.godebug = none := by kernel_rfl
theorem laidOut : laidOutB Try.prog = true := by kernel_rfl
set_option maxRecDepth 100000 in
set_option maxHeartbeats 1000000 in
theorem lifted (os : Os) (started : os.Started) (H : Type) (enc : TypeId × Value → H) :
    ReturnsInHanded {} Try.checked os 7 .any (Rows.shareFadesSpec.pre6 enc Try.prog Try.f7 Rows.shareFadesRow.domain false) (Rows.shareFadesSpec.post enc Try.prog Try.f7 false true false false) := by
  refine returnsInHanded_of_change_sized (C := Try.checked) own started (by kernel_rfl) Try.func7
    (ChangeSpec.witness6 (enc := enc) (C := Try.checked) false ⟨#[], #[.float .f64 0, .int .u8 0, .int .u8 0, .slice none 0 0], []⟩ 8 (by kernel_rfl) (by kernel_rfl) (by kernel_rfl) (by kernel_rfl)) ?_
  intro W base args ds gs before hval0 hW hcnd hsz0 _
  have hsz : (DataW.weightsEach Try.prog (Try.f7.params.toList ++ Rows.shareFadesSpec.plain.varTypes Try.prog) (ds ++ gs)).all (· ≤ reachBytes) = true := hsz0
  have hval : ∀ (j : Nat) t v, Try.f7.params[j]? = some t → args[j]? = some v → Value.okWide Try.prog W .any base t v := hval0
  have hW' := hW
  obtain ⟨p, q, hA0, hV, rfl, hfz, hnd⟩ := hW
  have hA : DataW.TrodAll enc Try.prog W 0 (fun _ => true) true Try.f7.params.toList args.toList ds p := hA0
  rw [Try.params7] at hA hval hsz
  obtain ⟨v0, vs0, d0, ds0, p0, q0, hargs, rfl, rfl, h0, r0⟩ := trodAll_cons hA
  obtain ⟨v1, vs1, d1, ds1, p1, q1, rfl, rfl, rfl, h1, r1⟩ := trodAll_cons r0
  obtain ⟨v2, vs2, d2, ds2, p2, q2, rfl, rfl, rfl, h2, r2⟩ := trodAll_cons r1
  obtain ⟨v3, vs3, d3, ds3, p3, q3, rfl, rfl, rfl, h3, r3⟩ := trodAll_cons r2
  obtain ⟨rfl, rfl, rfl⟩ := trodAll_nil r3
  obtain rfl : args = #[v0, v1, v2, v3] := by cases args; simp_all
  obtain ⟨rfl, rfl⟩ := trodVars_none hV
  obtain ⟨a0, rfl, rfl, rfl, w0⟩ := open_float Try.underlying30 (hval 0 30 v0 rfl rfl) h0
  obtain ⟨a1, rfl, rfl, rfl, w1⟩ := open_int Try.underlying5 (hval 1 5 v1 rfl rfl) h1
  obtain ⟨a2, rfl, rfl, rfl, w2⟩ := open_int Try.underlying5 (hval 2 5 v2 rfl rfl) h2
  have k3 := h3
  have lt3 : ∀ x ∈ p3, x.block < W.heap.size := by obtain ⟨m, hm⟩ := k3; exact DataW.trod_lt m _ _ _ hm
  obtain ⟨b3, len3, cap3, rfl⟩ := okWide_slice Try.underlying38 (hval 3 38 v3 rfl rfl)
  obtain ⟨l3, A3, c3, e3, hc3, hr3, hp3⟩ : ∃ (l : List Nat) (A : Option Addr) (c : Nat), Value.slice b3 len3 cap3 = .slice A l.length c ∧ l.length ≤ c ∧ Kd.C Kd.float W A l.length l ∧ (fun l => l.length ≤ maxLen ∧ ∀ x ∈ l, x < 2 ^ 64) l := by
    obtain ⟨fuel, hf⟩ := h3
    obtain ⟨l, ⟨A, c, e, hc, hr⟩, hp⟩ := (Opens.slice Try.underlying38 (by kernel_rfl) (Opens.float Try.underlying30)) _ _ _ hf
    refine ⟨l, A, c, ?_, hc, hr, hp⟩
    simpa [Value.cells] using e
  cases e3
  clear hA0 hval0 hsz0 hsz
  have b0 : a0 < 2 ^ 64 := by simpa [Lit.wf] using w0
  have b1 : 0 ≤ a1 ∧ a1 < 256 := by
    have z : 0 ≤ a1 ∧ a1 ≤ 255 := by simpa [Lit.wf, IntKind.min, IntKind.max, IntKind.signed, IntKind.bits] using w1
    omega
  have b2 : 0 ≤ a2 ∧ a2 < 256 := by
    have z : 0 ≤ a2 ∧ a2 ≤ 255 := by simpa [Lit.wf, IntKind.min, IntKind.max, IntKind.signed, IntKind.bits] using w2
    omega
  obtain ⟨k, h⟩ := Pure.ShareFades a0 a1 a2 l3 b0 b1 b2 hp3.2
  refine (PAll.bailiwicklaw15_ShareFades.calls k a0 a1 a2 _ _ l3 true W hr3 hc3 h).mono fun e W' ⟨he, bel⟩ => ?_
  subst he
  exact ⟨_, rfl, _, _, _, [], _, [], hW', trodAll_mk1 (shut_bool Try.underlying4 _), (trodAll_cons_mk (shut_float Try.underlying30 w0) (trodAll_cons_mk (shut_int Try.underlying5 w1) (trodAll_cons_mk (shut_int Try.underlying5 w2) (trodAll_cons_mk (Below.trod laidOut (by kernel_rfl) (of_decide_eq_true (by kernel_rfl)) k3 bel lt3) trodAll_mk0)))), rfl, bel.frame _, fun h => by cases h⟩
theorem over : Rows.shareFadesRow.holds Try.pinned (OpenSpec.ofChange Rows.shareFadesSpec) :=
  OpenClaim.holds_of_wide 7 Try.f7 rfl rfl rfl rfl rfl rfl rfl ⟨rfl, rfl, rfl, rfl, rfl⟩ rfl rfl rfl rfl rfl (by kernel_rfl) Try.func7 (by kernel_rfl)
    (of_decide_eq_true (by kernel_rfl)) (by unfold Func.isWrapper; first | (rw [if_pos (by decide +kernel)]; kernel_rfl) | (rw [if_neg (by decide +kernel)]; exact ⟨rfl, rfl⟩))
    (fun os started H enc _ => lifted os started H enc)
theorem proved : Rows.ShareFadesSaid := over
#print axioms proved
end Go.Proofs.Ytemlhkognjhgbaa.shareFades
namespace Go.Proofs.Ytemlhkognjhgbaa
/-- The row, under a short name, for the claim. -/
theorem shareFades_holds : Rows.ShareFadesSaid := shareFades.proved
end Go.Proofs.Ytemlhkognjhgbaa

