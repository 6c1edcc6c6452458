/- The law ShareRanks: for every input it returns true, and each argument reads behind the call as it read before. Conditions: none. -/
import Derived.Test.YtemlhkognjhgbaaRows
import Derived.Test.YtemlhkognjhgbaaHOpen
import Derived.Test.YtemlhkognjhgbaaPAllx18
import Derived.Test.YtemlhkognjhgbaaPureShareRanks
import Derived.WalkKit
import Derived.ProofKit
import Derived.OpenShut
import Derived.ShutString
import Derived.ChangeOld
import Derived.Below
import Derived.SizedLaws
namespace Go.Proofs.Ytemlhkognjhgbaa.shareRanks
open Go.ChangeShapes Go.WideShapes Go.ChangeAt Go.RowKit Go.Proofs.YtemlhkognjhgbaaH Go.Proofs.YtemlhkognjhgbaaW.PrintWords
open Go.ChangeMaps (open_string shut_string)
set_option linter.unusedVariables false
set_option linter.unusedSimpArgs false
theorem own : ownKnob Try.prog.godebug = none := by kernel_rfl
theorem laidOut : laidOutB Try.prog = true := by kernel_rfl
theorem opens33 {H : Type} {enc : TypeId × Value → H} {W : World} : Opens enc Try.prog W 0 (fun _ => true) true 33 PAll.k33 (fun x => (Lit.int .i64 x.f0).wf = true ∧ x.f1 < 2 ^ 64 ∧ x.f2 < 2 ^ 64) :=
  Opens.iso (fun (x : Int × Nat × Nat) => (⟨x.1, x.2.1, x.2.2⟩ : PAll.S33)) (fun _ => rfl) (Opens.triple (t := 33) Try.underlying33 (by kernel_rfl) rfl rfl rfl (by kernel_rfl) (by kernel_rfl) (by kernel_rfl) (Opens.int Try.underlying3) (Opens.float Try.underlying30) (Opens.float Try.underlying30))
set_option maxRecDepth 100000 in
set_option maxHeartbeats 1000000 in
theorem lifted (os : Os) (started : os.Started) (H : Type) (enc : TypeId × Value → H) :
    ReturnsInHanded {} Try.checked os 3 .any (Rows.shareRanksSpec.pre6 enc Try.prog Try.f3 Rows.shareRanksRow.domain false) (Rows.shareRanksSpec.post enc Try.prog Try.f3 false true false false) := by
  refine returnsInHanded_of_change_sized (C := Try.checked) own started (by kernel_rfl) Try.func3
    (ChangeSpec.witness6 (enc := enc) (C := Try.checked) false ⟨#[], #[.slice none 0 0, .int .i64 0], []⟩ 8 (by kernel_rfl) (by kernel_rfl) (by kernel_rfl) (by kernel_rfl)) ?_
  intro W base args ds gs before hval0 hW hcnd hsz0 _
  have hsz : (DataW.weightsEach Try.prog (Try.f3.params.toList ++ Rows.shareRanksSpec.plain.varTypes Try.prog) (ds ++ gs)).all (· ≤ reachBytes) = true := hsz0
  have hval : ∀ (j : Nat) t v, Try.f3.params[j]? = some t → args[j]? = some v → Value.okWide Try.prog W .any base t v := hval0
  have hW' := hW
  obtain ⟨p, q, hA0, hV, rfl, hfz, hnd⟩ := hW
  have hA : DataW.TrodAll enc Try.prog W 0 (fun _ => true) true Try.f3.params.toList args.toList ds p := hA0
  rw [Try.params3] at hA hval hsz
  obtain ⟨v0, vs0, d0, ds0, p0, q0, hargs, rfl, rfl, h0, r0⟩ := trodAll_cons hA
  obtain ⟨v1, vs1, d1, ds1, p1, q1, rfl, rfl, rfl, h1, r1⟩ := trodAll_cons r0
  obtain ⟨rfl, rfl, rfl⟩ := trodAll_nil r1
  obtain rfl : args = #[v0, v1] := by cases args; simp_all
  obtain ⟨rfl, rfl⟩ := trodVars_none hV
  have k0 := h0
  have lt0 : ∀ x ∈ p0, x.block < W.heap.size := by obtain ⟨m, hm⟩ := k0; exact DataW.trod_lt m _ _ _ hm
  obtain ⟨b0, len0, cap0, rfl⟩ := okWide_slice Try.underlying22 (hval 0 22 v0 rfl rfl)
  obtain ⟨l0, A0, c0, e0, hc0, hr0, hp0⟩ : ∃ (l : List PAll.S33) (A : Option Addr) (c : Nat), Value.slice b0 len0 cap0 = .slice A l.length c ∧ l.length ≤ c ∧ Kd.C PAll.k33 W A l.length l ∧ (fun l => l.length ≤ maxLen ∧ ∀ x ∈ l, (Lit.int .i64 x.f0).wf = true ∧ x.f1 < 2 ^ 64 ∧ x.f2 < 2 ^ 64) l := by
    obtain ⟨fuel, hf⟩ := h0
    obtain ⟨l, ⟨A, c, e, hc, hr⟩, hp⟩ := (Opens.slice Try.underlying22 (by kernel_rfl) opens33) _ _ _ hf
    refine ⟨l, A, c, ?_, hc, hr, hp⟩
    simpa [Value.cells] using e
  cases e0
  obtain ⟨a1, rfl, rfl, rfl, w1⟩ := open_int Try.underlying3 (hval 1 3 v1 rfl rfl) h1
  clear hA0 hval0 hsz0 hsz
  obtain ⟨k, h⟩ := Pure.ShareRanks l0 a1 (fun u hu => (hp0.2 u hu).2)
  refine (PAll.bailiwicklaw15_ShareRanks.calls k _ _ l0 a1 true W hr0 hc0 h).mono fun e W' ⟨he, bel⟩ => ?_
  subst he
  exact ⟨_, rfl, _, _, _, [], _, [], hW', trodAll_mk1 (shut_bool Try.underlying4 _), (trodAll_cons_mk (Below.trod laidOut (by kernel_rfl) (of_decide_eq_true (by kernel_rfl)) k0 bel lt0) (trodAll_cons_mk (shut_int Try.underlying3 w1) trodAll_mk0)), rfl, bel.frame _, fun h => by cases h⟩
theorem over : Rows.shareRanksRow.holds Try.pinned (OpenSpec.ofChange Rows.shareRanksSpec) :=
  OpenClaim.holds_of_wide 3 Try.f3 rfl rfl rfl rfl rfl rfl rfl ⟨rfl, rfl, rfl, rfl, rfl⟩ rfl rfl rfl rfl rfl (by kernel_rfl) Try.func3 (by kernel_rfl)
    (of_decide_eq_true (by kernel_rfl)) (by unfold Func.isWrapper; first | (rw [if_pos (by decide +kernel)]; kernel_rfl) | (rw [if_neg (by decide +kernel)]; exact ⟨rfl, rfl⟩))
    (fun os started H enc _ => lifted os started H enc)
theorem proved : Rows.ShareRanksSaid := over
#print axioms proved
end Go.Proofs.Ytemlhkognjhgbaa.shareRanks
namespace Go.Proofs.Ytemlhkognjhgbaa
/-- The row, under a short name, for the claim. -/
theorem shareRanks_holds : Rows.ShareRanksSaid := shareRanks.proved
end Go.Proofs.Ytemlhkognjhgbaa

