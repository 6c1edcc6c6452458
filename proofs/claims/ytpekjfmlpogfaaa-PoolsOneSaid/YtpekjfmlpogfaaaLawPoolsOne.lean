/- The law PoolsOne: for every input it returns true, and each argument reads behind the call as it read before. Conditions: none. -/
import Derived.Test.YtpekjfmlpogfaaaRows
import Derived.Test.YtpekjfmlpogfaaaHOpen
import Derived.Test.YtpekjfmlpogfaaaPAllx33
import Derived.Test.YtpekjfmlpogfaaaPurePoolsOne
import Derived.WalkKit
import Derived.ProofKit
import Derived.OpenShut
import Derived.ShutString
import Derived.ChangeOld
import Derived.Below
import Derived.SizedLaws
namespace Go.Proofs.Ytpekjfmlpogfaaa.poolsOne
open Go.ChangeShapes Go.WideShapes Go.ChangeAt Go.RowKit Go.Proofs.YtpekjfmlpogfaaaH Go.Proofs.YtpekjfmlpogfaaaW.PrintWords
open Go.ChangeMaps (open_string shut_string)
set_option linter.unusedVariables false
set_option linter.unusedSimpArgs false
theorem own : ownKnob Try.prog.godebug = none := by kernel_rfl
theorem laidOut : laidOutB Try.prog = true := by kernel_rfl
theorem opens38 {H : Type} {enc : TypeId × Value → H} {W : World} : Opens enc Try.prog W 0 (fun _ => true) true 38 PAll.k38 (fun x => (Lit.int .i64 x.f0).wf = true ∧ (Lit.int .i64 x.f1).wf = true) :=
  Opens.iso (fun (x : Int × Int) => (⟨x.1, x.2⟩ : PAll.S38)) (fun _ => rfl) (Opens.pair (t := 38) Try.underlying38 (by kernel_rfl) rfl rfl (by kernel_rfl) (by kernel_rfl) (Opens.int Try.underlying2) (Opens.int Try.underlying3))
set_option maxRecDepth 100000 in
set_option maxHeartbeats 1000000 in
theorem lifted (os : Os) (started : os.Started) (H : Type) (enc : TypeId × Value → H) :
    ReturnsInHanded {} Try.checked os 5 .any (Rows.poolsOneSpec.pre6 enc Try.prog Try.f5 Rows.poolsOneRow.domain false) (Rows.poolsOneSpec.post enc Try.prog Try.f5 false true false false) := by
  refine returnsInHanded_of_change_sized (C := Try.checked) own started (by kernel_rfl) Try.func5
    (ChangeSpec.witness6 (enc := enc) (C := Try.checked) false ⟨#[], #[.slice none 0 0, .int .i64 0, .int .i64 0, .int .i64 0], []⟩ 8 (by kernel_rfl) (by kernel_rfl) (by kernel_rfl) (by kernel_rfl)) ?_
  intro W base args ds gs before hval0 hW hcnd hsz0 _
  have hsz : (DataW.weightsEach Try.prog (Try.f5.params.toList ++ Rows.poolsOneSpec.plain.varTypes Try.prog) (ds ++ gs)).all (· ≤ reachBytes) = true := hsz0
  have hval : ∀ (j : Nat) t v, Try.f5.params[j]? = some t → args[j]? = some v → Value.okWide Try.prog W .any base t v := hval0
  have hW' := hW
  obtain ⟨p, q, hA0, hV, rfl, hfz, hnd⟩ := hW
  have hA : DataW.TrodAll enc Try.prog W 0 (fun _ => true) true Try.f5.params.toList args.toList ds p := hA0
  rw [Try.params5] at hA hval hsz
  obtain ⟨v0, vs0, d0, ds0, p0, q0, hargs, rfl, rfl, h0, r0⟩ := trodAll_cons hA
  obtain ⟨v1, vs1, d1, ds1, p1, q1, rfl, rfl, rfl, h1, r1⟩ := trodAll_cons r0
  obtain ⟨v2, vs2, d2, ds2, p2, q2, rfl, rfl, rfl, h2, r2⟩ := trodAll_cons r1
  obtain ⟨v3, vs3, d3, ds3, p3, q3, rfl, rfl, rfl, h3, r3⟩ := trodAll_cons r2
  obtain ⟨rfl, rfl, rfl⟩ := trodAll_nil r3
  obtain rfl : args = #[v0, v1, v2, v3] := by cases args; simp_all
  obtain ⟨rfl, rfl⟩ := trodVars_none hV
  have k0 := h0
  have lt0 : ∀ x ∈ p0, x.block < W.heap.size := by obtain ⟨m, hm⟩ := k0; exact DataW.trod_lt m _ _ _ hm
  obtain ⟨b0, len0, cap0, rfl⟩ := okWide_slice Try.underlying22 (hval 0 22 v0 rfl rfl)
  obtain ⟨l0, A0, c0, e0, hc0, hr0, hp0⟩ : ∃ (l : List PAll.S38) (A : Option Addr) (c : Nat), Value.slice b0 len0 cap0 = .slice A l.length c ∧ l.length ≤ c ∧ Kd.C PAll.k38 W A l.length l ∧ (fun l => l.length ≤ maxLen ∧ ∀ x ∈ l, (Lit.int .i64 x.f0).wf = true ∧ (Lit.int .i64 x.f1).wf = true) l := by
    obtain ⟨fuel, hf⟩ := h0
    obtain ⟨l, ⟨A, c, e, hc, hr⟩, hp⟩ := (Opens.slice Try.underlying22 (by kernel_rfl) opens38) _ _ _ hf
    refine ⟨l, A, c, ?_, hc, hr, hp⟩
    simpa [Value.cells] using e
  cases e0
  obtain ⟨a1, rfl, rfl, rfl, w1⟩ := open_int Try.underlying2 (hval 1 2 v1 rfl rfl) h1
  obtain ⟨a2, rfl, rfl, rfl, w2⟩ := open_int Try.underlying2 (hval 2 2 v2 rfl rfl) h2
  obtain ⟨a3, rfl, rfl, rfl, w3⟩ := open_int Try.underlying3 (hval 3 3 v3 rfl rfl) h3
  clear hA0 hval0 hsz0 hsz
  obtain ⟨k, h⟩ := Pure.PoolsOne l0 a1 a2 a3
  refine (PAll.bailiwicklaw04_PoolsOne.calls k (fun k_ => k_ < W.heap.size) _ _ l0 a1 a2 a3 true W (Kd.V_mk hc0 (Kd.C_F PAll.k38_heap hr0)) h).mono fun e W' ⟨he, bel⟩ => ?_
  subst he
  exact ⟨_, rfl, _, _, _, [], _, [], hW', trodAll_mk1 (shut_bool Try.underlying4 _), (trodAll_cons_mk (Below.trod laidOut (by kernel_rfl) (of_decide_eq_true (by kernel_rfl)) k0 bel lt0) (trodAll_cons_mk (shut_int Try.underlying2 w1) (trodAll_cons_mk (shut_int Try.underlying2 w2) (trodAll_cons_mk (shut_int Try.underlying3 w3) trodAll_mk0)))), rfl, bel.frame _, fun h => by cases h⟩
theorem over : Rows.poolsOneRow.holds Try.pinned (OpenSpec.ofChange Rows.poolsOneSpec) :=
  OpenClaim.holds_of_wide 5 Try.f5 rfl rfl rfl rfl rfl rfl rfl ⟨rfl, rfl, rfl, rfl, rfl⟩ rfl rfl rfl rfl rfl (by kernel_rfl) Try.func5 (by kernel_rfl)
    (of_decide_eq_true (by kernel_rfl)) (by unfold Func.isWrapper; first | (rw [if_pos (by decide +kernel)]; kernel_rfl) | (rw [if_neg (by decide +kernel)]; exact ⟨rfl, rfl⟩))
    (fun os started H enc _ => lifted os started H enc)
theorem proved : Rows.PoolsOneSaid := over
#print axioms proved
end Go.Proofs.Ytpekjfmlpogfaaa.poolsOne
namespace Go.Proofs.Ytpekjfmlpogfaaa
/-- The row, under a short name, for the claim. -/
theorem poolsOne_holds : Rows.PoolsOneSaid := poolsOne.proved
end Go.Proofs.Ytpekjfmlpogfaaa

