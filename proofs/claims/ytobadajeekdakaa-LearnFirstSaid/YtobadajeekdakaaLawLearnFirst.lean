/- chalklinelaw20_LearnFirst: the row of the law, out of its plain statement and its printed walk. -/
import Derived.Test.YtobadajeekdakaaRows
import Derived.Test.YtobadajeekdakaaF90
import Derived.Test.YtobadajeekdakaaO
import Derived.Test.YtobadajeekdakaaOrd
import Derived.Test.YtobadajeekdakaaPLearnFirst
import Derived.WalkKit
import Derived.ProofKit
import Derived.OpenShut
import Derived.ShutString
import Derived.ChangeOld
import Derived.Below
import Derived.SizedLaws
namespace Go.Proofs.Ytobadajeekdakaa.learnFirst
open Go.ChangeShapes Go.WideShapes Go.ChangeAt Go.RowKit Go.Proofs.Ytobadajeekdakaa.Print Go.Proofs.YtobadajeekdakaaW.PrintWords
open Go.ChangeMaps (open_string shut_string)
set_option linter.unusedVariables false
theorem own : ownKnob Try.prog.godebug = none := by kernel_rfl
theorem laidOut : laidOutB Try.prog = true := by kernel_rfl
set_option maxRecDepth 100000 in
theorem lifted (os : Os) (started : os.Started) (H : Type) (enc : TypeId × Value → H) :
    ReturnsInHanded {} Try.checked os 3 .any (Rows.learnFirstSpec.pre6 enc Try.prog Try.f3 Rows.learnFirstRow.domain false) (Rows.learnFirstSpec.post enc Try.prog Try.f3 false true false false) := by
  refine returnsInHanded_of_change_sized (C := Try.checked) own started (by kernel_rfl) Try.func3
    (ChangeSpec.witness6 (enc := enc) (C := Try.checked) false ⟨#[], #[.agg #[.int .i64 0, .slice none 0 0], .slice none 0 0, .int .i64 0], []⟩ 8 (by kernel_rfl) (by kernel_rfl) (by kernel_rfl) (by kernel_rfl)) ?_
  intro W base args ds gs before hval0 hW hcnd hsz0 _
  have hval : ∀ (j : Nat) t v, Try.f3.params[j]? = some t → args[j]? = some v → Value.okWide Try.prog W .any base t v := hval0
  have hW' := hW
  obtain ⟨p, q, hA0, hV, rfl, hfz, hnd⟩ := hW
  have hA : DataW.TrodAll enc Try.prog W 0 (fun _ => true) true Try.f3.params.toList args.toList ds p := hA0
  rw [Try.params3] at hA hval
  obtain ⟨v0, vs0, d0, ds0, p0, q0, hargs, rfl, rfl, h0, r0⟩ := trodAll_cons hA
  obtain ⟨v1, vs1, d1, ds1, p1, q1, rfl, rfl, rfl, h1, r1⟩ := trodAll_cons r0
  obtain ⟨v2, vs2, d2, ds2, p2, q2, rfl, rfl, rfl, h2, r2⟩ := trodAll_cons r1
  obtain ⟨rfl, rfl, rfl⟩ := trodAll_nil r2
  obtain rfl : args = #[v0, v1, v2] := by cases args; simp_all
  obtain ⟨rfl, rfl⟩ := trodVars_none hV
  have k0 := h0
  have lt0 : ∀ x ∈ p0, x.block < W.heap.size := by obtain ⟨m, hm⟩ := k0; exact DataW.trod_lt m _ _ _ hm
  obtain ⟨v00, v01, y00, y01, m0, rfl, hd0, hp0, h00, h01⟩ := Go.Joins.open_agg2 Try.underlying24 (by kernel_rfl) (by kernel_rfl) (hval 0 24 v0 rfl rfl) h0
  obtain ⟨a0_0, hcs00, _, w0_0⟩ := DataW.trod_int Try.underlying3 h00
  injection hcs00 with hcs00 _
  subst hcs00
  obtain ⟨A0_1, n0_1, c0_1, l0_1, hcs0_1, hl0_1, hC0_1, hw0_1⟩ := row_of (Kd.slice 3 (Kd.int .i64)) (fun r => ∀ x ∈ r, (Lit.int .i64 x).wf = true) Try.underlying22 (by kernel_rfl) (slice_elem (Kd.int .i64) (fun x => (Lit.int .i64 x).wf = true) Try.underlying28 (by kernel_rfl) (int_elem Try.underlying3)) h01
  injection hcs0_1 with hcs0_1 _
  subst hcs0_1
  have hlen0 : l0_1.length = n0_1 := hC0_1.1
  subst hlen0
  have k1 := h1
  have lt1 : ∀ x ∈ p1, x.block < W.heap.size := by obtain ⟨m, hm⟩ := k1; exact DataW.trod_lt m _ _ _ hm
  obtain ⟨a1, len1, cap1, rfl⟩ := okWide_slice Try.underlying25 (hval 1 25 v1 rfl rfl)
  obtain ⟨fuel1, hf1⟩ := h1
  obtain ⟨A1, n1, c1, l1, hcs1, hl1, hC1, hw1⟩ := row_of k41 (fun x => (Lit.int .i64 x.f0).wf = true ∧ (Lit.int .i64 x.f1).wf = true) Try.underlying25 (by kernel_rfl) step_elem hf1
  have hcs1 : [Value.slice a1 len1 cap1] = [Value.slice A1 n1 c1] := hcs1
  injection hcs1 with hcs1 _
  injection hcs1 with e1a e1b e1c
  subst e1a e1b e1c
  have hlen1 : l1.length = len1 := hC1.1
  subst hlen1
  obtain ⟨a2, rfl, rfl, rfl, w2⟩ := open_int Try.underlying3 (hval 2 3 v2 rfl rfl) h2
  clear hA0 hval0 hsz0
  obtain ⟨k, hk⟩ := Pure.LearnFirst a0_0 l0_1 l1 a2 w0_0 hw0_1 hw1 w2
  refine (chalklinelaw20_LearnFirst.calls k a0_0 _ _ l0_1 _ _ l1 a2 true W hC0_1 hl0_1 hC1 hl1 hk).mono fun e W' ⟨he, bel⟩ => ?_
  subst he
  exact ⟨_, rfl, _, _, _, [], _, [], hW', trodAll_mk1 (shut_bool Try.underlying4 _), (trodAll_cons_mk (Below.trod laidOut (by kernel_rfl) (of_decide_eq_true (by kernel_rfl)) k0 bel lt0) (trodAll_cons_mk (Below.trod laidOut (by kernel_rfl) (of_decide_eq_true (by kernel_rfl)) k1 bel lt1) (trodAll_cons_mk (shut_int Try.underlying3 w2) trodAll_mk0))), rfl, bel.frame _, fun h => by cases h⟩
theorem joined : joinedFacts Try.pinned.checked.prog 3 Try.f3 Rows.learnFirstSpec Rows.learnFirstRow = true := by
  unfold joinedFacts
  rw [may, lifts, made]
  kernel_rfl
theorem over : Rows.learnFirstRow.holds Try.pinned (OpenSpec.ofChange Rows.learnFirstSpec) :=
  OpenClaim.holds_of_wide 3 Try.f3 rfl rfl rfl rfl rfl rfl rfl ⟨rfl, rfl, rfl, rfl, rfl⟩ rfl rfl rfl rfl rfl (by kernel_rfl) Try.func3 joined
    (of_decide_eq_true (by kernel_rfl)) (by unfold Func.isWrapper; first | (rw [if_pos (by decide +kernel)]; kernel_rfl) | (rw [if_neg (by decide +kernel)]; exact ⟨rfl, rfl⟩))
    (fun os started H enc _ => lifted os started H enc)
theorem proved : Rows.LearnFirstSaid := over
#print axioms proved
end Go.Proofs.Ytobadajeekdakaa.learnFirst
namespace Go.Proofs.Ytobadajeekdakaa
/-- The row, under a short name, for the claim. -/
theorem learnFirst_holds : Rows.LearnFirstSaid := learnFirst.proved
end Go.Proofs.Ytobadajeekdakaa
