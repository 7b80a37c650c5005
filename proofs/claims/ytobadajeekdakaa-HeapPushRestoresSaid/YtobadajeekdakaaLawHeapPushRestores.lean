/- chalklinelaw21_HeapPushRestores: the row of the law, out of its plain statement and its printed walk. -/
import Derived.Test.YtobadajeekdakaaRows
import Derived.Test.YtobadajeekdakaaPHeapPushRestores
import Derived.Test.YtobadajeekdakaaO
import Derived.Test.YtobadajeekdakaaOrd
import Derived.WalkKit
import Derived.ProofKit
import Derived.OpenShut
import Derived.ShutString
import Derived.ChangeOld
import Derived.Below
import Derived.SizedLaws
namespace Go.Proofs.Ytobadajeekdakaa.heapPushRestores
open Go.ChangeShapes Go.WideShapes Go.ChangeAt Go.RowKit Go.Proofs.Ytobadajeekdakaa.Print Go.Proofs.YtobadajeekdakaaW.PrintWords
open Go.ChangeMaps (open_string shut_string)
set_option linter.unusedVariables false
theorem own : ownKnob Try.prog.godebug = none := by kernel_rfl
theorem laidOut : laidOutB Try.prog = true := by kernel_rfl
set_option maxRecDepth 100000 in
theorem lifted (os : Os) (started : os.Started) (H : Type) (enc : TypeId × Value → H) :
    ReturnsInHanded {} Try.checked os 22 .any (Rows.heapPushRestoresSpec.pre6 enc Try.prog Try.f22 Rows.heapPushRestoresRow.domain false) (Rows.heapPushRestoresSpec.post enc Try.prog Try.f22 false true false false) := by
  refine returnsInHanded_of_change_sized (C := Try.checked) own started (by kernel_rfl) Try.func22
    (ChangeSpec.witness6 (enc := enc) (C := Try.checked) false ⟨#[], #[.agg #[.slice none 0 0, .slice none 0 0, .int .i64 0], .int .i64 0, .bool false], []⟩ 8 (by kernel_rfl) (by kernel_rfl) (by kernel_rfl) (by kernel_rfl)) ?_
  intro W base args ds gs before hval0 hW hcnd hsz0 _
  have hval : ∀ (j : Nat) t v, Try.f22.params[j]? = some t → args[j]? = some v → Value.okWide Try.prog W .any base t v := hval0
  have hW' := hW
  obtain ⟨p, q, hA0, hV, rfl, hfz, hnd⟩ := hW
  have hA : DataW.TrodAll enc Try.prog W 0 (fun _ => true) true Try.f22.params.toList args.toList ds p := hA0
  rw [Try.params22] at hA hval
  obtain ⟨v0, vs0, d0, ds0, p0, q0, hargs, rfl, rfl, h0, r0⟩ := trodAll_cons hA
  obtain ⟨v1, vs1, d1, ds1, p1, q1, rfl, rfl, rfl, h1, r1⟩ := trodAll_cons r0
  obtain ⟨v2, vs2, d2, ds2, p2, q2, rfl, rfl, rfl, h2, r2⟩ := trodAll_cons r1
  obtain ⟨rfl, rfl, rfl⟩ := trodAll_nil r2
  obtain rfl : args = #[v0, v1, v2] := by cases args; simp_all
  obtain ⟨rfl, rfl⟩ := trodVars_none hV
  have k0 := h0
  have lt0 : ∀ x ∈ p0, x.block < W.heap.size := by obtain ⟨m, hm⟩ := k0; exact DataW.trod_lt m _ _ _ hm
  obtain ⟨v00, v01, v02, y00, y01, y02, m0, rfl, hd0, hp0, h00, h01, h02⟩ := Go.Joins.open_agg3 Try.underlying74 (by kernel_rfl) (by kernel_rfl) (hval 0 74 v0 rfl rfl) h0
  obtain ⟨A0_0, n0_0, c0_0, l0_0, hcs0_0, hl0_0, hC0_0, hw0_0⟩ := row_of (Kd.int .i64) (fun x => (Lit.int .i64 x).wf = true) Try.underlying28 (by kernel_rfl) (int_elem Try.underlying3) h00
  injection hcs0_0 with hcs0_0 _
  subst hcs0_0
  have hlen00 : l0_0.length = n0_0 := hC0_0.1
  subst hlen00
  obtain ⟨A0_1, n0_1, c0_1, l0_1, hcs0_1, hl0_1, hC0_1, hw0_1⟩ := row_of (Kd.int .i64) (fun x => (Lit.int .i64 x).wf = true) Try.underlying28 (by kernel_rfl) (int_elem Try.underlying3) h01
  injection hcs0_1 with hcs0_1 _
  subst hcs0_1
  have hlen01 : l0_1.length = n0_1 := hC0_1.1
  subst hlen01
  obtain ⟨a0_2, hcs02, _, w0_2⟩ := DataW.trod_int Try.underlying3 h02
  injection hcs02 with hcs02 _
  subst hcs02
  obtain ⟨a1, rfl, rfl, rfl, w1⟩ := open_int Try.underlying3 (hval 1 3 v1 rfl rfl) h1
  obtain ⟨a2, rfl, rfl, rfl⟩ := open_bool Try.underlying4 (hval 2 4 v2 rfl rfl) h2
  clear hA0 hval0 hsz0
  have hk := Pure.HeapPushRestores l0_0 l0_1 a0_2 a1 a2 hw0_0 hw0_1 w0_2 w1
  refine (chalklinelaw21_HeapPushRestores.calls _ _ l0_0 _ _ l0_1 a0_2 a1 a2 true W hC0_0 hl0_0 hC0_1 hl0_1 hk).mono fun e W' ⟨he, bel⟩ => ?_
  subst he
  exact ⟨_, rfl, _, _, _, [], _, [], hW', trodAll_mk1 (shut_bool Try.underlying4 _), (trodAll_cons_mk (Below.trod laidOut (by kernel_rfl) (of_decide_eq_true (by kernel_rfl)) k0 bel lt0) (trodAll_cons_mk (shut_int Try.underlying3 w1) (trodAll_cons_mk (shut_bool Try.underlying4 _) trodAll_mk0))), rfl, bel.frame _, fun h => by cases h⟩
theorem joined : joinedFacts Try.pinned.checked.prog 22 Try.f22 Rows.heapPushRestoresSpec Rows.heapPushRestoresRow = true := by
  unfold joinedFacts
  rw [may, lifts, made]
  kernel_rfl
theorem over : Rows.heapPushRestoresRow.holds Try.pinned (OpenSpec.ofChange Rows.heapPushRestoresSpec) :=
  OpenClaim.holds_of_wide 22 Try.f22 rfl rfl rfl rfl rfl rfl rfl ⟨rfl, rfl, rfl, rfl, rfl⟩ rfl rfl rfl rfl rfl (by kernel_rfl) Try.func22 joined
    (of_decide_eq_true (by kernel_rfl)) (by unfold Func.isWrapper; first | (rw [if_pos (by decide +kernel)]; kernel_rfl) | (rw [if_neg (by decide +kernel)]; exact ⟨rfl, rfl⟩))
    (fun os started H enc _ => lifted os started H enc)
theorem proved : Rows.HeapPushRestoresSaid := over
#print axioms proved
end Go.Proofs.Ytobadajeekdakaa.heapPushRestores
namespace Go.Proofs.Ytobadajeekdakaa
/-- The row, under a short name, for the claim. -/
theorem heapPushRestores_holds : Rows.HeapPushRestoresSaid := heapPushRestores.proved
end Go.Proofs.Ytobadajeekdakaa
