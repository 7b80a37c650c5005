/- Arguments read out of a row's data: slices whose elements are read by a kind. -/
import Derived.Test.YtobadajeekdakaaK
import Derived.Deep.Slices
import Derived.Lib.SmallJoins
import Derived.OpenShut
namespace Go.Proofs.Ytobadajeekdakaa.Print
open Go.ChangeShapes Go.WideShapes Go.ChangeAt
open Go.RowKit Go.Proofs.YtobadajeekdakaaW.PrintWords Go.Proofs.YtobadajeekdakaaW.PrintLast Go.Proofs.YtobadajeekdakaaW.PrintMore
set_option linter.unusedVariables false
set_option linter.unusedSimpArgs false
section
variable {H : Type} {enc : TypeId × Value → H} {P : Program} {w : World} {base : Nat} {held : Bool}
/-- A slice argument: a row that is read, its elements of kind d. -/
theorem row_of {α : Type} [Inhabited α] (d : Kd α) (wf : α → Prop) {t e : TypeId} {n : Nat} {cs : List Value} {y : DataW H × List MemPlace} (ht : P.underlying t = some (.slice e)) (hC : P.cellsOf e = d.sz)
    (helem : ∀ m cs z, DataW.trod enc P w base (fun _ => true) held m e cs = some z → ∃ x, d.K w x cs ∧ wf x)
    (h : DataW.trod enc P w base (fun _ => true) held n t cs = some y) : ∃ (A : Option Addr) (len c : Nat) (xs : List α), cs = [.slice A len c] ∧ len ≤ c ∧ d.C w A len xs ∧ ∀ x ∈ xs, wf x := by
  rcases Go.Deep.open_slice ht h with ⟨hcs, _⟩ | ⟨a, len, cap, m, n', D, Pl, hcs, hb, hl, hm, hmm, hx, hi⟩
  · exact ⟨none, 0, 0, [], hcs, Nat.le_refl _, Kd.C_nil d w, by simp⟩
  · have each : ∀ i, i < len → ∃ x : α, wf x ∧ ∃ cs', cs'.length = d.sz ∧ d.K w x cs' ∧ ∀ j u, cs'[j]? = some u → w.cell? (a.add (i * d.sz + j)) = some u := by
      intro i hil
      obtain ⟨cs', hc, htr⟩ := hi i (by rw [hmm]; simp; omega)
      obtain ⟨x, hK, hw⟩ := helem _ _ _ htr
      obtain ⟨_, hcl, hat⟩ := World.cells?_some hc
      refine ⟨x, hw, cs', by rw [hcl, hC], hK, fun j u hu => ?_⟩
      have hjl : j < cs'.length := (List.getElem?_eq_some_iff.1 hu).1
      have := hat j (by omega)
      rw [Go.Deep.add_add, hC] at this
      rw [this]; exact hu
    obtain ⟨f, hf⟩ := Go.Deep.choose_lt each
    refine ⟨some a, len, cap, (List.range len).map f, hcs, hl, ⟨by simp, by unfold maxLen at hm; omega, fun _ => ⟨a, rfl, fun j p hj => ?_⟩⟩, fun x hx => ?_⟩
    · obtain ⟨hjl, hp⟩ := List.getElem?_eq_some_iff.1 hj
      simp at hjl hp
      obtain ⟨_, cs', h1, h2, h3⟩ := hf j hjl
      subst hp
      exact ⟨cs', h1, h2, fun i u hu => h3 i u hu⟩
    · obtain ⟨i, hi, rfl⟩ := List.mem_map.1 hx
      exact (hf i (List.mem_range.1 hi)).1
theorem int_elem {k : IntKind} {e : TypeId} (he : P.underlying e = some (.int k)) : ∀ m cs z, DataW.trod enc P w base (fun _ => true) held m e cs = some z → ∃ x, (Kd.int k).K w x cs ∧ (Lit.int k x).wf = true := by
  intro m cs z h
  obtain ⟨n, hcs, _, hw⟩ := DataW.trod_int he h
  exact ⟨n, hcs, hw⟩
end
section
variable {H : Type} {enc : TypeId × Value → H} {w : World} {base : Nat} {held : Bool}
instance : Inhabited S41 := ⟨z41⟩
end
end Go.Proofs.Ytobadajeekdakaa.Print
