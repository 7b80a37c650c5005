/- Literal rows in new memory, read. -/
import Derived.Test.YtobadajeekdakaaM
namespace Go.Proofs.Ytobadajeekdakaa.Print
open Go.RowKit Go.Proofs.YtobadajeekdakaaW.PrintWords Go.Proofs.YtobadajeekdakaaW.PrintLast Go.Proofs.YtobadajeekdakaaW.PrintMore
set_option linter.unusedVariables false
set_option linter.unusedSimpArgs false
theorem C_ints {W : World} {g : Nat} {t : TypeId} (l : List Int) (hl : l.length ≤ 9223372036854775807) (h : W.heap[g]? = some (.cells (l.map (Value.int .i64)).toArray t (0, 0))) : Kd.C (Kd.int .i64) W (some ⟨g, 0, none⟩) l.length l := by
  refine ⟨rfl, hl, fun _ => ⟨_, rfl, fun j p hj => ⟨[.int .i64 p], rfl, rfl, fun i u hu => ?_⟩⟩⟩
  cases i with
  | zero =>
    have hu : Value.int .i64 p = u := by simpa using hu
    subst hu
    have : (Addr.add ⟨g, 0, none⟩ (j * 1 + 0)) = (⟨g, j, none⟩ : Addr) := by cases j <;> simp [Addr.add]
    have e : (Kd.int IntKind.i64).sz = 1 := rfl
    rw [e, this]
    exact cell_in h j (by simp [hj])
  | succ i => simp at hu
end Go.Proofs.Ytobadajeekdakaa.Print
