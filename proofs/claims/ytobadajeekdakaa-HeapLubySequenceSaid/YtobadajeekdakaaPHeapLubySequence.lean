/- HeapLubySequence in plain words: the walk shows that the law answers true. -/
import Derived.Test.YtobadajeekdakaaGHeapLubySequence
namespace Go.Proofs.Ytobadajeekdakaa.Print
theorem Pure.HeapLubySequence (a0 a1 : Int) (_ : (Lit.int .i64 a0).wf = true) (_ : (Lit.int .i64 a1).wf = true) : chalklinelaw21_HeapLubySequence.f a0 a1 = some true := rfl
end Go.Proofs.Ytobadajeekdakaa.Print
