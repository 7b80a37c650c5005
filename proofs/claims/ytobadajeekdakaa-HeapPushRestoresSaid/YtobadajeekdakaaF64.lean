/- Contracts of functions of the program, out of Lean's own print of the translation: written by gen.py (wip/) with the kit's print. -/
import Derived.Test.YtobadajeekdakaaK
namespace Go.Proofs.Ytobadajeekdakaa.Print
open Go.RowKit Go.Proofs.YtobadajeekdakaaW.PrintWords Go.Proofs.YtobadajeekdakaaW.PrintLast
set_option linter.unusedVariables false
set_option linter.unusedSimpArgs false

/-! ### chalklineref21_New: function 64 -/
/-! ### chalklineref21_Luby: function 69 -/
end Go.Proofs.Ytobadajeekdakaa.Print
