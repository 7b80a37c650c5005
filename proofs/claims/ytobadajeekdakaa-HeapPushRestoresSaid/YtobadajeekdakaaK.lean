/- Contracts of functions of the program, out of Lean's own print of the translation: written by gen.py (wip/) with the kit's print. -/
import Derived.Test.YtobadajeekdakaaProg
import Derived.Test.YtobadajeekdakaaWWords
import Derived.Test.YtobadajeekdakaaWLast
import Derived.Test.YtobadajeekdakaaWTab
import Derived.Test.YtobadajeekdakaaWFour
import Derived.Test.YtobadajeekdakaaWQPut
import Derived.Test.YtobadajeekdakaaWApart
import Derived.Test.YtobadajeekdakaaWArr
import Derived.Test.YtobadajeekdakaaWZeros
import Derived.Test.YtobadajeekdakaaWFoot
import Derived.Test.YtobadajeekdakaaWKept
import Derived.Test.YtobadajeekdakaaWShare
import Derived.Test.YtobadajeekdakaaWN
import Derived.Test.YtobadajeekdakaaWFootNe
import Derived.Test.YtobadajeekdakaaWAt
import Derived.Test.YtobadajeekdakaaWEqStruct
import Derived.Test.YtobadajeekdakaaWRepsOne
import Derived.Test.YtobadajeekdakaaWInv
import Derived.Test.YtobadajeekdakaaWInvWords
import Derived.Test.YtobadajeekdakaaWGuard
import Derived.Test.YtobadajeekdakaaWNEv
import Derived.Test.YtobadajeekdakaaWMore
namespace Go.Proofs.Ytobadajeekdakaa.Print
open Go.RowKit Go.Proofs.YtobadajeekdakaaW.PrintWords Go.Proofs.YtobadajeekdakaaW.PrintLast
set_option linter.unusedVariables false
set_option linter.unusedSimpArgs false



def errW : Option Int → Value
  | none => .nilIface
  | some c => .iface 0 (.int .i64 c)
theorem errW_none : errW none = .nilIface := rfl
theorem errW_some (c : Int) : errW (some c) = .iface 0 (.int .i64 c) := rfl

theorem info3 : (Try.prog.info? 3).map (fun i => (i.zero, i.size, i.bytes)) = some (some (.int .i64 0), 1, 8) := by kernel_rfl
def rd_L1 (xs : List (List Int)) (i : Int) : (List Int) := xs.getD i.toNat ([] : List Int)
theorem at_L1 {w : World} {A : Option Addr} {n : Nat} {xs : List (List Int)} (h : Kd.C (Kd.slice 3 (Kd.int .i64)) w A n xs) (i : Int) (h0 : 0 ≤ i) (h1 : i < n) : ∃ ad A0 c0, A = some ad ∧ w.cell? (ad.add i.toNat) = some (.slice A0 (rd_L1 xs i).length c0) ∧ (rd_L1 xs i).length ≤ c0 ∧ (Kd.int .i64).C w A0 (rd_L1 xs i).length (rd_L1 xs i) := by
  obtain ⟨ad, c, e, _, hK, hc0⟩ := Kd.C_get h ([] : List Int) i h0 h1
  have hc : ∀ j u, c[j]? = some u → w.cell? (ad.add (i.toNat * 1 + j)) = some u := hc0
  obtain ⟨A0, c0, rfl, l0, g0⟩ := hK
  exact ⟨ad, A0, c0, e, by have hq := hc 0 _ rfl; rwa [Nat.mul_one, Nat.add_zero] at hq, l0, g0⟩

/-! #### struct type 41 -/
structure S41 where
  f0 : Int
  f1 : Int
def z41 : S41 := ⟨(0 : Int), (0 : Int)⟩
/-! #### struct type 61 -/
structure S61 where
  f0 : (List Int)
  f1 : Int
  f2 : Int
end Go.Proofs.Ytobadajeekdakaa.Print
