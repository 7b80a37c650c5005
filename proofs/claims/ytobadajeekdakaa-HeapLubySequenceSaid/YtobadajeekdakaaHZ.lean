/- heap.Bump, heap.Decay: their contracts, as the laws call them (queues of at most twelve). -/
import Derived.Test.YtobadajeekdakaaHN
namespace Go.Proofs.Ytobadajeekdakaa.Print
open Go.RowKit Go.Proofs.YtobadajeekdakaaW.PrintWords Go.Proofs.YtobadajeekdakaaW.PrintLast Go.Proofs.YtobadajeekdakaaW.PrintMore
set_option linter.unusedVariables false
def heap_Bump.f (l0_0 l0_1 : List Int) (a0_2 a1 : Int) : Option (List Int × List Int × Int × Int) := if smallN 12 l0_0 l0_1 = true then some (bumpV l0_0 l0_1 a0_2 a1) else none
def heap_Decay.f (l0_0 l0_1 : List Int) (a0_2 : Int) : Option (List Int × List Int × Int × Int) := if smallN 12 l0_0 l0_1 = true then some (decayV l0_0 l0_1 a0_2) else none
theorem heap_Bump.calls (A0_0 : Option Addr) (c0_0 : Nat) (l0_0 : List Int) (A0_1 : Option Addr) (c0_1 : Nat) (l0_1 : List Int) (a0_2 a1 : Int) (r1 r2 : List Int) (r3 r4 : Int) (w : World) (hr0_0 : Kd.C (Kd.int .i64) w A0_0 l0_0.length l0_0) (hc0_0 : l0_0.length ≤ c0_0) (hr0_1 : Kd.C (Kd.int .i64) w A0_1 l0_1.length l0_1) (hc0_1 : l0_1.length ≤ c0_1) (h : heap_Bump.f l0_0 l0_1 a0_2 a1 = some (r1, r2, r3, r4)) :
    Calls Try.prog 70 #[.agg #[.slice A0_0 l0_0.length c0_0, .slice A0_1 l0_1.length c0_1, .int .i64 a0_2], .int .i64 a1] w fun e w' => ∃ v0_ v1_ : Value, e = .returned (.tuple #[.agg #[v0_, v1_, .int .i64 r3], .int .i64 r4]) ∧ Kd.R (Kd.int .i64) 3 w' w.heap.size (fun k_ => some k_ ≠ (v1_ : Value).ownBlock) v0_ r1 ∧ Kd.R (Kd.int .i64) 3 w' w.heap.size (fun k_ => some k_ ≠ (v0_ : Value).ownBlock) v1_ r2 ∧ Below w.heap.size w w' := by
  unfold heap_Bump.f at h
  split at h
  · rename_i hs
    exact heap_Bump_any hsort12 A0_0 c0_0 l0_0 A0_1 c0_1 l0_1 a0_2 a1 r1 r2 r3 r4 w hr0_0 hc0_0 hr0_1 hc0_1 hs (Option.some.inj h)
  · cases h
theorem heap_Decay.calls (A0_0 : Option Addr) (c0_0 : Nat) (l0_0 : List Int) (A0_1 : Option Addr) (c0_1 : Nat) (l0_1 : List Int) (a0_2 : Int) (r1 r2 : List Int) (r3 r4 : Int) (w : World) (hr0_0 : Kd.C (Kd.int .i64) w A0_0 l0_0.length l0_0) (hc0_0 : l0_0.length ≤ c0_0) (hr0_1 : Kd.C (Kd.int .i64) w A0_1 l0_1.length l0_1) (hc0_1 : l0_1.length ≤ c0_1) (h : heap_Decay.f l0_0 l0_1 a0_2 = some (r1, r2, r3, r4)) :
    Calls Try.prog 72 #[.agg #[.slice A0_0 l0_0.length c0_0, .slice A0_1 l0_1.length c0_1, .int .i64 a0_2]] w fun e w' => ∃ v0_ v1_ : Value, e = .returned (.tuple #[.agg #[v0_, v1_, .int .i64 r3], .int .i64 r4]) ∧ Kd.R (Kd.int .i64) 3 w' w.heap.size (fun k_ => some k_ ≠ (v1_ : Value).ownBlock) v0_ r1 ∧ Kd.R (Kd.int .i64) 3 w' w.heap.size (fun k_ => some k_ ≠ (v0_ : Value).ownBlock) v1_ r2 ∧ Below w.heap.size w w' := by
  unfold heap_Decay.f at h
  split at h
  · rename_i hs
    exact heap_Decay_any hsort12 A0_0 c0_0 l0_0 A0_1 c0_1 l0_1 a0_2 r1 r2 r3 r4 w hr0_0 hc0_0 hr0_1 hc0_1 hs (Option.some.inj h)
  · cases h
end Go.Proofs.Ytobadajeekdakaa.Print
