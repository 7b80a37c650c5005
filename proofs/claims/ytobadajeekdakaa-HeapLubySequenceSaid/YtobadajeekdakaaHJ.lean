/- slices.SortFunc at the order of a heap: its contract for at most twelve elements. -/
import Derived.Test.YtobadajeekdakaaHI
import Derived.Test.YtobadajeekdakaaShelf
namespace Go.Proofs.Ytobadajeekdakaa.Print
open Go.RowKit Go.Proofs.YtobadajeekdakaaW.PrintWords Go.Proofs.YtobadajeekdakaaW.PrintLast Go.Proofs.YtobadajeekdakaaW.PrintMore
open Go.Sort (grow alloc_eq_grow)
open Go.Shelf
set_option linter.unusedVariables false
set_option linter.unusedSimpArgs false

theorem hp_bitsLen (n : Nat) (w : World) (hn : n ≤ 100000) : Calls Try.prog 164 #[.int .u64 n] w fun e w' => e = .returned (.int .i64 (Lib.bitLen n : Nat)) ∧ w = w' := by
  have h := Any.bits_Len (SlLaysF0.n15.bits (P := Try.prog) (ρ := Try.slays6_ren) { Try.slays6 with }) (n : Int) w (by omega) (by omega)
  rw [Int.toNat_natCast] at h
  exact h.mono fun e w' hh => ⟨hh.1, hh.2.symm⟩

set_option maxHeartbeats 8000000 in
set_option maxRecDepth 100000 in
theorem pdq_small (w0 : World) (gw base g n cap : Nat) (lim : Int) (act l : List Int) (w : World) (hc : CmpLaw w0 g gw act) (hS : SortSt w0 base g n cap l w) (hl : InR act l) (hn : n ≤ 12) :
    Calls Try.prog 163 #[.slice (some ⟨g, 0, none⟩) n cap, .int .i64 0, .int .i64 n, .int .i64 lim, .func (.func 151) #[.pointer (some ⟨gw, 0, none⟩)] #[]] w (SortPost w0 base g n cap 0 n act l) := by
  have hcall := insertion_any w0 gw base g n cap 0 n act l w hc hS hl (by omega) (Nat.le_refl _) (by omega)
  have HC := Aside0.mk hcall
  clear hc hS hl hcall
  have h12 : (n : Int) ≤ 12 := by omega
  go_enter Try.func163, Try.ntmps163
  go_wp2
  refine wp_loop_rounds 1 ?_
  rw [rounds_succ]
  go_wp2_with (go_at_call 179; refine HC.out.mono ?_; rintro e w' ⟨rfl, ys, h1, h2, h3⟩; have H1 := Aside0.mk h1; have H2 := Aside0.mk h2; have H3 := Aside0.mk h3; clear h1 h2 h3)
  go_end0
  exact ⟨rfl, ys, H1.out, H2.out, H3.out⟩

theorem sort_small (w0 : World) (gw base g n cap : Nat) (act l : List Int) (w : World) (hc : CmpLaw w0 g gw act) (hS : SortSt w0 base g n cap l w) (hl : InR act l) (hn : n ≤ 12) :
    Calls Try.prog 109 #[.slice (some ⟨g, 0, none⟩) n cap, .func (.func 151) #[.pointer (some ⟨gw, 0, none⟩)] #[]] w (SortPost w0 base g n cap 0 n act l) := by
  have hcall := fun lim => pdq_small w0 gw base g n cap lim act l w hc hS hl hn
  have HC := Aside0.mk hcall
  clear hc hS hl hcall
  have h63 : n ≤ 9223372036854775807 := by omega
  have hbl := hp_bitsLen n
  have wr : IntKind.u64.wrap (n : Int) = n := by simp [IntKind.wrap, IntKind.bits, IntKind.signed]; omega
  go_enter Try.func109, Try.ntmps109
  go_wp2_with (first | (go_at_call 164; refine (hbl _ (by omega)).mono ?_; rintro e w2 ⟨rfl, rfl⟩) | (go_at_call 163; refine (HC.out _).mono ?_; rintro e w' ⟨rfl, ys, h1, h2, h3⟩; have H1 := Aside0.mk h1; have H2 := Aside0.mk h2; have H3 := Aside0.mk h3; clear h1 h2 h3))
  go_end0
  exact ⟨rfl, ys, H1.out, H2.out, H3.out⟩
end Go.Proofs.Ytobadajeekdakaa.Print
