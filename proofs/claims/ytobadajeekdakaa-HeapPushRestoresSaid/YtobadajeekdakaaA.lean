/- slices.IndexFunc and slices.ContainsFunc over ints, at a predicate that may change the world: an invariant goes along. -/
import Derived.Test.YtobadajeekdakaaK
import Derived.Shelf.Abstract
namespace Go.Proofs.Ytobadajeekdakaa.Print
open Go.RowKit Go.Proofs.YtobadajeekdakaaW.PrintWords Go.Proofs.YtobadajeekdakaaW.PrintLast Go.Proofs.YtobadajeekdakaaW.PrintMore
set_option linter.unusedVariables false
set_option linter.unusedSimpArgs false

/-- What a run of the predicate over a list leaves: a hit at k, or none. -/
def HitPost (J I : Nat → World → Prop) (n : Nat) (e : Ending) (w' : World) : Prop :=
  (∃ k, k < n ∧ e = .returned (.int .i64 (k : Int)) ∧ J k w') ∨ (e = .returned (.int .i64 (-1)) ∧ I n w')
def PredPost (J I : World → Prop) (e : Ending) (w' : World) : Prop :=
  (e = .returned (.bool true) ∧ J w') ∨ (e = .returned (.bool false) ∧ I w')

set_option maxHeartbeats 1000000 in
theorem indexFunc_any (g : Nat) (lb : Array Value) (eg : ∀ args w, (callFunc g args).run Try.prog w = .ok (.enter g args) w)
    (A : Option Addr) (c : Nat) (xs : List Int) (J I : Nat → World → Prop) (w : World)
    (hC : ∀ k W, I k W → Kd.C (Kd.int .i64) W A xs.length xs)
    (hs : ∀ k W, k < xs.length → I k W → Calls Try.prog g (#[.int .i64 (rd xs k)] ++ lb) W (PredPost (J k) (I (k + 1))))
    (h0 : I 0 w) :
    Calls Try.prog 161 #[.slice A xs.length c, .func (.func g) #[] lb] w (HitPost J I xs.length) := by
  have HC := Aside0.mk hC
  have HS := Aside0.mk hs
  have H0 := Aside0.mk h0
  clear hC hs h0
  go_enter Try.func161, Try.ntmps161
  go_wp2
  go_loopg [5, 8] xs.length (fun gg _ s8 wr => ∃ kk : Nat, kk ≤ xs.length ∧ xs.length - kk ≤ gg ∧ s8 = .int .i64 kk ∧ Aside0 (I kk wr))
  case atStart => exact ⟨0, Nat.zero_le _, by omega, rfl, H0⟩
  case round =>
    obtain ⟨kk, hkk, hg, rfl, HI⟩ := hrel
    by_cases hlt : kk < xs.length
    · have hltz : (kk : Int) < (xs.length : Int) := by omega
      have hm : xs.length ≤ 9223372036854775807 := (HC.out kk wr HI.out).2.1
      obtain ⟨ad, e1, hcell⟩ := Kd.at_int (HC.out kk wr HI.out) (kk : Int) (by omega) hltz
      cases e1
      rw [Int.toNat_natCast] at hcell
      have hcall := HS.out kk wr hlt HI.out
      go_wp2_with (go_at_fn g; refine hcall.mono ?_; rintro e w' (⟨rfl, hJ⟩ | ⟨rfl, hI⟩))
      · have HJ := Aside0.mk hJ
        clear hJ
        go_wp2
        go_ret
        exact .inl ⟨kk, hlt, rfl, HJ.out⟩
      · have HI2 := Aside0.mk hI
        clear hI
        go_wp2
        go_roundg (xs.length - (kk + 1))
        case measure => omega
        case rel => exact ⟨kk + 1, by omega, by omega, by go_num, HI2⟩
    · have hltz : ¬ (kk : Int) < (xs.length : Int) := by omega
      have : kk = xs.length := by omega
      subst this
      go_wp2
      go_ret
      exact .inr ⟨rfl, HI.out⟩

/-- ContainsFunc: true after a hit, false where no element is hit. -/
def AnyPost (J : Nat → World → Prop) (I : Nat → World → Prop) (n : Nat) (e : Ending) (w' : World) : Prop :=
  (∃ k, k < n ∧ e = .returned (.bool true) ∧ J k w') ∨ (e = .returned (.bool false) ∧ I n w')
set_option maxHeartbeats 1000000 in
theorem containsFunc_any (g : Nat) (lb : Array Value) (eg : ∀ args w, (callFunc g args).run Try.prog w = .ok (.enter g args) w)
    (A : Option Addr) (c : Nat) (xs : List Int) (J I : Nat → World → Prop) (w : World)
    (hC : ∀ k W, I k W → Kd.C (Kd.int .i64) W A xs.length xs)
    (hs : ∀ k W, k < xs.length → I k W → Calls Try.prog g (#[.int .i64 (rd xs k)] ++ lb) W (PredPost (J k) (I (k + 1))))
    (h0 : I 0 w) :
    Calls Try.prog 100 #[.slice A xs.length c, .func (.func g) #[] lb] w (AnyPost J I xs.length) := by
  have hcall := indexFunc_any g lb eg A c xs J I w hC hs h0
  clear hC hs h0
  go_enter Try.func100, Try.ntmps100
  go_wp2_with (go_at_call 161; refine hcall.mono ?_; rintro e w' (⟨k, hk, rfl, hJ⟩ | ⟨rfl, hI⟩))
  · have HJ := Aside0.mk hJ
    clear hJ
    go_wp2
    go_ret
    exact .inl ⟨k, hk, by simp, HJ.out⟩
  · have HI := Aside0.mk hI
    clear hI
    go_wp2
    go_ret
    exact .inr ⟨by simp, HI.out⟩

end Go.Proofs.Ytobadajeekdakaa.Print
