/- chalklinelaw21.HeapLubySequence: its contract: it answers true. -/
import Derived.Test.YtobadajeekdakaaHLuby
import Derived.Test.YtobadajeekdakaaHQ
namespace Go.Proofs.Ytobadajeekdakaa.Print
open Go.RowKit Go.Proofs.YtobadajeekdakaaW.PrintWords Go.Proofs.YtobadajeekdakaaW.PrintLast Go.Proofs.YtobadajeekdakaaW.PrintMore
set_option linter.unusedVariables false
set_option linter.unusedSimpArgs false

def chalklinelaw21_HeapLubySequence.f (a0 a1 : Int) : Option Bool := some true
set_option maxHeartbeats 4000000 in
set_option maxRecDepth 100000 in
theorem chalklinelaw21_HeapLubySequence.calls (a0 a1 : Int) (r : Bool) (w : World) (h : chalklinelaw21_HeapLubySequence.f a0 a1 = some r) :
    Calls Try.prog 25 #[.int .i64 a0, .int .i64 a1] w fun e w' => e = .returned (.bool r) ∧ Below w.heap.size w w' := by
  obtain rfl : true = r := Option.some.inj h
  clear h
  have hlive := chalklinelaw21_live.calls true w rfl
  by_cases h0 : a0 < 0
  · go_enter Try.func25, Try.ntmps25
    go_wp2_with (go_at_call 61; refine hlive.mono ?_; rintro e w1 ⟨rfl, hb⟩; have HB := Aside0.mk hb; clear hb)
    go_ret
    exact ⟨rfl, HB.out⟩
  · by_cases h12 : 12 < a0
    · go_enter Try.func25, Try.ntmps25
      go_wp2_with (go_at_call 61; refine hlive.mono ?_; rintro e w1 ⟨rfl, hb⟩; have HB := Aside0.mk hb; clear hb)
      go_ret
      exact ⟨rfl, HB.out⟩
    · obtain ⟨k, rfl⟩ : ∃ k : Nat, a0 = (k : Int) := ⟨a0.toNat, by omega⟩
      have hk : k ≤ 12 := by omega
      obtain ⟨P, hPP⟩ : ∃ P : Nat, P = 2 ^ k := ⟨_, rfl⟩
      have hP : (2 : Int) ^ k = (P : Int) := by rw [hPP]; simp
      have HPP := Aside0.mk hPP
      have hp1 : (1 : Int) ≤ (P : Int) := by have := Nat.one_le_two_pow (n := k); omega
      have hp2 : (P : Int) ≤ 4096 := by
        have : 2 ^ k ≤ 2 ^ 12 := Nat.pow_le_pow_right (by decide) hk
        omega
      clear hPP
      obtain ⟨K1, hK1⟩ := luby_f (LubyIs.top k) (by rw [Nat.pow_succ, ← HPP.out]; omega) (by rw [Nat.pow_succ, ← HPP.out]; omega)
      have HK1 : Aside0 (heap_Luby.f K1 (2 * ((P : Int) - 1) + 1) = some (P : Int)) := ⟨by
        rw [Nat.pow_succ, ← HPP.out] at hK1
        rwa [show ((P * 2 - 1 : Nat) : Int) = 2 * ((P : Int) - 1) + 1 by omega] at hK1⟩
      clear hK1
      by_cases h1 : a1 < 1
      · go_enter Try.func25, Try.ntmps25
        go_wp2_with (first | (go_at_call 61; refine hlive.mono ?_; rintro e w1 ⟨rfl, hb⟩; have HB := Aside0.mk hb; clear hb) | (go_at_call 68; refine (heap_Luby.calls K1 _ (P : Int) _ HK1.out).mono ?_; rintro e w2 ⟨rfl, hd⟩; have HB2 := Aside0.mk (below_step HB.out hd.below); clear hd))
        go_ret
        exact ⟨rfl, HB2.out⟩
      · by_cases h2 : (P : Int) - 1 < a1
        · go_enter Try.func25, Try.ntmps25
          go_wp2_with (first | (go_at_call 61; refine hlive.mono ?_; rintro e w1 ⟨rfl, hb⟩; have HB := Aside0.mk hb; clear hb) | (go_at_call 68; refine (heap_Luby.calls K1 _ (P : Int) _ HK1.out).mono ?_; rintro e w2 ⟨rfl, hd⟩; have HB2 := Aside0.mk (below_step HB.out hd.below); clear hd))
          go_ret
          exact ⟨rfl, HB2.out⟩
        · obtain ⟨i, rfl⟩ : ∃ i : Nat, a1 = (i : Int) := ⟨a1.toNat, by omega⟩
          obtain ⟨x, hx⟩ := LubyIs.some i i (Nat.le_refl _) (by omega)
          obtain ⟨K2, hK2⟩ := luby_f hx (by omega) (by omega)
          obtain ⟨K3, hK3⟩ := luby_f (hx.twice (j := k) (by omega) (by rw [← HPP.out]; omega)) (by rw [← HPP.out]; omega) (by omega)
          have HK2 := Aside0.mk hK2
          have HK3 : Aside0 (heap_Luby.f K3 ((P : Int) - 1 + (i : Int)) = some (x : Int)) := ⟨by
            rw [← HPP.out] at hK3
            rwa [show ((P - 1 + i : Nat) : Int) = (P : Int) - 1 + (i : Int) by omega] at hK3⟩
          obtain ⟨m, hm, hmi⟩ := hx.pow
          have hm12 : m < 13 := by
            have : 2 ^ m < 2 ^ 13 := by omega
            exact (Nat.pow_lt_pow_iff_right (by decide)).1 this
          have hbits : Go.bits .and .i64 (x : Int) ((x : Int) - 1) = 0 := by
            rw [hm]
            have : ∀ m : Fin 13, Go.bits .and .i64 ((2 ^ m.val : Nat) : Int) (((2 ^ m.val : Nat) : Int) - 1) = 0 := by decide
            exact this ⟨m, hm12⟩
          have hx1 : (1 : Int) ≤ (x : Int) := by have := Nat.one_le_two_pow (n := m); omega
          have hx2 : (x : Int) ≤ 4096 := by omega
          clear hm hmi hm12 hK2 hK3 hx
          go_enter Try.func25, Try.ntmps25
          go_wp2_with (first | (go_at_call 61; refine hlive.mono ?_; rintro e w1 ⟨rfl, hb⟩; have HB := Aside0.mk hb; clear hb) | (go_at_call 68; (with_reducible refine (heap_Luby.calls K1 (2 * ((P : Int) - 1) + 1) (P : Int) _ HK1.out).mono ?_); rintro e w2 ⟨rfl, hd⟩; have HB2 := Aside0.mk (below_step HB.out hd.below); clear hd) | (go_at_call 68; (with_reducible refine (heap_Luby.calls K2 (i : Int) (x : Int) _ HK2.out).mono ?_); rintro e w3 ⟨rfl, hd⟩; have HB3 := Aside0.mk (below_step HB2.out hd.below); clear hd) | (go_at_call 68; (with_reducible refine (heap_Luby.calls K3 ((P : Int) - 1 + (i : Int)) (x : Int) _ HK3.out).mono ?_); rintro e w4 ⟨rfl, hd⟩; have HB4 := Aside0.mk (below_step HB3.out hd.below); clear hd))
          go_ret
          exact ⟨rfl, HB4.out⟩
end Go.Proofs.Ytobadajeekdakaa.Print
