/- The Luby sequence, in plain words, and what heap.Luby answers. -/
import Derived.Test.YtobadajeekdakaaF63
namespace Go.Proofs.Ytobadajeekdakaa.Print
open Go.RowKit Go.Proofs.YtobadajeekdakaaW.PrintWords Go.Proofs.YtobadajeekdakaaW.PrintLast Go.Proofs.YtobadajeekdakaaW.PrintMore
set_option linter.unusedVariables false

/-- r is the i-th element of the Luby sequence. -/
inductive LubyIs : Nat → Nat → Prop where
  | top (j : Nat) : LubyIs (2 ^ (j + 1) - 1) (2 ^ j)
  | fall {j i r : Nat} (h1 : 2 ^ j ≤ i) (h2 : i < 2 ^ (j + 1) - 1) (h : LubyIs (i - (2 ^ j - 1)) r) : LubyIs i r
theorem LubyIs.some : ∀ (n i : Nat), i ≤ n → 1 ≤ i → ∃ r, LubyIs i r
  | 0, i, h, h1 => absurd h1 (by omega)
  | n + 1, i, h, h1 => by
    have hb : ∃ j, 2 ^ j ≤ i ∧ i < 2 ^ (j + 1) := ⟨Nat.log2 i, Nat.log2_self_le (by omega), Nat.lt_log2_self⟩
    obtain ⟨j, h2, h3⟩ := hb
    by_cases he : i = 2 ^ (j + 1) - 1
    · exact ⟨_, he ▸ LubyIs.top j⟩
    · have hp : 1 ≤ 2 ^ j := Nat.one_le_two_pow
      have hj : 2 ≤ 2 ^ j ∨ j = 0 := by
        cases j with
        | zero => exact .inr rfl
        | succ j => exact .inl (by have := Nat.one_le_two_pow (n := j); rw [Nat.pow_succ]; omega)
      rcases hj with hj | rfl
      · obtain ⟨r, hr⟩ := LubyIs.some n (i - (2 ^ j - 1)) (by omega) (by omega)
        exact ⟨r, .fall h2 (by omega) hr⟩
      · simp at h3 he; omega
/-- Every element is a power of two. -/
theorem LubyIs.pow {i r : Nat} (h : LubyIs i r) : ∃ j, r = 2 ^ j ∧ 2 ^ j ≤ i := by
  induction h with
  | top j => exact ⟨j, rfl, by have := Nat.one_le_two_pow (n := j); rw [Nat.pow_succ]; omega⟩
  | fall h1 h2 h ih =>
    obtain ⟨j, e, hj⟩ := ih
    exact ⟨j, e, by omega⟩
theorem two_pow_inj {j i k : Nat} (h1 : 2 ^ j ≤ i) (h2 : i < 2 ^ (j + 1)) (h3 : 2 ^ k ≤ i) (h4 : i < 2 ^ (k + 1)) : j = k := by
  have a : j < k + 1 := (Nat.pow_lt_pow_iff_right (by decide)).1 (Nat.lt_of_le_of_lt h1 h4)
  have b : k < j + 1 := (Nat.pow_lt_pow_iff_right (by decide)).1 (Nat.lt_of_le_of_lt h3 h2)
  omega
theorem LubyIs.only {i r : Nat} (h : LubyIs i r) : ∀ {q : Nat}, LubyIs i q → q = r := by
  have ev : ∀ j : Nat, 2 ^ j ≤ 2 ^ (j + 1) - 1 := fun j => by have := Nat.one_le_two_pow (n := j); rw [Nat.pow_succ]; omega
  have lt : ∀ j : Nat, 2 ^ (j + 1) - 1 < 2 ^ (j + 1) := fun j => by have := Nat.one_le_two_pow (n := j + 1); omega
  induction h with
  | top j =>
    intro q hq
    generalize hi : 2 ^ (j + 1) - 1 = i at hq
    cases hq with
    | top k =>
      have := two_pow_inj (ev j) (lt j) (by rw [hi]; exact ev k) (by rw [hi]; exact lt k)
      rw [this]
    | fall h1 h2 h =>
      rename_i k
      have := two_pow_inj (ev j) (lt j) (k := k) (by omega) (by omega)
      subst this
      omega
  | fall h1 h2 h ih =>
    rename_i j i r
    intro q hq
    cases hq with
    | top k =>
      have := two_pow_inj h1 (by omega) (ev k) (lt k)
      subst this
      omega
    | fall h3 h4 h5 =>
      rename_i k
      have := two_pow_inj h1 (by omega) h3 (by omega)
      subst this
      exact ih h5
theorem LubyIs.twice {j i r : Nat} (h0 : 1 ≤ i) (h1 : i ≤ 2 ^ j - 1) (h : LubyIs i r) : LubyIs (2 ^ j - 1 + i) r :=
  .fall (j := j) (by omega) (by rw [Nat.pow_succ]; omega) (by rwa [show 2 ^ j - 1 + i - (2 ^ j - 1) = i by omega])

/-! ### heap.Luby -/
theorem wrap_same {x : Int} (h1 : -9223372036854775808 ≤ x) (h2 : x ≤ 9223372036854775807) : wrap64 x = x := by unfold wrap64; omega
/-- The search for the power: from 2^a on, to the least power greater than i. -/
theorem luby_l1 {i j : Nat} (hi : i ≤ 1099511627776) (h1 : 2 ^ j ≤ i) (h2 : i < 2 ^ (j + 1)) : ∀ (d a k : Nat), a + d = j + 1 → d < k →
    ∃ k', k = k' + d + 1 ∧ heap_Luby.l1 k i ((2 ^ a : Nat) : Int) = (if (i : Int) = ((2 ^ (j + 1) - 1 : Nat) : Int) then some ((2 ^ j : Nat) : Int) else heap_Luby.l0 k' (((i - (2 ^ j - 1) : Nat) : Int)))
  | 0, a, k, ha, hk => by
    obtain ⟨k, rfl⟩ : ∃ m, k = m + 1 := ⟨k - 1, by omega⟩
    refine ⟨k, by omega, ?_⟩
    obtain rfl : a = j + 1 := by omega
    have hp : 1 ≤ 2 ^ j := Nat.one_le_two_pow
    have hs : 2 ^ (j + 1) = 2 * 2 ^ j := by rw [Nat.pow_succ, Nat.mul_comm]
    have hjb : 2 ^ j ≤ 1099511627776 := by omega
    simp only [heap_Luby.l1]
    rw [if_neg (by omega)]
    have e1 : wrap64 (((2 ^ (j + 1) : Nat) : Int) - 1) = ((2 ^ (j + 1) - 1 : Nat) : Int) := by rw [wrap_same (by omega) (by omega)]; omega
    have e2 : ((2 ^ (j + 1) : Nat) : Int) / 2 = ((2 ^ j : Nat) : Int) := by omega
    have e3 : wrap64 (((2 ^ j : Nat) : Int) - 1) = ((2 ^ j : Nat) : Int) - 1 := wrap_same (by omega) (by omega)
    have e4 : wrap64 ((i : Int) - (((2 ^ j : Nat) : Int) - 1)) = ((i - (2 ^ j - 1) : Nat) : Int) := by rw [wrap_same (by omega) (by omega)]; omega
    rw [e1, e2, e3, e4]
  | d + 1, a, k, ha, hk => by
    obtain ⟨k, rfl⟩ : ∃ m, k = m + 1 := ⟨k - 1, by omega⟩
    have hle : 2 ^ a ≤ 2 ^ j := Nat.pow_le_pow_right (by decide) (by omega)
    have hs : 2 ^ (a + 1) = 2 ^ a * 2 := Nat.pow_succ ..
    obtain ⟨k', e, h⟩ := luby_l1 hi h1 h2 d (a + 1) k (by omega) (by omega)
    refine ⟨k', by omega, ?_⟩
    simp only [heap_Luby.l1]
    rw [if_pos (by omega), wrap_same (by omega) (by omega), ← h, hs]
    simp
theorem luby_l0 {i r : Nat} (h : LubyIs i r) : i ≤ 1099511627776 → ∃ K, ∀ k, K ≤ k → heap_Luby.l0 k (i : Int) = some (r : Int) := by
  induction h with
  | top j =>
    intro hi
    have hp : 1 ≤ 2 ^ j := Nat.one_le_two_pow
    have hs : 2 ^ (j + 1) = 2 * 2 ^ j := by rw [Nat.pow_succ, Nat.mul_comm]
    refine ⟨j + 4, fun k hk => ?_⟩
    obtain ⟨k, rfl⟩ : ∃ m, k = m + 1 := ⟨k - 1, by omega⟩
    obtain ⟨k', _, h⟩ := luby_l1 (j := j) hi (by omega) (by omega) (j + 1) 0 k (by omega) (by omega)
    simp only [heap_Luby.l0]
    rw [if_pos rfl] at h
    exact h
  | fall h1 h2 h ih =>
    rename_i j i r
    intro hi
    have hp : 1 ≤ 2 ^ j := Nat.one_le_two_pow
    obtain ⟨K, hK⟩ := ih (by omega)
    refine ⟨K + j + 4, fun k hk => ?_⟩
    obtain ⟨k, rfl⟩ : ∃ m, k = m + 1 := ⟨k - 1, by omega⟩
    obtain ⟨k', e, h⟩ := luby_l1 (j := j) hi h1 (by omega) (j + 1) 0 k (by omega) (by omega)
    simp only [heap_Luby.l0]
    rw [if_neg (by omega)] at h
    rw [← hK k' (by omega)]
    exact h
theorem luby_f {i r : Nat} (h : LubyIs i r) (hi : i ≤ 1099511627776) (h1 : 1 ≤ i) : ∃ k, heap_Luby.f k (i : Int) = some (r : Int) := by
  obtain ⟨K, hK⟩ := luby_l0 h hi
  refine ⟨K + 1, ?_⟩
  unfold heap_Luby.f
  rw [if_neg (by omega), show decide ((i : Int) > 1099511627776) = false from decide_eq_false (by omega)]
  simp only [heap_Luby.j0]
  rw [if_neg (by simp)]
  exact hK K (Nat.le_refl _)
end Go.Proofs.Ytobadajeekdakaa.Print
