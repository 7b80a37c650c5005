/- The Luby sequence, in plain words, and what heap.Luby answers. The reference's Check, New, Ints, Same, Luby (layer 21), in plain words. New, Ints, Same, Luby of the reference (layer 21), in plain words. chalklinelaw21.HeapCheckSpec: its contract: it answers true. HeapCheckSpec in plain words: the walk shows that the law answers true. -/
import Derived.Test.YtobadajeekdakaaF63
import Derived.Test.YtobadajeekdakaaF141
import Derived.Test.YtobadajeekdakaaF64
import Derived.Test.YtobadajeekdakaaF67
import Derived.Test.YtobadajeekdakaaHG
import Derived.Test.YtobadajeekdakaaF62
import Derived.Test.YtobadajeekdakaaHQ
namespace Go.Proofs.Ytobadajeekdakaa.Print
open Go.RowKit Go.Proofs.YtobadajeekdakaaW.PrintWords Go.Proofs.YtobadajeekdakaaW.PrintLast Go.Proofs.YtobadajeekdakaaW.PrintMore
set_option linter.unusedVariables false

/-- r is the i-th element of the Luby sequence. -/
inductive LubyIs : Nat → Nat → Prop where
  | top (j : Nat) : LubyIs (2 ^ (j + 1) - 1) (2 ^ j)
  | fall {j i r : Nat} (h1 : 2 ^ j ≤ i) (h2 : i < 2 ^ (j + 1) - 1) (h : LubyIs (i - (2 ^ j - 1)) r) : LubyIs i r
theorem LubyIs.some : ∀ (n i : Nat), i ≤ n → 1 ≤ i → ∃ r, LubyIs i r
  | 0, i, h, h1 => absurd h1 (by omega)
  | n + 1, i, h, h1 => by
    have hb : ∃ j, 2 ^ j ≤ i ∧ i < 2 ^ (j + 1) := ⟨Nat.log2 i, Nat.log2_self_le (by omega), Nat.lt_log2_self⟩
    obtain ⟨j, h2, h3⟩ := hb
    by_cases he : i = 2 ^ (j + 1) - 1
    · exact ⟨_, he ▸ LubyIs.top j⟩
    · have hp : 1 ≤ 2 ^ j := Nat.one_le_two_pow
      have hj : 2 ≤ 2 ^ j ∨ j = 0 := by
        cases j with
        | zero => exact .inr rfl
        | succ j => exact .inl (by have := Nat.one_le_two_pow (n := j); rw [Nat.pow_succ]; omega)
      rcases hj with hj | rfl
      · obtain ⟨r, hr⟩ := LubyIs.some n (i - (2 ^ j - 1)) (by omega) (by omega)
        exact ⟨r, .fall h2 (by omega) hr⟩
      · simp at h3 he; omega
theorem two_pow_inj {j i k : Nat} (h1 : 2 ^ j ≤ i) (h2 : i < 2 ^ (j + 1)) (h3 : 2 ^ k ≤ i) (h4 : i < 2 ^ (k + 1)) : j = k := by
  have a : j < k + 1 := (Nat.pow_lt_pow_iff_right (by decide)).1 (Nat.lt_of_le_of_lt h1 h4)
  have b : k < j + 1 := (Nat.pow_lt_pow_iff_right (by decide)).1 (Nat.lt_of_le_of_lt h3 h2)
  omega
theorem LubyIs.only {i r : Nat} (h : LubyIs i r) : ∀ {q : Nat}, LubyIs i q → q = r := by
  have ev : ∀ j : Nat, 2 ^ j ≤ 2 ^ (j + 1) - 1 := fun j => by have := Nat.one_le_two_pow (n := j); rw [Nat.pow_succ]; omega
  have lt : ∀ j : Nat, 2 ^ (j + 1) - 1 < 2 ^ (j + 1) := fun j => by have := Nat.one_le_two_pow (n := j + 1); omega
  induction h with
  | top j =>
    intro q hq
    generalize hi : 2 ^ (j + 1) - 1 = i at hq
    cases hq with
    | top k =>
      have := two_pow_inj (ev j) (lt j) (by rw [hi]; exact ev k) (by rw [hi]; exact lt k)
      rw [this]
    | fall h1 h2 h =>
      rename_i k
      have := two_pow_inj (ev j) (lt j) (k := k) (by omega) (by omega)
      subst this
      omega
  | fall h1 h2 h ih =>
    rename_i j i r
    intro q hq
    cases hq with
    | top k =>
      have := two_pow_inj h1 (by omega) (ev k) (lt k)
      subst this
      omega
    | fall h3 h4 h5 =>
      rename_i k
      have := two_pow_inj h1 (by omega) h3 (by omega)
      subst this
      exact ih h5
/-! ### heap.Luby -/
theorem wrap_same {x : Int} (h1 : -9223372036854775808 ≤ x) (h2 : x ≤ 9223372036854775807) : wrap64 x = x := by unfold wrap64; omega
/-- The search for the power: from 2^a on, to the least power greater than i. -/
theorem luby_l1 {i j : Nat} (hi : i ≤ 1099511627776) (h1 : 2 ^ j ≤ i) (h2 : i < 2 ^ (j + 1)) : ∀ (d a k : Nat), a + d = j + 1 → d < k →
    ∃ k', k = k' + d + 1 ∧ heap_Luby.l1 k i ((2 ^ a : Nat) : Int) = (if (i : Int) = ((2 ^ (j + 1) - 1 : Nat) : Int) then some ((2 ^ j : Nat) : Int) else heap_Luby.l0 k' (((i - (2 ^ j - 1) : Nat) : Int)))
  | 0, a, k, ha, hk => by
    obtain ⟨k, rfl⟩ : ∃ m, k = m + 1 := ⟨k - 1, by omega⟩
    refine ⟨k, by omega, ?_⟩
    obtain rfl : a = j + 1 := by omega
    have hp : 1 ≤ 2 ^ j := Nat.one_le_two_pow
    have hs : 2 ^ (j + 1) = 2 * 2 ^ j := by rw [Nat.pow_succ, Nat.mul_comm]
    have hjb : 2 ^ j ≤ 1099511627776 := by omega
    simp only [heap_Luby.l1]
    rw [if_neg (by omega)]
    have e1 : wrap64 (((2 ^ (j + 1) : Nat) : Int) - 1) = ((2 ^ (j + 1) - 1 : Nat) : Int) := by rw [wrap_same (by omega) (by omega)]; omega
    have e2 : ((2 ^ (j + 1) : Nat) : Int) / 2 = ((2 ^ j : Nat) : Int) := by omega
    have e3 : wrap64 (((2 ^ j : Nat) : Int) - 1) = ((2 ^ j : Nat) : Int) - 1 := wrap_same (by omega) (by omega)
    have e4 : wrap64 ((i : Int) - (((2 ^ j : Nat) : Int) - 1)) = ((i - (2 ^ j - 1) : Nat) : Int) := by rw [wrap_same (by omega) (by omega)]; omega
    rw [e1, e2, e3, e4]
  | d + 1, a, k, ha, hk => by
    obtain ⟨k, rfl⟩ : ∃ m, k = m + 1 := ⟨k - 1, by omega⟩
    have hle : 2 ^ a ≤ 2 ^ j := Nat.pow_le_pow_right (by decide) (by omega)
    have hs : 2 ^ (a + 1) = 2 ^ a * 2 := Nat.pow_succ ..
    obtain ⟨k', e, h⟩ := luby_l1 hi h1 h2 d (a + 1) k (by omega) (by omega)
    refine ⟨k', by omega, ?_⟩
    simp only [heap_Luby.l1]
    rw [if_pos (by omega), wrap_same (by omega) (by omega), ← h, hs]
    simp
theorem luby_l0 {i r : Nat} (h : LubyIs i r) : i ≤ 1099511627776 → ∃ K, ∀ k, K ≤ k → heap_Luby.l0 k (i : Int) = some (r : Int) := by
  induction h with
  | top j =>
    intro hi
    have hp : 1 ≤ 2 ^ j := Nat.one_le_two_pow
    have hs : 2 ^ (j + 1) = 2 * 2 ^ j := by rw [Nat.pow_succ, Nat.mul_comm]
    refine ⟨j + 4, fun k hk => ?_⟩
    obtain ⟨k, rfl⟩ : ∃ m, k = m + 1 := ⟨k - 1, by omega⟩
    obtain ⟨k', _, h⟩ := luby_l1 (j := j) hi (by omega) (by omega) (j + 1) 0 k (by omega) (by omega)
    simp only [heap_Luby.l0]
    rw [if_pos rfl] at h
    exact h
  | fall h1 h2 h ih =>
    rename_i j i r
    intro hi
    have hp : 1 ≤ 2 ^ j := Nat.one_le_two_pow
    obtain ⟨K, hK⟩ := ih (by omega)
    refine ⟨K + j + 4, fun k hk => ?_⟩
    obtain ⟨k, rfl⟩ : ∃ m, k = m + 1 := ⟨k - 1, by omega⟩
    obtain ⟨k', e, h⟩ := luby_l1 (j := j) hi h1 (by omega) (j + 1) 0 k (by omega) (by omega)
    simp only [heap_Luby.l0]
    rw [if_neg (by omega)] at h
    rw [← hK k' (by omega)]
    exact h
theorem luby_f {i r : Nat} (h : LubyIs i r) (hi : i ≤ 1099511627776) (h1 : 1 ≤ i) : ∃ k, heap_Luby.f k (i : Int) = some (r : Int) := by
  obtain ⟨K, hK⟩ := luby_l0 h hi
  refine ⟨K + 1, ?_⟩
  unfold heap_Luby.f
  rw [if_neg (by omega), show decide ((i : Int) > 1099511627776) = false from decide_eq_false (by omega)]
  simp only [heap_Luby.j0]
  rw [if_neg (by simp)]
  exact hK K (Nat.le_refl _)
theorem luby_f_no {n : Int} (h : n < 1 ∨ 1099511627776 < n) : heap_Luby.f 1 n = some 0 := by
  unfold heap_Luby.f
  rcases h with h | h
  · rw [if_pos h]; rfl
  · rw [if_neg (by omega), show decide (n > 1099511627776) = true from decide_eq_true h]; rfl
end Go.Proofs.Ytobadajeekdakaa.Print

namespace Go.Proofs.Ytobadajeekdakaa.Print
open Go.RowKit Go.Proofs.YtobadajeekdakaaW.PrintWords Go.Proofs.YtobadajeekdakaaW.PrintLast Go.Proofs.YtobadajeekdakaaW.PrintMore
set_option linter.unusedVariables false

theorem ref_variable (act l : List Int) (b v : Int) : chalklineref21_variable.f act l b v = some (knownB' act v) := by
  unfold chalklineref21_variable.f knownB'
  by_cases h : v ≥ 1
  · rw [if_pos h]
    congr 1
    rw [decide_eq_decide]
    omega
  · rw [if_neg h, decide_eq_false (by omega)]
theorem ref_ahead {act l : List Int} {b x y : Int} (hx : 0 ≤ x ∧ x < act.length) (hy : 0 ≤ y ∧ y < act.length) : chalklineref21_Ahead.f act l b x y = some (decide (ordV act x y < 0)) := by
  unfold chalklineref21_Ahead.f
  rw [if_pos hx.1, if_pos hx.2, if_pos hy.1, if_pos hy.2]
  by_cases h1 : rd act x > rd act y
  · rw [if_pos h1, decide_eq_true (ordV_neg.2 (.inl h1))]
  · rw [if_neg h1]
    by_cases h2 : rd act x = rd act y
    · rw [if_pos h2]
      congr 1
      rw [decide_eq_decide, ordV_neg]
      omega
    · rw [if_neg h2, decide_eq_false (by rw [ordV_neg]; omega)]
theorem knownB'_iff {act : List Int} {v : Int} : knownB' act v = true ↔ 0 < v ∧ v < act.length := by simp [knownB']
theorem ref_check_l1 (act l : List Int) (b : Int) (hl : l.length ≤ 100000) : ∀ (d i k : Nat), i + d = l.length → d < k → (∀ j, j < i → placeB act l j = true) →
    chalklineref21_Check.l1 k (i : Int) act l b = some (if rowOkB act l = true then 0 else 1)
  | 0, i, k, hi, hk, hp => by
    obtain ⟨k, rfl⟩ : ∃ m, k = m + 1 := ⟨k - 1, by omega⟩
    simp only [chalklineref21_Check.l1]
    rw [if_neg (by omega), if_pos (by
      unfold rowOkB
      rw [List.all_eq_true]
      exact fun j hj => hp j (by have := List.mem_range.1 hj; omega))]
  | d + 1, i, k, hi, hk, hp => by
    obtain ⟨k, rfl⟩ : ∃ m, k = m + 1 := ⟨k - 1, by omega⟩
    have hstep := ref_check_l1 act l b hl d (i + 1) k (by omega) (by omega)
    have hbad : placeB act l i = false → rowOkB act l = false := fun h => by
      rw [← Bool.not_eq_true]
      intro hh
      unfold rowOkB at hh
      rw [List.all_eq_true] at hh
      rw [hh i (List.mem_range.2 (by omega))] at h
      cases h
    have hnext : wrap64 ((i : Int) + 1) = ((i + 1 : Nat) : Int) := by rw [wrap_same (by omega) (by omega)]; omega
    simp only [chalklineref21_Check.l1]
    rw [if_pos (by omega), if_pos (by omega), ref_variable]
    simp only [Option.bind_some]
    by_cases hkn : knownB' act (rd l (i : Int)) = true
    · rw [if_pos hkn]
      by_cases h0 : (i : Int) > 0
      · have hw : wrap64 ((i : Int) - 1) = (i : Int) - 1 := wrap_same (by omega) (by omega)
        have hprev : knownB' act (rd l ((i : Int) - 1)) = true := by
          have := hp (i - 1) (by omega)
          unfold placeB at this
          rw [Bool.and_eq_true] at this
          rw [show ((i - 1 : Nat) : Int) = (i : Int) - 1 by omega] at this
          exact this.1
        have k1 := knownB'_iff.1 hkn
        have k2 := knownB'_iff.1 hprev
        rw [if_pos h0, hw, if_pos (by omega), if_pos (by omega), ref_ahead ⟨by omega, k2.2⟩ ⟨by omega, k1.2⟩]
        simp only [Option.bind_some]
        by_cases ho : ordV act (rd l ((i : Int) - 1)) (rd l (i : Int)) < 0
        · rw [if_pos (decide_eq_true ho), hnext]
          refine hstep fun j hj => ?_
          rcases Nat.lt_succ_iff_lt_or_eq.mp hj with h | rfl
          · exact hp j h
          · unfold placeB; rw [hkn]; simp [ho]
        · rw [if_neg (by simpa using ho), hbad (by unfold placeB; rw [hkn]; simp [ho]; omega), if_neg (by simp)]
      · rw [if_neg h0, hnext]
        refine hstep fun j hj => ?_
        rcases Nat.lt_succ_iff_lt_or_eq.mp hj with h | rfl
        · exact hp j h
        · unfold placeB; rw [hkn]; simp; omega
    · rw [if_neg hkn, hbad (by unfold placeB; rw [Bool.not_eq_true] at hkn; rw [hkn]; rfl), if_neg (by simp)]
theorem ref_check_l0 (act l : List Int) (b : Int) (ha : act.length ≤ 100000) (hl : l.length ≤ 100000) : ∀ (d i k : Nat), i + d = act.length → d + l.length + 2 < k →
    chalklineref21_Check.l0 k (i : Int) act l b = some (if (act.drop i).any oddB = true then 1 else if rowOkB act l = true then 0 else 1)
  | 0, i, k, hi, hk => by
    obtain ⟨k, rfl⟩ : ∃ m, k = m + 1 := ⟨k - 1, by omega⟩
    simp only [chalklineref21_Check.l0]
    rw [if_neg (by omega), List.drop_eq_nil_of_le (by omega)]
    simp only [List.any_nil, Bool.false_eq_true, if_false]
    exact ref_check_l1 act l b hl l.length 0 k (by omega) (by omega) (fun j hj => absurd hj (Nat.not_lt_zero _))
  | d + 1, i, k, hi, hk => by
    obtain ⟨k, rfl⟩ : ∃ m, k = m + 1 := ⟨k - 1, by omega⟩
    have hnext : wrap64 ((i : Int) + 1) = ((i + 1 : Nat) : Int) := by rw [wrap_same (by omega) (by omega)]; omega
    have hil : i < act.length := by omega
    simp only [chalklineref21_Check.l0]
    rw [if_pos (by omega), if_pos (by omega), List.drop_eq_getElem_cons hil, List.any_cons, rd_get' hil]
    by_cases h1 : act[i] < 0
    · rw [if_pos h1, show oddB act[i] = true by simp [oddB, h1]]; rfl
    · rw [if_neg h1]
      by_cases h2 : act[i] > 1099511627776
      · rw [if_pos h2, show oddB act[i] = true by simp [oddB]; omega]; rfl
      · rw [if_neg h2, hnext, ref_check_l0 act l b ha hl d (i + 1) k (by omega) (by omega), show oddB act[i] = false by simp [oddB]; omega, Bool.false_or]
where rd_get' {ys : List Int} {i : Nat} (h : i < ys.length) : rd ys (i : Int) = ys[i] := by simp [rd, List.getElem?_eq_getElem h]
theorem ref_check (act l : List Int) (b : Int) (ha : act.length ≤ 100000) (hl : l.length ≤ 100000) : ∀ k, act.length + l.length + 4 < k → chalklineref21_Check.f k act l b = some (hpCheckV act l b) := by
  intro k hk
  obtain ⟨k, rfl⟩ : ∃ m, k = m + 1 := ⟨k - 1, by omega⟩
  unfold chalklineref21_Check.f hpCheckV
  by_cases h1 : act.length = 0
  · rw [if_pos (by omega), if_pos (.inl h1)]; rfl
  · rw [if_neg (by omega)]
    by_cases h2 : 65537 < act.length
    · rw [if_pos (by omega), if_pos (.inr (.inl h2))]; rfl
    · rw [if_neg (by omega), if_pos (by omega)]
      by_cases h3 : rd act 0 = 0
      · rw [if_pos h3]
        have hneg : ¬ act.any oddB = true → ¬ (act.length = 0 ∨ 65537 < act.length ∨ rd act 0 ≠ 0 ∨ act.any oddB = true) := by
          rintro h (h' | h' | h' | h')
          · exact h1 h'
          · exact h2 h'
          · exact h' h3
          · exact h h'
        by_cases h4 : b < 1
        · rw [if_pos h4]
          simp only [chalklineref21_Check.j0, if_true]
          by_cases h5 : act.any oddB = true
          · rw [if_pos (.inr (.inr (.inr h5)))]
          · rw [if_neg (hneg h5), if_pos (show b = 0 ∨ oddB b = true by simp only [oddB, decide_eq_true_eq]; omega)]
        · rw [if_neg h4]
          simp only [chalklineref21_Check.j0]
          by_cases h6 : b > 1099511627776
          · rw [if_pos (decide_eq_true h6)]
            by_cases h5 : act.any oddB = true
            · rw [if_pos (.inr (.inr (.inr h5)))]
            · rw [if_neg (hneg h5), if_pos (show b = 0 ∨ oddB b = true by simp only [oddB, decide_eq_true_eq]; omega)]
          · rw [if_neg (by simpa using h6)]
            have := ref_check_l0 act l b ha hl act.length 0 k (by omega) (by omega)
            rw [List.drop_zero] at this
            rw [show ((0 : Nat) : Int) = 0 from rfl] at this
            rw [this]
            by_cases h5 : act.any oddB = true
            · rw [if_pos h5, if_pos (.inr (.inr (.inr h5)))]
            · rw [if_neg h5, if_neg (hneg h5), if_neg (show ¬ (b = 0 ∨ oddB b = true) by simp only [oddB, decide_eq_true_eq]; omega)]
      · rw [if_neg h3, if_pos (.inr (.inr (.inl h3)))]; rfl
end Go.Proofs.Ytobadajeekdakaa.Print

namespace Go.Proofs.Ytobadajeekdakaa.Print
open Go.RowKit Go.Proofs.YtobadajeekdakaaW.PrintWords Go.Proofs.YtobadajeekdakaaW.PrintLast Go.Proofs.YtobadajeekdakaaW.PrintMore
set_option linter.unusedVariables false

def fromTo (v : Int) (d : Nat) : List Int := (List.range d).map (fun j : Nat => v + (j : Int))
theorem fromTo_zero (v : Int) : fromTo v 0 = [] := rfl
theorem fromTo_succ (v : Int) (d : Nat) : fromTo v (d + 1) = v :: fromTo (v + 1) d := by
  unfold fromTo
  rw [List.range_succ_eq_map, List.map_cons, List.map_map]
  congr 1
  · simp
  · apply List.map_congr_left
    intro j _
    simp only [Function.comp]
    omega
def newV (n : Int) : List Int × List Int × Int × Int := if n < 0 ∨ 65536 < n then ([], [], 0, 1) else (List.replicate (n.toNat + 1) 0, fromTo 1 n.toNat, 1, 0)
theorem heap_new_l0 (n : Nat) (hn : n ≤ 65536) (A : List Int) : ∀ (d v k : Nat) (L : List Int), v + d = n → d < k → L.length ≤ v → heap_New.l0 k (n : Int) (v : Int) A L 1 = some (A, L ++ fromTo ((v : Int) + 1) d, 1, 0)
  | 0, v, k, L, hv, hk, hL => by
    obtain ⟨k, rfl⟩ : ∃ m, k = m + 1 := ⟨k - 1, by omega⟩
    simp only [heap_New.l0]
    rw [if_neg (by omega), fromTo_zero, List.append_nil]
  | d + 1, v, k, L, hv, hk, hL => by
    obtain ⟨k, rfl⟩ : ∃ m, k = m + 1 := ⟨k - 1, by omega⟩
    have hw : wrap64 ((v : Int) + 1) = ((v + 1 : Nat) : Int) := by rw [wrap_same (by omega) (by omega)]; omega
    simp only [heap_New.l0]
    rw [if_pos (by omega), if_pos (by omega), hw, heap_new_l0 n hn A d (v + 1) k _ (by omega) (by omega) (by simp; omega), fromTo_succ]
    simp
theorem heap_new (n : Int) : ∀ k, n.toNat + 4 < k → heap_New.f k n = some (newV n) := by
  intro k hk
  obtain ⟨k, rfl⟩ : ∃ m, k = m + 1 := ⟨k - 1, by omega⟩
  unfold heap_New.f newV
  by_cases h : n < 0
  · rw [if_pos h, if_pos (.inl h)]; rfl
  · rw [if_neg h]
    simp only [heap_New.j0]
    by_cases h2 : n > 65536
    · rw [if_pos (decide_eq_true h2), if_pos (.inr h2)]
    · have hw : wrap64 (n + 1) = n + 1 := wrap_same (by omega) (by omega)
      rw [if_neg (by simpa using h2), hw, if_pos (by omega), if_pos (by omega), if_neg (show ¬ (n < 0 ∨ 65536 < n) by omega)]
      obtain ⟨m, rfl⟩ : ∃ m : Nat, n = (m : Int) := ⟨n.toNat, by omega⟩
      have := heap_new_l0 m (by omega) (List.replicate ((m : Int) + 1).toNat 0) m 0 k [] (by omega) (by omega) (by simp)
      rw [show ((0 : Nat) : Int) = 0 from rfl] at this
      rw [this]
      simp only [Int.toNat_natCast, List.nil_append]
      rw [show ((m : Int) + 1).toNat = m + 1 by omega]
      rfl
theorem ref_new_l0 (n : Nat) (hn : n ≤ 65536) : ∀ (d v k : Nat) (A L : List Int), v + d = n + 1 → d < k → A.length ≤ v → L.length ≤ v → chalklineref21_New.l0 k (n : Int) (v : Int) A L 1 = some (A ++ List.replicate d 0, L ++ fromTo (v : Int) d, 1, 0)
  | 0, v, k, A, L, hv, hk, hA, hL => by
    obtain ⟨k, rfl⟩ : ∃ m, k = m + 1 := ⟨k - 1, by omega⟩
    simp only [chalklineref21_New.l0]
    rw [if_neg (by omega), fromTo_zero, List.append_nil, List.replicate_zero, List.append_nil]
  | d + 1, v, k, A, L, hv, hk, hA, hL => by
    obtain ⟨k, rfl⟩ : ∃ m, k = m + 1 := ⟨k - 1, by omega⟩
    have hw : wrap64 ((v : Int) + 1) = ((v + 1 : Nat) : Int) := by rw [wrap_same (by omega) (by omega)]; omega
    simp only [chalklineref21_New.l0]
    rw [if_pos (by omega), if_pos (by omega), if_pos (by omega), hw, ref_new_l0 n hn d (v + 1) k _ _ (by omega) (by omega) (by simp; omega) (by simp; omega), fromTo_succ, List.replicate_succ]
    simp
theorem ref_new (n : Int) : ∀ k, n.toNat + 6 < k → chalklineref21_New.f k n = some (newV n) := by
  intro k hk
  obtain ⟨k, rfl⟩ : ∃ m, k = m + 1 := ⟨k - 1, by omega⟩
  unfold chalklineref21_New.f newV
  by_cases h : n < 0
  · rw [if_pos h, if_pos (.inl h)]; rfl
  · rw [if_neg h]
    simp only [chalklineref21_New.j0]
    by_cases h2 : n > 65536
    · rw [if_pos (decide_eq_true h2), if_pos (.inr h2)]
    · rw [if_neg (by simpa using h2), if_neg (show ¬ (n < 0 ∨ 65536 < n) by omega)]
      obtain ⟨m, rfl⟩ : ∃ m : Nat, n = (m : Int) := ⟨n.toNat, by omega⟩
      have := ref_new_l0 m (by omega) m 1 k [0] [] (by omega) (by omega) (by simp) (by simp)
      rw [show ((1 : Nat) : Int) = 1 from rfl] at this
      rw [this, Int.toNat_natCast]
      simp [List.replicate_succ]
theorem ref_ints_l0 (xs : List Int) (hx : xs.length ≤ 9223372036854775806) : ∀ (d i k : Nat), i + d = xs.length → d < k → chalklineref21_Ints.l0 k xs xs (i : Int) = some true
  | 0, i, k, hi, hk => by
    obtain ⟨k, rfl⟩ : ∃ m, k = m + 1 := ⟨k - 1, by omega⟩
    simp only [chalklineref21_Ints.l0]
    rw [if_neg (by omega)]
  | d + 1, i, k, hi, hk => by
    obtain ⟨k, rfl⟩ : ∃ m, k = m + 1 := ⟨k - 1, by omega⟩
    have hw : wrap64 ((i : Int) + 1) = ((i + 1 : Nat) : Int) := by rw [wrap_same (by omega) (by omega)]; omega
    simp only [chalklineref21_Ints.l0]
    rw [if_pos (by omega), if_pos (by omega), if_pos (by omega), if_pos trivial, hw]
    exact ref_ints_l0 xs hx d (i + 1) k (by omega) (by omega)
theorem ref_ints (xs : List Int) (hx : xs.length ≤ 9223372036854775806) : ∀ k, xs.length < k → chalklineref21_Ints.f k xs xs = some true := by
  intro k hk
  unfold chalklineref21_Ints.f
  rw [if_pos rfl]
  exact ref_ints_l0 xs hx xs.length 0 k (by omega) hk
theorem ref_same (A L : List Int) (b : Int) (hA : A.length ≤ 9223372036854775806) (hL : L.length ≤ 9223372036854775806) : ∀ k, A.length + L.length < k → chalklineref21_Same.f k A L b A L b = some true := by
  intro k hk
  unfold chalklineref21_Same.f
  rw [ref_ints A hA k (by omega)]
  simp only [Option.bind_some, if_true]
  rw [ref_ints L hL k (by omega)]
  simp
theorem refluby_l1 {i j : Nat} (hi : i ≤ 1099511627776) (h1 : 2 ^ j ≤ i) (h2 : i < 2 ^ (j + 1)) : ∀ (d a k : Nat), a + d = j + 1 → d < k →
    ∃ k', k = k' + d + 1 ∧ chalklineref21_Luby.l0 k i ((2 ^ a : Nat) : Int) = (if (i : Int) = ((2 ^ (j + 1) - 1 : Nat) : Int) then some ((2 ^ j : Nat) : Int) else chalklineref21_Luby.f k' (((i - (2 ^ j - 1) : Nat) : Int)))
  | 0, a, k, ha, hk => by
    obtain ⟨k, rfl⟩ : ∃ m, k = m + 1 := ⟨k - 1, by omega⟩
    refine ⟨k, by omega, ?_⟩
    obtain rfl : a = j + 1 := by omega
    have hp : 1 ≤ 2 ^ j := Nat.one_le_two_pow
    have hs : 2 ^ (j + 1) = 2 * 2 ^ j := by rw [Nat.pow_succ, Nat.mul_comm]
    have hjb : 2 ^ j ≤ 1099511627776 := by omega
    simp only [chalklineref21_Luby.l0]
    rw [if_neg (by omega)]
    have e1 : wrap64 (((2 ^ (j + 1) : Nat) : Int) - 1) = ((2 ^ (j + 1) - 1 : Nat) : Int) := by rw [wrap_same (by omega) (by omega)]; omega
    have e2 : wrap64 (Int.tdiv ((2 ^ (j + 1) : Nat) : Int) 2) = ((2 ^ j : Nat) : Int) := by rw [Int.tdiv_eq_ediv_of_nonneg (by omega), wrap_same (by omega) (by omega)]; omega
    have e3 : wrap64 ((i : Int) - ((2 ^ j : Nat) : Int)) = (i : Int) - ((2 ^ j : Nat) : Int) := wrap_same (by omega) (by omega)
    have e4 : wrap64 ((i : Int) - ((2 ^ j : Nat) : Int) + 1) = ((i - (2 ^ j - 1) : Nat) : Int) := by rw [wrap_same (by omega) (by omega)]; omega
    rw [e1, e2, e3, e4]
    split
    · rfl
    · cases chalklineref21_Luby.f k ((i - (2 ^ j - 1) : Nat) : Int) <;> rfl
  | d + 1, a, k, ha, hk => by
    obtain ⟨k, rfl⟩ : ∃ m, k = m + 1 := ⟨k - 1, by omega⟩
    have hle : 2 ^ a ≤ 2 ^ j := Nat.pow_le_pow_right (by decide) (by omega)
    have hs : 2 ^ (a + 1) = 2 * 2 ^ a := by rw [Nat.pow_succ, Nat.mul_comm]
    obtain ⟨k', e, h⟩ := refluby_l1 hi h1 h2 d (a + 1) k (by omega) (by omega)
    refine ⟨k', by omega, ?_⟩
    simp only [chalklineref21_Luby.l0]
    rw [if_pos (by omega), wrap_same (by omega) (by omega), ← h, hs]
    simp
theorem refluby {i r : Nat} (h : LubyIs i r) : 1 ≤ i → i ≤ 1099511627776 → ∃ K, ∀ k, K ≤ k → chalklineref21_Luby.f k (i : Int) = some (r : Int) := by
  have start : ∀ (i k : Nat), 1 ≤ i → i ≤ 1099511627776 → chalklineref21_Luby.f (k + 2) (i : Int) = chalklineref21_Luby.l0 k (i : Int) 1 := fun i k h1 h2 => by
    simp only [chalklineref21_Luby.f]
    rw [if_neg (by omega)]
    simp only [chalklineref21_Luby.j0]
    rw [if_neg (by simp; omega)]
  induction h with
  | top j =>
    intro h1 hi
    have hp : 1 ≤ 2 ^ j := Nat.one_le_two_pow
    have hs : 2 ^ (j + 1) = 2 * 2 ^ j := by rw [Nat.pow_succ, Nat.mul_comm]
    refine ⟨j + 6, fun k hk => ?_⟩
    obtain ⟨k, rfl⟩ : ∃ m, k = m + 2 := ⟨k - 2, by omega⟩
    obtain ⟨k', _, h⟩ := refluby_l1 (j := j) hi (by omega) (by omega) (j + 1) 0 k (by omega) (by omega)
    rw [start _ _ h1 hi]
    rw [if_pos rfl] at h
    exact h
  | fall h1 h2 h ih =>
    rename_i j i r
    intro h0 hi
    have hp : 1 ≤ 2 ^ j := Nat.one_le_two_pow
    obtain ⟨K, hK⟩ := ih (by omega) (by omega)
    refine ⟨K + j + 8, fun k hk => ?_⟩
    obtain ⟨k, rfl⟩ : ∃ m, k = m + 2 := ⟨k - 2, by omega⟩
    obtain ⟨k', e, h⟩ := refluby_l1 (j := j) hi h1 (by omega) (j + 1) 0 k (by omega) (by omega)
    rw [start _ _ h0 hi]
    rw [if_neg (by omega)] at h
    rw [← hK k' (by omega)]
    exact h
theorem refluby_no {n : Int} (h : n < 1 ∨ 1099511627776 < n) : chalklineref21_Luby.f 2 n = some 0 := by
  simp only [chalklineref21_Luby.f]
  rcases h with h | h
  · rw [if_pos h]; rfl
  · rw [if_neg (by omega), show decide (n > 1099511627776) = true from decide_eq_true h]; rfl
theorem both_luby (n : Int) : ∃ k k' r, heap_Luby.f k n = some r ∧ chalklineref21_Luby.f k' n = some r := by
  by_cases h : n < 1 ∨ 1099511627776 < n
  · exact ⟨1, 2, 0, luby_f_no h, refluby_no h⟩
  · obtain ⟨i, rfl⟩ : ∃ i : Nat, n = (i : Int) := ⟨n.toNat, by omega⟩
    obtain ⟨r, hr⟩ := LubyIs.some i i (Nat.le_refl _) (by omega)
    obtain ⟨k, hk⟩ := luby_f hr (by omega) (by omega)
    obtain ⟨K, hK⟩ := refluby hr (by omega) (by omega)
    exact ⟨k, K, r, hk, hK K (Nat.le_refl _)⟩
end Go.Proofs.Ytobadajeekdakaa.Print

namespace Go.Proofs.Ytobadajeekdakaa.Print
open Go.RowKit Go.Proofs.YtobadajeekdakaaW.PrintWords Go.Proofs.YtobadajeekdakaaW.PrintLast Go.Proofs.YtobadajeekdakaaW.PrintMore
set_option linter.unusedVariables false
set_option linter.unusedSimpArgs false

theorem few_heap (A0_0 : Option Addr) (c0_0 : Nat) (l0_0 : List Int) (A0_1 : Option Addr) (c0_1 : Nat) (l0_1 : List Int) (a0_2 : Int) (w : World) (hr0_0 : Kd.C (Kd.int .i64) w A0_0 l0_0.length l0_0) (hc0_0 : l0_0.length ≤ c0_0) (hr0_1 : Kd.C (Kd.int .i64) w A0_1 l0_1.length l0_1) (hc0_1 : l0_1.length ≤ c0_1) (b : Bool) (hb : decide (l0_0.length ≤ 60 ∧ l0_1.length ≤ 60) = b) :
    Calls Try.prog 62 #[.agg #[.slice A0_0 l0_0.length c0_0, .slice A0_1 l0_1.length c0_1, .int .i64 a0_2]] w fun e w' => e = .returned (.bool b) ∧ Below w.heap.size w w' := by
  refine chalklineref21_Few.calls A0_0 c0_0 l0_0 A0_1 c0_1 l0_1 a0_2 b w hr0_0 hc0_0 hr0_1 hc0_1 ?_
  unfold chalklineref21_Few.f
  rw [← hb]
  by_cases h : l0_0.length ≤ 60
  · rw [if_pos (by omega)]
    congr 1
    rw [decide_eq_decide]
    omega
  · rw [if_neg (by omega), decide_eq_false (by omega)]
/-- Three heaps in memory. -/
structure ThreeH (W : World) (g1 g2 g3 : Nat) (A1 B1 : Option Addr) (c1 d1 : Nat) (act1 l1 : List Int) (b1 : Int) (A2 B2 : Option Addr) (c2 d2 : Nat) (act2 l2 : List Int) (b2 : Int) (A3 B3 : Option Addr) (c3 d3 : Nat) (act3 l3 : List Int) (b3 : Int) : Prop where
  h1 : HeapAt W g1 A1 B1 c1 d1 act1 l1 b1
  h2 : HeapAt W g2 A2 B2 c2 d2 act2 l2 b2
  h3 : HeapAt W g3 A3 B3 c3 d3 act3 l3 b3

def chalklinelaw21_HeapCheckSpec.f (l0_0 l0_1 : List Int) (a0_2 a1 : Int) : Option Bool := some true
set_option maxHeartbeats 8000000 in
set_option maxRecDepth 100000 in
theorem chalklinelaw21_HeapCheckSpec.calls (A0_0 : Option Addr) (c0_0 : Nat) (l0_0 : List Int) (A0_1 : Option Addr) (c0_1 : Nat) (l0_1 : List Int) (a0_2 a1 : Int) (r : Bool) (w : World) (hr0_0 : Kd.C (Kd.int .i64) w A0_0 l0_0.length l0_0) (hc0_0 : l0_0.length ≤ c0_0) (hr0_1 : Kd.C (Kd.int .i64) w A0_1 l0_1.length l0_1) (hc0_1 : l0_1.length ≤ c0_1) (h : chalklinelaw21_HeapCheckSpec.f l0_0 l0_1 a0_2 a1 = some r) :
    Calls Try.prog 19 #[.agg #[.slice A0_0 l0_0.length c0_0, .slice A0_1 l0_1.length c0_1, .int .i64 a0_2], .int .i64 a1] w fun e w' => e = .returned (.bool r) ∧ Below w.heap.size w w' := by
  obtain rfl : true = r := Option.some.inj h
  have HC0 := Aside0.mk hc0_0
  have HC1 := Aside0.mk hc0_1
  have hk0 := blk_new w (.cells #[.slice A0_0 l0_0.length c0_0, .slice A0_1 l0_1.length c0_1, .int .i64 a0_2] 74 (0, 0))
  have HH : Aside0 (HeapAt (w.alloc (.cells #[.slice A0_0 l0_0.length c0_0, .slice A0_1 l0_1.length c0_1, .int .i64 a0_2] 74 (0, 0))) w.heap.size A0_0 A0_1 c0_0 c0_1 l0_0 l0_1 a0_2) := ⟨⟨hk0, Kd.C_alloc hr0_0 _, Kd.C_alloc hr0_1 _, hc0_0, hc0_1⟩⟩
  have HT := Aside0.mk (below_alloc (Below.refl _ w) (.cells #[.slice A0_0 l0_0.length c0_0, .slice A0_1 l0_1.length c0_1, .int .i64 a0_2] 74 (0, 0)))
  clear h hk0 hr0_0 hr0_1 hc0_0 hc0_1
  obtain ⟨b, hb⟩ : ∃ b, decide (l0_0.length ≤ 60 ∧ l0_1.length ≤ 60) = b := ⟨_, rfl⟩
  have HB := Aside0.mk hb
  have hlive := fun W => chalklinelaw21_live.calls true W rfl
  have HLIVE := Aside0.mk hlive
  clear hlive
  cases b with
  | false =>
    clear hb
    go_enter Try.func19, Try.ntmps19
    go_upto_region 1 with (fail)
    generalize w.alloc (.cells #[.slice A0_0 l0_0.length c0_0, .slice A0_1 l0_1.length c0_1, .int .i64 a0_2] 74 (0, 0)) = w1 at HH HT ⊢
    go_upto_region 3 with (go_at_call 61; refine (HLIVE.out _).mono ?_; rintro e w2 ⟨rfl, hb⟩; have HH2 := Aside0.mk (HH.out.below hb); have HT2 := Aside0.mk (below_step HT.out hb); clear hb)
    have c0 : w2.cell? ⟨w.heap.size, 0, none⟩ = some (.slice A0_0 l0_0.length c0_0) := cell_in HH2.out.1 0 rfl
    have c1 : w2.cell? ⟨w.heap.size, 1, none⟩ = some (.slice A0_1 l0_1.length c0_1) := cell_in HH2.out.1 1 rfl
    have c2 : w2.cell? ⟨w.heap.size, 2, none⟩ = some (.int .i64 a0_2) := cell_in HH2.out.1 2 rfl
    go_wp2_with (go_at_call 62; refine (few_heap A0_0 c0_0 l0_0 A0_1 c0_1 l0_1 a0_2 _ HH2.out.2.1 HH2.out.2.2.2.1 HH2.out.2.2.1 HH2.out.2.2.2.2 false HB.out).mono ?_; rintro e w3 ⟨rfl, hb⟩; have HT3 := Aside0.mk (below_step HT2.out hb); clear hb)
    go_ret
    exact ⟨rfl, HT3.out⟩
  | true =>
    have hb' : l0_0.length ≤ 60 ∧ l0_1.length ≤ 60 := of_decide_eq_true hb
    have HSM := Aside0.mk hb'
    clear hb hb'
    by_cases hn : 100 < a1 ∧ a1 ≤ 65536
    · have hn1 : 100 < a1 := hn.1
      have hn2 : a1 ≤ 65536 := hn.2
      clear hn
      go_enter Try.func19, Try.ntmps19
      go_upto_region 1 with (fail)
      generalize w.alloc (.cells #[.slice A0_0 l0_0.length c0_0, .slice A0_1 l0_1.length c0_1, .int .i64 a0_2] 74 (0, 0)) = w1 at HH HT ⊢
      go_upto_region 3 with (go_at_call 61; refine (HLIVE.out _).mono ?_; rintro e w2 ⟨rfl, hb⟩; have HH2 := Aside0.mk (HH.out.below hb); have HT2 := Aside0.mk (below_step HT.out hb); clear hb)
      have c0 : w2.cell? ⟨w.heap.size, 0, none⟩ = some (.slice A0_0 l0_0.length c0_0) := cell_in HH2.out.1 0 rfl
      have c1 : w2.cell? ⟨w.heap.size, 1, none⟩ = some (.slice A0_1 l0_1.length c0_1) := cell_in HH2.out.1 1 rfl
      have c2 : w2.cell? ⟨w.heap.size, 2, none⟩ = some (.int .i64 a0_2) := cell_in HH2.out.1 2 rfl
      go_wp2_with (go_at_call 62; refine (few_heap A0_0 c0_0 l0_0 A0_1 c0_1 l0_1 a0_2 _ HH2.out.2.1 HH2.out.2.2.2.1 HH2.out.2.2.1 HH2.out.2.2.2.2 true HB.out).mono ?_; rintro e w3 ⟨rfl, hb⟩; have HT3 := Aside0.mk (below_step HT2.out hb); clear hb)
      go_ret
      exact ⟨rfl, HT3.out⟩
    · have hn1 : ¬ 100 < a1 ∨ (100 < a1 ∧ ¬ a1 ≤ 65536) := by omega
      have hnew := heap_new a1 (a1.toNat + 5) (by omega)
      have hrnew := ref_new a1 (a1.toNat + 7) (by omega)
      obtain ⟨A, L, b, e, hnv⟩ : ∃ A L b e, newV a1 = (A, L, b, e) := ⟨_, _, _, _, rfl⟩
      rw [hnv] at hnew hrnew
      have HNL := Aside0.mk (show A.length ≤ 65537 ∧ L.length ≤ 65536 by
        unfold newV at hnv
        split at hnv
        · cases hnv; simp
        · cases hnv; simp [fromTo]; omega)
      obtain ⟨k1, k2, lr, hl1, hl2⟩ := both_luby a1
      have HL1 := Aside0.mk hl1
      have HL2 := Aside0.mk hl2
      have HNEW := Aside0.mk hnew
      have HRNEW := Aside0.mk hrnew
      obtain ⟨cv, hcv⟩ : ∃ cv, hpCheckV l0_0 l0_1 a0_2 = cv := ⟨_, rfl⟩
      have HCK : Aside0 (heap_Check.f l0_0 l0_1 a0_2 = some cv) := ⟨by rw [← hcv]; rfl⟩
      have HRCK := Aside0.mk (ref_check l0_0 l0_1 a0_2 (by have := HSM.out; omega) (by have := HSM.out; omega) (l0_0.length + l0_1.length + 5) (by omega))
      rw [hcv] at HRCK
      have HSAME := Aside0.mk (ref_same A L b (by have := HNL.out; omega) (by have := HNL.out; omega) (A.length + L.length + 1) (by omega))
      clear hn hnew hrnew hnv hl1 hl2 hcv
      rcases hn1 with hn1 | ⟨hn1, hn2⟩
      all_goals
        go_enter Try.func19, Try.ntmps19
        go_upto_region 1 with (fail)
        generalize w.alloc (.cells #[.slice A0_0 l0_0.length c0_0, .slice A0_1 l0_1.length c0_1, .int .i64 a0_2] 74 (0, 0)) = w1 at HH HT ⊢
        go_upto_region 3 with (go_at_call 61; refine (HLIVE.out _).mono ?_; rintro e w2 ⟨rfl, hb⟩; have HH2 := Aside0.mk (HH.out.below hb); have HT2 := Aside0.mk (below_step HT.out hb); clear hb)
        have c0 : w2.cell? ⟨w.heap.size, 0, none⟩ = some (.slice A0_0 l0_0.length c0_0) := cell_in HH2.out.1 0 rfl
        have c1 : w2.cell? ⟨w.heap.size, 1, none⟩ = some (.slice A0_1 l0_1.length c0_1) := cell_in HH2.out.1 1 rfl
        have c2 : w2.cell? ⟨w.heap.size, 2, none⟩ = some (.int .i64 a0_2) := cell_in HH2.out.1 2 rfl
        go_upto_region 5 with (go_at_call 62; refine (few_heap A0_0 c0_0 l0_0 A0_1 c0_1 l0_1 a0_2 _ HH2.out.2.1 HH2.out.2.2.2.1 HH2.out.2.2.1 HH2.out.2.2.2.2 true HB.out).mono ?_; rintro e3 w3 ⟨rfl, hb⟩; have HT3 := Aside0.mk (below_step HT2.out hb); have HH3 := Aside0.mk (HH2.out.below hb); clear hb c0 c1 c2)
        go_upto_region 6 with (go_at_call 63; refine (heap_New.calls _ a1 A L b e _ HNEW.out).mono ?_; rintro e4 w4 ⟨vA, vL, rfl, hA, hL, hb4⟩; obtain ⟨A4, a4, rfl⟩ := Kd.R_slice hA; obtain ⟨B4, b4, rfl⟩ := Kd.R_slice hL; have HA4 := Aside0.mk (Kd.R_reads' hA).2; have HL4 := Aside0.mk (Kd.R_reads' hL).2; have HT4 := Aside0.mk (below_step HT3.out hb4); have HH4 := Aside0.mk (HH3.out.below hb4); clear hA hL hb4)
        have HX4 : Aside0 (HeapAt (w4.alloc (.cells #[.slice A4 A.length a4, .slice B4 L.length b4, .int .i64 b] 74 (0, 0))) w4.heap.size A4 B4 a4 b4 A L b) := ⟨⟨blk_new _ _, Kd.C_alloc HA4.out.2 _, Kd.C_alloc HL4.out.2 _, HA4.out.1, HL4.out.1⟩⟩
        have HT4b := Aside0.mk (below_alloc HT4.out (.cells #[.slice A4 A.length a4, .slice B4 L.length b4, .int .i64 b] 74 (0, 0)))
        have HH4b := Aside0.mk (HH4.out.below (below_alloc (Below.refl _ w4) (.cells #[.slice A4 A.length a4, .slice B4 L.length b4, .int .i64 b] 74 (0, 0))))
        clear HA4 HL4 HT4 HH4
        generalize w4.alloc (.cells #[.slice A4 A.length a4, .slice B4 L.length b4, .int .i64 b] 74 (0, 0)) = w4b at HX4 HT4b HH4b ⊢
        generalize w4.heap.size = g4 at HX4 ⊢
        go_upto_region 7 with (go_at_call 64; refine (chalklineref21_New.calls _ a1 A L b e _ HRNEW.out).mono ?_; rintro e5 w5 ⟨vA, vL, rfl, hA, hL, hb5⟩; obtain ⟨A5, a5, rfl⟩ := Kd.R_slice hA; obtain ⟨B5, b5, rfl⟩ := Kd.R_slice hL; have HA5 := Aside0.mk (Kd.R_reads' hA).2; have HL5 := Aside0.mk (Kd.R_reads' hL).2; have HT5 := Aside0.mk (below_step HT4b.out hb5); have HH5 := Aside0.mk (HH4b.out.below hb5); have HX5 := Aside0.mk (HX4.out.below hb5); clear hA hL hb5)
        have HY_5 : Aside0 (HeapAt (w5.alloc (.cells #[.slice A5 A.length a5, .slice B5 L.length b5, .int .i64 b] 74 (0, 0))).drew w5.heap.size A5 B5 a5 b5 A L b) := ⟨⟨blk_drew (blk_new _ _), Kd.C_drew (Kd.C_alloc HA5.out.2 _), Kd.C_drew (Kd.C_alloc HL5.out.2 _), HA5.out.1, HL5.out.1⟩⟩
        have HT_5 := Aside0.mk (below_drew1 (below_alloc HT5.out (.cells #[.slice A5 A.length a5, .slice B5 L.length b5, .int .i64 b] 74 (0, 0))))
        have HH_5 := Aside0.mk (HH5.out.below (below_drew1 (below_alloc (Below.refl _ w5) (.cells #[.slice A5 A.length a5, .slice B5 L.length b5, .int .i64 b] 74 (0, 0)))))
        have HX_5 := Aside0.mk (HX5.out.below (below_drew1 (below_alloc (Below.refl _ w5) (.cells #[.slice A5 A.length a5, .slice B5 L.length b5, .int .i64 b] 74 (0, 0)))))
        clear HA5 HL5 HT5 HH5 HX5
        have q0 : ∀ W g i v, W.drew.cell? ⟨g, i, none⟩ = some v → World.cell? W ⟨g, i, none⟩ = some v := fun W g i v h => h
        have s0 : (w5.alloc (.cells #[.slice A5 A.length a5, .slice B5 L.length b5, .int .i64 b] 74 (0, 0))).cell? ⟨w.heap.size, 0, none⟩ = some (.slice A0_0 l0_0.length c0_0) := q0 _ _ _ _ (cell_in HH_5.out.1 0 rfl)
        have s1 : (w5.alloc (.cells #[.slice A5 A.length a5, .slice B5 L.length b5, .int .i64 b] 74 (0, 0))).cell? ⟨w.heap.size, 1, none⟩ = some (.slice A0_1 l0_1.length c0_1) := q0 _ _ _ _ (cell_in HH_5.out.1 1 rfl)
        have s2 : (w5.alloc (.cells #[.slice A5 A.length a5, .slice B5 L.length b5, .int .i64 b] 74 (0, 0))).cell? ⟨w.heap.size, 2, none⟩ = some (.int .i64 a0_2) := q0 _ _ _ _ (cell_in HH_5.out.1 2 rfl)
        have s3 : (w5.alloc (.cells #[.slice A5 A.length a5, .slice B5 L.length b5, .int .i64 b] 74 (0, 0))).cell? ⟨g4, 0, none⟩ = some (.slice A4 A.length a4) := q0 _ _ _ _ (cell_in HX_5.out.1 0 rfl)
        have s4 : (w5.alloc (.cells #[.slice A5 A.length a5, .slice B5 L.length b5, .int .i64 b] 74 (0, 0))).cell? ⟨g4, 1, none⟩ = some (.slice B4 L.length b4) := q0 _ _ _ _ (cell_in HX_5.out.1 1 rfl)
        have s5 : (w5.alloc (.cells #[.slice A5 A.length a5, .slice B5 L.length b5, .int .i64 b] 74 (0, 0))).cell? ⟨g4, 2, none⟩ = some (.int .i64 b) := q0 _ _ _ _ (cell_in HX_5.out.1 2 rfl)
        have s6 : (w5.alloc (.cells #[.slice A5 A.length a5, .slice B5 L.length b5, .int .i64 b] 74 (0, 0))).cell? ⟨w5.heap.size, 0, none⟩ = some (.slice A5 A.length a5) := q0 _ _ _ _ (cell_in HY_5.out.1 0 rfl)
        have s7 : (w5.alloc (.cells #[.slice A5 A.length a5, .slice B5 L.length b5, .int .i64 b] 74 (0, 0))).cell? ⟨w5.heap.size, 1, none⟩ = some (.slice B5 L.length b5) := q0 _ _ _ _ (cell_in HY_5.out.1 1 rfl)
        have s8 : (w5.alloc (.cells #[.slice A5 A.length a5, .slice B5 L.length b5, .int .i64 b] 74 (0, 0))).cell? ⟨w5.heap.size, 2, none⟩ = some (.int .i64 b) := q0 _ _ _ _ (cell_in HY_5.out.1 2 rfl)
        generalize w5.alloc (.cells #[.slice A5 A.length a5, .slice B5 L.length b5, .int .i64 b] 74 (0, 0)) = w5b at HY_5 HT_5 HH_5 HX_5 s0 s1 s2 s3 s4 s5 s6 s7 s8 ⊢
        generalize w5.heap.size = g5 at HY_5 s6 s7 s8 ⊢
        clear q0
        go_region_held3 (fun w' => w'.cell? ⟨w.heap.size, 0, none⟩ = some (.slice A0_0 l0_0.length c0_0) ∧ w'.cell? ⟨w.heap.size, 1, none⟩ = some (.slice A0_1 l0_1.length c0_1) ∧ w'.cell? ⟨w.heap.size, 2, none⟩ = some (.int .i64 a0_2) ∧ w'.cell? ⟨g4, 0, none⟩ = some (.slice A4 A.length a4) ∧ w'.cell? ⟨g4, 1, none⟩ = some (.slice B4 L.length b4) ∧ w'.cell? ⟨g4, 2, none⟩ = some (.int .i64 b) ∧ w'.cell? ⟨g5, 0, none⟩ = some (.slice A5 A.length a5) ∧ w'.cell? ⟨g5, 1, none⟩ = some (.slice B5 L.length b5) ∧ w'.cell? ⟨g5, 2, none⟩ = some (.int .i64 b)) (first | go_keep | exact ⟨by assumption, by assumption, by assumption, by assumption, by assumption, by assumption, by assumption, by assumption, by assumption⟩) (first | (go_at_call 65; refine (heap_Check.calls A0_0 c0_0 l0_0 A0_1 c0_1 l0_1 a0_2 cv _ HH_5.out.2.1 HC0.out HH_5.out.2.2.1 HC1.out HCK.out).mono ?_; rintro ew7 w7 ⟨rfl, hb⟩; have HH_7 := Aside0.mk (HH_5.out.below hb); have HX_7 := Aside0.mk (HX_5.out.below hb); have HY_7 := Aside0.mk (HY_5.out.below hb); have HT_7 := Aside0.mk (below_step HT_5.out hb); clear hb; have s0 : w7.cell? ⟨w.heap.size, 0, none⟩ = some (.slice A0_0 l0_0.length c0_0) := cell_in HH_7.out.1 0 rfl; have s1 : w7.cell? ⟨w.heap.size, 1, none⟩ = some (.slice A0_1 l0_1.length c0_1) := cell_in HH_7.out.1 1 rfl; have s2 : w7.cell? ⟨w.heap.size, 2, none⟩ = some (.int .i64 a0_2) := cell_in HH_7.out.1 2 rfl; have s3 : w7.cell? ⟨g4, 0, none⟩ = some (.slice A4 A.length a4) := cell_in HX_7.out.1 0 rfl; have s4 : w7.cell? ⟨g4, 1, none⟩ = some (.slice B4 L.length b4) := cell_in HX_7.out.1 1 rfl; have s5 : w7.cell? ⟨g4, 2, none⟩ = some (.int .i64 b) := cell_in HX_7.out.1 2 rfl; have s6 : w7.cell? ⟨g5, 0, none⟩ = some (.slice A5 A.length a5) := cell_in HY_7.out.1 0 rfl; have s7 : w7.cell? ⟨g5, 1, none⟩ = some (.slice B5 L.length b5) := cell_in HY_7.out.1 1 rfl; have s8 : w7.cell? ⟨g5, 2, none⟩ = some (.int .i64 b) := cell_in HY_7.out.1 2 rfl) | (go_at_call 66; refine (chalklineref21_Check.calls _ A0_0 c0_0 l0_0 A0_1 c0_1 l0_1 a0_2 cv _ HH_7.out.2.1 HC0.out HH_7.out.2.2.1 HC1.out HRCK.out).mono ?_; rintro ew8 w8 ⟨rfl, hb⟩; have HH_8 := Aside0.mk (HH_7.out.below hb); have HX_8 := Aside0.mk (HX_7.out.below hb); have HY_8 := Aside0.mk (HY_7.out.below hb); have HT_8 := Aside0.mk (below_step HT_7.out hb); clear hb; have s0 : w8.cell? ⟨w.heap.size, 0, none⟩ = some (.slice A0_0 l0_0.length c0_0) := cell_in HH_8.out.1 0 rfl; have s1 : w8.cell? ⟨w.heap.size, 1, none⟩ = some (.slice A0_1 l0_1.length c0_1) := cell_in HH_8.out.1 1 rfl; have s2 : w8.cell? ⟨w.heap.size, 2, none⟩ = some (.int .i64 a0_2) := cell_in HH_8.out.1 2 rfl; have s3 : w8.cell? ⟨g4, 0, none⟩ = some (.slice A4 A.length a4) := cell_in HX_8.out.1 0 rfl; have s4 : w8.cell? ⟨g4, 1, none⟩ = some (.slice B4 L.length b4) := cell_in HX_8.out.1 1 rfl; have s5 : w8.cell? ⟨g4, 2, none⟩ = some (.int .i64 b) := cell_in HX_8.out.1 2 rfl; have s6 : w8.cell? ⟨g5, 0, none⟩ = some (.slice A5 A.length a5) := cell_in HY_8.out.1 0 rfl; have s7 : w8.cell? ⟨g5, 1, none⟩ = some (.slice B5 L.length b5) := cell_in HY_8.out.1 1 rfl; have s8 : w8.cell? ⟨g5, 2, none⟩ = some (.int .i64 b) := cell_in HY_8.out.1 2 rfl) | (go_at_call 67; refine (chalklineref21_Same.calls _ A4 a4 A B4 b4 L b A5 a5 A B5 b5 L b true _ HX_8.out.2.1 HX_8.out.2.2.2.1 HX_8.out.2.2.1 HX_8.out.2.2.2.2 HY_8.out.2.1 HY_8.out.2.2.2.1 HY_8.out.2.2.1 HY_8.out.2.2.2.2 HSAME.out).mono ?_; rintro ew9 w9 ⟨rfl, hb⟩; have HH_9 := Aside0.mk (HH_8.out.below hb); have HX_9 := Aside0.mk (HX_8.out.below hb); have HY_9 := Aside0.mk (HY_8.out.below hb); have HT_9 := Aside0.mk (below_step HT_8.out hb); clear hb; have s0 : w9.cell? ⟨w.heap.size, 0, none⟩ = some (.slice A0_0 l0_0.length c0_0) := cell_in HH_9.out.1 0 rfl; have s1 : w9.cell? ⟨w.heap.size, 1, none⟩ = some (.slice A0_1 l0_1.length c0_1) := cell_in HH_9.out.1 1 rfl; have s2 : w9.cell? ⟨w.heap.size, 2, none⟩ = some (.int .i64 a0_2) := cell_in HH_9.out.1 2 rfl; have s3 : w9.cell? ⟨g4, 0, none⟩ = some (.slice A4 A.length a4) := cell_in HX_9.out.1 0 rfl; have s4 : w9.cell? ⟨g4, 1, none⟩ = some (.slice B4 L.length b4) := cell_in HX_9.out.1 1 rfl; have s5 : w9.cell? ⟨g4, 2, none⟩ = some (.int .i64 b) := cell_in HX_9.out.1 2 rfl; have s6 : w9.cell? ⟨g5, 0, none⟩ = some (.slice A5 A.length a5) := cell_in HY_9.out.1 0 rfl; have s7 : w9.cell? ⟨g5, 1, none⟩ = some (.slice B5 L.length b5) := cell_in HY_9.out.1 1 rfl; have s8 : w9.cell? ⟨g5, 2, none⟩ = some (.int .i64 b) := cell_in HY_9.out.1 2 rfl) | (go_at_call 68; refine (heap_Luby.calls k1 a1 lr _ HL1.out).mono ?_; rintro ew10 w10 ⟨rfl, hd⟩; have hb := hd.below; clear hd; have HH_10 := Aside0.mk (HH_9.out.below hb); have HX_10 := Aside0.mk (HX_9.out.below hb); have HY_10 := Aside0.mk (HY_9.out.below hb); have HT_10 := Aside0.mk (below_step HT_9.out hb); clear hb; have s0 : w10.cell? ⟨w.heap.size, 0, none⟩ = some (.slice A0_0 l0_0.length c0_0) := cell_in HH_10.out.1 0 rfl; have s1 : w10.cell? ⟨w.heap.size, 1, none⟩ = some (.slice A0_1 l0_1.length c0_1) := cell_in HH_10.out.1 1 rfl; have s2 : w10.cell? ⟨w.heap.size, 2, none⟩ = some (.int .i64 a0_2) := cell_in HH_10.out.1 2 rfl; have s3 : w10.cell? ⟨g4, 0, none⟩ = some (.slice A4 A.length a4) := cell_in HX_10.out.1 0 rfl; have s4 : w10.cell? ⟨g4, 1, none⟩ = some (.slice B4 L.length b4) := cell_in HX_10.out.1 1 rfl; have s5 : w10.cell? ⟨g4, 2, none⟩ = some (.int .i64 b) := cell_in HX_10.out.1 2 rfl; have s6 : w10.cell? ⟨g5, 0, none⟩ = some (.slice A5 A.length a5) := cell_in HY_10.out.1 0 rfl; have s7 : w10.cell? ⟨g5, 1, none⟩ = some (.slice B5 L.length b5) := cell_in HY_10.out.1 1 rfl; have s8 : w10.cell? ⟨g5, 2, none⟩ = some (.int .i64 b) := cell_in HY_10.out.1 2 rfl) | (go_at_call 69; refine (chalklineref21_Luby.calls k2 a1 lr _ HL2.out).mono ?_; rintro ew11 w11 ⟨rfl, hd⟩; have hb := hd.below; clear hd; have HH_11 := Aside0.mk (HH_10.out.below hb); have HX_11 := Aside0.mk (HX_10.out.below hb); have HY_11 := Aside0.mk (HY_10.out.below hb); have HT_11 := Aside0.mk (below_step HT_10.out hb); clear hb; have s0 : w11.cell? ⟨w.heap.size, 0, none⟩ = some (.slice A0_0 l0_0.length c0_0) := cell_in HH_11.out.1 0 rfl; have s1 : w11.cell? ⟨w.heap.size, 1, none⟩ = some (.slice A0_1 l0_1.length c0_1) := cell_in HH_11.out.1 1 rfl; have s2 : w11.cell? ⟨w.heap.size, 2, none⟩ = some (.int .i64 a0_2) := cell_in HH_11.out.1 2 rfl; have s3 : w11.cell? ⟨g4, 0, none⟩ = some (.slice A4 A.length a4) := cell_in HX_11.out.1 0 rfl; have s4 : w11.cell? ⟨g4, 1, none⟩ = some (.slice B4 L.length b4) := cell_in HX_11.out.1 1 rfl; have s5 : w11.cell? ⟨g4, 2, none⟩ = some (.int .i64 b) := cell_in HX_11.out.1 2 rfl; have s6 : w11.cell? ⟨g5, 0, none⟩ = some (.slice A5 A.length a5) := cell_in HY_11.out.1 0 rfl; have s7 : w11.cell? ⟨g5, 1, none⟩ = some (.slice B5 L.length b5) := cell_in HY_11.out.1 1 rfl; have s8 : w11.cell? ⟨g5, 2, none⟩ = some (.int .i64 b) := cell_in HY_11.out.1 2 rfl))
        go_wp2
        go_ret
        exact ⟨rfl, HT_11.out⟩
end Go.Proofs.Ytobadajeekdakaa.Print

namespace Go.Proofs.Ytobadajeekdakaa.Print
theorem Pure.HeapCheckSpec (l0_0 l0_1 : List Int) (a0_2 a1 : Int) (_ : ∀ x ∈ l0_0, (Lit.int .i64 x).wf = true) (_ : ∀ x ∈ l0_1, (Lit.int .i64 x).wf = true) (_ : (Lit.int .i64 a0_2).wf = true) (_ : (Lit.int .i64 a1).wf = true) : chalklinelaw21_HeapCheckSpec.f l0_0 l0_1  a0_2 a1       = some true := rfl
end Go.Proofs.Ytobadajeekdakaa.Print
