/- The Luby sequence, in plain words, and what heap.Luby answers. The reference's Check, New, Ints, Same, Luby (layer 21), in plain words. New, Ints, Same, Luby of the reference (layer 21), in plain words. Plain words and small contracts for the laws that pop a heap empty. chalklinelaw21.HeapPopSorted: its contract: it answers true. HeapPopSorted in plain words: the walk shows that the law answers true. -/
import Derived.Test.YtobadajeekdakaaF63
import Derived.Test.YtobadajeekdakaaF141
import Derived.Test.YtobadajeekdakaaF64
import Derived.Test.YtobadajeekdakaaF67
import Derived.Test.YtobadajeekdakaaHG
import Derived.Test.YtobadajeekdakaaF62
import Derived.Test.YtobadajeekdakaaF78
import Derived.Test.YtobadajeekdakaaHQ
import Derived.Deep.QuietTactic
import Derived.BigQuiet
namespace Go.Proofs.Ytobadajeekdakaa.Print
open Go.RowKit Go.Proofs.YtobadajeekdakaaW.PrintWords Go.Proofs.YtobadajeekdakaaW.PrintLast Go.Proofs.YtobadajeekdakaaW.PrintMore
set_option linter.unusedVariables false

/-- r is the i-th element of the Luby sequence. -/
inductive LubyIs : Nat → Nat → Prop where
  | top (j : Nat) : LubyIs (2 ^ (j + 1) - 1) (2 ^ j)
  | fall {j i r : Nat} (h1 : 2 ^ j ≤ i) (h2 : i < 2 ^ (j + 1) - 1) (h : LubyIs (i - (2 ^ j - 1)) r) : LubyIs i r
theorem LubyIs.some : ∀ (n i : Nat), i ≤ n → 1 ≤ i → ∃ r, LubyIs i r
  | 0, i, h, h1 => absurd h1 (by omega)
  | n + 1, i, h, h1 => by
    have hb : ∃ j, 2 ^ j ≤ i ∧ i < 2 ^ (j + 1) := ⟨Nat.log2 i, Nat.log2_self_le (by omega), Nat.lt_log2_self⟩
    obtain ⟨j, h2, h3⟩ := hb
    by_cases he : i = 2 ^ (j + 1) - 1
    · exact ⟨_, he ▸ LubyIs.top j⟩
    · have hp : 1 ≤ 2 ^ j := Nat.one_le_two_pow
      have hj : 2 ≤ 2 ^ j ∨ j = 0 := by
        cases j with
        | zero => exact .inr rfl
        | succ j => exact .inl (by have := Nat.one_le_two_pow (n := j); rw [Nat.pow_succ]; omega)
      rcases hj with hj | rfl
      · obtain ⟨r, hr⟩ := LubyIs.some n (i - (2 ^ j - 1)) (by omega) (by omega)
        exact ⟨r, .fall h2 (by omega) hr⟩
      · simp at h3 he; omega
theorem two_pow_inj {j i k : Nat} (h1 : 2 ^ j ≤ i) (h2 : i < 2 ^ (j + 1)) (h3 : 2 ^ k ≤ i) (h4 : i < 2 ^ (k + 1)) : j = k := by
  have a : j < k + 1 := (Nat.pow_lt_pow_iff_right (by decide)).1 (Nat.lt_of_le_of_lt h1 h4)
  have b : k < j + 1 := (Nat.pow_lt_pow_iff_right (by decide)).1 (Nat.lt_of_le_of_lt h3 h2)
  omega
theorem LubyIs.only {i r : Nat} (h : LubyIs i r) : ∀ {q : Nat}, LubyIs i q → q = r := by
  have ev : ∀ j : Nat, 2 ^ j ≤ 2 ^ (j + 1) - 1 := fun j => by have := Nat.one_le_two_pow (n := j); rw [Nat.pow_succ]; omega
  have lt : ∀ j : Nat, 2 ^ (j + 1) - 1 < 2 ^ (j + 1) := fun j => by have := Nat.one_le_two_pow (n := j + 1); omega
  induction h with
  | top j =>
    intro q hq
    generalize hi : 2 ^ (j + 1) - 1 = i at hq
    cases hq with
    | top k =>
      have := two_pow_inj (ev j) (lt j) (by rw [hi]; exact ev k) (by rw [hi]; exact lt k)
      rw [this]
    | fall h1 h2 h =>
      rename_i k
      have := two_pow_inj (ev j) (lt j) (k := k) (by omega) (by omega)
      subst this
      omega
  | fall h1 h2 h ih =>
    rename_i j i r
    intro q hq
    cases hq with
    | top k =>
      have := two_pow_inj h1 (by omega) (ev k) (lt k)
      subst this
      omega
    | fall h3 h4 h5 =>
      rename_i k
      have := two_pow_inj h1 (by omega) h3 (by omega)
      subst this
      exact ih h5
/-! ### heap.Luby -/
theorem wrap_same {x : Int} (h1 : -9223372036854775808 ≤ x) (h2 : x ≤ 9223372036854775807) : wrap64 x = x := by unfold wrap64; omega
end Go.Proofs.Ytobadajeekdakaa.Print

namespace Go.Proofs.Ytobadajeekdakaa.Print
open Go.RowKit Go.Proofs.YtobadajeekdakaaW.PrintWords Go.Proofs.YtobadajeekdakaaW.PrintLast Go.Proofs.YtobadajeekdakaaW.PrintMore
set_option linter.unusedVariables false

theorem knownB'_iff {act : List Int} {v : Int} : knownB' act v = true ↔ 0 < v ∧ v < act.length := by simp [knownB']
end Go.Proofs.Ytobadajeekdakaa.Print

namespace Go.Proofs.Ytobadajeekdakaa.Print
open Go.RowKit Go.Proofs.YtobadajeekdakaaW.PrintWords Go.Proofs.YtobadajeekdakaaW.PrintLast Go.Proofs.YtobadajeekdakaaW.PrintMore
set_option linter.unusedVariables false

theorem ref_ints_l0 (xs : List Int) (hx : xs.length ≤ 9223372036854775806) : ∀ (d i k : Nat), i + d = xs.length → d < k → chalklineref21_Ints.l0 k xs xs (i : Int) = some true
  | 0, i, k, hi, hk => by
    obtain ⟨k, rfl⟩ : ∃ m, k = m + 1 := ⟨k - 1, by omega⟩
    simp only [chalklineref21_Ints.l0]
    rw [if_neg (by omega)]
  | d + 1, i, k, hi, hk => by
    obtain ⟨k, rfl⟩ : ∃ m, k = m + 1 := ⟨k - 1, by omega⟩
    have hw : wrap64 ((i : Int) + 1) = ((i + 1 : Nat) : Int) := by rw [wrap_same (by omega) (by omega)]; omega
    simp only [chalklineref21_Ints.l0]
    rw [if_pos (by omega), if_pos (by omega), if_pos (by omega), if_pos trivial, hw]
    exact ref_ints_l0 xs hx d (i + 1) k (by omega) (by omega)
theorem ref_ints (xs : List Int) (hx : xs.length ≤ 9223372036854775806) : ∀ k, xs.length < k → chalklineref21_Ints.f k xs xs = some true := by
  intro k hk
  unfold chalklineref21_Ints.f
  rw [if_pos rfl]
  exact ref_ints_l0 xs hx xs.length 0 k (by omega) hk
end Go.Proofs.Ytobadajeekdakaa.Print

namespace Go.Proofs.Ytobadajeekdakaa.Print
open Go.RowKit Go.Proofs.YtobadajeekdakaaW.PrintWords Go.Proofs.YtobadajeekdakaaW.PrintLast Go.Proofs.YtobadajeekdakaaW.PrintMore
set_option linter.unusedVariables false
set_option linter.unusedSimpArgs false

theorem few_heap' (A0_0 : Option Addr) (c0_0 : Nat) (l0_0 : List Int) (A0_1 : Option Addr) (c0_1 : Nat) (l0_1 : List Int) (a0_2 : Int) (w : World) (hr0_0 : Kd.C (Kd.int .i64) w A0_0 l0_0.length l0_0) (hc0_0 : l0_0.length ≤ c0_0) (hr0_1 : Kd.C (Kd.int .i64) w A0_1 l0_1.length l0_1) (hc0_1 : l0_1.length ≤ c0_1) (b : Bool) (hb : decide (l0_0.length ≤ 60 ∧ l0_1.length ≤ 60) = b) :
    Calls Try.prog 62 #[.agg #[.slice A0_0 l0_0.length c0_0, .slice A0_1 l0_1.length c0_1, .int .i64 a0_2]] w fun e w' => e = .returned (.bool b) ∧ Below w.heap.size w w' := by
  refine chalklineref21_Few.calls A0_0 c0_0 l0_0 A0_1 c0_1 l0_1 a0_2 b w hr0_0 hc0_0 hr0_1 hc0_1 ?_
  unfold chalklineref21_Few.f
  rw [← hb]
  by_cases h : l0_0.length ≤ 60
  · rw [if_pos (by omega)]
    congr 1
    rw [decide_eq_decide]
    omega
  · rw [if_neg (by omega), decide_eq_false (by omega)]
theorem has_l0 (l : List Int) (v : Int) (hl : l.length ≤ 9223372036854775806) : ∀ (d i k : Nat), i + d = l.length → d < k → chalklinelaw21_has.l0 k l v (i : Int) = some ((l.drop i).contains v)
  | 0, i, k, hi, hk => by
    obtain ⟨k, rfl⟩ : ∃ m, k = m + 1 := ⟨k - 1, by omega⟩
    simp only [chalklinelaw21_has.l0]
    rw [if_neg (by omega), List.drop_eq_nil_of_le (by omega)]
    rfl
  | d + 1, i, k, hi, hk => by
    obtain ⟨k, rfl⟩ : ∃ m, k = m + 1 := ⟨k - 1, by omega⟩
    have hil : i < l.length := by omega
    have hw : wrap64 ((i : Int) + 1) = ((i + 1 : Nat) : Int) := by rw [wrap_same (by omega) (by omega)]; omega
    simp only [chalklinelaw21_has.l0]
    rw [if_pos (by omega), if_pos (by omega), rd_get hil, hw, has_l0 l v hl d (i + 1) k (by omega) (by omega), List.drop_eq_getElem_cons hil, List.contains_cons]
    by_cases h : l[i] = v
    · rw [if_pos h, h]; simp
    · rw [if_neg h, show (v == l[i]) = false by simp [beq_eq_false_iff_ne]; exact fun e => h e.symm, Bool.false_or]
theorem has_any (A : Option Addr) (c : Nat) (l : List Int) (v : Int) (w : World) (hC : Kd.C (Kd.int .i64) w A l.length l) (hc : l.length ≤ c) (hl : l.length ≤ 100000) (b : Bool) (hb : l.contains v = b) :
    Calls Try.prog 78 #[.slice A l.length c, .int .i64 v] w fun e w' => e = .returned (.bool b) ∧ ∃ n, w' = w.drewN n := by
  refine (chalklinelaw21_has.calls (l.length + 1) A c l v b w hC hc ?_).mono fun e w' h => ⟨h.1, h.2.out⟩
  unfold chalklinelaw21_has.f
  have := has_l0 l v (by omega) l.length 0 (l.length + 1) (by omega) (by omega)
  rw [List.drop_zero, hb] at this
  exact this

theorem rd_drop (l : List Int) (i j : Nat) : rd (l.drop i) (j : Int) = rd l ((i + j : Nat) : Int) := by
  unfold rd
  rw [Int.toNat_natCast, Int.toNat_natCast, List.getD_eq_getElem?_getD, List.getD_eq_getElem?_getD, List.getElem?_drop]
/-- A queue in order is one whose elements are known, each ahead of all behind it. -/
theorem rowOk_iff {act l : List Int} : rowOkB act l = true ↔ (∀ i : Nat, i < l.length → knownB' act (rd l (i : Int)) = true) ∧ ∀ i j : Nat, i < j → j < l.length → ordV act (rd l (i : Int)) (rd l (j : Int)) < 0 := by
  constructor
  · intro h
    exact ⟨fun i hi => (rowOk_at h i hi).1, fun i j h1 h2 => rowOk_sorted h i j h1 h2⟩
  · rintro ⟨h1, h2⟩
    refine rowOk_true fun i hi => ?_
    unfold placeB
    rw [h1 i hi, Bool.true_and]
    by_cases h0 : i = 0
    · simp [h0]
    · have := h2 (i - 1) i (by omega) hi
      rw [show ((i - 1 : Nat) : Int) = (i : Int) - 1 by omega] at this
      simp [this]
theorem rowOk_drop {act l : List Int} (h : rowOkB act l = true) (i : Nat) : rowOkB act (l.drop i) = true := by
  obtain ⟨h1, h2⟩ := rowOk_iff.1 h
  refine rowOk_iff.2 ⟨fun j hj => ?_, fun j k hjk hk => ?_⟩
  · rw [rd_drop]; rw [List.length_drop] at hj; exact h1 _ (by omega)
  · rw [rd_drop, rd_drop]; rw [List.length_drop] at hk; exact h2 _ _ (by omega) (by omega)
theorem check_of {act l l' : List Int} {b : Int} (h : hpCheckV act l b = 0) (hl : rowOkB act l' = true) : hpCheckV act l' b = 0 := by
  unfold hpCheckV at h ⊢
  split at h
  · omega
  · rename_i h1
    rw [if_neg h1]
    split at h
    · omega
    · rename_i h2
      rw [if_neg h2, if_pos hl]
theorem pop_at {act l : List Int} {b : Int} (h : hpCheckV act l b = 0) {i : Nat} (hi : i < l.length) (ha : act.length ≤ 100000) (hl : l.length ≤ 100000) : heap_Pop.f act (l.drop i) b = some (act, l.drop (i + 1), b, rd l (i : Int), 0) := by
  have hc := check_of h (rowOk_drop (check_rowOk h) i)
  unfold heap_Pop.f popV
  rw [if_pos (by simp [smallB]; omega), if_neg (by rw [hc]; simp), if_neg (by rw [List.length_drop]; omega), List.drop_drop]
  have := rd_drop l i 0
  rw [show ((0 : Nat) : Int) = 0 from rfl] at this
  rw [this]
  rfl
theorem pop_end {act l : List Int} {b : Int} (h : hpCheckV act l b = 0) (ha : act.length ≤ 100000) : heap_Pop.f act (l.drop l.length) b = some ([], [], 0, 0, 270) := by
  have hc := check_of h (rowOk_drop (check_rowOk h) l.length)
  rw [List.drop_length] at hc ⊢
  unfold heap_Pop.f popV
  rw [if_pos (by simp [smallB]; omega), if_neg (by rw [hc]; simp), if_pos (show ([] : List Int).length = 0 from rfl)]
theorem rowOk_has {act l : List Int} (h : rowOkB act l = true) {i : Nat} (hi : i < l.length) : l.contains (rd l (i : Int)) = true ∧ (l.drop (i + 1)).contains (rd l (i : Int)) = false := by
  refine ⟨by rw [rd_get hi]; simp, ?_⟩
  rw [← Bool.not_eq_true, List.contains_iff_mem]
  intro hm
  obtain ⟨j, hj, e⟩ := List.getElem_of_mem hm
  have h1 : rd (l.drop (i + 1)) (j : Int) = rd l (i : Int) := by rw [rd_get hj, e]
  rw [rd_drop] at h1
  rw [List.length_drop] at hj
  have := rowOk_sorted h i (i + 1 + j) (by omega) (by omega)
  rw [h1, ordV_zero.2 rfl] at this
  omega
section
variable {W : World} {g : Nat} {A B : Option Addr} {c d : Nat} {act l : List Int} {by_ : Int}
theorem HeapAt.cA (h : HeapAt W g A B c d act l by_) : Kd.C (Kd.int .i64) W A act.length act := h.2.1
theorem HeapAt.cB (h : HeapAt W g A B c d act l by_) : Kd.C (Kd.int .i64) W B l.length l := h.2.2.1
theorem HeapAt.lA (h : HeapAt W g A B c d act l by_) : act.length ≤ c := h.2.2.2.1
theorem HeapAt.lB (h : HeapAt W g A B c d act l by_) : l.length ≤ d := h.2.2.2.2
end
/-- The last element that came out. -/
def lastV (l : List Int) : Nat → Int
  | 0 => 0
  | i + 1 => rd l (i : Int)

theorem set3c_R {w : World} {g base : Nat} {ok : Nat → Prop} {v u1 u2 u3 : Value} {xs : List Int} {cs : Array Value} (h : Kd.R (Kd.int .i64) 3 w base ok v xs) (hz : w.heap[g]? = some (.cells cs 74 (0, 0))) :
    Kd.R (Kd.int .i64) 3 (((w.setCell ⟨g, 0, none⟩ u1).setCell ⟨g, 1, none⟩ u2).setCell ⟨g, 2, none⟩ u3) base ok v xs := by
  have h1 := blk_put hz 0 u1 rfl
  have h2 := blk_put h1 1 u2 rfl
  exact Kd.R_set (Kd.R_set (Kd.R_set h hz ne74 0 u1) h1 ne74 1 u2) h2 ne74 2 u3
theorem set3c_Q {w : World} {g base : Nat} {ok : Nat → Prop} {v u1 u2 u3 : Value} {xs : List Int} {cs : Array Value} (h : Kd.Q (Kd.int .i64) 3 w base ok v xs) (hz : w.heap[g]? = some (.cells cs 74 (0, 0))) :
    Kd.Q (Kd.int .i64) 3 (((w.setCell ⟨g, 0, none⟩ u1).setCell ⟨g, 1, none⟩ u2).setCell ⟨g, 2, none⟩ u3) base ok v xs := by
  have h1 := blk_put hz 0 u1 rfl
  have h2 := blk_put h1 1 u2 rfl
  exact Kd.Q_set (Kd.Q_set (Kd.Q_set h hz ne74 0 u1) h1 ne74 1 u2) h2 ne74 2 u3
theorem put3 {w : World} {g : Nat} {a1 a2 a3 u1 u2 u3 : Value} (h : w.heap[g]? = some (.cells #[a1, a2, a3] 74 (0, 0))) : (((w.setCell ⟨g, 0, none⟩ u1).setCell ⟨g, 1, none⟩ u2).setCell ⟨g, 2, none⟩ u3).heap[g]? = some (.cells #[u1, u2, u3] 74 (0, 0)) :=
  blk_put (blk_put (blk_put h 0 _ rfl) 1 _ rfl) 2 _ rfl
end Go.Proofs.Ytobadajeekdakaa.Print

namespace Go.Proofs.Ytobadajeekdakaa.Print
open Go.RowKit Go.Proofs.YtobadajeekdakaaW.PrintWords Go.Proofs.YtobadajeekdakaaW.PrintLast Go.Proofs.YtobadajeekdakaaW.PrintMore
set_option linter.unusedVariables false
set_option linter.unusedSimpArgs false

def chalklinelaw21_HeapPopSorted.f (l0_0 l0_1 : List Int) (a0_2 : Int) : Option Bool := some true
set_option maxHeartbeats 16000000 in
set_option maxRecDepth 100000 in
theorem chalklinelaw21_HeapPopSorted.calls (A0_0 : Option Addr) (c0_0 : Nat) (l0_0 : List Int) (A0_1 : Option Addr) (c0_1 : Nat) (l0_1 : List Int) (a0_2 : Int) (r : Bool) (w : World) (hr0_0 : Kd.C (Kd.int .i64) w A0_0 l0_0.length l0_0) (hc0_0 : l0_0.length ≤ c0_0) (hr0_1 : Kd.C (Kd.int .i64) w A0_1 l0_1.length l0_1) (hc0_1 : l0_1.length ≤ c0_1) (h : chalklinelaw21_HeapPopSorted.f l0_0 l0_1 a0_2 = some r) :
    Calls Try.prog 21 #[.agg #[.slice A0_0 l0_0.length c0_0, .slice A0_1 l0_1.length c0_1, .int .i64 a0_2]] w fun e w' => e = .returned (.bool r) ∧ Below w.heap.size w w' := by
  obtain rfl : true = r := Option.some.inj h
  have HC0 := Aside0.mk hc0_0
  have HC1 := Aside0.mk hc0_1
  have hk0 := blk_new w (.cells #[.slice A0_0 l0_0.length c0_0, .slice A0_1 l0_1.length c0_1, .int .i64 a0_2] 74 (0, 0))
  have HH : Aside0 (HeapAt (w.alloc (.cells #[.slice A0_0 l0_0.length c0_0, .slice A0_1 l0_1.length c0_1, .int .i64 a0_2] 74 (0, 0))) w.heap.size A0_0 A0_1 c0_0 c0_1 l0_0 l0_1 a0_2) := ⟨⟨hk0, Kd.C_alloc hr0_0 _, Kd.C_alloc hr0_1 _, hc0_0, hc0_1⟩⟩
  have HT := Aside0.mk (below_alloc (Below.refl _ w) (.cells #[.slice A0_0 l0_0.length c0_0, .slice A0_1 l0_1.length c0_1, .int .i64 a0_2] 74 (0, 0)))
  clear h hk0 hr0_0 hr0_1 hc0_0 hc0_1
  obtain ⟨b, hb⟩ : ∃ b, decide (l0_0.length ≤ 60 ∧ l0_1.length ≤ 60) = b := ⟨_, rfl⟩
  have HB := Aside0.mk hb
  have hlive := fun W => chalklinelaw21_live.calls true W rfl
  have HLIVE := Aside0.mk hlive
  clear hlive
  cases b with
  | false =>
    clear hb
    go_enter Try.func21, Try.ntmps21
    go_upto_region 1 with (fail)
    generalize w.alloc (.cells #[.slice A0_0 l0_0.length c0_0, .slice A0_1 l0_1.length c0_1, .int .i64 a0_2] 74 (0, 0)) = w1 at HH HT ⊢
    go_upto_region 3 with (go_at_call 61; refine (HLIVE.out _).mono ?_; rintro e w2 ⟨rfl, hb⟩; have HH2 := Aside0.mk (HH.out.below hb); have HT2 := Aside0.mk (below_step HT.out hb); clear hb)
    have c0 : w2.cell? ⟨w.heap.size, 0, none⟩ = some (.slice A0_0 l0_0.length c0_0) := cell_in HH2.out.1 0 rfl
    have c1 : w2.cell? ⟨w.heap.size, 1, none⟩ = some (.slice A0_1 l0_1.length c0_1) := cell_in HH2.out.1 1 rfl
    have c2 : w2.cell? ⟨w.heap.size, 2, none⟩ = some (.int .i64 a0_2) := cell_in HH2.out.1 2 rfl
    go_wp2_with (go_at_call 62; refine (few_heap' A0_0 c0_0 l0_0 A0_1 c0_1 l0_1 a0_2 _ HH2.out.2.1 HH2.out.2.2.2.1 HH2.out.2.2.1 HH2.out.2.2.2.2 false HB.out).mono ?_; rintro e w3 ⟨rfl, hb⟩; have HT3 := Aside0.mk (below_step HT2.out hb); clear hb)
    go_ret
    exact ⟨rfl, HT3.out⟩
  | true =>
    have hb' : l0_0.length ≤ 60 ∧ l0_1.length ≤ 60 := of_decide_eq_true hb
    have HSM := Aside0.mk hb'
    clear hb hb'
    obtain ⟨cv, hcv⟩ : ∃ cv, hpCheckV l0_0 l0_1 a0_2 = cv := ⟨_, rfl⟩
    have HCK : Aside0 (heap_Check.f l0_0 l0_1 a0_2 = some cv) := ⟨by rw [← hcv]; rfl⟩
    by_cases h0 : cv = 0
    · subst h0
      have HCV := Aside0.mk hcv
      have HVA := Aside0.mk (valid_of hcv)
      clear hcv
      go_enter Try.func21, Try.ntmps21
      go_upto_region 1 with (fail)
      generalize w.alloc (.cells #[.slice A0_0 l0_0.length c0_0, .slice A0_1 l0_1.length c0_1, .int .i64 a0_2] 74 (0, 0)) = w1 at HH HT ⊢
      go_upto_region 3 with (go_at_call 61; refine (HLIVE.out _).mono ?_; rintro e w2 ⟨rfl, hb⟩; have HH2 := Aside0.mk (HH.out.below hb); have HT2 := Aside0.mk (below_step HT.out hb); clear hb)
      have c0 : w2.cell? ⟨w.heap.size, 0, none⟩ = some (.slice A0_0 l0_0.length c0_0) := cell_in HH2.out.1 0 rfl
      have c1 : w2.cell? ⟨w.heap.size, 1, none⟩ = some (.slice A0_1 l0_1.length c0_1) := cell_in HH2.out.1 1 rfl
      have c2 : w2.cell? ⟨w.heap.size, 2, none⟩ = some (.int .i64 a0_2) := cell_in HH2.out.1 2 rfl
      go_upto_region 5 with (first
        | (go_at_call 62; refine (few_heap' A0_0 c0_0 l0_0 A0_1 c0_1 l0_1 a0_2 _ HH2.out.2.1 HH2.out.2.2.2.1 HH2.out.2.2.1 HH2.out.2.2.2.2 true HB.out).mono ?_; rintro e w3 ⟨rfl, hb⟩; have HT3 := Aside0.mk (below_step HT2.out hb); have HH3 := Aside0.mk (HH2.out.below hb); clear hb c0 c1 c2; have c0 : w3.cell? ⟨w.heap.size, 0, none⟩ = some (.slice A0_0 l0_0.length c0_0) := cell_in HH3.out.1 0 rfl; have c1 : w3.cell? ⟨w.heap.size, 1, none⟩ = some (.slice A0_1 l0_1.length c0_1) := cell_in HH3.out.1 1 rfl; have c2 : w3.cell? ⟨w.heap.size, 2, none⟩ = some (.int .i64 a0_2) := cell_in HH3.out.1 2 rfl)
        | (go_at_call 65; refine (heap_Check.calls A0_0 c0_0 l0_0 A0_1 c0_1 l0_1 a0_2 0 _ HH3.out.2.1 HC0.out HH3.out.2.2.1 HC1.out HCK.out).mono ?_; rintro e w4 ⟨rfl, hb⟩; have HT4 := Aside0.mk (below_step HT3.out hb); have HH4 := Aside0.mk (HH3.out.below hb); clear hb c0 c1 c2; have c0 : w4.cell? ⟨w.heap.size, 0, none⟩ = some (.slice A0_0 l0_0.length c0_0) := cell_in HH4.out.1 0 rfl; have c1 : w4.cell? ⟨w.heap.size, 1, none⟩ = some (.slice A0_1 l0_1.length c0_1) := cell_in HH4.out.1 1 rfl; have c2 : w4.cell? ⟨w.heap.size, 2, none⟩ = some (.int .i64 a0_2) := cell_in HH4.out.1 2 rfl))
      go_upto_region 8 with (fail)
      have HX0 : Aside0 (HeapAt (w4.alloc (.cells #[.slice A0_0 l0_0.length c0_0, .slice A0_1 l0_1.length c0_1, .int .i64 a0_2] 74 (0, 0))) w4.heap.size A0_0 A0_1 c0_0 c0_1 l0_0 (l0_1.drop 0) a0_2) := ⟨⟨blk_new _ _, Kd.C_alloc HH4.out.2.1 _, Kd.C_alloc HH4.out.2.2.1 _, HC0.out, HC1.out⟩⟩
      have HB0 := Aside0.mk (below_alloc (Below.refl _ w4) (.cells #[.slice A0_0 l0_0.length c0_0, .slice A0_1 l0_1.length c0_1, .int .i64 a0_2] 74 (0, 0)))
      clear c0 c1 c2 HH HT HH2 HT2 HH3 HT3
      generalize w4.alloc (.cells #[.slice A0_0 l0_0.length c0_0, .slice A0_1 l0_1.length c0_1, .int .i64 a0_2] 74 (0, 0)) = w5 at HX0 HB0 ⊢
      generalize hgx : w4.heap.size = gx at HX0 ⊢
      have HGX := Aside0.mk (show w4.heap.size ≤ gx from Nat.le_of_eq hgx)
      clear hgx
      have hn60 : (l0_1.length : Int) ≤ 60 := by have := HSM.out; omega
      go_loopg [4, 5] l0_1.length (fun gg s4 s5 wr => ∃ (i : Nat) (A B : Option Addr) (c d : Nat), i ≤ l0_1.length ∧ l0_1.length - i ≤ gg ∧ s5 = .int .i64 i ∧ s4 = .int .i64 (lastV l0_1 i) ∧ Aside0 (HeapAt wr gx A B c d l0_0 (l0_1.drop i) a0_2) ∧ Aside0 (Below w4.heap.size w4 wr))
      case atStart => exact ⟨0, A0_0, A0_1, c0_0, c0_1, Nat.zero_le _, by omega, rfl, rfl, HX0, HB0⟩
      case round =>
        clear HX0 HB0 w5
        obtain ⟨i, A, B, c, d, hi, hgg, rfl, rfl, HX, HBR⟩ := hrel
        have HHR := Aside0.mk (HH4.out.below HBR.out)
        have c0 : wr.cell? ⟨w.heap.size, 0, none⟩ = some (.slice A0_0 l0_0.length c0_0) := cell_in HHR.out.1 0 rfl
        have c1 : wr.cell? ⟨w.heap.size, 1, none⟩ = some (.slice A0_1 l0_1.length c0_1) := cell_in HHR.out.1 1 rfl
        have c2 : wr.cell? ⟨w.heap.size, 2, none⟩ = some (.int .i64 a0_2) := cell_in HHR.out.1 2 rfl
        obtain ⟨ld, hld⟩ : ∃ ld, ld = l0_1.drop i := ⟨_, rfl⟩
        rw [← hld] at HX
        have HLD := Aside0.mk hld
        have x0 : wr.cell? ⟨gx, 0, none⟩ = some (.slice A l0_0.length c) := cell_in HX.out.1 0 rfl
        have x1 : wr.cell? ⟨gx, 1, none⟩ = some (.slice B ld.length d) := cell_in HX.out.1 1 rfl
        have x2 : wr.cell? ⟨gx, 2, none⟩ = some (.int .i64 a0_2) := cell_in HX.out.1 2 rfl
        by_cases hlt : i < l0_1.length
        · have hltz : (i : Int) < (l0_1.length : Int) := by omega
          have HLT := Aside0.mk hlt
          have HPOP := Aside0.mk (pop_at HCV.out hlt (by have := HSM.out; omega) (by have := HSM.out; omega))
          obtain ⟨le, hle⟩ : ∃ le, le = l0_1.drop (i + 1) := ⟨_, rfl⟩
          have HLL := Aside0.mk (show ld.length = le.length + 1 by rw [hld, hle, List.length_drop, List.length_drop]; omega)
          rw [← hld, ← hle] at HPOP
          have HLE := Aside0.mk hle
          obtain ⟨v, hv⟩ : ∃ v, v = rd l0_1 (i : Int) := ⟨_, rfl⟩
          rw [← hv] at HPOP
          have hkn := knownB'_iff.1 (rowOk_at (check_rowOk HCV.out) i hlt).1
          rw [← hv] at hkn
          obtain ⟨hv1, hv2⟩ := hkn
          have HV := Aside0.mk hv
          have HHAS := Aside0.mk (rowOk_has (check_rowOk HCV.out) hlt)
          rw [← hv, ← hle] at HHAS
          clear hv hle hld
          go_upto_region 11 with (go_at_call 74; refine (heap_Pop.calls A c l0_0 B d ld a0_2 l0_0 le a0_2 v 0 _ HX.out.2.1 HX.out.2.2.2.1 HX.out.2.2.1 HX.out.2.2.2.2 HPOP.out).mono ?_; rintro e w6 ⟨vA, vL, rfl, hA, hL, hb6⟩; obtain ⟨A6, a6, rfl⟩ := Kd.R_slice hA; obtain ⟨B6, b6, rfl, hle6⟩ := Kd.Q_slice hL; have HA6 := Aside0.mk hA; have HL6 := Aside0.mk hL; have HLE6 := Aside0.mk hle6; have HBR6 := Aside0.mk (below_step HBR.out hb6); have HX6 := Aside0.mk (HX.out.below hb6); clear hA hL hle6 hb6 c0 c1 c2 x0 x1 x2)
          have HY7 : Aside0 (HeapAt (w6.alloc (.cells #[.slice A6 l0_0.length a6, .slice B6 le.length b6, .int .i64 a0_2] 74 (0, 0))) w6.heap.size A6 B6 a6 b6 l0_0 le a0_2) := ⟨⟨blk_new _ _, Kd.C_alloc (Kd.R_reads' HA6.out).2.2 _, Kd.C_alloc (Kd.Q_reads' HL6.out).2.2 _, (Kd.R_reads' HA6.out).2.1, (Kd.Q_reads' HL6.out).2.1⟩⟩
          have HA7 := Aside0.mk (Kd.R_alloc HA6.out (.cells #[.slice A6 l0_0.length a6, .slice B6 le.length b6, .int .i64 a0_2] 74 (0, 0)))
          have HL7 := Aside0.mk (Kd.Q_alloc HL6.out (.cells #[.slice A6 l0_0.length a6, .slice B6 le.length b6, .int .i64 a0_2] 74 (0, 0)))
          have HX7 := Aside0.mk (HX6.out.below (below_alloc (Below.refl _ w6) (.cells #[.slice A6 l0_0.length a6, .slice B6 le.length b6, .int .i64 a0_2] 74 (0, 0))))
          have HBR7 := Aside0.mk (below_alloc HBR6.out (.cells #[.slice A6 l0_0.length a6, .slice B6 le.length b6, .int .i64 a0_2] 74 (0, 0)))
          have HG6 := Aside0.mk (show gx < w6.heap.size from blk_lt HX6.out.1)
          clear HA6 HL6 HX6 HBR6
          generalize w6.alloc (.cells #[.slice A6 l0_0.length a6, .slice B6 le.length b6, .int .i64 a0_2] 74 (0, 0)) = w7 at HY7 HA7 HL7 HX7 HBR7 ⊢
          generalize w6.heap.size = g6 at HY7 HG6 ⊢
          have HH7 := Aside0.mk (HH4.out.below HBR7.out)
          have c0 : w7.cell? ⟨w.heap.size, 0, none⟩ = some (.slice A0_0 l0_0.length c0_0) := cell_in HH7.out.1 0 rfl
          have c1 : w7.cell? ⟨w.heap.size, 1, none⟩ = some (.slice A0_1 l0_1.length c0_1) := cell_in HH7.out.1 1 rfl
          have x1 : w7.cell? ⟨gx, 1, none⟩ = some (.slice B (le.length + 1) d) := (by rw [← HLL.out]; exact cell_in HX7.out.1 1 rfl)
          have y1 : w7.cell? ⟨g6, 1, none⟩ = some (.slice B6 le.length b6) := cell_in HY7.out.1 1 rfl
          have hle60 : (le.length : Int) ≤ 60 := by have := HSM.out; have h2 := HLE.out; rw [h2, List.length_drop]; omega
          have HSM1 := Aside0.mk (show l0_1.length ≤ 100000 ∧ le.length ≤ 100000 by have := HSM.out; omega)
          go_upto_region 13 with (first
            | (go_at_call 78; (with_reducible refine (has_any A0_1 c0_1 l0_1 v _ HH7.out.cB HC1.out HSM1.out.1 true HHAS.out.1).mono ?_); rintro e w8 ⟨rfl, hd⟩; have hb : Below w7.heap.size w7 w8 := (by obtain ⟨q, hq⟩ := hd; rw [hq]; exact pw_below_drewN (Below.refl _ _) q); have HH8 := Aside0.mk (HH7.out.below hb); have HX8 := Aside0.mk (HX7.out.below hb); have HY8 := Aside0.mk (HY7.out.below hb); have HA8 := Aside0.mk (Kd.R_below HA7.out hb); have HL8 := Aside0.mk (Kd.Q_below HL7.out hb); have HBR8 := Aside0.mk (below_step HBR7.out hb); clear hb hd c0 c1 x1 y1; have c0 : w8.cell? ⟨w.heap.size, 0, none⟩ = some (.slice A0_0 l0_0.length c0_0) := cell_in HH8.out.1 0 rfl; have c1 : w8.cell? ⟨w.heap.size, 1, none⟩ = some (.slice A0_1 l0_1.length c0_1) := cell_in HH8.out.1 1 rfl; have x1 : w8.cell? ⟨gx, 1, none⟩ = some (.slice B (le.length + 1) d) := (by rw [← HLL.out]; exact cell_in HX8.out.1 1 rfl); have y1 : w8.cell? ⟨g6, 1, none⟩ = some (.slice B6 le.length b6) := cell_in HY8.out.1 1 rfl)
            | (go_at_call 78; (with_reducible refine (has_any B6 b6 le v _ HY8.out.cB HY8.out.lB HSM1.out.2 false HHAS.out.2).mono ?_); rintro e w9 ⟨rfl, hd⟩; have hb : Below w8.heap.size w8 w9 := (by obtain ⟨q, hq⟩ := hd; rw [hq]; exact pw_below_drewN (Below.refl _ _) q); have HH9 := Aside0.mk (HH8.out.below hb); have HX9 := Aside0.mk (HX8.out.below hb); have HY9 := Aside0.mk (HY8.out.below hb); have HA9 := Aside0.mk (Kd.R_below HA8.out hb); have HL9 := Aside0.mk (Kd.Q_below HL8.out hb); have HBR9 := Aside0.mk (below_step HBR8.out hb); clear hb hd c0 c1 x1 y1; have c0 : w9.cell? ⟨w.heap.size, 0, none⟩ = some (.slice A0_0 l0_0.length c0_0) := cell_in HH9.out.1 0 rfl; have c1 : w9.cell? ⟨w.heap.size, 1, none⟩ = some (.slice A0_1 l0_1.length c0_1) := cell_in HH9.out.1 1 rfl; have x1 : w9.cell? ⟨gx, 1, none⟩ = some (.slice B (le.length + 1) d) := (by rw [← HLL.out]; exact cell_in HX9.out.1 1 rfl); have y1 : w9.cell? ⟨g6, 1, none⟩ = some (.slice B6 le.length b6) := cell_in HY9.out.1 1 rfl))
          clear c0 c1 x1 y1
          by_cases hi0 : i = 0
          · subst hi0
            go_quiet (fail)
            have hb := pw_below_drewN (Below.refl w9.heap.size w9) nq
            have HH10 := Aside0.mk (HH9.out.below hb)
            have HX10 := Aside0.mk (HX9.out.below hb)
            have HY10 := Aside0.mk (HY9.out.below hb)
            have HA10 := Aside0.mk (Kd.R_below HA9.out hb)
            have HL10 := Aside0.mk (Kd.Q_below HL9.out hb)
            have HBR10 := Aside0.mk (below_step HBR9.out hb)
            clear hb HH9 HX9 HY9 HA9 HL9 HBR9
            generalize w9.drewN nq = w10 at HH10 HX10 HY10 HA10 HL10 HBR10 ⊢
            have y0 : w10.cell? ⟨g6, 0, none⟩ = some (.slice A6 l0_0.length a6) := cell_in HY10.out.1 0 rfl
            have y1 : w10.cell? ⟨g6, 1, none⟩ = some (.slice B6 le.length b6) := cell_in HY10.out.1 1 rfl
            have y2 : w10.cell? ⟨g6, 2, none⟩ = some (.int .i64 a0_2) := cell_in HY10.out.1 2 rfl
            have x0 : w10.cell? ⟨gx, 0, none⟩ = some (.slice A l0_0.length c) := cell_in HX10.out.1 0 rfl
            have x1 : w10.cell? ⟨gx, 1, none⟩ = some (.slice B ld.length d) := cell_in HX10.out.1 1 rfl
            have x2 : w10.cell? ⟨gx, 2, none⟩ = some (.int .i64 a0_2) := cell_in HX10.out.1 2 rfl
            have xf0 : w10.frozen? ⟨gx, 0, none⟩ = false := blk_frozen HX10.out.1 0
            have xf1 : w10.frozen? ⟨gx, 1, none⟩ = false := blk_frozen HX10.out.1 1
            have xf2 : w10.frozen? ⟨gx, 2, none⟩ = false := blk_frozen HX10.out.1 2
            have HN : Aside0 (HeapAt (((w10.setCell ⟨gx, 0, none⟩ (.slice A6 l0_0.length a6)).setCell ⟨gx, 1, none⟩ (.slice B6 le.length b6)).setCell ⟨gx, 2, none⟩ (.int .i64 a0_2)) gx A6 B6 a6 b6 l0_0 (l0_1.drop (0 + 1)) a0_2) := ⟨by
              rw [← HLE.out]
              exact ⟨put3 HX10.out.1, (Kd.R_reads' (set3c_R HA10.out HX10.out.1)).2.2, (Kd.Q_reads' (set3c_Q HL10.out HX10.out.1)).2.2, HY10.out.lA, HY10.out.lB⟩⟩
            have HBN : Aside0 (Below w4.heap.size w4 (((w10.setCell ⟨gx, 0, none⟩ (.slice A6 l0_0.length a6)).setCell ⟨gx, 1, none⟩ (.slice B6 le.length b6)).setCell ⟨gx, 2, none⟩ (.int .i64 a0_2))) := ⟨below_set (below_set (below_set HBR10.out HGX.out) HGX.out) HGX.out⟩
            have HLV := Aside0.mk (show v = lastV l0_1 (0 + 1) from HV.out)
            clear HX10 HY10 HA10 HL10 HBR10 HH10
            go_wp2
            go_roundg (l0_1.length - (0 + 1))
            case measure => omega
            case rel => exact ⟨0 + 1, A6, B6, a6, b6, by omega, by omega, by first | rfl | go_num, by rw [← HLV.out], HN, HBN⟩
          · have hipos : (0 : Int) < (i : Int) := by omega
            obtain ⟨j, hj⟩ : ∃ j, i = j + 1 := ⟨i - 1, by omega⟩
            have hord := rowOk_sorted (check_rowOk HCV.out) j i (by omega) HLT.out
            rw [← HV.out] at hord
            obtain ⟨hu1, hu2⟩ := knownB'_iff.1 (rowOk_at (check_rowOk HCV.out) j (by omega)).1
            have hlv : lastV l0_1 i = rd l0_1 (j : Int) := by rw [hj]; rfl
            obtain ⟨u, hu⟩ : ∃ u, u = lastV l0_1 i := ⟨_, rfl⟩
            rw [← hlv, ← hu] at hord hu1 hu2
            rw [← hu]
            rw [ordV_neg] at hord
            clear hlv hu hj
            obtain ⟨ad, e1, hcu⟩ := Kd.at_int HH9.out.cA u (by omega) (by omega)
            obtain ⟨ad2, e2, hcv⟩ := Kd.at_int HH9.out.cA v (by omega) (by omega)
            have ead : ad = ad2 := by rw [e1] at e2; injection e2
            subst ead
            have c0 : w9.cell? ⟨w.heap.size, 0, none⟩ = some (.slice (some ad) l0_0.length c0_0) := by rw [← e1]; exact cell_in HH9.out.1 0 rfl
            clear e1 e2
            obtain ⟨xu, hxu⟩ : ∃ x, x = rd l0_0 u := ⟨_, rfl⟩
            obtain ⟨xv, hxv⟩ : ∃ x, x = rd l0_0 v := ⟨_, rfl⟩
            rw [← hxu] at hcu hord
            rw [← hxv] at hcv hord
            clear hxu hxv
            have hu0 : (0 : Int) ≤ u := by omega
            have hv0 : (0 : Int) ≤ v := by omega
            have hd0 : decide ((i : Int) > 0) = true := decide_eq_true hipos
            have hin : 0 < i := by omega
            rcases hord with hlt2 | ⟨heq, hlt2⟩
            · have hd1 : decide (xu < xv) = false := decide_eq_false (by omega)
              have hd2 : (xu == xv) = false := by simp; omega
              go_quiet (fail)
              clear c0 hcu hcv
              have hb := pw_below_drewN (Below.refl w9.heap.size w9) nq
              have HH10 := Aside0.mk (HH9.out.below hb)
              have HX10 := Aside0.mk (HX9.out.below hb)
              have HY10 := Aside0.mk (HY9.out.below hb)
              have HA10 := Aside0.mk (Kd.R_below HA9.out hb)
              have HL10 := Aside0.mk (Kd.Q_below HL9.out hb)
              have HBR10 := Aside0.mk (below_step HBR9.out hb)
              clear hb HH9 HX9 HY9 HA9 HL9 HBR9
              generalize w9.drewN nq = w10 at HH10 HX10 HY10 HA10 HL10 HBR10 ⊢
              have y0 : w10.cell? ⟨g6, 0, none⟩ = some (.slice A6 l0_0.length a6) := cell_in HY10.out.1 0 rfl
              have y1 : w10.cell? ⟨g6, 1, none⟩ = some (.slice B6 le.length b6) := cell_in HY10.out.1 1 rfl
              have y2 : w10.cell? ⟨g6, 2, none⟩ = some (.int .i64 a0_2) := cell_in HY10.out.1 2 rfl
              have x0 : w10.cell? ⟨gx, 0, none⟩ = some (.slice A l0_0.length c) := cell_in HX10.out.1 0 rfl
              have x1 : w10.cell? ⟨gx, 1, none⟩ = some (.slice B ld.length d) := cell_in HX10.out.1 1 rfl
              have x2 : w10.cell? ⟨gx, 2, none⟩ = some (.int .i64 a0_2) := cell_in HX10.out.1 2 rfl
              have xf0 : w10.frozen? ⟨gx, 0, none⟩ = false := blk_frozen HX10.out.1 0
              have xf1 : w10.frozen? ⟨gx, 1, none⟩ = false := blk_frozen HX10.out.1 1
              have xf2 : w10.frozen? ⟨gx, 2, none⟩ = false := blk_frozen HX10.out.1 2
              have HN : Aside0 (HeapAt (((w10.setCell ⟨gx, 0, none⟩ (.slice A6 l0_0.length a6)).setCell ⟨gx, 1, none⟩ (.slice B6 le.length b6)).setCell ⟨gx, 2, none⟩ (.int .i64 a0_2)) gx A6 B6 a6 b6 l0_0 (l0_1.drop (i + 1)) a0_2) := ⟨by
                rw [← HLE.out]
                exact ⟨put3 HX10.out.1, (Kd.R_reads' (set3c_R HA10.out HX10.out.1)).2.2, (Kd.Q_reads' (set3c_Q HL10.out HX10.out.1)).2.2, HY10.out.lA, HY10.out.lB⟩⟩
              have HBN : Aside0 (Below w4.heap.size w4 (((w10.setCell ⟨gx, 0, none⟩ (.slice A6 l0_0.length a6)).setCell ⟨gx, 1, none⟩ (.slice B6 le.length b6)).setCell ⟨gx, 2, none⟩ (.int .i64 a0_2))) := ⟨below_set (below_set (below_set HBR10.out HGX.out) HGX.out) HGX.out⟩
              have HLV := Aside0.mk (show v = lastV l0_1 (i + 1) from HV.out)
              clear HX10 HY10 HA10 HL10 HBR10 HH10
              go_wp2
              go_roundg (l0_1.length - (i + 1))
              case measure => omega
              case rel => exact ⟨i + 1, A6, B6, a6, b6, by omega, by omega, by go_num, by rw [← HLV.out], HN, HBN⟩
            · subst heq
              have hd1 : decide (xv < xv) = false := decide_eq_false (by omega)
              have hd3 : decide (u ≥ v) = false := decide_eq_false (by omega)
              go_quiet (fail)
              clear c0 hcu hcv
              have hb := pw_below_drewN (Below.refl w9.heap.size w9) nq
              have HH10 := Aside0.mk (HH9.out.below hb)
              have HX10 := Aside0.mk (HX9.out.below hb)
              have HY10 := Aside0.mk (HY9.out.below hb)
              have HA10 := Aside0.mk (Kd.R_below HA9.out hb)
              have HL10 := Aside0.mk (Kd.Q_below HL9.out hb)
              have HBR10 := Aside0.mk (below_step HBR9.out hb)
              clear hb HH9 HX9 HY9 HA9 HL9 HBR9
              generalize w9.drewN nq = w10 at HH10 HX10 HY10 HA10 HL10 HBR10 ⊢
              have y0 : w10.cell? ⟨g6, 0, none⟩ = some (.slice A6 l0_0.length a6) := cell_in HY10.out.1 0 rfl
              have y1 : w10.cell? ⟨g6, 1, none⟩ = some (.slice B6 le.length b6) := cell_in HY10.out.1 1 rfl
              have y2 : w10.cell? ⟨g6, 2, none⟩ = some (.int .i64 a0_2) := cell_in HY10.out.1 2 rfl
              have x0 : w10.cell? ⟨gx, 0, none⟩ = some (.slice A l0_0.length c) := cell_in HX10.out.1 0 rfl
              have x1 : w10.cell? ⟨gx, 1, none⟩ = some (.slice B ld.length d) := cell_in HX10.out.1 1 rfl
              have x2 : w10.cell? ⟨gx, 2, none⟩ = some (.int .i64 a0_2) := cell_in HX10.out.1 2 rfl
              have xf0 : w10.frozen? ⟨gx, 0, none⟩ = false := blk_frozen HX10.out.1 0
              have xf1 : w10.frozen? ⟨gx, 1, none⟩ = false := blk_frozen HX10.out.1 1
              have xf2 : w10.frozen? ⟨gx, 2, none⟩ = false := blk_frozen HX10.out.1 2
              have HN : Aside0 (HeapAt (((w10.setCell ⟨gx, 0, none⟩ (.slice A6 l0_0.length a6)).setCell ⟨gx, 1, none⟩ (.slice B6 le.length b6)).setCell ⟨gx, 2, none⟩ (.int .i64 a0_2)) gx A6 B6 a6 b6 l0_0 (l0_1.drop (i + 1)) a0_2) := ⟨by
                rw [← HLE.out]
                exact ⟨put3 HX10.out.1, (Kd.R_reads' (set3c_R HA10.out HX10.out.1)).2.2, (Kd.Q_reads' (set3c_Q HL10.out HX10.out.1)).2.2, HY10.out.lA, HY10.out.lB⟩⟩
              have HBN : Aside0 (Below w4.heap.size w4 (((w10.setCell ⟨gx, 0, none⟩ (.slice A6 l0_0.length a6)).setCell ⟨gx, 1, none⟩ (.slice B6 le.length b6)).setCell ⟨gx, 2, none⟩ (.int .i64 a0_2))) := ⟨below_set (below_set (below_set HBR10.out HGX.out) HGX.out) HGX.out⟩
              have HLV := Aside0.mk (show v = lastV l0_1 (i + 1) from HV.out)
              clear HX10 HY10 HA10 HL10 HBR10 HH10
              go_wp2
              go_roundg (l0_1.length - (i + 1))
              case measure => omega
              case rel => exact ⟨i + 1, A6, B6, a6, b6, by omega, by omega, by go_num, by rw [← HLV.out], HN, HBN⟩
        · have hltz : ¬ (i : Int) < (l0_1.length : Int) := by omega
          obtain rfl : i = l0_1.length := by omega
          have HPOP := Aside0.mk (pop_end HCV.out (by have := HSM.out; omega))
          rw [← hld] at HPOP
          clear hld
          go_upto_region 18 with (go_at_call 74; refine (heap_Pop.calls A c l0_0 B d ld a0_2 [] [] 0 0 270 _ HX.out.2.1 HX.out.2.2.2.1 HX.out.2.2.1 HX.out.2.2.2.2 HPOP.out).mono ?_; rintro e w6 ⟨vA, vL, rfl, hA, hL, hb6⟩; obtain ⟨A6, a6, rfl⟩ := Kd.R_slice hA; obtain ⟨B6, b6, rfl, hle6⟩ := Kd.Q_slice hL; have HBR6 := Aside0.mk (below_step HBR.out hb6); have HX6 := Aside0.mk (HX.out.below hb6); clear hA hL hle6 hb6 c0 c1 c2 x0 x1 x2)
          have HX7 := Aside0.mk (HX6.out.below (below_alloc (Below.refl _ w6) (.cells #[.slice A6 0 a6, .slice B6 0 b6, .int .i64 0] 74 (0, 0))))
          have HBR7 := Aside0.mk (below_alloc HBR6.out (.cells #[.slice A6 0 a6, .slice B6 0 b6, .int .i64 0] 74 (0, 0)))
          clear HX6 HBR6
          generalize w6.alloc (.cells #[.slice A6 0 a6, .slice B6 0 b6, .int .i64 0] 74 (0, 0)) = w7 at HX7 HBR7 ⊢
          generalize w6.heap.size = g6
          have HH7 := Aside0.mk (HH4.out.below HBR7.out)
          have c0 : w7.cell? ⟨w.heap.size, 0, none⟩ = some (.slice A0_0 l0_0.length c0_0) := cell_in HH7.out.1 0 rfl
          have c2 : w7.cell? ⟨w.heap.size, 2, none⟩ = some (.int .i64 a0_2) := cell_in HH7.out.1 2 rfl
          have x0 : w7.cell? ⟨gx, 0, none⟩ = some (.slice A l0_0.length c) := cell_in HX7.out.1 0 rfl
          have x2 : w7.cell? ⟨gx, 2, none⟩ = some (.int .i64 a0_2) := cell_in HX7.out.1 2 rfl
          have HI := Aside0.mk (ref_ints l0_0 (by have := HSM.out; omega) (l0_0.length + 1) (by omega))
          go_wp2_with (go_at_call 79; refine (chalklineref21_Ints.calls _ A c l0_0 A0_0 c0_0 l0_0 true _ HX7.out.2.1 HX7.out.2.2.2.1 HH7.out.2.1 HC0.out HI.out).mono ?_; rintro e w8 ⟨rfl, hd⟩; have hb := hd.below; have HX8 := Aside0.mk (HX7.out.below hb); have HH8 := Aside0.mk (HH7.out.below hb); have HBR8 := Aside0.mk (below_step HBR7.out hb); clear hd hb c0 c2 x0 x2; have c2 : w8.cell? ⟨w.heap.size, 2, none⟩ = some (.int .i64 a0_2) := cell_in HH8.out.1 2 rfl; have x2 : w8.cell? ⟨gx, 2, none⟩ = some (.int .i64 a0_2) := cell_in HX8.out.1 2 rfl)
          go_ret
          exact ⟨rfl, below_step HT4.out HBR8.out⟩
    · have h0z : (cv != 0) = true := by simp [h0]
      clear hcv
      go_enter Try.func21, Try.ntmps21
      go_upto_region 1 with (fail)
      generalize w.alloc (.cells #[.slice A0_0 l0_0.length c0_0, .slice A0_1 l0_1.length c0_1, .int .i64 a0_2] 74 (0, 0)) = w1 at HH HT ⊢
      go_upto_region 3 with (go_at_call 61; refine (HLIVE.out _).mono ?_; rintro e w2 ⟨rfl, hb⟩; have HH2 := Aside0.mk (HH.out.below hb); have HT2 := Aside0.mk (below_step HT.out hb); clear hb)
      have c0 : w2.cell? ⟨w.heap.size, 0, none⟩ = some (.slice A0_0 l0_0.length c0_0) := cell_in HH2.out.1 0 rfl
      have c1 : w2.cell? ⟨w.heap.size, 1, none⟩ = some (.slice A0_1 l0_1.length c0_1) := cell_in HH2.out.1 1 rfl
      have c2 : w2.cell? ⟨w.heap.size, 2, none⟩ = some (.int .i64 a0_2) := cell_in HH2.out.1 2 rfl
      go_wp2_with (first
        | (go_at_call 62; refine (few_heap' A0_0 c0_0 l0_0 A0_1 c0_1 l0_1 a0_2 _ HH2.out.2.1 HH2.out.2.2.2.1 HH2.out.2.2.1 HH2.out.2.2.2.2 true HB.out).mono ?_; rintro e w3 ⟨rfl, hb⟩; have HT3 := Aside0.mk (below_step HT2.out hb); have HH3 := Aside0.mk (HH2.out.below hb); clear hb c0 c1 c2; have c0 : w3.cell? ⟨w.heap.size, 0, none⟩ = some (.slice A0_0 l0_0.length c0_0) := cell_in HH3.out.1 0 rfl; have c1 : w3.cell? ⟨w.heap.size, 1, none⟩ = some (.slice A0_1 l0_1.length c0_1) := cell_in HH3.out.1 1 rfl; have c2 : w3.cell? ⟨w.heap.size, 2, none⟩ = some (.int .i64 a0_2) := cell_in HH3.out.1 2 rfl)
        | (go_at_call 65; refine (heap_Check.calls A0_0 c0_0 l0_0 A0_1 c0_1 l0_1 a0_2 cv _ HH3.out.2.1 HC0.out HH3.out.2.2.1 HC1.out HCK.out).mono ?_; rintro e w4 ⟨rfl, hb⟩; have HT4 := Aside0.mk (below_step HT3.out hb); clear hb))
      go_ret
      exact ⟨rfl, HT4.out⟩
end Go.Proofs.Ytobadajeekdakaa.Print

namespace Go.Proofs.Ytobadajeekdakaa.Print
theorem Pure.HeapPopSorted (l0_0 l0_1 : List Int) (a0_2 : Int) (_ : ∀ x ∈ l0_0, (Lit.int .i64 x).wf = true) (_ : ∀ x ∈ l0_1, (Lit.int .i64 x).wf = true) (_ : (Lit.int .i64 a0_2).wf = true) : chalklinelaw21_HeapPopSorted.f l0_0 l0_1  a0_2      = some true := rfl
end Go.Proofs.Ytobadajeekdakaa.Print
