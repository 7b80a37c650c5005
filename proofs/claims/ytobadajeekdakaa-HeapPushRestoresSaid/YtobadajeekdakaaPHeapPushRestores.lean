/- The Luby sequence, in plain words, and what heap.Luby answers. The reference's Check, New, Ints, Same, Luby (layer 21), in plain words. New, Ints, Same, Luby of the reference (layer 21), in plain words. Plain words and small contracts for the laws that pop a heap empty. Plain words for the law that pushes what it has popped. chalklinelaw21.HeapPushRestores: its contract: it answers true. HeapPushRestores in plain words: the walk shows that the law answers true. -/
import Derived.Test.YtobadajeekdakaaF63
import Derived.Test.YtobadajeekdakaaF141
import Derived.Test.YtobadajeekdakaaF64
import Derived.Test.YtobadajeekdakaaF67
import Derived.Test.YtobadajeekdakaaHG
import Derived.Test.YtobadajeekdakaaF62
import Derived.Test.YtobadajeekdakaaF78
import Derived.Test.YtobadajeekdakaaHQ
namespace Go.Proofs.Ytobadajeekdakaa.Print
open Go.RowKit Go.Proofs.YtobadajeekdakaaW.PrintWords Go.Proofs.YtobadajeekdakaaW.PrintLast Go.Proofs.YtobadajeekdakaaW.PrintMore
set_option linter.unusedVariables false

/-- r is the i-th element of the Luby sequence. -/
inductive LubyIs : Nat → Nat → Prop where
  | top (j : Nat) : LubyIs (2 ^ (j + 1) - 1) (2 ^ j)
  | fall {j i r : Nat} (h1 : 2 ^ j ≤ i) (h2 : i < 2 ^ (j + 1) - 1) (h : LubyIs (i - (2 ^ j - 1)) r) : LubyIs i r
theorem LubyIs.some : ∀ (n i : Nat), i ≤ n → 1 ≤ i → ∃ r, LubyIs i r
  | 0, i, h, h1 => absurd h1 (by omega)
  | n + 1, i, h, h1 => by
    have hb : ∃ j, 2 ^ j ≤ i ∧ i < 2 ^ (j + 1) := ⟨Nat.log2 i, Nat.log2_self_le (by omega), Nat.lt_log2_self⟩
    obtain ⟨j, h2, h3⟩ := hb
    by_cases he : i = 2 ^ (j + 1) - 1
    · exact ⟨_, he ▸ LubyIs.top j⟩
    · have hp : 1 ≤ 2 ^ j := Nat.one_le_two_pow
      have hj : 2 ≤ 2 ^ j ∨ j = 0 := by
        cases j with
        | zero => exact .inr rfl
        | succ j => exact .inl (by have := Nat.one_le_two_pow (n := j); rw [Nat.pow_succ]; omega)
      rcases hj with hj | rfl
      · obtain ⟨r, hr⟩ := LubyIs.some n (i - (2 ^ j - 1)) (by omega) (by omega)
        exact ⟨r, .fall h2 (by omega) hr⟩
      · simp at h3 he; omega
theorem two_pow_inj {j i k : Nat} (h1 : 2 ^ j ≤ i) (h2 : i < 2 ^ (j + 1)) (h3 : 2 ^ k ≤ i) (h4 : i < 2 ^ (k + 1)) : j = k := by
  have a : j < k + 1 := (Nat.pow_lt_pow_iff_right (by decide)).1 (Nat.lt_of_le_of_lt h1 h4)
  have b : k < j + 1 := (Nat.pow_lt_pow_iff_right (by decide)).1 (Nat.lt_of_le_of_lt h3 h2)
  omega
theorem LubyIs.only {i r : Nat} (h : LubyIs i r) : ∀ {q : Nat}, LubyIs i q → q = r := by
  have ev : ∀ j : Nat, 2 ^ j ≤ 2 ^ (j + 1) - 1 := fun j => by have := Nat.one_le_two_pow (n := j); rw [Nat.pow_succ]; omega
  have lt : ∀ j : Nat, 2 ^ (j + 1) - 1 < 2 ^ (j + 1) := fun j => by have := Nat.one_le_two_pow (n := j + 1); omega
  induction h with
  | top j =>
    intro q hq
    generalize hi : 2 ^ (j + 1) - 1 = i at hq
    cases hq with
    | top k =>
      have := two_pow_inj (ev j) (lt j) (by rw [hi]; exact ev k) (by rw [hi]; exact lt k)
      rw [this]
    | fall h1 h2 h =>
      rename_i k
      have := two_pow_inj (ev j) (lt j) (k := k) (by omega) (by omega)
      subst this
      omega
  | fall h1 h2 h ih =>
    rename_i j i r
    intro q hq
    cases hq with
    | top k =>
      have := two_pow_inj h1 (by omega) (ev k) (lt k)
      subst this
      omega
    | fall h3 h4 h5 =>
      rename_i k
      have := two_pow_inj h1 (by omega) h3 (by omega)
      subst this
      exact ih h5
/-! ### heap.Luby -/
theorem wrap_same {x : Int} (h1 : -9223372036854775808 ≤ x) (h2 : x ≤ 9223372036854775807) : wrap64 x = x := by unfold wrap64; omega
end Go.Proofs.Ytobadajeekdakaa.Print

namespace Go.Proofs.Ytobadajeekdakaa.Print
open Go.RowKit Go.Proofs.YtobadajeekdakaaW.PrintWords Go.Proofs.YtobadajeekdakaaW.PrintLast Go.Proofs.YtobadajeekdakaaW.PrintMore
set_option linter.unusedVariables false

end Go.Proofs.Ytobadajeekdakaa.Print

namespace Go.Proofs.Ytobadajeekdakaa.Print
open Go.RowKit Go.Proofs.YtobadajeekdakaaW.PrintWords Go.Proofs.YtobadajeekdakaaW.PrintLast Go.Proofs.YtobadajeekdakaaW.PrintMore
set_option linter.unusedVariables false

theorem ref_ints_l0 (xs : List Int) (hx : xs.length ≤ 9223372036854775806) : ∀ (d i k : Nat), i + d = xs.length → d < k → chalklineref21_Ints.l0 k xs xs (i : Int) = some true
  | 0, i, k, hi, hk => by
    obtain ⟨k, rfl⟩ : ∃ m, k = m + 1 := ⟨k - 1, by omega⟩
    simp only [chalklineref21_Ints.l0]
    rw [if_neg (by omega)]
  | d + 1, i, k, hi, hk => by
    obtain ⟨k, rfl⟩ : ∃ m, k = m + 1 := ⟨k - 1, by omega⟩
    have hw : wrap64 ((i : Int) + 1) = ((i + 1 : Nat) : Int) := by rw [wrap_same (by omega) (by omega)]; omega
    simp only [chalklineref21_Ints.l0]
    rw [if_pos (by omega), if_pos (by omega), if_pos (by omega), if_pos trivial, hw]
    exact ref_ints_l0 xs hx d (i + 1) k (by omega) (by omega)
theorem ref_ints (xs : List Int) (hx : xs.length ≤ 9223372036854775806) : ∀ k, xs.length < k → chalklineref21_Ints.f k xs xs = some true := by
  intro k hk
  unfold chalklineref21_Ints.f
  rw [if_pos rfl]
  exact ref_ints_l0 xs hx xs.length 0 k (by omega) hk
theorem ref_same (A L : List Int) (b : Int) (hA : A.length ≤ 9223372036854775806) (hL : L.length ≤ 9223372036854775806) : ∀ k, A.length + L.length < k → chalklineref21_Same.f k A L b A L b = some true := by
  intro k hk
  unfold chalklineref21_Same.f
  rw [ref_ints A hA k (by omega)]
  simp only [Option.bind_some, if_true]
  rw [ref_ints L hL k (by omega)]
  simp
end Go.Proofs.Ytobadajeekdakaa.Print

namespace Go.Proofs.Ytobadajeekdakaa.Print
open Go.RowKit Go.Proofs.YtobadajeekdakaaW.PrintWords Go.Proofs.YtobadajeekdakaaW.PrintLast Go.Proofs.YtobadajeekdakaaW.PrintMore
set_option linter.unusedVariables false
set_option linter.unusedSimpArgs false

theorem few_heap' (A0_0 : Option Addr) (c0_0 : Nat) (l0_0 : List Int) (A0_1 : Option Addr) (c0_1 : Nat) (l0_1 : List Int) (a0_2 : Int) (w : World) (hr0_0 : Kd.C (Kd.int .i64) w A0_0 l0_0.length l0_0) (hc0_0 : l0_0.length ≤ c0_0) (hr0_1 : Kd.C (Kd.int .i64) w A0_1 l0_1.length l0_1) (hc0_1 : l0_1.length ≤ c0_1) (b : Bool) (hb : decide (l0_0.length ≤ 60 ∧ l0_1.length ≤ 60) = b) :
    Calls Try.prog 62 #[.agg #[.slice A0_0 l0_0.length c0_0, .slice A0_1 l0_1.length c0_1, .int .i64 a0_2]] w fun e w' => e = .returned (.bool b) ∧ Below w.heap.size w w' := by
  refine chalklineref21_Few.calls A0_0 c0_0 l0_0 A0_1 c0_1 l0_1 a0_2 b w hr0_0 hc0_0 hr0_1 hc0_1 ?_
  unfold chalklineref21_Few.f
  rw [← hb]
  by_cases h : l0_0.length ≤ 60
  · rw [if_pos (by omega)]
    congr 1
    rw [decide_eq_decide]
    omega
  · rw [if_neg (by omega), decide_eq_false (by omega)]
theorem rd_drop (l : List Int) (i j : Nat) : rd (l.drop i) (j : Int) = rd l ((i + j : Nat) : Int) := by
  unfold rd
  rw [Int.toNat_natCast, Int.toNat_natCast, List.getD_eq_getElem?_getD, List.getD_eq_getElem?_getD, List.getElem?_drop]
/-- A queue in order is one whose elements are known, each ahead of all behind it. -/
theorem rowOk_iff {act l : List Int} : rowOkB act l = true ↔ (∀ i : Nat, i < l.length → knownB' act (rd l (i : Int)) = true) ∧ ∀ i j : Nat, i < j → j < l.length → ordV act (rd l (i : Int)) (rd l (j : Int)) < 0 := by
  constructor
  · intro h
    exact ⟨fun i hi => (rowOk_at h i hi).1, fun i j h1 h2 => rowOk_sorted h i j h1 h2⟩
  · rintro ⟨h1, h2⟩
    refine rowOk_true fun i hi => ?_
    unfold placeB
    rw [h1 i hi, Bool.true_and]
    by_cases h0 : i = 0
    · simp [h0]
    · have := h2 (i - 1) i (by omega) hi
      rw [show ((i - 1 : Nat) : Int) = (i : Int) - 1 by omega] at this
      simp [this]
theorem rowOk_drop {act l : List Int} (h : rowOkB act l = true) (i : Nat) : rowOkB act (l.drop i) = true := by
  obtain ⟨h1, h2⟩ := rowOk_iff.1 h
  refine rowOk_iff.2 ⟨fun j hj => ?_, fun j k hjk hk => ?_⟩
  · rw [rd_drop]; rw [List.length_drop] at hj; exact h1 _ (by omega)
  · rw [rd_drop, rd_drop]; rw [List.length_drop] at hk; exact h2 _ _ (by omega) (by omega)
theorem check_of {act l l' : List Int} {b : Int} (h : hpCheckV act l b = 0) (hl : rowOkB act l' = true) : hpCheckV act l' b = 0 := by
  unfold hpCheckV at h ⊢
  split at h
  · omega
  · rename_i h1
    rw [if_neg h1]
    split at h
    · omega
    · rename_i h2
      rw [if_neg h2, if_pos hl]
theorem pop_at {act l : List Int} {b : Int} (h : hpCheckV act l b = 0) {i : Nat} (hi : i < l.length) (ha : act.length ≤ 100000) (hl : l.length ≤ 100000) : heap_Pop.f act (l.drop i) b = some (act, l.drop (i + 1), b, rd l (i : Int), 0) := by
  have hc := check_of h (rowOk_drop (check_rowOk h) i)
  unfold heap_Pop.f popV
  rw [if_pos (by simp [smallB]; omega), if_neg (by rw [hc]; simp), if_neg (by rw [List.length_drop]; omega), List.drop_drop]
  have := rd_drop l i 0
  rw [show ((0 : Nat) : Int) = 0 from rfl] at this
  rw [this]
  rfl
section
variable {W : World} {g : Nat} {A B : Option Addr} {c d : Nat} {act l : List Int} {by_ : Int}
end
theorem set3c_R {w : World} {g base : Nat} {ok : Nat → Prop} {v u1 u2 u3 : Value} {xs : List Int} {cs : Array Value} (h : Kd.R (Kd.int .i64) 3 w base ok v xs) (hz : w.heap[g]? = some (.cells cs 74 (0, 0))) :
    Kd.R (Kd.int .i64) 3 (((w.setCell ⟨g, 0, none⟩ u1).setCell ⟨g, 1, none⟩ u2).setCell ⟨g, 2, none⟩ u3) base ok v xs := by
  have h1 := blk_put hz 0 u1 rfl
  have h2 := blk_put h1 1 u2 rfl
  exact Kd.R_set (Kd.R_set (Kd.R_set h hz ne74 0 u1) h1 ne74 1 u2) h2 ne74 2 u3
theorem set3c_Q {w : World} {g base : Nat} {ok : Nat → Prop} {v u1 u2 u3 : Value} {xs : List Int} {cs : Array Value} (h : Kd.Q (Kd.int .i64) 3 w base ok v xs) (hz : w.heap[g]? = some (.cells cs 74 (0, 0))) :
    Kd.Q (Kd.int .i64) 3 (((w.setCell ⟨g, 0, none⟩ u1).setCell ⟨g, 1, none⟩ u2).setCell ⟨g, 2, none⟩ u3) base ok v xs := by
  have h1 := blk_put hz 0 u1 rfl
  have h2 := blk_put h1 1 u2 rfl
  exact Kd.Q_set (Kd.Q_set (Kd.Q_set h hz ne74 0 u1) h1 ne74 1 u2) h2 ne74 2 u3
theorem put3 {w : World} {g : Nat} {a1 a2 a3 u1 u2 u3 : Value} (h : w.heap[g]? = some (.cells #[a1, a2, a3] 74 (0, 0))) : (((w.setCell ⟨g, 0, none⟩ u1).setCell ⟨g, 1, none⟩ u2).setCell ⟨g, 2, none⟩ u3).heap[g]? = some (.cells #[u1, u2, u3] 74 (0, 0)) :=
  blk_put (blk_put (blk_put h 0 _ rfl) 1 _ rfl) 2 _ rfl
end Go.Proofs.Ytobadajeekdakaa.Print

namespace Go.Proofs.Ytobadajeekdakaa.Print
open Go.RowKit Go.Proofs.YtobadajeekdakaaW.PrintWords Go.Proofs.YtobadajeekdakaaW.PrintLast Go.Proofs.YtobadajeekdakaaW.PrintMore
set_option linter.unusedVariables false

theorem rowOk_pw {act l : List Int} : rowOkB act l = true ↔ (∀ x ∈ l, knownB' act x = true) ∧ l.Pairwise (fun x y => ordV act x y < 0) := by
  rw [rowOk_iff]
  constructor
  · rintro ⟨h1, h2⟩
    refine ⟨fun x hx => ?_, List.pairwise_iff_getElem.2 fun i j hi hj hij => ?_⟩
    · obtain ⟨i, hi, rfl⟩ := List.getElem_of_mem hx
      have := h1 i hi
      rwa [rd_get hi] at this
    · have := h2 i j hij hj
      rwa [rd_get hi, rd_get hj] at this
  · rintro ⟨h1, h2⟩
    refine ⟨fun i hi => by rw [rd_get hi]; exact h1 _ (List.getElem_mem _), fun i j hij hj => ?_⟩
    rw [rd_get (by omega), rd_get hj]
    exact List.pairwise_iff_getElem.1 h2 i j (by omega) hj hij
theorem rowOk_sub {act l l' : List Int} (h : rowOkB act l = true) (hs : l'.Sublist l) : rowOkB act l' = true := by
  obtain ⟨h1, h2⟩ := rowOk_pw.1 h
  exact rowOk_pw.2 ⟨fun x hx => h1 x (hs.subset hx), h2.sublist hs⟩
/-- v goes between xs and ys. -/
theorem putV_mid {act xs ys : List Int} {v : Int} (h : rowOkB act (xs ++ v :: ys) = true) : putV act (xs ++ ys) v = xs ++ v :: ys := by
  obtain ⟨_, h2⟩ := rowOk_pw.1 h
  rw [List.pairwise_append] at h2
  obtain ⟨_, h3, h4⟩ := h2
  rw [List.pairwise_cons] at h3
  have hx : ∀ x ∈ xs, decide (ordV act x v < 0) = true := fun x hx => decide_eq_true (h4 x hx v (List.mem_cons_self ..))
  have hy : ∀ y ∈ ys, decide (ordV act y v < 0) = false := fun y hy => decide_eq_false (ahead_asymm (h3.1 y hy))
  have e1 : (xs ++ ys).takeWhile (fun x => decide (ordV act x v < 0)) = xs := by
    rw [List.takeWhile_append_of_pos hx]
    cases ys with
    | nil => simp
    | cons y ys => rw [List.takeWhile_cons, hy y (List.mem_cons_self ..)]; simp
  have e2 : (xs ++ ys).dropWhile (fun x => decide (ordV act x v < 0)) = ys := by
    rw [List.dropWhile_append_of_pos hx]
    cases ys with
    | nil => simp
    | cons y ys => rw [List.dropWhile_cons, hy y (List.mem_cons_self ..)]; simp
  rw [putV, e1, e2]
theorem push_mid {act l xs ys : List Int} {b v : Int} (h : hpCheckV act l b = 0) (hs : (xs ++ v :: ys).Sublist l) (ha : act.length ≤ 100000) (hl : l.length ≤ 100000) : heap_Push.f act (xs ++ ys) b v = some (act, xs ++ v :: ys, b, 0) := by
  have hr := check_rowOk h
  have hbig := rowOk_sub hr hs
  have hs2 : (xs ++ ys).Sublist l := (List.Sublist.append_left (List.sublist_cons_self v ys) xs).trans hs
  have hc := check_of h (rowOk_sub hr hs2)
  have hlen : (xs ++ ys).length ≤ l.length := hs2.length_le
  have hk : knownB' act v = true := (rowOk_pw.1 hbig).1 v (by simp)
  have hno : (xs ++ ys).contains v = false := by
    rw [← Bool.not_eq_true, List.contains_iff_mem]
    intro hm
    obtain ⟨_, h2⟩ := rowOk_pw.1 hbig
    rw [List.pairwise_append] at h2
    obtain ⟨_, h3, h4⟩ := h2
    rw [List.pairwise_cons] at h3
    have hz := ordV_zero (act := act) (a := v) (b := v) |>.2 rfl
    rcases List.mem_append.1 hm with hx | hy
    · have := h4 v hx v (List.mem_cons_self ..); omega
    · have := h3.1 v hy; omega
  unfold heap_Push.f pushV
  rw [if_pos (by simp only [smallB, decide_eq_true_eq]; omega), if_neg (by rw [hc]; simp), if_neg (by rw [hk]; simp), if_neg (by rw [hno]; simp), putV_mid hbig]
/-- The queue when i of the n popped elements have been pushed again. -/
def backV (turned : Bool) (l : List Int) (n i : Nat) : List Int := if turned = true then l.drop (n - i) else l.take i ++ l.drop n
def whichV (turned : Bool) (n i : Nat) : Nat := if turned = true then n - 1 - i else i
theorem push_at {act l : List Int} {b : Int} (turned : Bool) {n i : Nat} (h : hpCheckV act l b = 0) (hn : n ≤ l.length) (hi : i < n) (ha : act.length ≤ 100000) (hl : l.length ≤ 100000) :
    heap_Push.f act (backV turned l n i) b (rd l ((whichV turned n i : Nat) : Int)) = some (act, backV turned l n (i + 1), b, 0) := by
  cases turned with
  | true =>
    have e : l.drop (n - (i + 1)) = rd l ((n - 1 - i : Nat) : Int) :: l.drop (n - i) := by
      rw [List.drop_eq_getElem_cons (by omega), rd_get (by omega), show n - (i + 1) + 1 = n - i by omega]
      simp only [show n - (i + 1) = n - 1 - i by omega]
    have := push_mid (xs := []) (ys := l.drop (n - i)) (v := rd l ((n - 1 - i : Nat) : Int)) h (by rw [List.nil_append, ← e]; exact List.drop_sublist _ _) ha hl
    rw [List.nil_append, List.nil_append, ← e] at this
    exact this
  | false =>
    have e : l.take (i + 1) = l.take i ++ [rd l (i : Int)] := by rw [List.take_succ_eq_append_getElem (by omega), rd_get (by omega)]
    have hsub : (l.take i ++ rd l (i : Int) :: l.drop n).Sublist l := by
      have h1 : (l.take (i + 1) ++ l.drop n).Sublist (l.take (i + 1) ++ l.drop (i + 1)) := List.Sublist.append_left (by
        rw [show n = (i + 1) + (n - (i + 1)) by omega, ← List.drop_drop]
        exact List.drop_sublist _ _) _
      rw [List.take_append_drop, e, List.append_assoc] at h1
      exact h1
    have := push_mid (xs := l.take i) (ys := l.drop n) (v := rd l (i : Int)) h hsub ha hl
    unfold backV whichV
    simp only [Bool.false_eq_true, if_false]
    rw [this, e, List.append_assoc]
    rfl
theorem backV_start (turned : Bool) (l : List Int) (n : Nat) : backV turned l n 0 = l.drop n := by
  unfold backV
  split <;> simp
theorem backV_end (turned : Bool) (l : List Int) (n : Nat) : backV turned l n n = l := by
  unfold backV
  split <;> simp
theorem rd_take {l : List Int} {n i : Nat} (hi : i < n) (hn : n ≤ l.length) : rd (l.take n) (i : Int) = rd l (i : Int) := by
  rw [rd_get (by simp; omega), rd_get (by omega)]
  simp
end Go.Proofs.Ytobadajeekdakaa.Print

namespace Go.Proofs.Ytobadajeekdakaa.Print
open Go.RowKit Go.Proofs.YtobadajeekdakaaW.PrintWords Go.Proofs.YtobadajeekdakaaW.PrintLast Go.Proofs.YtobadajeekdakaaW.PrintMore
set_option linter.unusedVariables false
set_option linter.unusedSimpArgs false

def chalklinelaw21_HeapPushRestores.f (l0_0 l0_1 : List Int) (a0_2 a1 : Int) (a2 : Bool) : Option Bool := some true
set_option maxHeartbeats 16000000 in
set_option maxRecDepth 100000 in
theorem chalklinelaw21_HeapPushRestores.calls (A0_0 : Option Addr) (c0_0 : Nat) (l0_0 : List Int) (A0_1 : Option Addr) (c0_1 : Nat) (l0_1 : List Int) (a0_2 a1 : Int) (a2 : Bool) (r : Bool) (w : World) (hr0_0 : Kd.C (Kd.int .i64) w A0_0 l0_0.length l0_0) (hc0_0 : l0_0.length ≤ c0_0) (hr0_1 : Kd.C (Kd.int .i64) w A0_1 l0_1.length l0_1) (hc0_1 : l0_1.length ≤ c0_1) (h : chalklinelaw21_HeapPushRestores.f l0_0 l0_1 a0_2 a1 a2 = some r) :
    Calls Try.prog 22 #[.agg #[.slice A0_0 l0_0.length c0_0, .slice A0_1 l0_1.length c0_1, .int .i64 a0_2], .int .i64 a1, .bool a2] w fun e w' => e = .returned (.bool r) ∧ Below w.heap.size w w' := by
  obtain rfl : true = r := Option.some.inj h
  have HC0 := Aside0.mk hc0_0
  have HC1 := Aside0.mk hc0_1
  have hk0 := blk_new w (.cells #[.slice A0_0 l0_0.length c0_0, .slice A0_1 l0_1.length c0_1, .int .i64 a0_2] 74 (0, 0))
  have HH : Aside0 (HeapAt (w.alloc (.cells #[.slice A0_0 l0_0.length c0_0, .slice A0_1 l0_1.length c0_1, .int .i64 a0_2] 74 (0, 0))) w.heap.size A0_0 A0_1 c0_0 c0_1 l0_0 l0_1 a0_2) := ⟨⟨hk0, Kd.C_alloc hr0_0 _, Kd.C_alloc hr0_1 _, hc0_0, hc0_1⟩⟩
  have HT := Aside0.mk (below_alloc (Below.refl _ w) (.cells #[.slice A0_0 l0_0.length c0_0, .slice A0_1 l0_1.length c0_1, .int .i64 a0_2] 74 (0, 0)))
  clear h hk0 hr0_0 hr0_1 hc0_0 hc0_1
  obtain ⟨b, hb⟩ : ∃ b, decide (l0_0.length ≤ 60 ∧ l0_1.length ≤ 60) = b := ⟨_, rfl⟩
  have HB := Aside0.mk hb
  have hlive := fun W => chalklinelaw21_live.calls true W rfl
  have HLIVE := Aside0.mk hlive
  clear hlive
  cases b with
  | false =>
    clear hb
    go_enter Try.func22, Try.ntmps22
    go_upto_region 1 with (fail)
    generalize w.alloc (.cells #[.slice A0_0 l0_0.length c0_0, .slice A0_1 l0_1.length c0_1, .int .i64 a0_2] 74 (0, 0)) = w1 at HH HT ⊢
    go_upto_region 3 with (go_at_call 61; refine (HLIVE.out _).mono ?_; rintro e w2 ⟨rfl, hb⟩; have HH2 := Aside0.mk (HH.out.below hb); have HT2 := Aside0.mk (below_step HT.out hb); clear hb)
    have c0 : w2.cell? ⟨w.heap.size, 0, none⟩ = some (.slice A0_0 l0_0.length c0_0) := cell_in HH2.out.1 0 rfl
    have c1 : w2.cell? ⟨w.heap.size, 1, none⟩ = some (.slice A0_1 l0_1.length c0_1) := cell_in HH2.out.1 1 rfl
    have c2 : w2.cell? ⟨w.heap.size, 2, none⟩ = some (.int .i64 a0_2) := cell_in HH2.out.1 2 rfl
    go_wp2_with (go_at_call 62; refine (few_heap' A0_0 c0_0 l0_0 A0_1 c0_1 l0_1 a0_2 _ HH2.out.2.1 HH2.out.2.2.2.1 HH2.out.2.2.1 HH2.out.2.2.2.2 false HB.out).mono ?_; rintro e w3 ⟨rfl, hb⟩; have HT3 := Aside0.mk (below_step HT2.out hb); clear hb)
    go_ret
    exact ⟨rfl, HT3.out⟩
  | true =>
    have hb' : l0_0.length ≤ 60 ∧ l0_1.length ≤ 60 := of_decide_eq_true hb
    have HSM := Aside0.mk hb'
    clear hb hb'
    obtain ⟨cv, hcv⟩ : ∃ cv, hpCheckV l0_0 l0_1 a0_2 = cv := ⟨_, rfl⟩
    have HCK : Aside0 (heap_Check.f l0_0 l0_1 a0_2 = some cv) := ⟨by rw [← hcv]; rfl⟩
    by_cases h0 : cv = 0
    · subst h0
      have HCV := Aside0.mk hcv
      have HVA := Aside0.mk (valid_of hcv)
      clear hcv
      go_enter Try.func22, Try.ntmps22
      go_upto_region 1 with (fail)
      generalize w.alloc (.cells #[.slice A0_0 l0_0.length c0_0, .slice A0_1 l0_1.length c0_1, .int .i64 a0_2] 74 (0, 0)) = w1 at HH HT ⊢
      go_upto_region 3 with (go_at_call 61; refine (HLIVE.out _).mono ?_; rintro e w2 ⟨rfl, hb⟩; have HH2 := Aside0.mk (HH.out.below hb); have HT2 := Aside0.mk (below_step HT.out hb); clear hb)
      have c0 : w2.cell? ⟨w.heap.size, 0, none⟩ = some (.slice A0_0 l0_0.length c0_0) := cell_in HH2.out.1 0 rfl
      have c1 : w2.cell? ⟨w.heap.size, 1, none⟩ = some (.slice A0_1 l0_1.length c0_1) := cell_in HH2.out.1 1 rfl
      have c2 : w2.cell? ⟨w.heap.size, 2, none⟩ = some (.int .i64 a0_2) := cell_in HH2.out.1 2 rfl
      go_upto_region 5 with (first
        | (go_at_call 62; refine (few_heap' A0_0 c0_0 l0_0 A0_1 c0_1 l0_1 a0_2 _ HH2.out.2.1 HH2.out.2.2.2.1 HH2.out.2.2.1 HH2.out.2.2.2.2 true HB.out).mono ?_; rintro e w3 ⟨rfl, hb⟩; have HT3 := Aside0.mk (below_step HT2.out hb); have HH3 := Aside0.mk (HH2.out.below hb); clear hb c0 c1 c2; have c0 : w3.cell? ⟨w.heap.size, 0, none⟩ = some (.slice A0_0 l0_0.length c0_0) := cell_in HH3.out.1 0 rfl; have c1 : w3.cell? ⟨w.heap.size, 1, none⟩ = some (.slice A0_1 l0_1.length c0_1) := cell_in HH3.out.1 1 rfl; have c2 : w3.cell? ⟨w.heap.size, 2, none⟩ = some (.int .i64 a0_2) := cell_in HH3.out.1 2 rfl)
        | (go_at_call 65; refine (heap_Check.calls A0_0 c0_0 l0_0 A0_1 c0_1 l0_1 a0_2 0 _ HH3.out.2.1 HC0.out HH3.out.2.2.1 HC1.out HCK.out).mono ?_; rintro e w4 ⟨rfl, hb⟩; have HT4 := Aside0.mk (below_step HT3.out hb); have HH4 := Aside0.mk (HH3.out.below hb); clear hb c0 c1 c2; have c0 : w4.cell? ⟨w.heap.size, 0, none⟩ = some (.slice A0_0 l0_0.length c0_0) := cell_in HH4.out.1 0 rfl; have c1 : w4.cell? ⟨w.heap.size, 1, none⟩ = some (.slice A0_1 l0_1.length c0_1) := cell_in HH4.out.1 1 rfl; have c2 : w4.cell? ⟨w.heap.size, 2, none⟩ = some (.int .i64 a0_2) := cell_in HH4.out.1 2 rfl))
      have hn60 : (l0_1.length : Int) ≤ 60 := by have := HSM.out; omega
      go_upto_region 6 with (fail)
      generalize hM : (Go.bits .and .i64 a1 65535).tmod ((l0_1.length : Int) + 1) = M
      have hMle : M ≤ (l0_1.length : Int) := by
        have := Int.tmod_lt_of_pos (Go.bits .and .i64 a1 65535) (show (0 : Int) < (l0_1.length : Int) + 1 by omega)
        omega
      obtain ⟨N, hN⟩ : ∃ N : Nat, N = M.toNat := ⟨_, rfl⟩
      have hNl : N ≤ l0_1.length := by omega
      have HMN := Aside0.mk (show ∀ i : Nat, ((i : Int) < M ↔ i < N) from fun i => by omega)
      have HMP := Aside0.mk (show 0 < N → M = (N : Int) from fun h => by omega)
      have hM60 : M ≤ 60 := by omega
      clear hM hMle hN
      go_upto_region 9 with (fail)
      have HX0 : Aside0 (HeapAt (w4.alloc (.cells #[.slice A0_0 l0_0.length c0_0, .slice A0_1 l0_1.length c0_1, .int .i64 a0_2] 74 (0, 0))) w4.heap.size A0_0 A0_1 c0_0 c0_1 l0_0 (l0_1.drop 0) a0_2) := ⟨⟨blk_new _ _, Kd.C_alloc HH4.out.2.1 _, Kd.C_alloc HH4.out.2.2.1 _, HC0.out, HC1.out⟩⟩
      have HB0 := Aside0.mk (below_alloc (Below.refl _ w4) (.cells #[.slice A0_0 l0_0.length c0_0, .slice A0_1 l0_1.length c0_1, .int .i64 a0_2] 74 (0, 0)))
      clear c0 c1 c2 HH HT HH2 HT2 HH3 HT3
      generalize w4.alloc (.cells #[.slice A0_0 l0_0.length c0_0, .slice A0_1 l0_1.length c0_1, .int .i64 a0_2] 74 (0, 0)) = w5 at HX0 HB0 ⊢
      generalize hgx : w4.heap.size = gx at HX0 ⊢
      have HGX := Aside0.mk (show w4.heap.size ≤ gx from Nat.le_of_eq hgx)
      clear hgx
      go_loopg [9, 10] N (fun gg s9 s10 wr => ∃ (i : Nat) (A B : Option Addr) (c d : Nat), i ≤ N ∧ N - i ≤ gg ∧ s10 = .int .i64 i ∧ Aside0 (Kd.R (Kd.int .i64) 3 wr w4.heap.size (fun _ => True) s9 (l0_1.take i)) ∧ Aside0 (HeapAt wr gx A B c d l0_0 (l0_1.drop i) a0_2) ∧ Aside0 (Below w4.heap.size w4 wr))
      case atStart => exact ⟨0, A0_0, A0_1, c0_0, c0_1, Nat.zero_le _, by omega, rfl, ⟨Kd.R_nil _ _ _ _ _⟩, HX0, HB0⟩
      case round =>
        clear HX0 HB0 w5
        obtain ⟨i, A, B, c, d, hi, hgg, rfl, HOUT, HX, HBR⟩ := hrel
        obtain ⟨Ao, co, eo⟩ := Kd.R_slice HOUT.out
        subst eo
        by_cases hlt : i < N
        · have hltz : (i : Int) < M := (HMN.out i).2 hlt
          obtain ⟨ld, hld⟩ : ∃ ld, ld = l0_1.drop i := ⟨_, rfl⟩
          rw [← hld] at HX
          obtain ⟨lt, hlt2⟩ : ∃ lt, lt = l0_1.take i := ⟨_, rfl⟩
          rw [← hlt2] at HOUT ⊢
          have x0 : wr.cell? ⟨gx, 0, none⟩ = some (.slice A l0_0.length c) := cell_in HX.out.1 0 rfl
          have x1 : wr.cell? ⟨gx, 1, none⟩ = some (.slice B ld.length d) := cell_in HX.out.1 1 rfl
          have x2 : wr.cell? ⟨gx, 2, none⟩ = some (.int .i64 a0_2) := cell_in HX.out.1 2 rfl
          have HPOP := Aside0.mk (pop_at HCV.out (show i < l0_1.length by omega) (by have := HSM.out; omega) (by have := HSM.out; omega))
          obtain ⟨le, hle⟩ : ∃ le, le = l0_1.drop (i + 1) := ⟨_, rfl⟩
          rw [← hld, ← hle] at HPOP
          have HLE := Aside0.mk hle
          obtain ⟨v, hv⟩ : ∃ v, v = rd l0_1 (i : Int) := ⟨_, rfl⟩
          rw [← hv] at HPOP
          have HTK := Aside0.mk (show lt ++ [v] = l0_1.take (i + 1) by rw [hlt2, hv, List.take_succ_eq_append_getElem (by omega), rd_get (by omega)])
          have hlt60 : lt.length ≤ 60 := by rw [hlt2, List.length_take]; have := HSM.out; omega
          clear hv hle hld hlt2
          go_upto_region 14 with (go_at_call 74; refine (heap_Pop.calls A c l0_0 B d ld a0_2 l0_0 le a0_2 v 0 _ HX.out.2.1 HX.out.2.2.2.1 HX.out.2.2.1 HX.out.2.2.2.2 HPOP.out).mono ?_; rintro e w6 ⟨vA, vL, rfl, hA, hL, hb6⟩; obtain ⟨A6, a6, rfl⟩ := Kd.R_slice hA; obtain ⟨B6, b6, rfl, hle6⟩ := Kd.Q_slice hL; have HA6 := Aside0.mk hA; have HL6 := Aside0.mk hL; have HLE6 := Aside0.mk hle6; have HOUT6 := Aside0.mk (Kd.R_below HOUT.out hb6); have HOLT := Aside0.mk (Kd.R_lt HOUT.out); have HBR6 := Aside0.mk (below_step HBR.out hb6); have HX6 := Aside0.mk (HX.out.below hb6); clear hA hL hle6 hb6 x0 x1 x2)
          have HY7 := Aside0.mk (blk_new w6 (.cells #[.slice A6 l0_0.length a6, .slice B6 le.length b6, .int .i64 a0_2] 74 (0, 0)))
          have HA7 := Aside0.mk (Kd.R_alloc HA6.out (.cells #[.slice A6 l0_0.length a6, .slice B6 le.length b6, .int .i64 a0_2] 74 (0, 0)))
          have HL7 := Aside0.mk (Kd.Q_alloc HL6.out (.cells #[.slice A6 l0_0.length a6, .slice B6 le.length b6, .int .i64 a0_2] 74 (0, 0)))
          have HX7 := Aside0.mk (HX6.out.below (below_alloc (Below.refl _ w6) (.cells #[.slice A6 l0_0.length a6, .slice B6 le.length b6, .int .i64 a0_2] 74 (0, 0))))
          have HBR7 := Aside0.mk (below_alloc HBR6.out (.cells #[.slice A6 l0_0.length a6, .slice B6 le.length b6, .int .i64 a0_2] 74 (0, 0)))
          have HOUT7 := Aside0.mk (Kd.R_alloc HOUT6.out (.cells #[.slice A6 l0_0.length a6, .slice B6 le.length b6, .int .i64 a0_2] 74 (0, 0)))
          clear HA6 HL6 HX6 HBR6 HOUT6
          generalize w6.alloc (.cells #[.slice A6 l0_0.length a6, .slice B6 le.length b6, .int .i64 a0_2] 74 (0, 0)) = w7 at HY7 HA7 HL7 HX7 HBR7 HOUT7 ⊢
          generalize w6.heap.size = g6 at HY7 ⊢
          go_upto_region 15 with ((with_reducible refine gate_builtin (b := .append) (xs := #[.tmp 49, .tmp 51]) rfl ?_); at_builtin; refine Kd.R_append (Kd.int .i64) (w0 := w4) w4.heap.size rfl (.tmp 49) (.tmp 51) 28 3 (.int .i64 0) 8 rfl Try.underlying28 info3 rfl (by decide) (by omega) _ lt v [.int .i64 v] (fun _ => True) (fun _ => False) rfl rfl rfl (fun _ hk => hk.elim) (fun _ _ => trivial) HOUT7.out HBR7.out HBR7.out.size (by omega) ?_; intro v8 w8 ho hb hg hat; have HO8 := Aside0.mk ho; have HB8 := Aside0.mk hb; have HG8 : Aside0 (w7.grownBy w8 (Value.slice Ao lt.length co).ownBlock) := ⟨hg⟩; clear ho hb hg hat)
          have hne : ∀ k, (Value.slice Ao lt.length co).ownBlock = some k → k < wr.heap.size := HOLT.out
          have HA8 := Aside0.mk (Kd.R_grown2 HA7.out rfl HG8.out (fun k hk e => by
            have h1 := hne k hk
            have h2 := Kd.R_base HA7.out k e.symm
            omega))
          have HL8 := Aside0.mk (Kd.Q_grown2 HL7.out rfl HG8.out (fun k hk e => by
            have h1 := hne k hk
            have h2 := Kd.Q_base HL7.out k e.symm
            omega))
          have HY8 := Aside0.mk (blk_grown HY7.out HG8.out (Kd.R_ne HOUT7.out HY7.out (by decide)))
          have HX8 := Aside0.mk (blk_grown HX7.out.1 HG8.out (Kd.R_ne HOUT7.out HX7.out.1 (by decide)))
          obtain ⟨A8, a8, e8⟩ := Kd.R_slice HO8.out
          subst e8
          clear hne HG8 HA7 HL7 HY7 HX7 HOUT7 HBR7
          have y0 : w8.cell? ⟨g6, 0, none⟩ = some (.slice A6 l0_0.length a6) := cell_in HY8.out 0 rfl
          have y1 : w8.cell? ⟨g6, 1, none⟩ = some (.slice B6 le.length b6) := cell_in HY8.out 1 rfl
          have y2 : w8.cell? ⟨g6, 2, none⟩ = some (.int .i64 a0_2) := cell_in HY8.out 2 rfl
          have x0 : w8.cell? ⟨gx, 0, none⟩ = some (.slice A l0_0.length c) := cell_in HX8.out 0 rfl
          have x1 : w8.cell? ⟨gx, 1, none⟩ = some (.slice B ld.length d) := cell_in HX8.out 1 rfl
          have x2 : w8.cell? ⟨gx, 2, none⟩ = some (.int .i64 a0_2) := cell_in HX8.out 2 rfl
          have xf0 : w8.frozen? ⟨gx, 0, none⟩ = false := blk_frozen HX8.out 0
          have xf1 : w8.frozen? ⟨gx, 1, none⟩ = false := blk_frozen HX8.out 1
          have xf2 : w8.frozen? ⟨gx, 2, none⟩ = false := blk_frozen HX8.out 2
          have HN : Aside0 (HeapAt (((w8.setCell ⟨gx, 0, none⟩ (.slice A6 l0_0.length a6)).setCell ⟨gx, 1, none⟩ (.slice B6 le.length b6)).setCell ⟨gx, 2, none⟩ (.int .i64 a0_2)) gx A6 B6 a6 b6 l0_0 (l0_1.drop (i + 1)) a0_2) := ⟨by
            rw [← HLE.out]
            exact ⟨put3 HX8.out, (Kd.R_reads' (set3c_R HA8.out HX8.out)).2.2, (Kd.Q_reads' (set3c_Q HL8.out HX8.out)).2.2, (Kd.R_reads' HA8.out).2.1, (Kd.Q_reads' HL8.out).2.1⟩⟩
          have HON : Aside0 (Kd.R (Kd.int .i64) 3 (((w8.setCell ⟨gx, 0, none⟩ (.slice A6 l0_0.length a6)).setCell ⟨gx, 1, none⟩ (.slice B6 le.length b6)).setCell ⟨gx, 2, none⟩ (.int .i64 a0_2)) w4.heap.size (fun _ => True) (.slice A8 (lt ++ [v]).length a8) (l0_1.take (i + 1))) := ⟨by
            rw [← HTK.out]
            exact set3c_R HO8.out HX8.out⟩
          have HBN : Aside0 (Below w4.heap.size w4 (((w8.setCell ⟨gx, 0, none⟩ (.slice A6 l0_0.length a6)).setCell ⟨gx, 1, none⟩ (.slice B6 le.length b6)).setCell ⟨gx, 2, none⟩ (.int .i64 a0_2))) := ⟨below_set (below_set (below_set HB8.out HGX.out) HGX.out) HGX.out⟩
          clear HX8 HY8 HA8 HL8 HO8 HB8
          go_wp2
          go_roundg (N - (i + 1))
          case measure => omega
          case rel =>
            refine ⟨i + 1, A6, B6, a6, b6, by omega, by omega, by go_num, ?_, HN, HBN⟩
            exact ⟨by simpa using HON.out⟩
        · have hltz : ¬ (i : Int) < M := fun h => hlt ((HMN.out i).1 h)
          obtain rfl : i = N := by omega
          obtain ⟨lt, hlt2⟩ : ∃ lt, lt = l0_1.take i := ⟨_, rfl⟩
          rw [← hlt2] at HOUT ⊢
          have HLTK := Aside0.mk hlt2
          have hltn : lt.length = i := by rw [hlt2, List.length_take]; omega
          have hlt60 : (lt.length : Int) ≤ 60 := by omega
          clear hlt2
          cases a2 with
          | true =>
            go_upto_region 17 with (fail)
            go_loopg [14, 15] i (fun gg s14 s15 wr => ∃ (j : Nat) (A B : Option Addr) (c d : Nat), j ≤ i ∧ i - j ≤ gg ∧ s14 = .int .i64 j ∧ Aside0 (Kd.R (Kd.int .i64) 3 wr w4.heap.size (fun _ => True) (.slice Ao lt.length co) lt) ∧ Aside0 (HeapAt wr gx A B c d l0_0 (backV true l0_1 i j) a0_2) ∧ Aside0 (Below w4.heap.size w4 wr))
            case atStart => exact ⟨0, A, B, c, d, Nat.zero_le _, by omega, rfl, HOUT, ⟨by rw [backV_start]; exact HX.out⟩, HBR⟩
            case round =>
              clear HX HBR HOUT
              obtain ⟨j, A, B, c, d, hj, hg2, rfl, HOUT, HX, HBR⟩ := hrel
              have x0 : wr.cell? ⟨gx, 0, none⟩ = some (.slice A l0_0.length c) := cell_in HX.out.1 0 rfl
              have x2 : wr.cell? ⟨gx, 2, none⟩ = some (.int .i64 a0_2) := cell_in HX.out.1 2 rfl
              by_cases hlt : j < i
              · have hltz : (j : Int) < M := (HMN.out j).2 hlt
                have hMi : M = (i : Int) := HMP.out (by omega)
                have HLT := Aside0.mk hlt
                have hjl : (j : Int) < (lt.length : Int) := by omega
                obtain ⟨_, hlo, hCo⟩ := Kd.R_reads' HOUT.out
                obtain ⟨ad, e1, hcell⟩ := Kd.at_int hCo (M - 1 - (j : Int)) (by omega) (by omega)
                subst e1
                obtain ⟨v, hv⟩ : ∃ v, v = rd lt (M - 1 - (j : Int)) := ⟨_, rfl⟩
                rw [← hv] at hcell
                obtain ⟨ld, hld⟩ : ∃ ld, ld = backV true l0_1 i j := ⟨_, rfl⟩
                obtain ⟨le, hle⟩ : ∃ le, le = backV true l0_1 i (j + 1) := ⟨_, rfl⟩
                have HPUSH := Aside0.mk (push_at true HCV.out hNl hlt (by have := HSM.out; omega) (by have := HSM.out; omega))
                rw [← hld, ← hle, show rd l0_1 ((whichV true i j : Nat) : Int) = v by
                  rw [hv, HLTK.out]
                  rw [show M - 1 - (j : Int) = ((i - 1 - j : Nat) : Int) by omega, rd_take (by omega) hNl]
                  rfl] at HPUSH
                rw [← hld] at HX
                have HLE := Aside0.mk hle
                have x1 : wr.cell? ⟨gx, 1, none⟩ = some (.slice B ld.length d) := cell_in HX.out.1 1 rfl
                rw [show (M - 1 - (j : Int)).toNat = M.toNat - 1 - j by omega] at hcell
                have hm0 : (0 : Int) ≤ M - 1 - (j : Int) := by omega
                have hm1 : M - 1 - (j : Int) < (lt.length : Int) := by omega
                have hm2 : (0 : Int) ≤ (j : Int) := by omega
                obtain ⟨ad0, e0, hcell0⟩ := Kd.at_int hCo (j : Int) (by omega) (by omega)
                obtain rfl := Option.some.inj e0
                rw [Int.toNat_natCast] at hcell0
                generalize rd lt (j : Int) = v0 at hcell0
                clear hv hle hld hlo hCo hMi
                go_upto_region 25 with (go_at_call 76; refine (heap_Push.calls A c l0_0 B d ld a0_2 v l0_0 le a0_2 0 _ HX.out.2.1 HX.out.2.2.2.1 HX.out.2.2.1 HX.out.2.2.2.2 HPUSH.out).mono ?_; rintro e w6 ⟨vA, vL, rfl, hA, hL, hb6⟩; obtain ⟨A6, a6, rfl⟩ := Kd.R_slice hA; obtain ⟨B6, b6, rfl⟩ := Kd.R_slice hL; have HA6 := Aside0.mk hA; have HL6 := Aside0.mk hL; have HOUT6 := Aside0.mk (Kd.R_below HOUT.out hb6); have HBR6 := Aside0.mk (below_step HBR.out hb6); have HX6 := Aside0.mk (HX.out.below hb6); clear hA hL hb6 x0 x1 x2 hcell)
                have HY7 := Aside0.mk (blk_new w6 (.cells #[.slice A6 l0_0.length a6, .slice B6 le.length b6, .int .i64 a0_2] 74 (0, 0)))
                have HA7 := Aside0.mk (Kd.R_alloc HA6.out (.cells #[.slice A6 l0_0.length a6, .slice B6 le.length b6, .int .i64 a0_2] 74 (0, 0)))
                have HL7 := Aside0.mk (Kd.R_alloc HL6.out (.cells #[.slice A6 l0_0.length a6, .slice B6 le.length b6, .int .i64 a0_2] 74 (0, 0)))
                have HX7 := Aside0.mk (HX6.out.below (below_alloc (Below.refl _ w6) (.cells #[.slice A6 l0_0.length a6, .slice B6 le.length b6, .int .i64 a0_2] 74 (0, 0))))
                have HBR7 := Aside0.mk (below_alloc HBR6.out (.cells #[.slice A6 l0_0.length a6, .slice B6 le.length b6, .int .i64 a0_2] 74 (0, 0)))
                have HOUT7 := Aside0.mk (Kd.R_alloc HOUT6.out (.cells #[.slice A6 l0_0.length a6, .slice B6 le.length b6, .int .i64 a0_2] 74 (0, 0)))
                clear HA6 HL6 HX6 HBR6 HOUT6
                generalize w6.alloc (.cells #[.slice A6 l0_0.length a6, .slice B6 le.length b6, .int .i64 a0_2] 74 (0, 0)) = w7 at HY7 HA7 HL7 HX7 HBR7 HOUT7 ⊢
                generalize w6.heap.size = g6 at HY7 ⊢
                have y0 : w7.cell? ⟨g6, 0, none⟩ = some (.slice A6 l0_0.length a6) := cell_in HY7.out 0 rfl
                have y1 : w7.cell? ⟨g6, 1, none⟩ = some (.slice B6 le.length b6) := cell_in HY7.out 1 rfl
                have y2 : w7.cell? ⟨g6, 2, none⟩ = some (.int .i64 a0_2) := cell_in HY7.out 2 rfl
                have x0 : w7.cell? ⟨gx, 0, none⟩ = some (.slice A l0_0.length c) := cell_in HX7.out.1 0 rfl
                have x1 : w7.cell? ⟨gx, 1, none⟩ = some (.slice B ld.length d) := cell_in HX7.out.1 1 rfl
                have x2 : w7.cell? ⟨gx, 2, none⟩ = some (.int .i64 a0_2) := cell_in HX7.out.1 2 rfl
                have xf0 : w7.frozen? ⟨gx, 0, none⟩ = false := blk_frozen HX7.out.1 0
                have xf1 : w7.frozen? ⟨gx, 1, none⟩ = false := blk_frozen HX7.out.1 1
                have xf2 : w7.frozen? ⟨gx, 2, none⟩ = false := blk_frozen HX7.out.1 2
                have HN : Aside0 (HeapAt (((w7.setCell ⟨gx, 0, none⟩ (.slice A6 l0_0.length a6)).setCell ⟨gx, 1, none⟩ (.slice B6 le.length b6)).setCell ⟨gx, 2, none⟩ (.int .i64 a0_2)) gx A6 B6 a6 b6 l0_0 (backV true l0_1 i (j + 1)) a0_2) := ⟨by
                  rw [← HLE.out]
                  exact ⟨put3 HX7.out.1, (Kd.R_reads' (set3c_R HA7.out HX7.out.1)).2.2, (Kd.R_reads' (set3c_R HL7.out HX7.out.1)).2.2, (Kd.R_reads' HA7.out).2.1, (Kd.R_reads' HL7.out).2.1⟩⟩
                have HON : Aside0 (Kd.R (Kd.int .i64) 3 (((w7.setCell ⟨gx, 0, none⟩ (.slice A6 l0_0.length a6)).setCell ⟨gx, 1, none⟩ (.slice B6 le.length b6)).setCell ⟨gx, 2, none⟩ (.int .i64 a0_2)) w4.heap.size (fun _ => True) (.slice (some ad) lt.length co) lt) := ⟨set3c_R HOUT7.out HX7.out.1⟩
                have HBN : Aside0 (Below w4.heap.size w4 (((w7.setCell ⟨gx, 0, none⟩ (.slice A6 l0_0.length a6)).setCell ⟨gx, 1, none⟩ (.slice B6 le.length b6)).setCell ⟨gx, 2, none⟩ (.int .i64 a0_2))) := ⟨below_set (below_set (below_set HBR7.out HGX.out) HGX.out) HGX.out⟩
                clear HX7 HY7 HA7 HL7 HOUT7 HBR7
                go_wp2
                go_roundg (i - (j + 1))
                case measure => have := HLT.out; omega
                case rel => exact ⟨j + 1, A6, B6, a6, b6, by have := HLT.out; omega, by have := HLT.out; omega, by go_num, HON, HN, HBN⟩
              · have hltz : ¬ (j : Int) < M := fun h => hlt ((HMN.out j).1 h)
                obtain rfl : j = i := by omega
                have HX2 : Aside0 (HeapAt wr gx A B c d l0_0 l0_1 a0_2) := ⟨by have := HX.out; rwa [backV_end] at this⟩
                have HHR := Aside0.mk (HH4.out.below HBR.out)
                have x1 : wr.cell? ⟨gx, 1, none⟩ = some (.slice B l0_1.length d) := cell_in HX2.out.1 1 rfl
                have c0 : wr.cell? ⟨w.heap.size, 0, none⟩ = some (.slice A0_0 l0_0.length c0_0) := cell_in HHR.out.1 0 rfl
                have c1 : wr.cell? ⟨w.heap.size, 1, none⟩ = some (.slice A0_1 l0_1.length c0_1) := cell_in HHR.out.1 1 rfl
                have c2 : wr.cell? ⟨w.heap.size, 2, none⟩ = some (.int .i64 a0_2) := cell_in HHR.out.1 2 rfl
                have HSAME := Aside0.mk (ref_same l0_0 l0_1 a0_2 (by have := HSM.out; omega) (by have := HSM.out; omega) (l0_0.length + l0_1.length + 1) (by omega))
                clear HX
                go_wp2_with (go_at_call 67; refine (chalklineref21_Same.calls _ A c l0_0 B d l0_1 a0_2 A0_0 c0_0 l0_0 A0_1 c0_1 l0_1 a0_2 true _ HX2.out.2.1 HX2.out.2.2.2.1 HX2.out.2.2.1 HX2.out.2.2.2.2 HHR.out.2.1 HC0.out HHR.out.2.2.1 HC1.out HSAME.out).mono ?_; rintro e w8 ⟨rfl, hb⟩; have HBR8 := Aside0.mk (below_step HBR.out hb); clear hb)
                go_ret
                exact ⟨rfl, below_step HT4.out HBR8.out⟩
          | false =>
            go_upto_region 17 with (fail)
            go_loopg [14, 15] i (fun gg s14 s15 wr => ∃ (j : Nat) (A B : Option Addr) (c d : Nat), j ≤ i ∧ i - j ≤ gg ∧ s14 = .int .i64 j ∧ Aside0 (Kd.R (Kd.int .i64) 3 wr w4.heap.size (fun _ => True) (.slice Ao lt.length co) lt) ∧ Aside0 (HeapAt wr gx A B c d l0_0 (backV false l0_1 i j) a0_2) ∧ Aside0 (Below w4.heap.size w4 wr))
            case atStart => exact ⟨0, A, B, c, d, Nat.zero_le _, by omega, rfl, HOUT, ⟨by rw [backV_start]; exact HX.out⟩, HBR⟩
            case round =>
              clear HX HBR HOUT
              obtain ⟨j, A, B, c, d, hj, hg2, rfl, HOUT, HX, HBR⟩ := hrel
              have x0 : wr.cell? ⟨gx, 0, none⟩ = some (.slice A l0_0.length c) := cell_in HX.out.1 0 rfl
              have x2 : wr.cell? ⟨gx, 2, none⟩ = some (.int .i64 a0_2) := cell_in HX.out.1 2 rfl
              by_cases hlt : j < i
              · have hltz : (j : Int) < M := (HMN.out j).2 hlt
                have hMi : M = (i : Int) := HMP.out (by omega)
                have HLT := Aside0.mk hlt
                have hjl : (j : Int) < (lt.length : Int) := by omega
                obtain ⟨_, hlo, hCo⟩ := Kd.R_reads' HOUT.out
                obtain ⟨ad, e1, hcell⟩ := Kd.at_int hCo ((j : Int)) (by omega) (by omega)
                subst e1
                rw [Int.toNat_natCast] at hcell
                obtain ⟨v, hv⟩ : ∃ v, v = rd lt ((j : Int)) := ⟨_, rfl⟩
                rw [← hv] at hcell
                obtain ⟨ld, hld⟩ : ∃ ld, ld = backV false l0_1 i j := ⟨_, rfl⟩
                obtain ⟨le, hle⟩ : ∃ le, le = backV false l0_1 i (j + 1) := ⟨_, rfl⟩
                have HPUSH := Aside0.mk (push_at false HCV.out hNl hlt (by have := HSM.out; omega) (by have := HSM.out; omega))
                rw [← hld, ← hle, show rd l0_1 ((whichV false i j : Nat) : Int) = v by
                  rw [hv, HLTK.out]
                  rw [rd_take (by omega) hNl]
                  rfl] at HPUSH
                rw [← hld] at HX
                have HLE := Aside0.mk hle
                have x1 : wr.cell? ⟨gx, 1, none⟩ = some (.slice B ld.length d) := cell_in HX.out.1 1 rfl
                have hm0 : (0 : Int) ≤ (j : Int) := by omega
                clear hv hle hld hlo hCo hMi
                go_upto_region 25 with (go_at_call 76; refine (heap_Push.calls A c l0_0 B d ld a0_2 v l0_0 le a0_2 0 _ HX.out.2.1 HX.out.2.2.2.1 HX.out.2.2.1 HX.out.2.2.2.2 HPUSH.out).mono ?_; rintro e w6 ⟨vA, vL, rfl, hA, hL, hb6⟩; obtain ⟨A6, a6, rfl⟩ := Kd.R_slice hA; obtain ⟨B6, b6, rfl⟩ := Kd.R_slice hL; have HA6 := Aside0.mk hA; have HL6 := Aside0.mk hL; have HOUT6 := Aside0.mk (Kd.R_below HOUT.out hb6); have HBR6 := Aside0.mk (below_step HBR.out hb6); have HX6 := Aside0.mk (HX.out.below hb6); clear hA hL hb6 x0 x1 x2 hcell)
                have HY7 := Aside0.mk (blk_new w6 (.cells #[.slice A6 l0_0.length a6, .slice B6 le.length b6, .int .i64 a0_2] 74 (0, 0)))
                have HA7 := Aside0.mk (Kd.R_alloc HA6.out (.cells #[.slice A6 l0_0.length a6, .slice B6 le.length b6, .int .i64 a0_2] 74 (0, 0)))
                have HL7 := Aside0.mk (Kd.R_alloc HL6.out (.cells #[.slice A6 l0_0.length a6, .slice B6 le.length b6, .int .i64 a0_2] 74 (0, 0)))
                have HX7 := Aside0.mk (HX6.out.below (below_alloc (Below.refl _ w6) (.cells #[.slice A6 l0_0.length a6, .slice B6 le.length b6, .int .i64 a0_2] 74 (0, 0))))
                have HBR7 := Aside0.mk (below_alloc HBR6.out (.cells #[.slice A6 l0_0.length a6, .slice B6 le.length b6, .int .i64 a0_2] 74 (0, 0)))
                have HOUT7 := Aside0.mk (Kd.R_alloc HOUT6.out (.cells #[.slice A6 l0_0.length a6, .slice B6 le.length b6, .int .i64 a0_2] 74 (0, 0)))
                clear HA6 HL6 HX6 HBR6 HOUT6
                generalize w6.alloc (.cells #[.slice A6 l0_0.length a6, .slice B6 le.length b6, .int .i64 a0_2] 74 (0, 0)) = w7 at HY7 HA7 HL7 HX7 HBR7 HOUT7 ⊢
                generalize w6.heap.size = g6 at HY7 ⊢
                have y0 : w7.cell? ⟨g6, 0, none⟩ = some (.slice A6 l0_0.length a6) := cell_in HY7.out 0 rfl
                have y1 : w7.cell? ⟨g6, 1, none⟩ = some (.slice B6 le.length b6) := cell_in HY7.out 1 rfl
                have y2 : w7.cell? ⟨g6, 2, none⟩ = some (.int .i64 a0_2) := cell_in HY7.out 2 rfl
                have x0 : w7.cell? ⟨gx, 0, none⟩ = some (.slice A l0_0.length c) := cell_in HX7.out.1 0 rfl
                have x1 : w7.cell? ⟨gx, 1, none⟩ = some (.slice B ld.length d) := cell_in HX7.out.1 1 rfl
                have x2 : w7.cell? ⟨gx, 2, none⟩ = some (.int .i64 a0_2) := cell_in HX7.out.1 2 rfl
                have xf0 : w7.frozen? ⟨gx, 0, none⟩ = false := blk_frozen HX7.out.1 0
                have xf1 : w7.frozen? ⟨gx, 1, none⟩ = false := blk_frozen HX7.out.1 1
                have xf2 : w7.frozen? ⟨gx, 2, none⟩ = false := blk_frozen HX7.out.1 2
                have HN : Aside0 (HeapAt (((w7.setCell ⟨gx, 0, none⟩ (.slice A6 l0_0.length a6)).setCell ⟨gx, 1, none⟩ (.slice B6 le.length b6)).setCell ⟨gx, 2, none⟩ (.int .i64 a0_2)) gx A6 B6 a6 b6 l0_0 (backV false l0_1 i (j + 1)) a0_2) := ⟨by
                  rw [← HLE.out]
                  exact ⟨put3 HX7.out.1, (Kd.R_reads' (set3c_R HA7.out HX7.out.1)).2.2, (Kd.R_reads' (set3c_R HL7.out HX7.out.1)).2.2, (Kd.R_reads' HA7.out).2.1, (Kd.R_reads' HL7.out).2.1⟩⟩
                have HON : Aside0 (Kd.R (Kd.int .i64) 3 (((w7.setCell ⟨gx, 0, none⟩ (.slice A6 l0_0.length a6)).setCell ⟨gx, 1, none⟩ (.slice B6 le.length b6)).setCell ⟨gx, 2, none⟩ (.int .i64 a0_2)) w4.heap.size (fun _ => True) (.slice (some ad) lt.length co) lt) := ⟨set3c_R HOUT7.out HX7.out.1⟩
                have HBN : Aside0 (Below w4.heap.size w4 (((w7.setCell ⟨gx, 0, none⟩ (.slice A6 l0_0.length a6)).setCell ⟨gx, 1, none⟩ (.slice B6 le.length b6)).setCell ⟨gx, 2, none⟩ (.int .i64 a0_2))) := ⟨below_set (below_set (below_set HBR7.out HGX.out) HGX.out) HGX.out⟩
                clear HX7 HY7 HA7 HL7 HOUT7 HBR7
                go_wp2
                go_roundg (i - (j + 1))
                case measure => have := HLT.out; omega
                case rel => exact ⟨j + 1, A6, B6, a6, b6, by have := HLT.out; omega, by have := HLT.out; omega, by go_num, HON, HN, HBN⟩
              · have hltz : ¬ (j : Int) < M := fun h => hlt ((HMN.out j).1 h)
                obtain rfl : j = i := by omega
                have HX2 : Aside0 (HeapAt wr gx A B c d l0_0 l0_1 a0_2) := ⟨by have := HX.out; rwa [backV_end] at this⟩
                have HHR := Aside0.mk (HH4.out.below HBR.out)
                have x1 : wr.cell? ⟨gx, 1, none⟩ = some (.slice B l0_1.length d) := cell_in HX2.out.1 1 rfl
                have c0 : wr.cell? ⟨w.heap.size, 0, none⟩ = some (.slice A0_0 l0_0.length c0_0) := cell_in HHR.out.1 0 rfl
                have c1 : wr.cell? ⟨w.heap.size, 1, none⟩ = some (.slice A0_1 l0_1.length c0_1) := cell_in HHR.out.1 1 rfl
                have c2 : wr.cell? ⟨w.heap.size, 2, none⟩ = some (.int .i64 a0_2) := cell_in HHR.out.1 2 rfl
                have HSAME := Aside0.mk (ref_same l0_0 l0_1 a0_2 (by have := HSM.out; omega) (by have := HSM.out; omega) (l0_0.length + l0_1.length + 1) (by omega))
                clear HX
                go_wp2_with (go_at_call 67; refine (chalklineref21_Same.calls _ A c l0_0 B d l0_1 a0_2 A0_0 c0_0 l0_0 A0_1 c0_1 l0_1 a0_2 true _ HX2.out.2.1 HX2.out.2.2.2.1 HX2.out.2.2.1 HX2.out.2.2.2.2 HHR.out.2.1 HC0.out HHR.out.2.2.1 HC1.out HSAME.out).mono ?_; rintro e w8 ⟨rfl, hb⟩; have HBR8 := Aside0.mk (below_step HBR.out hb); clear hb)
                go_ret
                exact ⟨rfl, below_step HT4.out HBR8.out⟩
    · have h0z : (cv != 0) = true := by simp [h0]
      clear hcv
      go_enter Try.func22, Try.ntmps22
      go_upto_region 1 with (fail)
      generalize w.alloc (.cells #[.slice A0_0 l0_0.length c0_0, .slice A0_1 l0_1.length c0_1, .int .i64 a0_2] 74 (0, 0)) = w1 at HH HT ⊢
      go_upto_region 3 with (go_at_call 61; refine (HLIVE.out _).mono ?_; rintro e w2 ⟨rfl, hb⟩; have HH2 := Aside0.mk (HH.out.below hb); have HT2 := Aside0.mk (below_step HT.out hb); clear hb)
      have c0 : w2.cell? ⟨w.heap.size, 0, none⟩ = some (.slice A0_0 l0_0.length c0_0) := cell_in HH2.out.1 0 rfl
      have c1 : w2.cell? ⟨w.heap.size, 1, none⟩ = some (.slice A0_1 l0_1.length c0_1) := cell_in HH2.out.1 1 rfl
      have c2 : w2.cell? ⟨w.heap.size, 2, none⟩ = some (.int .i64 a0_2) := cell_in HH2.out.1 2 rfl
      go_wp2_with (first
        | (go_at_call 62; refine (few_heap' A0_0 c0_0 l0_0 A0_1 c0_1 l0_1 a0_2 _ HH2.out.2.1 HH2.out.2.2.2.1 HH2.out.2.2.1 HH2.out.2.2.2.2 true HB.out).mono ?_; rintro e w3 ⟨rfl, hb⟩; have HT3 := Aside0.mk (below_step HT2.out hb); have HH3 := Aside0.mk (HH2.out.below hb); clear hb c0 c1 c2; have c0 : w3.cell? ⟨w.heap.size, 0, none⟩ = some (.slice A0_0 l0_0.length c0_0) := cell_in HH3.out.1 0 rfl; have c1 : w3.cell? ⟨w.heap.size, 1, none⟩ = some (.slice A0_1 l0_1.length c0_1) := cell_in HH3.out.1 1 rfl; have c2 : w3.cell? ⟨w.heap.size, 2, none⟩ = some (.int .i64 a0_2) := cell_in HH3.out.1 2 rfl)
        | (go_at_call 65; refine (heap_Check.calls A0_0 c0_0 l0_0 A0_1 c0_1 l0_1 a0_2 cv _ HH3.out.2.1 HC0.out HH3.out.2.2.1 HC1.out HCK.out).mono ?_; rintro e w4 ⟨rfl, hb⟩; have HT4 := Aside0.mk (below_step HT3.out hb); clear hb))
      go_ret
      exact ⟨rfl, HT4.out⟩
end Go.Proofs.Ytobadajeekdakaa.Print

namespace Go.Proofs.Ytobadajeekdakaa.Print
theorem Pure.HeapPushRestores (l0_0 l0_1 : List Int) (a0_2 a1 : Int) (a2 : Bool) (_ : ∀ x ∈ l0_0, (Lit.int .i64 x).wf = true) (_ : ∀ x ∈ l0_1, (Lit.int .i64 x).wf = true) (_ : (Lit.int .i64 a0_2).wf = true) (_ : (Lit.int .i64 a1).wf = true) : chalklinelaw21_HeapPushRestores.f l0_0 l0_1  a0_2 a1  a2       = some true := rfl
end Go.Proofs.Ytobadajeekdakaa.Print
