/- The references' functions over lists (packages ref14, ref19, ref20), as printed, in plain Lean: with rounds enough each answers what the lists say. -/
import Derived.Test.YtobadajeekdakaaY
import Derived.Test.YtobadajeekdakaaF156
import Derived.Test.YtobadajeekdakaaF155
import Derived.Test.YtobadajeekdakaaF88
import Derived.Test.YtobadajeekdakaaF90
namespace Go.Proofs.Ytobadajeekdakaa.Print
open Go.RowKit Go.Proofs.YtobadajeekdakaaW.PrintWords Go.Proofs.YtobadajeekdakaaW.PrintLast Go.Proofs.YtobadajeekdakaaW.PrintMore
set_option linter.unusedVariables false
set_option linter.unusedSimpArgs false
/-- With rounds enough f answers v. -/
def Evt {α : Type} (f : Nat → Option α) (v : α) : Prop := ∃ K, ∀ k, K ≤ k → f k = some v
theorem Evt.pure {α : Type} (v : α) : Evt (fun _ => some v) v := ⟨0, fun _ _ => rfl⟩
theorem Evt.bind {α β : Type} {f : Nat → Option α} {v : α} {g : Nat → α → Option β} {u : β} (h : Evt f v) (hg : Evt (fun k => g k v) u) : Evt (fun k => (f k).bind (g k)) u := by
  obtain ⟨K, h⟩ := h
  obtain ⟨K', hg⟩ := hg
  refine ⟨max K K', fun k hk => ?_⟩
  dsimp only
  rw [h k (by omega)]
  exact hg k (by omega)
theorem Evt.step {α : Type} {f g : Nat → Option α} {v : α} (hs : ∀ k, f (k + 1) = g k) (h : Evt g v) : Evt f v := by
  obtain ⟨K, h⟩ := h
  refine ⟨K + 1, fun k hk => ?_⟩
  obtain ⟨k, rfl⟩ : ∃ m, k = m + 1 := ⟨k - 1, by omega⟩
  rw [hs, h k (by omega)]
theorem Evt.congr {α : Type} {f g : Nat → Option α} {v : α} (hs : ∀ k, f k = g k) (h : Evt g v) : Evt f v := by
  obtain ⟨K, h⟩ := h
  exact ⟨K, fun k hk => by rw [hs, h k hk]⟩
theorem Evt.at {α : Type} {f : Nat → Option α} {v : α} (h : Evt f v) : ∃ k, f k = some v := by obtain ⟨K, h⟩ := h; exact ⟨K, h K (Nat.le_refl _)⟩
theorem nx (i : Nat) (h : i < 100000000) : wrap64 ((i : Int) + 1) = ((i + 1 : Nat) : Int) := by unfold wrap64; omega
theorem rdn {l : List Int} {i : Nat} (h : i < l.length) : rd l (i : Int) = l[i] := by simp [rd, List.getElem?_eq_getElem h]
theorem is_tells (x n : Int) (h0 : 0 ≤ n) (h1 : n ≤ 65536) : chalklineref14_Is.f x n = some (mayB n x) := by
  unfold chalklineref14_Is.f mayB
  have hw : wrap64 (-n) = -n := by unfold wrap64; omega
  rw [hw]
  by_cases a : x = 0
  · rw [if_pos a]; simp [a]
  · rw [if_neg a]
    by_cases b : x ≥ -n
    · rw [if_pos b]; congr 1; rw [decide_eq_decide]; omega
    · rw [if_neg b]; congr 1; symm; rw [decide_eq_false_iff_not]; omega
theorem drop_cons {α : Type} {l : List α} {i : Nat} (h : i < l.length) : l.drop i = l[i] :: l.drop (i + 1) := List.drop_eq_getElem_cons h
theorem has14_run (l : List Int) (x : Int) (hl : l.length < 100000000) (d : Nat) : ∀ i : Nat, l.length - i = d → i ≤ l.length → Evt (fun k => chalklineref14_Has.l0 k l x (i : Int)) ((l.drop i).contains x) := by
  induction d with
  | zero =>
    intro i hd hi
    obtain rfl : i = l.length := by omega
    refine Evt.step (g := fun _ => some false) (fun k => ?_) ?_
    · rw [chalklineref14_Has.l0, if_neg (by omega)]
    · rw [List.drop_length]; exact Evt.pure _
  | succ d ih =>
    intro i hd hi
    have hlt : i < l.length := by omega
    by_cases e : l[i] = x
    · refine Evt.step (g := fun _ => some true) (fun k => ?_) ?_
      · rw [chalklineref14_Has.l0, if_pos (by omega), if_pos (by omega), rdn hlt, if_pos e]
      · rw [drop_cons hlt, e]; simp; exact Evt.pure _
    · refine Evt.step (fun k => ?_) (v := (l.drop i).contains x) (g := fun k => chalklineref14_Has.l0 k l x ((i + 1 : Nat) : Int)) ?_
      · rw [chalklineref14_Has.l0, if_pos (by omega), if_pos (by omega), rdn hlt, if_neg e, nx i (by omega)]
      · have h2 := ih (i + 1) (by omega) (by omega)
        have h3 : (l.drop i).contains x = (l.drop (i + 1)).contains x := by
          rw [drop_cons hlt, List.contains_cons]
          have : (x == l[i]) = false := by simpa using fun q => e q.symm
          rw [this, Bool.false_or]
        rw [h3]; exact h2
theorem has14 (l : List Int) (x : Int) (hl : l.length < 100000000) : Evt (fun k => chalklineref14_Has.f k l x) (l.contains x) := by
  have := has14_run l x hl l.length 0 rfl (Nat.zero_le _)
  simpa [chalklineref14_Has.f] using this
theorem lits_run (t : List S41) (hl : t.length < 100000000) (d : Nat) : ∀ i : Nat, t.length - i = d → i ≤ t.length → ∀ acc : List Int, acc.length = i → Evt (fun k => chalklineref19_Lits.l0 k t acc (i : Int)) (acc ++ (t.drop i).map S41.f0) := by
  induction d with
  | zero =>
    intro i hd hi acc ha
    obtain rfl : i = t.length := by omega
    refine Evt.step (g := fun _ => some acc) (fun k => ?_) ?_
    · rw [chalklineref19_Lits.l0, if_neg (by omega)]
    · rw [List.drop_length, List.map_nil, List.append_nil]; exact Evt.pure _
  | succ d ih =>
    intro i hd hi acc ha
    have hlt : i < t.length := by omega
    refine Evt.step (g := fun k => chalklineref19_Lits.l0 k t (acc ++ [t[i].f0]) ((i + 1 : Nat) : Int)) (fun k => ?_) ?_
    · rw [chalklineref19_Lits.l0, if_pos (by omega), if_pos (by omega), if_pos (by omega), nx i (by omega), rd_T41_nat t i hlt]
    · have := ih (i + 1) (by omega) (by omega) (acc ++ [t[i].f0]) (by simp [ha])
      rw [drop_cons hlt, List.map_cons]
      simpa using this
theorem lits19 (t : List S41) (hl : t.length < 100000000) : Evt (fun k => chalklineref19_Lits.f k t) (t.map S41.f0) := by
  have := lits_run t hl t.length 0 rfl (Nat.zero_le _) [] rfl
  simpa [chalklineref19_Lits.f] using this
theorem by_run (l known : List Int) (x : Int) (hl : l.length < 100000000) (hk : known.length < 100000000) (d : Nat) : ∀ i : Nat, l.length - i = d → i ≤ l.length →
    Evt (fun k => chalklineref19_by.l0 k l x known (i : Int)) (!((l.drop i).any fun y => decide (y ≠ x) && !known.contains (wrap64 (-y))) && l.contains x) := by
  induction d with
  | zero =>
    intro i hd hi
    obtain rfl : i = l.length := by omega
    refine Evt.step (g := fun k => (chalklineref14_Has.f k l x).bind fun b => some b) (fun k => ?_) ?_
    · rw [chalklineref19_by.l0, if_neg (by omega)]
    · rw [List.drop_length]
      exact Evt.bind (g := fun _ b => some b) (has14 l x hl) (by simp; exact Evt.pure _)
  | succ d ih =>
    intro i hd hi
    have hlt : i < l.length := by omega
    have h2 := ih (i + 1) (by omega) (by omega)
    by_cases e : l[i] = x
    · refine Evt.step (g := fun k => chalklineref19_by.l0 k l x known ((i + 1 : Nat) : Int)) (fun k => ?_) ?_
      · rw [chalklineref19_by.l0, if_pos (by omega), if_pos (by omega), rdn hlt, if_pos e, nx i (by omega)]
      · rw [drop_cons hlt, List.any_cons]
        have : (decide (l[i] ≠ x)) = false := by simp [e]
        rw [this, Bool.false_and, Bool.false_or]; exact h2
    · refine Evt.step (g := fun k => (chalklineref14_Has.f k known (wrap64 (-l[i]))).bind fun b => if b = true then chalklineref19_by.l0 k l x known ((i + 1 : Nat) : Int) else some false) (fun k => ?_) ?_
      · rw [chalklineref19_by.l0, if_pos (by omega), if_pos (by omega), rdn hlt, if_neg e, nx i (by omega)]
      · refine Evt.bind (g := fun k b => if b = true then chalklineref19_by.l0 k l x known ((i + 1 : Nat) : Int) else some false) (has14 known (wrap64 (-l[i])) hk) ?_
        rw [drop_cons hlt, List.any_cons]
        have : (decide (l[i] ≠ x)) = true := decide_eq_true e
        rw [this, Bool.true_and]
        cases hc : known.contains (wrap64 (-l[i])) with
        | true => simp only [if_true, Bool.not_true, Bool.false_or]; exact h2
        | false => simp; exact Evt.pure _
theorem by19 (l known : List Int) (x : Int) (hl : l.length < 100000000) (hk : known.length < 100000000) : Evt (fun k => chalklineref19_by.f k l x known) (!(l.any fun y => decide (y ≠ x) && !known.contains (wrap64 (-y))) && l.contains x) := by
  have := by_run l known x hl hk l.length 0 rfl (Nat.zero_le _)
  simpa [chalklineref19_by.f] using this
/-- ref14.Check over the clauses from i on. -/
def check14V (n : Int) (L : List (List Int)) (i : Nat) : Int := if ((L.drop i).any fun l => l.any fun x => !mayB n x) = true then 1 else if 65536 < L.length then 2 else 0
theorem check14_run (n : Int) (L : List (List Int)) (h0 : 0 ≤ n) (h1 : n ≤ 65536) (hl : L.length < 100000000) (hr : ∀ r ∈ L, r.length < 100000000) (d : Nat) : ∀ i : Nat, L.length - i = d → i ≤ L.length → Evt (fun k => chalklineref14_Check.l0 k (i : Int) n L) (check14V n L i) := by
  induction d with
  | zero =>
    intro i hd hi
    obtain rfl : i = L.length := by omega
    refine Evt.step (g := fun _ => some (check14V n L L.length)) (fun k => ?_) (Evt.pure _)
    rw [chalklineref14_Check.l0, if_neg (by omega)]
    unfold check14V
    rw [List.drop_length]
    by_cases h : 65536 < L.length
    · rw [if_pos (by omega)]; simp [h]
    · rw [if_neg (by omega)]; simp [h]
  | succ d ih =>
    intro i hd hi
    have hlt : i < L.length := by omega
    have h2 := ih (i + 1) (by omega) (by omega)
    have hrow := hr _ (List.getElem_mem hlt)
    have hrd : rd_L1 L (i : Int) = L[i] := by unfold rd_L1; rw [Int.toNat_natCast, List.getD_eq_getElem?_getD, List.getElem?_eq_getElem hlt]; rfl
    have inner : ∀ (e j : Nat), (L[i]).length - j = e → j ≤ (L[i]).length → Evt (fun k => chalklineref14_Check.l1 k (i : Int) (j : Int) n L) (if ((L[i]).drop j).any (fun x => !mayB n x) = true then 1 else check14V n L (i + 1)) := by
      intro e
      induction e with
      | zero =>
        intro j hj hj2
        obtain rfl : j = (L[i]).length := by omega
        refine Evt.step (g := fun k => chalklineref14_Check.l0 k ((i + 1 : Nat) : Int) n L) (fun k => ?_) ?_
        · rw [chalklineref14_Check.l1, if_pos (by omega), if_pos (by omega), hrd, if_neg (by omega), nx i (by omega)]
        · rw [List.drop_length]; simpa using h2
      | succ e ihe =>
        intro j hj hj2
        have hjl : j < (L[i]).length := by omega
        have h3 := ihe (j + 1) (by omega) (by omega)
        cases hm : mayB n ((L[i])[j]) with
        | true =>
          refine Evt.step (g := fun k => chalklineref14_Check.l1 k (i : Int) ((j + 1 : Nat) : Int) n L) (fun k => ?_) ?_
          · rw [chalklineref14_Check.l1, if_pos (by omega), if_pos (by omega), hrd, if_pos (by omega), if_pos (by omega), rdn hjl, is_tells _ n h0 h1, hm, nx j (by omega)]; simp
          · rw [drop_cons hjl, List.any_cons, hm]; simpa using h3
        | false =>
          refine Evt.step (g := fun k => some 1) (fun k => ?_) ?_
          · rw [chalklineref14_Check.l1, if_pos (by omega), if_pos (by omega), hrd, if_pos (by omega), if_pos (by omega), rdn hjl, is_tells _ n h0 h1, hm]; simp
          · rw [drop_cons hjl, List.any_cons, hm]; simp; exact Evt.pure _
    refine Evt.step (g := fun k => chalklineref14_Check.l1 k (i : Int) 0 n L) (fun k => ?_) ?_
    · rw [chalklineref14_Check.l0, if_pos (by omega)]
    · have h3 := inner (L[i]).length 0 (by omega) (Nat.zero_le _)
      have h4 : check14V n L i = if ((L[i]).drop 0).any (fun x => !mayB n x) = true then 1 else check14V n L (i + 1) := by
        unfold check14V
        rw [drop_cons hlt, List.any_cons, List.drop_zero]
        cases (L[i]).any (fun x => !mayB n x) <;> simp
      rw [h4]; exact h3
theorem check14 (n : Int) (L : List (List Int)) (hl : L.length < 100000000) (hr : ∀ r ∈ L, r.length < 100000000) : Evt (fun k => chalklineref14_Check.f k n L) (cnfCheckV n L) := by
  unfold cnfCheckV
  by_cases h : n < 0 ∨ 65536 < n
  · rw [if_pos h]
    refine Evt.congr (g := fun k => chalklineref14_Check.j0 k true n L) (fun k => ?_) (Evt.step (g := fun _ => some 1) (fun k => by rw [chalklineref14_Check.j0, if_pos rfl]) (Evt.pure _))
    unfold chalklineref14_Check.f
    by_cases h0 : n < 0
    · rw [if_pos h0]
    · rw [if_neg h0, decide_eq_true (show n > 65536 by omega)]
  · rw [if_neg h]
    have h3 := check14_run n L (by omega) (by omega) hl hr L.length 0 rfl (Nat.zero_le _)
    refine Evt.congr (g := fun k => chalklineref14_Check.j0 k false n L) (fun k => ?_) (Evt.step (g := fun k => chalklineref14_Check.l0 k 0 n L) (fun k => by rw [chalklineref14_Check.j0, if_neg (by simp)]) ?_)
    · unfold chalklineref14_Check.f
      rw [if_neg (by omega), decide_eq_false (show ¬ n > 65536 by omega)]
    · simpa [check14V] using h3
end Go.Proofs.Ytobadajeekdakaa.Print
/- The references of layers 19 and 20 in plain Lean: Check, place, falsely. -/
namespace Go.Proofs.Ytobadajeekdakaa.Print
open Go.RowKit Go.Proofs.YtobadajeekdakaaW.PrintWords Go.Proofs.YtobadajeekdakaaW.PrintLast Go.Proofs.YtobadajeekdakaaW.PrintMore
set_option linter.unusedVariables false
set_option linter.unusedSimpArgs false
theorem lits_take (t : List S41) (k : Nat) : (t.map S41.f0).take k = litsTo t k := by unfold litsTo; rw [List.map_take]
theorem check19_run (n : Int) (L : List (List Int)) (t : List S41) (h0 : 0 ≤ n) (h1 : n ≤ 65536) (hl : t.length < 100000000) (hL : L.length < 100000000) (hr : ∀ r ∈ L, r.length < 100000000) (d : Nat) : ∀ i : Nat, t.length - i = d → i ≤ t.length →
    Evt (fun k => chalklineref19_Check.l0 k t (t.map S41.f0) (i : Int) n L) (if trailOkB n L (litsTo t i) (t.drop i) = true then 0 else 1) := by
  have hlen : ((t.map S41.f0).length : Int) = (t.length : Int) := by simp
  induction d with
  | zero =>
    intro i hd hi
    obtain rfl : i = t.length := by omega
    refine Evt.step (g := fun _ => some 0) (fun k => ?_) ?_
    · rw [chalklineref19_Check.l0, if_neg (by omega)]
    · rw [List.drop_length]; exact Evt.pure _
  | succ d ih =>
    intro i hd hi
    have hlt : i < t.length := by omega
    have h2 := ih (i + 1) (by omega) (by omega)
    have hs := trailOk_step n L t i hlt
    obtain ⟨s, hsd⟩ : ∃ s, s = rd_T41 t (i : Int) := ⟨_, rfl⟩
    rw [← hsd] at hs
    have hknown : (litsTo t i).length < 100000000 := by unfold litsTo; rw [List.length_map, List.length_take]; omega
    have hbase : ∀ k, chalklineref19_Check.l0 (k + 1) t (t.map S41.f0) (i : Int) n L = (if mayB n s.f0 = true then ((chalklineref14_Has.f k (litsTo t i) s.f0).bind fun t141 => (if t141 = true then (chalklineref19_Check.j1 k t (t.map S41.f0) (i : Int) true n L s.f0 s.f1) else ((chalklineref14_Has.f k (litsTo t i) (wrap64 (-s.f0))).bind fun t146 => (if t146 = true then (chalklineref19_Check.j1 k t (t.map S41.f0) (i : Int) true n L s.f0 s.f1) else (if s.f1 < (-1) then (chalklineref19_Check.j1 k t (t.map S41.f0) (i : Int) true n L s.f0 s.f1) else (chalklineref19_Check.j1 k t (t.map S41.f0) (i : Int) (decide (s.f1 ≥ (L.length : Int))) n L s.f0 s.f1)))))) else chalklineref19_Check.j1 k t (t.map S41.f0) (i : Int) true n L s.f0 s.f1) := by
      intro k
      rw [chalklineref19_Check.l0, if_pos (by omega), if_pos (by omega), ← hsd, is_tells _ n h0 h1]
      simp only [Option.bind_some]
      by_cases hm : mayB n s.f0 = true
      · rw [if_pos hm, if_pos hm, if_pos (by omega), Int.toNat_natCast, lits_take]
      · rw [if_neg hm, if_neg hm]
    have hbad : Evt (fun k => chalklineref19_Check.j1 k t (t.map S41.f0) (i : Int) true n L s.f0 s.f1) 1 := Evt.step (g := fun _ => some 1) (fun k => by rw [chalklineref19_Check.j1, if_pos rfl]) (Evt.pure _)
    have hres : ∀ b, stepBadB n L.length (litsTo t i) s = b → b = true → (if trailOkB n L (litsTo t i) (t.drop i) = true then (0 : Int) else 1) = 1 := by
      intro b hb hbt
      rw [hs, hb, hbt]; simp
    refine Evt.step hbase ?_
    by_cases hm : mayB n s.f0 = true
    · have hm' : s.f0 ≠ 0 ∧ -n ≤ s.f0 ∧ s.f0 ≤ n := of_decide_eq_true hm
      refine Evt.congr (fun k => by rw [if_pos hm]) ?_
      refine Evt.bind (g := fun k t141 => (if t141 = true then (chalklineref19_Check.j1 k t (t.map S41.f0) (i : Int) true n L s.f0 s.f1) else ((chalklineref14_Has.f k (litsTo t i) (wrap64 (-s.f0))).bind fun t146 => (if t146 = true then (chalklineref19_Check.j1 k t (t.map S41.f0) (i : Int) true n L s.f0 s.f1) else (if s.f1 < (-1) then (chalklineref19_Check.j1 k t (t.map S41.f0) (i : Int) true n L s.f0 s.f1) else (chalklineref19_Check.j1 k t (t.map S41.f0) (i : Int) (decide (s.f1 ≥ (L.length : Int))) n L s.f0 s.f1)))))) (has14 (litsTo t i) s.f0 hknown) ?_
      cases hc1 : (litsTo t i).contains s.f0 with
      | true =>
        rw [hres true (by unfold stepBadB; rw [hc1]; simp) rfl]
        simpa using hbad
      | false =>
        simp only [Bool.false_eq_true, if_false]
        refine Evt.bind (g := fun k t146 => (if t146 = true then (chalklineref19_Check.j1 k t (t.map S41.f0) (i : Int) true n L s.f0 s.f1) else (if s.f1 < (-1) then (chalklineref19_Check.j1 k t (t.map S41.f0) (i : Int) true n L s.f0 s.f1) else (chalklineref19_Check.j1 k t (t.map S41.f0) (i : Int) (decide (s.f1 ≥ (L.length : Int))) n L s.f0 s.f1)))) (has14 (litsTo t i) (wrap64 (-s.f0)) hknown) ?_
        cases hc2 : (litsTo t i).contains (wrap64 (-s.f0)) with
        | true =>
          rw [hres true (by unfold stepBadB; rw [hc2]; simp) rfl]
          simpa using hbad
        | false =>
          simp only [Bool.false_eq_true, if_false]
          by_cases hw1 : s.f1 < -1
          · rw [hres true (by unfold stepBadB; simp [hw1]) rfl]
            refine Evt.congr (fun k => by rw [if_pos hw1]) hbad
          · refine Evt.congr (fun k => by rw [if_neg hw1]) ?_
            by_cases hw2 : s.f1 ≥ (L.length : Int)
            · rw [hres true (by unfold stepBadB; rw [decide_eq_true (show (L.length : Int) ≤ s.f1 from hw2)]; simp) rfl]
              refine Evt.congr (fun k => by rw [decide_eq_true hw2]) hbad
            · have hok : stepBadB n L.length (litsTo t i) s = false := by
                unfold stepBadB
                rw [hc1, hc2, decide_eq_false (show ¬ s.f0 = 0 by omega), decide_eq_false (show ¬ n < s.f0 by omega), decide_eq_false (show ¬ s.f0 < -n by omega), decide_eq_false (show ¬ s.f1 < -1 by omega), decide_eq_false (show ¬ (L.length : Int) ≤ s.f1 by omega)]
                rfl
              rw [hs, hok]
              simp only [Bool.not_false, Bool.true_and]
              refine Evt.congr (fun k => by rw [decide_eq_false hw2]) ?_
              by_cases hwn : s.f1 ≥ 0
              · refine Evt.step (g := fun k => (chalklineref19_by.f k (rd_L1 L s.f1) s.f0 (litsTo t i)).bind fun b => if b = true then chalklineref19_Check.l0 k t (t.map S41.f0) ((i + 1 : Nat) : Int) n L else some 1) (fun k => ?_) ?_
                · rw [chalklineref19_Check.j1, if_neg (by simp), if_pos hwn, if_pos hwn, if_pos (by omega), if_pos (by omega), if_pos (by omega), Int.toNat_natCast, lits_take, nx i (by omega)]
                · have hrl := hr _ (rd_L1_mem hwn (by omega))
                  refine Evt.bind (g := fun k b => if b = true then chalklineref19_Check.l0 k t (t.map S41.f0) ((i + 1 : Nat) : Int) n L else some 1) (by19 _ _ _ hrl hknown) ?_
                  have hwhy : stepWhyB L (litsTo t i) s = (!((rd_L1 L s.f1).any fun y => decide (y ≠ s.f0) && !(litsTo t i).contains (wrap64 (-y))) && (rd_L1 L s.f1).contains s.f0) := by
                    unfold stepWhyB
                    rw [decide_eq_false (show ¬ s.f1 < 0 by omega), Bool.false_or, Bool.and_comm]
                  rw [hwhy]
                  cases (!((rd_L1 L s.f1).any fun y => decide (y ≠ s.f0) && !(litsTo t i).contains (wrap64 (-y))) && (rd_L1 L s.f1).contains s.f0) with
                  | true => simpa using h2
                  | false => simp; exact Evt.pure _
              · refine Evt.step (g := fun k => chalklineref19_Check.l0 k t (t.map S41.f0) ((i + 1 : Nat) : Int) n L) (fun k => ?_) ?_
                · rw [chalklineref19_Check.j1, if_neg (by simp), if_neg hwn, nx i (by omega)]
                · have hwhy : stepWhyB L (litsTo t i) s = true := by unfold stepWhyB; rw [decide_eq_true (show s.f1 < 0 by omega), Bool.true_or]
                  rw [hwhy, Bool.true_and]; exact h2
    · rw [hres true (by unfold stepBadB; unfold mayB at hm; have := decide_eq_false_iff_not.1 (by simpa using hm : decide (s.f0 ≠ 0 ∧ -n ≤ s.f0 ∧ s.f0 ≤ n) = false); by_cases a : s.f0 = 0; simp [a]; by_cases b : n < s.f0; simp [b]; by_cases c : s.f0 < -n; simp [c]; exact absurd ⟨a, by omega, by omega⟩ this) rfl]
      refine Evt.congr (fun k => by rw [if_neg hm]) hbad
theorem check19 (n : Int) (L : List (List Int)) (t : List S41) (hl : t.length < 100000000) (hL : L.length < 100000000) (hr : ∀ r ∈ L, r.length < 100000000) : Evt (fun k => chalklineref19_Check.f k n L t) (propCheckV n L t) := by
  unfold propCheckV
  refine Evt.bind (g := fun k t130 => (if t130 = 0 then ((chalklineref19_Lits.f k t).bind fun t131 => (chalklineref19_Check.l0 k t t131 0 n L)) else (some t130))) (check14 n L hL hr) ?_
  by_cases hc : cnfCheckV n L = 0
  · rw [if_pos hc]
    refine Evt.congr (fun k => by rw [if_pos hc]) ?_
    refine Evt.bind (g := fun k t131 => (chalklineref19_Check.l0 k t t131 0 n L)) (lits19 t hl) ?_
    have hb : 0 ≤ n ∧ n ≤ 65536 := by
      unfold cnfCheckV at hc
      by_cases h1 : n < 0 ∨ 65536 < n
      · rw [if_pos h1] at hc; exact absurd hc (by decide)
      · omega
    have := check19_run n L t hb.1 hb.2 hl hL hr t.length 0 rfl (Nat.zero_le _)
    simpa [litsTo] using this
  · rw [if_neg hc]
    refine Evt.congr (fun k => by rw [if_neg hc]) (Evt.pure _)
/-- The place of a literal: its step, or -1. -/
theorem place_run (t : List S41) (x : Int) (hl : t.length < 100000000) (v : Int) (d : Nat) : ∀ i : Nat, t.length - i = d → i ≤ t.length → (∀ j, j < i → litAt t j ≠ x) → ((∃ j : Nat, j < t.length ∧ litAt t j = x ∧ v = (j : Int) ∧ ∀ m, m < j → litAt t m ≠ x) ∨ (v = -1 ∧ ∀ j, j < t.length → litAt t j ≠ x)) →
    Evt (fun k => chalklineref20_place.l0 k t x (i : Int)) v := by
  induction d with
  | zero =>
    intro i hd hi ha hv
    obtain rfl : i = t.length := by omega
    refine Evt.step (g := fun _ => some v) (fun k => ?_) (Evt.pure _)
    rw [chalklineref20_place.l0, if_neg (by omega)]
    rcases hv with ⟨j, hj, e, _⟩ | ⟨e, _⟩
    · exact absurd e (ha j hj)
    · rw [e]
  | succ d ih =>
    intro i hd hi ha hv
    have hlt : i < t.length := by omega
    by_cases e : litAt t i = x
    · refine Evt.step (g := fun _ => some v) (fun k => ?_) (Evt.pure _)
      rw [chalklineref20_place.l0, if_pos (by omega), if_pos (by omega), if_pos (show (rd_T41 t (i : Int)).f0 = x from e)]
      rcases hv with ⟨j, hj, e2, e3, hmin⟩ | ⟨_, hno⟩
      · have : j = i := by
          rcases Nat.lt_trichotomy j i with q | q | q
          · exact absurd e2 (ha j q)
          · exact q
          · exact absurd e (hmin i q)
        rw [e3, this]
      · exact absurd e (hno i hlt)
    · have ha2 : ∀ j, j < i + 1 → litAt t j ≠ x := fun j hj => by
        by_cases q : j = i
        · subst q; exact e
        · exact ha j (by omega)
      have h2 := ih (i + 1) (by rw [Nat.sub_add_eq, hd]; rfl) hlt ha2 hv
      refine Evt.step (g := fun k => chalklineref20_place.l0 k t x ((i + 1 : Nat) : Int)) (fun k => ?_) h2
      rw [chalklineref20_place.l0, if_pos (by omega), if_pos (by omega), if_neg (show ¬ (rd_T41 t (i : Int)).f0 = x from e), nx i (by omega)]
section
variable {n : Int} {L : List (List Int)} {t : List S41}
theorem place_lit (h : Sane n L t) (hl : t.length < 100000000) {j : Nat} (hj : j < t.length) : Evt (fun k => chalklineref20_place.f k t (litAt t j)) (j : Int) :=
  place_run t _ hl _ t.length 0 rfl (Nat.zero_le _) (fun m hm => absurd hm (Nat.not_lt_zero _)) (Or.inl ⟨j, hj, rfl, rfl, fun m hm e => by have := h.inj (by omega) hj e; omega⟩)
theorem place_known (h : Sane n L t) (hl : t.length < 100000000) {y : Int} (hy : I64 y) : Evt (fun k => chalklineref20_place.f k t (wrap64 (-y))) (if knownB t y = true then (atT t (wrap64 (-y))).getD 0 else -1) := by
  by_cases hk : knownB t y = true
  · rw [if_pos hk]
    obtain ⟨j, hj, rfl⟩ := (h.known_iff hy).1 hk
    rw [h.neg hj, h.at hj]
    exact place_lit h hl hj
  · rw [if_neg hk]
    refine place_run t _ hl _ t.length 0 rfl (Nat.zero_le _) (fun m hm => absurd hm (Nat.not_lt_zero _)) (Or.inr ⟨rfl, fun j hj e => hk ?_⟩)
    unfold knownB
    rw [← e, h.at hj]; rfl
theorem falsely_run (h : Sane n L t) (hl : t.length < 100000000) (l : List Int) (hll : l.length < 100000000) (hw : ∀ y ∈ l, I64 y) (d : Nat) : ∀ i : Nat, l.length - i = d → i ≤ l.length → Evt (fun k => chalklineref20_falsely.l0 k t l (i : Int)) ((l.drop i).all (knownB t)) := by
  induction d with
  | zero =>
    intro i hd hi
    obtain rfl : i = l.length := by omega
    refine Evt.step (g := fun _ => some true) (fun k => ?_) ?_
    · rw [chalklineref20_falsely.l0, if_neg (by omega)]
    · rw [List.drop_length]; exact Evt.pure _
  | succ d ih =>
    intro i hd hi
    have hlt : i < l.length := by omega
    have h2 := ih (i + 1) (by omega) (by omega)
    refine Evt.step (g := fun k => (chalklineref20_place.f k t (wrap64 (-l[i]))).bind fun p => if p < 0 then some false else chalklineref20_falsely.l0 k t l ((i + 1 : Nat) : Int)) (fun k => ?_) ?_
    · rw [chalklineref20_falsely.l0, if_pos (by omega), if_pos (by omega), rdn hlt, nx i (by omega)]
    · refine Evt.bind (g := fun k p => if p < 0 then some false else chalklineref20_falsely.l0 k t l ((i + 1 : Nat) : Int)) (place_known h hl (hw _ (List.getElem_mem hlt))) ?_
      rw [drop_cons hlt, List.all_cons]
      by_cases hk : knownB t l[i] = true
      · obtain ⟨j, hj, e⟩ := (h.known_iff (hw _ (List.getElem_mem hlt))).1 hk
        have hv : (atT t (wrap64 (-l[i]))).getD 0 = (j : Int) := by rw [e, h.neg hj, h.at hj]; rfl
        rw [if_pos hk, hv, hk, Bool.true_and]
        refine Evt.congr (fun k => by rw [if_neg (by omega)]) h2
      · have hk' : knownB t l[i] = false := by simpa using hk
        rw [if_neg hk, hk', Bool.false_and]
        exact Evt.congr (fun k => by rw [if_pos (by omega)]) (Evt.pure _)
theorem falsely20 (h : Sane n L t) (hl : t.length < 100000000) (l : List Int) (hll : l.length < 100000000) (hw : ∀ y ∈ l, I64 y) : Evt (fun k => chalklineref20_falsely.f k t l) (l.all (knownB t)) := by
  have := falsely_run h hl l hll hw l.length 0 rfl (Nat.zero_le _)
  simpa [chalklineref20_falsely.f] using this
end
end Go.Proofs.Ytobadajeekdakaa.Print
/- The references of layer 20 in plain Lean: level, more, without, latest, Rising. -/
namespace Go.Proofs.Ytobadajeekdakaa.Print
open Go.RowKit Go.Proofs.YtobadajeekdakaaW.PrintWords Go.Proofs.YtobadajeekdakaaW.PrintLast Go.Proofs.YtobadajeekdakaaW.PrintMore
set_option linter.unusedVariables false
set_option linter.unusedSimpArgs false
theorem sub_next {a i d : Nat} (h : a - i = d + 1) : a - (i + 1) = d := by rw [Nat.sub_add_eq, h]; rfl
theorem has20_run (l : List Int) (x : Int) (hl : l.length < 100000000) (d : Nat) : ∀ i : Nat, l.length - i = d → i ≤ l.length → Evt (fun k => chalklineref20_has.l0 k l x (i : Int)) ((l.drop i).contains x) := by
  induction d with
  | zero =>
    intro i hd hi
    obtain rfl : i = l.length := by omega
    refine Evt.step (g := fun _ => some false) (fun k => ?_) ?_
    · rw [chalklineref20_has.l0, if_neg (by omega)]
    · rw [List.drop_length]; exact Evt.pure _
  | succ d ih =>
    intro i hd hi
    have hlt : i < l.length := by omega
    by_cases e : l[i] = x
    · refine Evt.step (g := fun _ => some true) (fun k => ?_) ?_
      · rw [chalklineref20_has.l0, if_pos (by omega), if_pos (by omega), rdn hlt, if_pos e]
      · rw [drop_cons hlt, e]; simp; exact Evt.pure _
    · refine Evt.step (fun k => ?_) (v := (l.drop i).contains x) (g := fun k => chalklineref20_has.l0 k l x ((i + 1 : Nat) : Int)) ?_
      · rw [chalklineref20_has.l0, if_pos (by omega), if_pos (by omega), rdn hlt, if_neg e, nx i (by omega)]
      · have h2 := ih (i + 1) (sub_next hd) hlt
        have h3 : (l.drop i).contains x = (l.drop (i + 1)).contains x := by
          rw [drop_cons hlt, List.contains_cons]
          have : (x == l[i]) = false := by simpa using fun q => e q.symm
          rw [this, Bool.false_or]
        rw [h3]; exact h2
theorem has20 (l : List Int) (x : Int) (hl : l.length < 100000000) : Evt (fun k => chalklineref20_has.f k l x) (l.contains x) := by
  have := has20_run l x hl l.length 0 rfl (Nat.zero_le _)
  simpa [chalklineref20_has.f] using this
theorem moreL_cons (but x : Int) (r l : List Int) : moreL but (x :: r) l = if x = but ∨ l.contains x = true then moreL but r l else moreL but r (l ++ [x]) := by
  unfold moreL; rw [List.foldl_cons]; split <;> rfl
theorem more_run (m : List Int) (but : Int) (hm : m.length < 1000000) (d : Nat) : ∀ (i : Nat) (l : List Int), m.length - i = d → i ≤ m.length → l.length + d < 50000000 → Evt (fun k => chalklineref20_more.l0 k l m but (i : Int)) (moreL but (m.drop i) l) := by
  induction d with
  | zero =>
    intro i l hd hi hl
    obtain rfl : i = m.length := by omega
    refine Evt.step (g := fun _ => some l) (fun k => ?_) ?_
    · rw [chalklineref20_more.l0, if_neg (by omega)]
    · rw [List.drop_length]; exact Evt.pure _
  | succ d ih =>
    intro i l hd hi hl
    have hlt : i < m.length := by omega
    rw [drop_cons hlt, moreL_cons]
    have h2 := fun l' (h : l'.length + d < 50000000) => ih (i + 1) l' (sub_next hd) hlt h
    by_cases e : m[i] = but
    · rw [if_pos (Or.inl e)]
      refine Evt.step (g := fun k => chalklineref20_more.l0 k l m but ((i + 1 : Nat) : Int)) (fun k => ?_) (h2 l (by omega))
      rw [chalklineref20_more.l0, if_pos (by omega), if_pos (by omega), rdn hlt, if_pos e, nx i (by omega)]
    · refine Evt.step (g := fun k => (chalklineref20_has.f k l m[i]).bind fun b => if b = true then chalklineref20_more.l0 k l m but ((i + 1 : Nat) : Int) else if l.length < 17592186044416 then chalklineref20_more.l0 k (l ++ [m[i]]) m but ((i + 1 : Nat) : Int) else none) (fun k => ?_) ?_
      · rw [chalklineref20_more.l0, if_pos (by omega), if_pos (by omega), rdn hlt, if_neg e, nx i (by omega)]
      · refine Evt.bind (g := fun k b => if b = true then chalklineref20_more.l0 k l m but ((i + 1 : Nat) : Int) else if l.length < 17592186044416 then chalklineref20_more.l0 k (l ++ [m[i]]) m but ((i + 1 : Nat) : Int) else none) (has20 l m[i] (by omega)) ?_
        cases hc : l.contains m[i] with
        | true => rw [if_pos (Or.inr rfl)]; simpa using h2 l (by omega)
        | false =>
          rw [if_neg (by rintro (q | q); exact e q; cases q)]
          refine Evt.congr (fun k => by rw [if_neg (by simp), if_pos (by omega)]) (h2 (l ++ [m[i]]) (by rw [List.length_append, List.length_singleton]; omega))
theorem more20 (l m : List Int) (but : Int) (hm : m.length < 1000000) (hl : l.length < 1000000) : Evt (fun k => chalklineref20_more.f k l m but) (moreL but m l) := by
  have := more_run m but hm m.length 0 l rfl (Nat.zero_le _) (by omega)
  simpa [chalklineref20_more.f] using this
theorem without_run (l : List Int) (x : Int) (hl : l.length < 1000000) (d : Nat) : ∀ (i : Nat) (acc : List Int), l.length - i = d → i ≤ l.length → acc.length ≤ i → Evt (fun k => chalklineref20_without.l0 k l x acc (i : Int)) (acc ++ dropL x (l.drop i)) := by
  induction d with
  | zero =>
    intro i acc hd hi ha
    obtain rfl : i = l.length := by omega
    refine Evt.step (g := fun _ => some acc) (fun k => ?_) ?_
    · rw [chalklineref20_without.l0, if_neg (by omega)]
    · rw [List.drop_length]; simp [dropL]; exact Evt.pure _
  | succ d ih =>
    intro i acc hd hi ha
    have hlt : i < l.length := by omega
    rw [drop_cons hlt]
    by_cases e : l[i] = x
    · have h1 : dropL x (l[i] :: l.drop (i + 1)) = dropL x (l.drop (i + 1)) := by unfold dropL; rw [List.filter_cons, if_neg (by simp [e])]
      rw [h1]
      refine Evt.step (g := fun k => chalklineref20_without.l0 k l x acc ((i + 1 : Nat) : Int)) (fun k => ?_) (ih (i + 1) acc (sub_next hd) hlt (by omega))
      rw [chalklineref20_without.l0, if_pos (by omega), if_pos (by omega), rdn hlt, if_pos e, nx i (by omega)]
    · have h1 : dropL x (l[i] :: l.drop (i + 1)) = l[i] :: dropL x (l.drop (i + 1)) := by unfold dropL; rw [List.filter_cons, if_pos (decide_eq_true e)]
      rw [h1]
      have h2 := ih (i + 1) (acc ++ [l[i]]) (sub_next hd) hlt (by rw [List.length_append, List.length_singleton]; omega)
      rw [List.append_assoc, List.singleton_append] at h2
      refine Evt.step (g := fun k => chalklineref20_without.l0 k l x (acc ++ [l[i]]) ((i + 1 : Nat) : Int)) (fun k => ?_) h2
      rw [chalklineref20_without.l0, if_pos (by omega), if_pos (by omega), rdn hlt, if_neg e, if_pos (by omega), nx i (by omega)]
theorem without20 (l : List Int) (x : Int) (hl : l.length < 1000000) : Evt (fun k => chalklineref20_without.f k l x) (dropL x l) := by
  have := without_run l x hl l.length 0 [] rfl (Nat.zero_le _) (Nat.le_refl _)
  simpa [chalklineref20_without.f] using this
theorem levels19_run (t : List S41) (hl : t.length < 1000000) (d : Nat) : ∀ (i : Nat) (acc : List Int) (n : Int), t.length - i = d → i ≤ t.length → acc.length = i → 0 ≤ n → n ≤ i → Evt (fun k => chalklineref19_Levels.l0 k t acc n (i : Int)) (acc ++ levelsFrom n (t.drop i)) := by
  induction d with
  | zero =>
    intro i acc n hd hi ha h0 h1
    obtain rfl : i = t.length := by omega
    refine Evt.step (g := fun _ => some acc) (fun k => ?_) ?_
    · rw [chalklineref19_Levels.l0, if_neg (by omega)]
    · rw [List.drop_length]; simp [levelsFrom]; exact Evt.pure _
  | succ d ih =>
    intro i acc n hd hi ha h0 h1
    have hlt : i < t.length := by omega
    rw [drop_cons hlt]
    have hw : wrap64 (n + 1) = n + 1 := by unfold wrap64; omega
    by_cases e : t[i].f1 = -1
    · have h2 := ih (i + 1) (acc ++ [n + 1]) (n + 1) (sub_next hd) hlt (by rw [List.length_append, ha]; rfl) (by omega) (by omega)
      rw [List.append_assoc, List.singleton_append] at h2
      have h3 : levelsFrom n (t[i] :: t.drop (i + 1)) = (n + 1) :: levelsFrom (n + 1) (t.drop (i + 1)) := by simp [levelsFrom, e]
      rw [h3]
      refine Evt.step (g := fun k => chalklineref19_Levels.l0 k t (acc ++ [n + 1]) (n + 1) ((i + 1 : Nat) : Int)) (fun k => ?_) h2
      rw [chalklineref19_Levels.l0, if_pos (by omega), if_pos (by omega), rd_T41_nat t i hlt, if_pos e, if_pos (by omega), nx i (by omega), hw]
    · have h2 := ih (i + 1) (acc ++ [n]) n (sub_next hd) hlt (by rw [List.length_append, ha]; rfl) h0 (by omega)
      rw [List.append_assoc, List.singleton_append] at h2
      have h3 : levelsFrom n (t[i] :: t.drop (i + 1)) = n :: levelsFrom n (t.drop (i + 1)) := by simp [levelsFrom, e]
      rw [h3]
      refine Evt.step (g := fun k => chalklineref19_Levels.l0 k t (acc ++ [n]) n ((i + 1 : Nat) : Int)) (fun k => ?_) h2
      rw [chalklineref19_Levels.l0, if_pos (by omega), if_pos (by omega), rd_T41_nat t i hlt, if_neg e, if_pos (by omega), nx i (by omega)]
theorem levels19 (t : List S41) (hl : t.length < 1000000) : Evt (fun k => chalklineref19_Levels.f k t) (lvT t) := by
  have := levels19_run t hl t.length 0 [] 0 rfl (Nat.zero_le _) rfl (Int.le_refl _) (by omega)
  simpa [chalklineref19_Levels.f, lvT] using this
section
variable {n : Int} {L : List (List Int)} {t : List S41}
theorem level20 (h : Sane n L t) (hl : t.length < 1000000) {j : Nat} (hj : j < t.length) : Evt (fun k => chalklineref20_level.f k t (-(litAt t j))) (lvlOf t (-(litAt t j))) := by
  have hlen : (lvT t).length = t.length := by rw [lvT, levelsFrom_length]
  unfold chalklineref20_level.f
  rw [h.neg hj, h.lvl hj]
  refine Evt.bind (g := fun k t172 => ((chalklineref20_place.f k t (litAt t j)).bind fun t175 => (if 0 ≤ t175 then (if t175 < (t172.length : Int) then (some (rd t172 t175)) else (none)) else (none)))) (levels19 t hl) ?_
  refine Evt.bind (g := fun k t175 => (if 0 ≤ t175 then (if t175 < ((lvT t).length : Int) then (some (rd (lvT t) t175)) else (none)) else (none))) (place_lit h (by omega) hj) ?_
  refine Evt.congr (fun k => by rw [if_pos (by omega), if_pos (by omega), lv_at hj]) (Evt.pure _)
theorem last_run (h : Sane n L t) (hl : t.length < 1000000) (d : Nat) : ∀ i : Nat, t.length - i = d → i ≤ t.length → Evt (fun k => chalklineref20_last.l0 k t (decs t i : Int) (i : Int)) (decs t t.length : Int) := by
  induction d with
  | zero =>
    intro i hd hi
    obtain rfl : i = t.length := by omega
    exact Evt.step (g := fun _ => some (decs t t.length : Int)) (fun k => by rw [chalklineref20_last.l0, if_neg (by omega)]) (Evt.pure _)
  | succ d ih =>
    intro i hd hi
    have hlt : i < t.length := by omega
    have h2 := ih (i + 1) (sub_next hd) hlt
    have hs := decs_succ t i hlt
    have hr := h.whyR hlt
    have hdl : decs t i ≤ i := by unfold decs; have := List.length_filter_le (fun s : S41 => decide (s.f1 = -1)) (t.take i); rw [List.length_take] at this; omega
    by_cases e : whyAt t i = -1
    · rw [if_pos e] at hs
      have hw : wrap64 ((decs t i : Int) + 1) = ((decs t i + 1 : Nat) : Int) := nx _ (by omega)
      refine Evt.step (g := fun k => chalklineref20_last.l0 k t (decs t (i + 1) : Int) ((i + 1 : Nat) : Int)) (fun k => ?_) h2
      rw [chalklineref20_last.l0, if_pos (by omega), if_pos (by omega), if_pos (show (rd_T41 t (i : Int)).f1 < 0 from by unfold whyAt at e; omega), nx i (by omega), hw, hs]
    · rw [if_neg e] at hs
      refine Evt.step (g := fun k => chalklineref20_last.l0 k t (decs t (i + 1) : Int) ((i + 1 : Nat) : Int)) (fun k => ?_) h2
      rw [chalklineref20_last.l0, if_pos (by omega), if_pos (by omega), if_neg (show ¬ (rd_T41 t (i : Int)).f1 < 0 from by unfold whyAt at e hr; omega), nx i (by omega), hs]
      rfl
theorem last20 (h : Sane n L t) (hl : t.length < 1000000) : Evt (fun k => chalklineref20_last.f k t) (lastOf t) := by
  rw [lastOf_eq]
  have := last_run h hl t.length 0 rfl (Nat.zero_le _)
  rw [decs_zero] at this
  exact this
end
end Go.Proofs.Ytobadajeekdakaa.Print
/- ref20.Rising and ref20.latest in plain Lean. -/
namespace Go.Proofs.Ytobadajeekdakaa.Print
open Go.RowKit Go.Proofs.YtobadajeekdakaaW.PrintWords Go.Proofs.YtobadajeekdakaaW.PrintLast Go.Proofs.YtobadajeekdakaaW.PrintMore
set_option linter.unusedVariables false
set_option linter.unusedSimpArgs false
theorem insV_split (x : Int) : ∀ (n : Nat) (out : List Int), n ≤ out.length → (∀ j (h : j < out.length), j < n → varOf out[j] < varOf x) → insV x out = out.take n ++ insV x (out.drop n)
  | 0, out, _, _ => by simp
  | n + 1, [], h, _ => by simp at h
  | n + 1, y :: out, h, hp => by
    have h0 := hp 0 (by simp) (by omega)
    have h1 := insV_split x n out (by simpa using h) (fun j hj hjn => hp (j + 1) (by simpa using hj) (by omega))
    rw [List.take_succ_cons, List.drop_succ_cons, List.cons_append, ← h1]
    have h0' : varOf y < varOf x := h0
    rw [insV, if_pos h0']
theorem var20 (x : Int) : chalklineref20_Var.f x = some (varOf x) := rfl
theorem rising_run (l : List Int) (hl : l.length < 1000000) (d : Nat) : ∀ (i : Nat) (out : List Int), l.length - i = d → i ≤ l.length → out.length = i → Evt (fun k => chalklineref20_Rising.l0 k l out (i : Int)) ((l.drop i).foldl (fun acc x => insV x acc) out) := by
  induction d with
  | zero =>
    intro i out hd hi ho
    obtain rfl : i = l.length := by omega
    refine Evt.step (g := fun _ => some out) (fun k => ?_) ?_
    · rw [chalklineref20_Rising.l0, if_neg (by omega)]
    · rw [List.drop_length]; exact Evt.pure _
  | succ d ih =>
    intro i out hd hi ho
    have hlt : i < l.length := by omega
    have hil : (0 : Int) ≤ (i : Int) := by omega
    have hltz : (i : Int) < (l.length : Int) := by omega
    have h2 := ih (i + 1) (insV l[i] out) (sub_next hd) hlt (by rw [(insV_perm l[i] out).length_eq, List.length_cons, ho])
    have hfold : (l.drop i).foldl (fun acc x => insV x acc) out = (l.drop (i + 1)).foldl (fun acc x => insV x acc) (insV l[i] out) := by rw [drop_cons hlt, List.foldl_cons]
    rw [hfold]
    have hol : out.length < 1000000 := by omega
    have inner : ∀ (e n : Nat), out.length - n = e → n ≤ out.length → (∀ j (h : j < out.length), j < n → varOf out[j] < varOf l[i]) → Evt (fun k => chalklineref20_Rising.l1 k l out (i : Int) (n : Int)) ((l.drop (i + 1)).foldl (fun acc x => insV x acc) (insV l[i] out)) := by
      intro e
      induction e with
      | zero =>
        intro n he hn hp
        obtain rfl : n = out.length := by omega
        have hins := insV_split l[i] out.length out (Nat.le_refl _) hp
        rw [List.take_length, List.drop_length, insV] at hins
        refine Evt.step (g := fun k => chalklineref20_Rising.l0 k l (insV l[i] out) ((i + 1 : Nat) : Int)) (fun k => ?_) h2
        rw [chalklineref20_Rising.l1, if_neg (by omega)]
        simp only [Option.bind_some, List.nil_append, List.length_nil, Int.toNat_natCast, List.take_length, List.drop_length, List.append_nil, List.length_append, List.length_singleton]
        rw [if_pos (by omega), if_pos (by omega), if_pos (by omega), if_pos hil, if_pos hltz, if_pos (by omega), if_pos (by omega), rdn hlt, nx i (by omega), hins]
      | succ e ihe =>
        intro n he hn hp
        have hnl : n < out.length := by omega
        have hnz : (0 : Int) ≤ (n : Int) := by omega
        have hnlz : (n : Int) < (out.length : Int) := by omega
        have hnle : (n : Int) ≤ (out.length : Int) := by omega
        by_cases hv : varOf out[n] < varOf l[i]
        · refine Evt.step (g := fun k => chalklineref20_Rising.l1 k l out (i : Int) ((n + 1 : Nat) : Int)) (fun k => ?_) (ihe (n + 1) (sub_next he) hnl (fun j hj hjn => ?_))
          · rw [chalklineref20_Rising.l1, if_pos hnlz, if_pos hnz, rdn hnl, var20]
            simp only [Option.bind_some]
            rw [if_pos hil, if_pos hltz, rdn hlt, var20]
            simp only [Option.bind_some]
            rw [if_pos hv, nx n (by omega)]
          · by_cases q : j = n
            · subst q; exact hv
            · exact hp j hj (by omega)
        · have hins := insV_split l[i] n out hn hp
          rw [drop_cons hnl, insV, if_neg hv, ← drop_cons hnl] at hins
          refine Evt.step (g := fun k => chalklineref20_Rising.l0 k l (insV l[i] out) ((i + 1 : Nat) : Int)) (fun k => ?_) h2
          have htl : (out.take n).length ≤ n := by rw [List.length_take]; omega
          have hdl : (out.drop n).length ≤ out.length := by rw [List.length_drop]; omega
          rw [chalklineref20_Rising.l1, if_pos hnlz, if_pos hnz, rdn hnl, var20]
          simp only [Option.bind_some]
          rw [if_pos hil, if_pos hltz, rdn hlt, var20]
          simp only [Option.bind_some, List.nil_append, List.length_nil, Int.toNat_natCast]
          rw [if_neg hv, if_pos hnle, if_pos (by omega), if_pos (by omega), if_pos (by rw [List.length_append, List.length_singleton]; omega), nx i (by omega), hins, List.append_assoc, List.singleton_append]
    refine Evt.step (g := fun k => chalklineref20_Rising.l1 k l out (i : Int) 0) (fun k => ?_) (inner out.length 0 rfl (Nat.zero_le _) (fun j _ hj => absurd hj (Nat.not_lt_zero _)))
    rw [chalklineref20_Rising.l0, if_pos hltz]
theorem rising20 (l : List Int) (hl : l.length < 1000000) : Evt (fun k => chalklineref20_Rising.f k l) (sortV l) := by
  have := rising_run l hl l.length 0 [] rfl (Nat.zero_le _) rfl
  simpa [chalklineref20_Rising.f, sortV] using this
/-- The place of a false literal's step. -/
def pj (t : List S41) (y : Int) : Int := (atT t (wrap64 (-y))).getD 0
structure LatSt (t : List S41) (nn : Int) (l : List Int) (a : Int) (many : Nat) : Prop where
  c : many = cnt t nn l
  m : many ≠ 0 → a ∈ l ∧ lvlOf t a = nn ∧ ∀ y ∈ l, lvlOf t y = nn → pj t y ≤ pj t a
section
variable {n : Int} {L : List (List Int)} {t : List S41}
theorem Sane.pj (h : Sane n L t) {j : Nat} (hj : j < t.length) : pj t (-(litAt t j)) = (j : Int) := by unfold Print.pj; rw [h.neg hj, h.at hj]; rfl
theorem latest_run (h : Sane n L t) (hl : t.length < 1000000) (nn : Int) (l : List Int) (hll : l.length < 1000000) (hk : ∀ y ∈ l, ∃ j, j < t.length ∧ y = -(litAt t j)) (d : Nat) : ∀ (i : Nat) (a : Int) (many : Nat), l.length - i = d → i ≤ l.length → many ≤ i → LatSt t nn (l.take i) a many →
    ∃ a', Evt (fun k => chalklineref20_latest.l0 k t l nn a (many : Int) (i : Int)) (a', (cnt t nn l : Int)) ∧ LatSt t nn l a' (cnt t nn l) := by
  induction d with
  | zero =>
    intro i a many hd hi hm hst
    obtain rfl : i = l.length := by omega
    rw [List.take_length] at hst
    refine ⟨a, ?_, by rw [← hst.c]; exact hst⟩
    rw [← hst.c]
    exact Evt.step (g := fun _ => some (a, (many : Int))) (fun k => by rw [chalklineref20_latest.l0, if_neg (by omega)]) (Evt.pure _)
  | succ d ih =>
    intro i a many hd hi hm hst
    have hlt : i < l.length := by omega
    have hltz : (i : Int) < (l.length : Int) := by omega
    have hil : (0 : Int) ≤ (i : Int) := by omega
    have htk : l.take (i + 1) = l.take i ++ [l[i]] := List.take_succ_eq_append_getElem hlt
    obtain ⟨j, hj, ej⟩ := hk _ (List.getElem_mem hlt)
    have hmem : ∀ y, y ∈ l.take (i + 1) ↔ y ∈ l.take i ∨ y = l[i] := fun y => by rw [htk, List.mem_append, List.mem_singleton]
    have hm6 : many < 1000000 := by omega
    have hi6 : i < 1000000 := by omega
    have hm1 : many + 1 ≤ i + 1 := by omega
    have hm2 : many ≤ i + 1 := by omega
    have hcn : cnt t nn (l.take (i + 1)) = cnt t nn (l.take i) + (if lvlOf t l[i] = nn then 1 else 0) := by rw [htk, cnt_snoc]
    have hlev : Evt (fun k => chalklineref20_level.f k t l[i]) (lvlOf t l[i]) := by rw [ej]; exact level20 h hl hj
    by_cases hq : lvlOf t l[i] = nn
    · rw [if_pos hq] at hcn
      by_cases h0 : many = 0
      · have hst2 : LatSt t nn (l.take (i + 1)) l[i] (many + 1) := by
          refine ⟨by rw [hcn, ← hst.c], fun _ => ⟨(hmem _).2 (Or.inr rfl), hq, fun y hy hl2 => ?_⟩⟩
          rcases (hmem y).1 hy with hy | rfl
          · exfalso
            have : 0 < cnt t nn (l.take i) := List.length_pos_of_mem (List.mem_filter.2 ⟨hy, decide_eq_true hl2⟩)
            rw [← hst.c] at this; omega
          · exact Int.le_refl _
        obtain ⟨a', h1, h2⟩ := ih (i + 1) l[i] (many + 1) (sub_next hd) hlt hm1 hst2
        refine ⟨a', Evt.step (g := fun k => (chalklineref20_level.f k t l[i]).bind fun v => if v = nn then chalklineref20_latest.l0 k t l nn l[i] ((many + 1 : Nat) : Int) ((i + 1 : Nat) : Int) else chalklineref20_latest.l0 k t l nn a (many : Int) ((i + 1 : Nat) : Int)) (fun k => ?_) ?_, h2⟩
        · rw [chalklineref20_latest.l0, if_pos hltz, if_pos hil, rdn hlt, nx i (by omega), nx many (by omega), if_pos (show (many : Int) = 0 by omega)]
        · refine Evt.bind (g := fun k v => if v = nn then chalklineref20_latest.l0 k t l nn l[i] ((many + 1 : Nat) : Int) ((i + 1 : Nat) : Int) else chalklineref20_latest.l0 k t l nn a (many : Int) ((i + 1 : Nat) : Int)) hlev ?_
          exact Evt.congr (fun k => by rw [if_pos hq]) h1
      · obtain ⟨m1, m2, m3⟩ := hst.m h0
        obtain ⟨ja, hja, eja⟩ := hk a (List.mem_of_mem_take m1)
        have hpa : Evt (fun k => chalklineref20_place.f k t (wrap64 (-a))) (pj t a) := by rw [eja, h.neg hja, h.pj hja]; exact place_lit h (by omega) hja
        have hpi : Evt (fun k => chalklineref20_place.f k t (wrap64 (-l[i]))) (pj t l[i]) := by rw [ej, h.neg hj, h.pj hj]; exact place_lit h (by omega) hj
        have hbase : ∀ k, chalklineref20_latest.l0 (k + 1) t l nn a (many : Int) (i : Int) = (chalklineref20_level.f k t l[i]).bind fun v => if v = nn then (chalklineref20_place.f k t (wrap64 (-l[i]))).bind fun p => (chalklineref20_place.f k t (wrap64 (-a))).bind fun q => if p > q then chalklineref20_latest.l0 k t l nn l[i] ((many + 1 : Nat) : Int) ((i + 1 : Nat) : Int) else chalklineref20_latest.l0 k t l nn a ((many + 1 : Nat) : Int) ((i + 1 : Nat) : Int) else chalklineref20_latest.l0 k t l nn a (many : Int) ((i + 1 : Nat) : Int) := by
          intro k
          rw [chalklineref20_latest.l0, if_pos hltz, if_pos hil, rdn hlt, nx i (by omega), nx many (by omega), if_neg (show ¬ (many : Int) = 0 by omega)]
        have fin : ∀ b, (if pj t l[i] > pj t a then l[i] else a) = b → ∃ a', Evt (fun k => chalklineref20_latest.l0 k t l nn b ((many + 1 : Nat) : Int) ((i + 1 : Nat) : Int)) (a', (cnt t nn l : Int)) ∧ LatSt t nn l a' (cnt t nn l) := by
          intro b hb
          refine ih (i + 1) b (many + 1) (sub_next hd) hlt hm1 ⟨by rw [hcn, ← hst.c], fun _ => ?_⟩
          by_cases hgt : pj t l[i] > pj t a
          · rw [if_pos hgt] at hb
            subst hb
            refine ⟨(hmem _).2 (Or.inr rfl), hq, fun y hy hl2 => ?_⟩
            rcases (hmem y).1 hy with hy | rfl
            · exact Int.le_trans (m3 y hy hl2) (Int.le_of_lt hgt)
            · exact Int.le_refl _
          · rw [if_neg hgt] at hb
            subst hb
            refine ⟨(hmem _).2 (Or.inl m1), m2, fun y hy hl2 => ?_⟩
            rcases (hmem y).1 hy with hy | rfl
            · exact m3 y hy hl2
            · exact Int.not_lt.1 hgt
        obtain ⟨a', h1, h2⟩ := fin _ rfl
        refine ⟨a', Evt.step hbase ?_, h2⟩
        refine Evt.bind (g := fun k v => if v = nn then (chalklineref20_place.f k t (wrap64 (-l[i]))).bind fun p => (chalklineref20_place.f k t (wrap64 (-a))).bind fun q => if p > q then chalklineref20_latest.l0 k t l nn l[i] ((many + 1 : Nat) : Int) ((i + 1 : Nat) : Int) else chalklineref20_latest.l0 k t l nn a ((many + 1 : Nat) : Int) ((i + 1 : Nat) : Int) else chalklineref20_latest.l0 k t l nn a (many : Int) ((i + 1 : Nat) : Int)) hlev ?_
        refine Evt.congr (fun k => by rw [if_pos hq]) ?_
        refine Evt.bind (g := fun k p => (chalklineref20_place.f k t (wrap64 (-a))).bind fun q => if p > q then chalklineref20_latest.l0 k t l nn l[i] ((many + 1 : Nat) : Int) ((i + 1 : Nat) : Int) else chalklineref20_latest.l0 k t l nn a ((many + 1 : Nat) : Int) ((i + 1 : Nat) : Int)) hpi ?_
        refine Evt.bind (g := fun k q => if pj t l[i] > q then chalklineref20_latest.l0 k t l nn l[i] ((many + 1 : Nat) : Int) ((i + 1 : Nat) : Int) else chalklineref20_latest.l0 k t l nn a ((many + 1 : Nat) : Int) ((i + 1 : Nat) : Int)) hpa ?_
        by_cases hgt : pj t l[i] > pj t a
        · rw [if_pos hgt] at h1; exact Evt.congr (fun k => by rw [if_pos hgt]) h1
        · rw [if_neg hgt] at h1; exact Evt.congr (fun k => by rw [if_neg hgt]) h1
    · rw [if_neg hq] at hcn
      have hst2 : LatSt t nn (l.take (i + 1)) a many := by
        refine ⟨by rw [hcn, ← hst.c]; rfl, fun hne => ?_⟩
        obtain ⟨m1, m2, m3⟩ := hst.m hne
        refine ⟨(hmem _).2 (Or.inl m1), m2, fun y hy hl2 => ?_⟩
        rcases (hmem y).1 hy with hy | rfl
        · exact m3 y hy hl2
        · exact absurd hl2 hq
      obtain ⟨a', h1, h2⟩ := ih (i + 1) a many (sub_next hd) hlt hm2 hst2
      refine ⟨a', Evt.step (g := fun k => (chalklineref20_level.f k t l[i]).bind fun v => if v = nn then (if (many : Int) = 0 then chalklineref20_latest.l0 k t l nn l[i] ((many + 1 : Nat) : Int) ((i + 1 : Nat) : Int) else (chalklineref20_place.f k t (wrap64 (-l[i]))).bind fun p => (chalklineref20_place.f k t (wrap64 (-a))).bind fun q => if p > q then chalklineref20_latest.l0 k t l nn l[i] ((many + 1 : Nat) : Int) ((i + 1 : Nat) : Int) else chalklineref20_latest.l0 k t l nn a ((many + 1 : Nat) : Int) ((i + 1 : Nat) : Int)) else chalklineref20_latest.l0 k t l nn a (many : Int) ((i + 1 : Nat) : Int)) (fun k => ?_) ?_, h2⟩
      · rw [chalklineref20_latest.l0, if_pos hltz, if_pos hil, rdn hlt, nx i (by omega), nx many (by omega)]
      · refine Evt.bind (g := fun k v => if v = nn then (if (many : Int) = 0 then chalklineref20_latest.l0 k t l nn l[i] ((many + 1 : Nat) : Int) ((i + 1 : Nat) : Int) else (chalklineref20_place.f k t (wrap64 (-l[i]))).bind fun p => (chalklineref20_place.f k t (wrap64 (-a))).bind fun q => if p > q then chalklineref20_latest.l0 k t l nn l[i] ((many + 1 : Nat) : Int) ((i + 1 : Nat) : Int) else chalklineref20_latest.l0 k t l nn a ((many + 1 : Nat) : Int) ((i + 1 : Nat) : Int)) else chalklineref20_latest.l0 k t l nn a (many : Int) ((i + 1 : Nat) : Int)) hlev ?_
        exact Evt.congr (fun k => by rw [if_neg hq]) h1
theorem latest20 (h : Sane n L t) (hl : t.length < 1000000) (nn : Int) (l : List Int) (hll : l.length < 1000000) (hk : ∀ y ∈ l, ∃ j, j < t.length ∧ y = -(litAt t j)) :
    ∃ a, Evt (fun k => chalklineref20_latest.f k t l nn) (a, (cnt t nn l : Int)) ∧ LatSt t nn l a (cnt t nn l) :=
  latest_run h hl nn l hll hk l.length 0 0 0 rfl (Nat.zero_le _) (Nat.le_refl _) ⟨rfl, fun q => absurd rfl q⟩
end
end Go.Proofs.Ytobadajeekdakaa.Print
/- ref20.First in plain Lean: it tells what learn.First tells. -/
namespace Go.Proofs.Ytobadajeekdakaa.Print
open Go.RowKit Go.Proofs.YtobadajeekdakaaW.PrintWords Go.Proofs.YtobadajeekdakaaW.PrintLast Go.Proofs.YtobadajeekdakaaW.PrintMore
set_option linter.unusedVariables false
set_option linter.unusedSimpArgs false
theorem ints_run (l : List Int) (hl : l.length < 1000000) (d : Nat) : ∀ i : Nat, l.length - i = d → i ≤ l.length → Evt (fun k => chalklineref15_Ints.l0 k l l (i : Int)) true := by
  induction d with
  | zero =>
    intro i hd hi
    obtain rfl : i = l.length := by omega
    exact Evt.step (g := fun _ => some true) (fun k => by rw [chalklineref15_Ints.l0, if_neg (by omega)]) (Evt.pure _)
  | succ d ih =>
    intro i hd hi
    have hlt : i < l.length := by omega
    refine Evt.step (g := fun k => chalklineref15_Ints.l0 k l l ((i + 1 : Nat) : Int)) (fun k => ?_) (ih (i + 1) (sub_next hd) hlt)
    rw [chalklineref15_Ints.l0, if_pos (by omega), if_pos (by omega), if_pos (by omega), if_pos rfl, nx i (by omega)]
theorem ints15 (l : List Int) (hl : l.length < 1000000) : Evt (fun k => chalklineref15_Ints.f k l l) true := by
  have := ints_run l hl l.length 0 rfl (Nat.zero_le _)
  refine Evt.congr (fun k => ?_) this
  unfold chalklineref15_Ints.f
  rw [if_pos rfl]; rfl
def backAll (t : List S41) (x : Int) (l : List Int) (b : Int) : Int := l.foldl (fun b y => if y = x then b else mx b (lvlOf t y)) b
theorem backAll_out (t : List S41) (x : Int) : ∀ (l : List Int) (b : Int), 0 ≤ b → (∀ y ∈ l, 0 ≤ lvlOf t y) → backAll t x l b = (l.filter fun y => decide (lvlOf t y ≠ 0)).foldl (fun b y => if y = x then b else mx b (lvlOf t y)) b
  | [], b, _, _ => rfl
  | y :: l, b, hb, h => by
    have hy := h y List.mem_cons_self
    have hr := fun z hz => h z (List.mem_cons_of_mem _ hz)
    have e : backAll t x (y :: l) b = backAll t x l (if y = x then b else mx b (lvlOf t y)) := rfl
    have hb2 : 0 ≤ (if y = x then b else mx b (lvlOf t y)) := by split; exact hb; unfold mx; split <;> omega
    rw [e, List.filter_cons]
    by_cases h0 : lvlOf t y = 0
    · rw [if_neg (show ¬ decide (lvlOf t y ≠ 0) = true by simp [h0])]
      have : (if y = x then b else mx b (lvlOf t y)) = b := by split; rfl; rw [h0]; unfold mx; split <;> omega
      rw [this]; exact backAll_out t x l b hb hr
    · rw [if_pos (show decide (lvlOf t y ≠ 0) = true by simp [h0]), List.foldl_cons]; exact backAll_out t x l _ hb2 hr
section
variable {n : Int} {L : List (List Int)} {t : List S41}
theorem l1_run (h : Sane n L t) (ht : t.length < 1000000) (x : Int) (l : List Int) (hl : l.length < 1000000) (hk : ∀ y ∈ l, ∃ j, j < t.length ∧ y = -(litAt t j)) (d : Nat) : ∀ (i : Nat) (out : List Int) (b : Int), l.length - i = d → i ≤ l.length → out.length ≤ i →
    Evt (fun k => chalklineref20_First.l1 k t l x out b (i : Int)) (sortV (out ++ (l.drop i).filter fun y => decide (lvlOf t y ≠ 0)), backAll t x (l.drop i) b, 0) := by
  induction d with
  | zero =>
    intro i out b hd hi ho
    obtain rfl : i = l.length := by omega
    refine Evt.step (g := fun k => (chalklineref20_Rising.f k out).bind fun o => some (o, b, 0)) (fun k => by rw [chalklineref20_First.l1, if_neg (by omega)]) ?_
    rw [List.drop_length, List.filter_nil, List.append_nil]
    exact Evt.bind (g := fun _ o => some (o, b, 0)) (rising20 out (by omega)) (Evt.pure _)
  | succ d ih =>
    intro i out b hd hi ho
    have hlt : i < l.length := by omega
    have hltz : (i : Int) < (l.length : Int) := by omega
    have hil : (0 : Int) ≤ (i : Int) := by omega
    have hol : out.length < 17592186044416 := by omega
    obtain ⟨j, hj, ej⟩ := hk _ (List.getElem_mem hlt)
    have hlev : Evt (fun k => chalklineref20_level.f k t l[i]) (lvlOf t l[i]) := by rw [ej]; exact level20 h ht hj
    have hnn : 0 ≤ lvlOf t l[i] := by rw [ej, h.lvl hj]; omega
    have hi6 : i < 1000000 := by omega
    have hb : backAll t x (l.drop i) b = backAll t x (l.drop (i + 1)) (if l[i] = x then b else mx b (lvlOf t l[i])) := by rw [drop_cons hlt]; rfl
    rw [hb]
    refine Evt.step (g := fun k => (chalklineref20_level.f k t l[i]).bind fun v => if v > 0 then (if l[i] = x then chalklineref20_First.l1 k t l x (out ++ [l[i]]) b ((i + 1 : Nat) : Int) else chalklineref20_First.l1 k t l x (out ++ [l[i]]) (mx b v) ((i + 1 : Nat) : Int)) else (if l[i] = x then chalklineref20_First.l1 k t l x out b ((i + 1 : Nat) : Int) else chalklineref20_First.l1 k t l x out (mx b v) ((i + 1 : Nat) : Int))) (fun k => ?_) ?_
    · rw [chalklineref20_First.l1, if_pos hltz, if_pos hil, rdn hlt, nx i (by omega)]
      simp only [Option.bind_some, if_pos hol]
    · refine Evt.bind (g := fun k v => if v > 0 then (if l[i] = x then chalklineref20_First.l1 k t l x (out ++ [l[i]]) b ((i + 1 : Nat) : Int) else chalklineref20_First.l1 k t l x (out ++ [l[i]]) (mx b v) ((i + 1 : Nat) : Int)) else (if l[i] = x then chalklineref20_First.l1 k t l x out b ((i + 1 : Nat) : Int) else chalklineref20_First.l1 k t l x out (mx b v) ((i + 1 : Nat) : Int))) hlev ?_
      by_cases h0 : lvlOf t l[i] = 0
      · have hf : (l.drop i).filter (fun y => decide (lvlOf t y ≠ 0)) = (l.drop (i + 1)).filter (fun y => decide (lvlOf t y ≠ 0)) := by rw [drop_cons hlt, List.filter_cons, if_neg (by simp [h0])]
        rw [hf]
        have h2 := ih (i + 1) out (if l[i] = x then b else mx b (lvlOf t l[i])) (sub_next hd) hlt (by omega)
        by_cases hx : l[i] = x
        · rw [if_pos hx] at h2 ⊢
          exact Evt.congr (fun k => by rw [if_neg (by omega), if_pos hx]) h2
        · rw [if_neg hx] at h2 ⊢
          exact Evt.congr (fun k => by rw [if_neg (by omega), if_neg hx]) h2
      · have hf : (l.drop i).filter (fun y => decide (lvlOf t y ≠ 0)) = l[i] :: (l.drop (i + 1)).filter (fun y => decide (lvlOf t y ≠ 0)) := by rw [drop_cons hlt, List.filter_cons, if_pos (by simp [h0])]
        rw [hf]
        have h2 := ih (i + 1) (out ++ [l[i]]) (if l[i] = x then b else mx b (lvlOf t l[i])) (sub_next hd) hlt (by rw [List.length_append, List.length_singleton]; omega)
        rw [List.append_assoc, List.singleton_append] at h2
        by_cases hx : l[i] = x
        · rw [if_pos hx] at h2 ⊢
          exact Evt.congr (fun k => by rw [if_pos (by omega), if_pos hx]) h2
        · rw [if_neg hx] at h2 ⊢
          exact Evt.congr (fun k => by rw [if_pos (by omega), if_neg hx]) h2
/-- ref20.First from a list on. -/
def refG (n : Int) (L : List (List Int)) (t : List S41) (l : List Int) (k : Nat) : Option (List Int × Int × Int) := (chalklineref20_latest.f k t l (lastOf t)).bind fun r => chalklineref20_First.l0 k t (lastOf t) l r.1 r.2 n L
theorem latest_is (h : Sane n L t) (ht : t.length < 1000000) {l : List Int} (hl : l.length < 1000000) {k : Nat} (hk : k < t.length) (hm : -(litAt t k) ∈ l) (hlv : lvlOf t (-(litAt t k)) = lastOf t) (hI : WalkInv t (lastOf t) (k + 1) l) :
    Evt (fun q => chalklineref20_latest.f q t l (lastOf t)) (-(litAt t k), (cnt t (lastOf t) l : Int)) := by
  obtain ⟨a, h1, h2⟩ := latest20 h ht (lastOf t) l hl (fun y hy => by obtain ⟨j, hj, e⟩ := hI.kn y hy; exact ⟨j, by omega, e⟩)
  have hc : cnt t (lastOf t) l ≠ 0 := by
    have : 0 < cnt t (lastOf t) l := List.length_pos_of_mem (List.mem_filter.2 ⟨hm, decide_eq_true hlv⟩)
    omega
  obtain ⟨m1, m2, m3⟩ := h2.m hc
  obtain ⟨j, hj, e⟩ := hI.kn a m1
  have h3 := m3 _ hm hlv
  rw [e, h.pj hk, h.pj (show j < t.length by omega)] at h3
  have : j = k := by omega
  subst this
  rw [← e]; exact h1
theorem refG_step (h : Sane n L t) (ht : t.length < 1000) (hL : ∀ r ∈ L, r.length < 1000) {l : List Int} (hl : l.length < 100000) {k : Nat} (hk : k < t.length) (hm : -(litAt t k) ∈ l) (h0 : 0 ≤ whyAt t k) (hlv : lvlOf t (-(litAt t k)) = lastOf t) (hc : 2 ≤ cnt t (lastOf t) l) (hI : WalkInv t (lastOf t) (k + 1) l)
    {out : List Int × Int × Int} (hG : Evt (refG n L t (moreL (litAt t k) (rd_L1 L (whyAt t k)) (dropL (-(litAt t k)) l))) out) : Evt (refG n L t l) out := by
  have hrow := hL _ (rd_L1_mem h0 (h.whyR hk).2)
  have hdl : (dropL (-(litAt t k)) l).length ≤ l.length := List.length_filter_le _ _
  refine Evt.bind (g := fun q r => chalklineref20_First.l0 q t (lastOf t) l r.1 r.2 n L) (latest_is h (by omega) (by omega) hk hm hlv hI) ?_
  refine Evt.step (g := fun q => (chalklineref20_without.f q l (-(litAt t k))).bind fun w => (chalklineref20_place.f q t (litAt t k)).bind fun p => if 0 ≤ p then (if p < (t.length : Int) then (if 0 ≤ ((rd_T41 t p).f1) then (if ((rd_T41 t p).f1) < (L.length : Int) then ((chalklineref20_more.f q w (rd_L1 L ((rd_T41 t p).f1)) (litAt t k)).bind fun m => refG n L t m q) else none) else none) else none) else none) (fun q => ?_) ?_
  · dsimp only
    rw [chalklineref20_First.l0, if_pos (show (cnt t (lastOf t) l : Int) > 1 by omega), h.neg hk]
    rfl
  · refine Evt.bind (g := fun q w => (chalklineref20_place.f q t (litAt t k)).bind fun p => if 0 ≤ p then (if p < (t.length : Int) then (if 0 ≤ ((rd_T41 t p).f1) then (if ((rd_T41 t p).f1) < (L.length : Int) then ((chalklineref20_more.f q w (rd_L1 L ((rd_T41 t p).f1)) (litAt t k)).bind fun m => refG n L t m q) else none) else none) else none) else none) (without20 l _ (by omega)) ?_
    refine Evt.bind (g := fun q p => if 0 ≤ p then (if p < (t.length : Int) then (if 0 ≤ ((rd_T41 t p).f1) then (if ((rd_T41 t p).f1) < (L.length : Int) then ((chalklineref20_more.f q (dropL (-(litAt t k)) l) (rd_L1 L ((rd_T41 t p).f1)) (litAt t k)).bind fun m => refG n L t m q) else none) else none) else none) else none) (place_lit h (by omega) hk) ?_
    refine Evt.congr (g := fun q => (chalklineref20_more.f q (dropL (-(litAt t k)) l) (rd_L1 L (whyAt t k)) (litAt t k)).bind fun m => refG n L t m q) (fun q => ?_) ?_
    · rw [if_pos (by omega), if_pos (by omega), if_pos (show 0 ≤ (rd_T41 t (k : Int)).f1 from h0), if_pos (show (rd_T41 t (k : Int)).f1 < (L.length : Int) from (h.whyR hk).2)]; rfl
    · exact Evt.bind (g := fun q m => refG n L t m q) (more20 _ _ _ (by omega) (by omega)) hG
theorem refG_end (h : Sane n L t) (ht : t.length < 1000) {l : List Int} (hl : l.length < 100000) {k : Nat} (hk : k < t.length) (hm : -(litAt t k) ∈ l) (hlv : lvlOf t (-(litAt t k)) = lastOf t) (hc : cnt t (lastOf t) l = 1) (hI : WalkInv t (lastOf t) (k + 1) l) :
    Evt (refG n L t l) (sortV (l.filter fun y => decide (lvlOf t y ≠ 0)), backOf t (-(litAt t k)) (l.filter fun y => decide (lvlOf t y ≠ 0)), 0) := by
  refine Evt.bind (g := fun q r => chalklineref20_First.l0 q t (lastOf t) l r.1 r.2 n L) (latest_is h (by omega) (by omega) hk hm hlv hI) ?_
  refine Evt.step (g := fun q => chalklineref20_First.l1 q t l (-(litAt t k)) [] 0 0) (fun q => ?_) ?_
  · dsimp only
    rw [chalklineref20_First.l0, if_neg (show ¬ (cnt t (lastOf t) l : Int) > 1 by omega)]
  · have hkn : ∀ y ∈ l, ∃ j, j < t.length ∧ y = -(litAt t j) := fun y hy => by obtain ⟨j, hj, e⟩ := hI.kn y hy; exact ⟨j, by omega, e⟩
    have h1 := l1_run h (by omega) (-(litAt t k)) l (by omega) hkn l.length 0 [] 0 rfl (Nat.zero_le _) (Nat.le_refl _)
    rw [List.drop_zero, List.nil_append, backAll_out t _ l 0 (Int.le_refl _) (fun y hy => by obtain ⟨j, hj, rfl⟩ := hkn y hy; rw [h.lvl hj]; omega)] at h1
    exact h1
end
end Go.Proofs.Ytobadajeekdakaa.Print
/- LearnFirst in plain Lean: First and its specification tell the same. -/
namespace Go.Proofs.Ytobadajeekdakaa.Pure
open Go.RowKit Go.Proofs.Ytobadajeekdakaa.Print Go.Proofs.YtobadajeekdakaaW.PrintWords Go.Proofs.YtobadajeekdakaaW.PrintLast Go.Proofs.YtobadajeekdakaaW.PrintMore
set_option linter.unusedVariables false
set_option linter.unusedSimpArgs false
theorem unbind {α β : Type} {f : Nat → Option α} {v : α} {g : Nat → α → Option β} {u : β} (h : Evt f v) (hg : Evt (fun k => (f k).bind (g k)) u) : Evt (fun k => g k v) u := by
  obtain ⟨K, h⟩ := h
  obtain ⟨K', hg⟩ := hg
  refine ⟨max K K', fun k hk => ?_⟩
  have := hg k (by omega)
  dsimp only at this
  rw [h k (by omega)] at this
  exact this
theorem few_evt (nn : Int) (L : List (List Int)) (t : List S41) : ∃ b, Evt (fun k => chalklinelaw20_few.f k nn L t) b ∧ (b = true → Small L t) := by
  obtain ⟨b, h1, h2⟩ := few_tells nn L t 122 (Nat.le_refl _)
  refine ⟨b, ⟨122, fun k hk => ?_⟩, h2⟩
  obtain ⟨m, rfl⟩ : ∃ m, k = 122 + m := ⟨k - 122, by omega⟩
  induction m with
  | zero => exact h1
  | succ m ih => exact chalklinelaw20_few.mono nn L t (122 + m) _ (ih (by omega))
theorem nodupR_le : ∀ (l m : List Int), l.Nodup → (∀ x ∈ l, x ∈ m) → l.length ≤ m.length
  | [], m, _, _ => Nat.zero_le _
  | x :: l, m, hn, hs => by
    obtain ⟨h1, h2⟩ := List.nodup_cons.1 hn
    have hx := hs x List.mem_cons_self
    have := nodupR_le l (m.erase x) h2 fun y hy => (List.mem_erase_of_ne (fun e => h1 (by rw [← e]; exact hy))).2 (hs y (List.mem_cons_of_mem _ hy))
    rw [List.length_erase_of_mem hx] at this
    have : 0 < m.length := List.length_pos_of_mem hx
    simp only [List.length_cons]
    omega
theorem walkR_len {m : Nat} {l : List Int} {t : List S41} (h : WalkInv t (lastOf t) m l) (hm : m ≤ t.length) : l.length ≤ t.length := by
  have := nodupR_le l ((List.range t.length).map fun k => -(litAt t k)) h.nd fun x hx => by
    obtain ⟨k, hk, rfl⟩ := h.kn x hx
    exact List.mem_map.2 ⟨k, List.mem_range.2 (by omega), rfl⟩
  simpa using this
theorem ref_first (n : Int) (L : List (List Int)) (t : List S41) (a : Int) (hs : Small L t) : ∃ r, learn_First.f n L t a = some r ∧ Evt (fun k => chalklineref20_First.f k n L t a) r ∧ r.1.length < 1000000 := by
  have hL : ∀ r ∈ L, r.length < 1000 := fun r hr => by have := hs.2.1 r hr; omega
  have ht : t.length < 1000 := by have := hs.2.2; omega
  have hchk := check19 n L t (by omega) (by have := hs.1; omega) (fun r hr => by have := hL r hr; omega)
  by_cases hc : propCheckV n L t = 0
  · have hS := sane_of hc
    have hj0 : Evt (fun k => chalklineref20_First.j0 k t a true n L) ([], 0, 1) := Evt.step (g := fun _ => some ([], 0, 1)) (fun k => by rw [chalklineref20_First.j0, if_pos rfl]) (Evt.pure _)
    by_cases hr : a < 0 ∨ (L.length : Int) ≤ a
    · refine ⟨_, first_arg hc hs.fit (by omega), ?_, by simp⟩
      refine Evt.bind hchk ?_
      refine Evt.congr (fun k => ?_) hj0
      rw [if_pos hc]
      by_cases h0 : a < 0
      · rw [if_pos h0]
      · rw [if_neg h0, if_pos (by omega)]
    · have h0 : 0 ≤ a := by omega
      have h1 : a < (L.length : Int) := by omega
      have hrow := hL _ (rd_L1_mem h0 h1)
      have hfal := falsely20 hS (by omega) (rd_L1 L a) (by omega) (hS.rowI h0 h1)
      have hred : ∀ v, Evt (fun k => chalklineref20_First.j0 k t a (!((rd_L1 L a).all (knownB t))) n L) v → Evt (fun k => chalklineref20_First.f k n L t a) v := fun v hv => by
        refine Evt.bind hchk ?_
        refine Evt.congr (g := fun k => (chalklineref20_falsely.f k t (rd_L1 L a)).bind fun b => chalklineref20_First.j0 k t a (!b) n L) (fun k => ?_) (Evt.bind (g := fun k b => chalklineref20_First.j0 k t a (!b) n L) hfal hv)
        rw [if_pos hc, if_neg (by omega), if_neg (by omega), if_pos h0, if_pos h1]
      by_cases hk : (rd_L1 L a).all (knownB t) = true
      · have hst := start_inv hS (hS.rowI h0 h1) hk
        have hsl : (moreL 0 (rd_L1 L a) []).length ≤ t.length := walkR_len hst (Nat.le_refl _)
        obtain ⟨x, hlat, _⟩ := latest20 hS (by omega) (lastOf t) (moreL 0 (rd_L1 L a) []) (by omega) hst.kn
        have hmain : ∀ v, Evt (fun k => if lastOf t = 0 then chalklineref20_First.j1 k t (lastOf t) (moreL 0 (rd_L1 L a) []) x (cnt t (lastOf t) (moreL 0 (rd_L1 L a) []) : Int) true n L else chalklineref20_First.j1 k t (lastOf t) (moreL 0 (rd_L1 L a) []) x (cnt t (lastOf t) (moreL 0 (rd_L1 L a) []) : Int) ((cnt t (lastOf t) (moreL 0 (rd_L1 L a) []) : Int) == 0) n L) v → Evt (fun k => chalklineref20_First.f k n L t a) v := fun v hv => by
          refine hred v ?_
          rw [hk]
          refine Evt.step (g := fun k => (chalklineref20_last.f k t).bind fun q => (chalklineref20_more.f k [] (rd_L1 L a) 0).bind fun l => (chalklineref20_latest.f k t l q).bind fun bt => if q = 0 then chalklineref20_First.j1 k t q l bt.1 bt.2 true n L else chalklineref20_First.j1 k t q l bt.1 bt.2 (bt.2 == 0) n L) (fun k => ?_) ?_
          · rw [chalklineref20_First.j0, if_neg (by simp)]; simp only [if_pos h0, if_pos h1]
          · refine Evt.bind (g := fun k q => (chalklineref20_more.f k [] (rd_L1 L a) 0).bind fun l => (chalklineref20_latest.f k t l q).bind fun bt => if q = 0 then chalklineref20_First.j1 k t q l bt.1 bt.2 true n L else chalklineref20_First.j1 k t q l bt.1 bt.2 (bt.2 == 0) n L) (last20 hS (by omega)) ?_
            refine Evt.bind (g := fun k l => (chalklineref20_latest.f k t l (lastOf t)).bind fun bt => if lastOf t = 0 then chalklineref20_First.j1 k t (lastOf t) l bt.1 bt.2 true n L else chalklineref20_First.j1 k t (lastOf t) l bt.1 bt.2 (bt.2 == 0) n L) (more20 _ _ _ (by omega) (by simp)) ?_
            exact Evt.bind (g := fun k bt => if lastOf t = 0 then chalklineref20_First.j1 k t (lastOf t) (moreL 0 (rd_L1 L a) []) bt.1 bt.2 true n L else chalklineref20_First.j1 k t (lastOf t) (moreL 0 (rd_L1 L a) []) bt.1 bt.2 (bt.2 == 0) n L) hlat hv
        have hj1 : Evt (fun k => chalklineref20_First.j1 k t (lastOf t) (moreL 0 (rd_L1 L a) []) x (cnt t (lastOf t) (moreL 0 (rd_L1 L a) []) : Int) true n L) ([], 0, 200) := Evt.step (g := fun _ => some ([], 0, 200)) (fun k => by rw [chalklineref20_First.j1, if_pos rfl]) (Evt.pure _)
        rcases first_value hS hc hs.fit h0 h1 hk (fun l => ∀ out, Evt (refG n L t l) out → Evt (refG n L t (moreL 0 (rd_L1 L a) [])) out) (fun _ h => h)
          (fun l k hkl hm hw hlv hcn hI hp out ho => hp out (refG_step hS ht hL (by have := walkR_len hI (by omega); omega) hkl hm hw hlv hcn hI ho)) with ⟨e, hz⟩ | ⟨hl0, l', k, hkl, e, hI, hcn, hm, hlv, hp⟩
        · refine ⟨_, e, hmain _ ?_, by simp⟩
          by_cases hl0 : lastOf t = 0
          · exact Evt.congr (fun k => by rw [if_pos hl0]) hj1
          · have hz0 : cnt t (lastOf t) (moreL 0 (rd_L1 L a) []) = 0 := hz.resolve_left hl0
            refine Evt.congr (fun k => ?_) hj1
            rw [if_neg hl0, hz0]; rfl
        · have hll := walkR_len hI (by omega)
          have hend := hp _ (refG_end hS ht (by omega) hkl hm hlv hcn hI)
          refine ⟨_, e, hmain _ ?_, ?_⟩
          · have hne : cnt t (lastOf t) (moreL 0 (rd_L1 L a) []) ≠ 0 := by
              intro h00
              have hf := e
              unfold learn_First.f at hf
              have hpm := putL_more t (lastOf t) 0 (rd_L1 L a) []
              have e0 : ((cnt t (lastOf t) [] : Nat) : Int) = 0 := rfl
              rw [e0] at hpm
              have hb : ¬ (a < 0 ∨ (L.length : Int) ≤ a ∨ (rd_L1 L a).all (knownB t) = false) := by rw [hk]; simp; omega
              rw [if_neg (by rw [hc]; simp), if_neg (by rw [hs.fit]; simp), if_neg hb, hpm, if_pos (Or.inr (by dsimp only; rw [h00]; rfl))] at hf
              injection hf with hf
              injection hf with _ hf
              injection hf with _ hf
              cases hf
            have hl0' := unbind hlat hend
            refine Evt.congr (g := fun k => chalklineref20_First.j1 k t (lastOf t) (moreL 0 (rd_L1 L a) []) x (cnt t (lastOf t) (moreL 0 (rd_L1 L a) []) : Int) false n L) (fun k => ?_) (Evt.step (g := fun k => chalklineref20_First.l0 k t (lastOf t) (moreL 0 (rd_L1 L a) []) x (cnt t (lastOf t) (moreL 0 (rd_L1 L a) []) : Int) n L) (fun k => by rw [chalklineref20_First.j1, if_neg (by simp)]) hl0')
            rw [if_neg hl0, show ((cnt t (lastOf t) (moreL 0 (rd_L1 L a) []) : Int) == 0) = false by simp; omega]
          · have := (sortV_perm (l'.filter fun y => decide (lvlOf t y ≠ 0))).length_eq
            have := List.length_filter_le (fun y => decide (lvlOf t y ≠ 0)) l'
            show (sortV _).length < 1000000
            omega
      · have hk' : (rd_L1 L a).all (knownB t) = false := by simpa using hk
        refine ⟨_, first_arg hc hs.fit (Or.inr (Or.inr hk')), hred _ ?_, by simp⟩
        rw [hk']; exact hj0
  · refine ⟨_, first_bad hc a, ?_, by simp⟩
    refine Evt.bind hchk ?_
    exact Evt.congr (fun k => by rw [if_neg hc]) (Evt.pure _)
theorem LearnFirst (a0_0 : Int) (l0_1 : List (List Int)) (l1 : List S41) (a2 : Int) (w0_0 : (Lit.int .i64 a0_0).wf = true) (hw0_1 : ∀ r ∈ l0_1, ∀ x ∈ r, (Lit.int .i64 x).wf = true)
    (hw1 : ∀ x ∈ l1, (Lit.int .i64 x.f0).wf = true ∧ (Lit.int .i64 x.f1).wf = true) (w2 : (Lit.int .i64 a2).wf = true) : ∃ k, chalklinelaw20_LearnFirst.f k a0_0 l0_1 l1 a2 = some true := by
  obtain ⟨b, hb, hsm⟩ := few_evt a0_0 l0_1 l1
  refine Evt.at (f := fun k => chalklinelaw20_LearnFirst.f k a0_0 l0_1 l1 a2) ?_
  unfold chalklinelaw20_LearnFirst.f chalklinelaw20_live.f
  simp only [Option.bind_some, if_true]
  refine Evt.bind hb ?_
  cases b with
  | false => exact Evt.congr (fun k => by rw [if_neg (by simp)]) (Evt.pure _)
  | true =>
    have hs := hsm rfl
    obtain ⟨r, h1, h2, h3⟩ := ref_first a0_0 l0_1 l1 a2 hs
    refine Evt.congr (g := fun k => (chalklineref20_First.f k a0_0 l0_1 l1 a2).bind fun bt288 => (chalklineref15_Ints.f k r.1 bt288.1).bind fun t293 => (if t293 = true then (if r.2.1 = bt288.2.1 then (some (r.2.2 == bt288.2.2)) else (some false)) else (some false))) (fun k => by rw [if_pos rfl, h1]; simp only [Option.bind_some]) ?_
    refine Evt.bind (g := fun k bt288 => (chalklineref15_Ints.f k r.1 bt288.1).bind fun t293 => (if t293 = true then (if r.2.1 = bt288.2.1 then (some (r.2.2 == bt288.2.2)) else (some false)) else (some false))) h2 ?_
    refine Evt.bind (g := fun k t293 => (if t293 = true then (if r.2.1 = r.2.1 then (some (r.2.2 == r.2.2)) else (some false)) else (some false))) (ints15 r.1 h3) ?_
    exact Evt.congr (fun k => by rw [if_pos rfl, if_pos rfl]; simp) (Evt.pure true)
end Go.Proofs.Ytobadajeekdakaa.Pure
