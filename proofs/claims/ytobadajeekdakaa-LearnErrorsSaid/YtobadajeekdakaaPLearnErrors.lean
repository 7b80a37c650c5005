/- LearnErrors in plain Lean: First's errors, and ErrBack behind one more decision. -/
import Derived.Test.YtobadajeekdakaaY
import Derived.Test.YtobadajeekdakaaF6
namespace Go.Proofs.Ytobadajeekdakaa.Pure
open Go.RowKit Go.Proofs.Ytobadajeekdakaa.Print Go.Proofs.YtobadajeekdakaaW.PrintWords Go.Proofs.YtobadajeekdakaaW.PrintLast Go.Proofs.YtobadajeekdakaaW.PrintMore
set_option linter.unusedVariables false
set_option linter.unusedSimpArgs false
section
variable {n : Int} {L : List (List Int)} {t : List S41} {x : Int}
theorem snoc_at {k : Nat} (hk : k < t.length) : rd_T41 (t ++ [⟨x, -1⟩]) (k : Int) = rd_T41 t (k : Int) := by
  rw [rd_T41_nat _ k (by simp; omega), rd_T41_nat _ k hk, List.getElem_append_left hk]
theorem snoc_last : rd_T41 (t ++ [⟨x, -1⟩]) (t.length : Int) = ⟨x, -1⟩ := by
  rw [rd_T41_nat _ t.length (by simp), List.getElem_append_right (Nat.le_refl _)]; simp
theorem snoc_decs {k : Nat} (hk : k ≤ t.length) : decs (t ++ [⟨x, -1⟩]) k = decs t k := by
  unfold decs; rw [List.take_append_of_le_length hk]
/-- Behind one more decision no literal of the clause is at the last level. -/
theorem snoc_back (hu : propCheckV n L (t ++ [⟨x, -1⟩]) = 0) (hf : fitB L (t ++ [⟨x, -1⟩]) = true) (h : Sane n L t) {a : Int} (h0 : 0 ≤ a) (h1 : a < L.length) (hk : (rd_L1 L a).all (knownB t) = true) : learn_First.f n L (t ++ [⟨x, -1⟩]) a = some ([], 0, 200) := by
  have hU := sane_of hu
  have hlen : (t ++ [(⟨x, -1⟩ : S41)]).length = t.length + 1 := by simp
  have hlit : ∀ k, k < t.length → litAt (t ++ [⟨x, -1⟩]) k = litAt t k := fun k hk => by unfold litAt; rw [snoc_at hk]
  have hkn : ∀ y ∈ rd_L1 L a, ∃ k, k < t.length ∧ y = -(litAt t k) := fun y hy => (h.known_iff (h.rowI h0 h1 y hy)).1 ((List.all_eq_true.1 hk) y hy)
  have hku : (rd_L1 L a).all (knownB (t ++ [⟨x, -1⟩])) = true := List.all_eq_true.2 fun y hy => by
    obtain ⟨k, hk, rfl⟩ := hkn y hy
    rw [← hlit k hk]; exact hU.known (by omega)
  have hlast : lastOf (t ++ [(⟨x, -1⟩ : S41)]) = decs t t.length + 1 := by
    rw [lastOf_eq, hlen, decs_succ _ t.length (by omega), snoc_decs (Nat.le_refl _)]
    have : whyAt (t ++ [⟨x, -1⟩]) t.length = -1 := by unfold whyAt; rw [snoc_last]
    rw [if_pos this]; omega
  have hcnt : cnt (t ++ [⟨x, -1⟩]) (lastOf (t ++ [⟨x, -1⟩])) (moreL 0 (rd_L1 L a) []) = 0 := by
    unfold cnt
    rw [List.length_eq_zero_iff, List.filter_eq_nil_iff]
    intro y hy
    rcases (moreL_mem _ _ _ _).1 hy with hy | ⟨hy, _⟩
    · cases hy
    · obtain ⟨k, hk, rfl⟩ := hkn y hy
      rw [← hlit k hk, hU.lvl (by omega), hlast, snoc_decs (by omega)]
      have := decs_mono t (show k + 1 ≤ t.length by omega)
      simp; omega
  rcases first_value hU hu hf h0 h1 hku (fun _ => True) trivial (fun _ _ _ _ _ _ _ _ _ => trivial) with ⟨e, _⟩ | ⟨_, l', k, hkl, e, hI, hc, _⟩
  · exact e
  · exfalso
    have : 0 < cnt (t ++ [⟨x, -1⟩]) (lastOf (t ++ [⟨x, -1⟩])) (moreL 0 (rd_L1 L a) []) := by
      by_cases hz : lastOf (t ++ [(⟨x, -1⟩ : S41)]) = 0 ∨ cnt (t ++ [⟨x, -1⟩]) (lastOf (t ++ [⟨x, -1⟩])) (moreL 0 (rd_L1 L a) []) = 0
      · have hp := putL_more (t ++ [⟨x, -1⟩]) (lastOf (t ++ [⟨x, -1⟩])) 0 (rd_L1 L a) []
        have e0 : ((cnt (t ++ [(⟨x, -1⟩ : S41)]) (lastOf (t ++ [⟨x, -1⟩])) [] : Nat) : Int) = 0 := rfl
        rw [e0] at hp
        have hb : ¬ (a < 0 ∨ (L.length : Int) ≤ a ∨ (rd_L1 L a).all (knownB (t ++ [⟨x, -1⟩])) = false) := by rw [hku]; simp; omega
        unfold learn_First.f at e
        rw [if_neg (by rw [hu]; simp), if_neg (by rw [hf]; simp), if_neg hb, hp, if_pos (by rcases hz with hz | hz; exact Or.inl hz; exact Or.inr (by dsimp only; rw [hz]; rfl))] at e
        injection e with e
        injection e with _ e
        injection e with _ e
        cases e
      · have : ¬ cnt (t ++ [⟨x, -1⟩]) (lastOf (t ++ [⟨x, -1⟩])) (moreL 0 (rd_L1 L a) []) = 0 := fun e => hz (Or.inr e)
        omega
    omega
/-- The law's loop over the clause. -/
theorem dead_run (h : Sane n L t) (hl : t.length ≤ 30) {a : Int} (h0 : 0 ≤ a) (h1 : a < L.length) (hr : (rd_L1 L a).length ≤ 12) (e : Int) (d : Nat) : ∀ (k i : Nat), (rd_L1 L a).length - i = d → 100 + d ≤ k → i ≤ (rd_L1 L a).length → ∀ b, b = ((rd_L1 L a).take i).all (knownB t) →
    ∃ k', 90 ≤ k' ∧ chalklinelaw20_LearnErrors.l0 k t a x e b (i : Int) n L = chalklinelaw20_LearnErrors.l0 k' t a x e ((rd_L1 L a).all (knownB t)) ((rd_L1 L a).length : Int) n L := by
  induction d with
  | zero =>
    intro k i hd hk hi b hb
    obtain rfl : i = (rd_L1 L a).length := by omega
    rw [List.take_length] at hb
    exact ⟨k, by omega, by rw [hb]⟩
  | succ d ih =>
    intro k i hd hk hi b hb
    obtain ⟨k, rfl⟩ : ∃ m, k = m + 1 := ⟨k - 1, by omega⟩
    have hlt : i < (rd_L1 L a).length := by omega
    have hltz : (i : Int) < ((rd_L1 L a).length : Int) := by omega
    have hz : (0 : Int) ≤ (i : Int) := by omega
    have hk2 : 2 * t.length + 2 ≤ k := by omega
    have ihk := ih k (i + 1) (by omega) (by omega) (by omega)
    have hl3 : t.length ≤ 1000000 := by omega
    have hx : rd (rd_L1 L a) (i : Int) = (rd_L1 L a)[i] := by simp [rd, List.getElem?_eq_getElem hlt]
    have htk : ((rd_L1 L a).take (i + 1)).all (knownB t) = (((rd_L1 L a).take i).all (knownB t) && knownB t (rd (rd_L1 L a) (i : Int))) := by
      rw [List.take_succ_eq_append_getElem hlt, List.all_append, hx]; simp
    have hw : wrap64 ((i : Int) + 1) = ((i + 1 : Nat) : Int) := by unfold wrap64; omega
    rw [chalklinelaw20_LearnErrors.l0, if_pos h0, if_pos h1, if_pos hltz]
    cases b with
    | true =>
      rw [if_pos rfl, if_pos hz, level_tells h hl3 _ k hk2]
      simp only [Option.bind_some]
      rw [hw]
      refine ihk _ ?_
      rw [htk, ← hb, Bool.true_and]
      by_cases hkn : knownB t (rd (rd_L1 L a) (i : Int)) = true
      · rw [if_pos hkn, hkn]
        exact decide_eq_true (lvlOf_nonneg h (h.rowI h0 h1 _ (by rw [hx]; exact List.getElem_mem _)) hkn)
      · rw [if_neg hkn]
        have : knownB t (rd (rd_L1 L a) (i : Int)) = false := by simpa using hkn
        rw [this]; rfl
    | false =>
      rw [if_neg (by simp), hw]
      exact ihk false (by rw [htk, ← hb]; rfl)
end
theorem LearnErrors (a0_0 : Int) (l0_1 : List (List Int)) (l1 : List S41) (a2 a3 : Int) (w0_0 : (Lit.int .i64 a0_0).wf = true) (hw0_1 : ∀ r ∈ l0_1, ∀ x ∈ r, (Lit.int .i64 x).wf = true)
    (hw1 : ∀ x ∈ l1, (Lit.int .i64 x.f0).wf = true ∧ (Lit.int .i64 x.f1).wf = true) (w2 : (Lit.int .i64 a2).wf = true) (w3 : (Lit.int .i64 a3).wf = true) : ∃ k, chalklinelaw20_LearnErrors.f k a0_0 l0_1 l1 a2 a3 = some true := by
  obtain ⟨K, hK⟩ : ∃ K : Nat, 999 ≤ K := ⟨999, Nat.le_refl _⟩
  refine ⟨K + 1, ?_⟩
  obtain ⟨b, hb, hsm⟩ := few_tells a0_0 l0_1 l1 (K + 1) (by omega)
  unfold chalklinelaw20_LearnErrors.f chalklinelaw20_live.f
  simp only [Option.bind_some, if_true]
  rw [hb]
  simp only [Option.bind_some]
  cases b with
  | false => simp
  | true =>
    have hs := hsm rfl
    rw [if_pos rfl]
    have hpc : prop_Check.f a0_0 l0_1 l1 = some (propCheckV a0_0 l0_1 l1) := rfl
    by_cases hc : propCheckV a0_0 l0_1 l1 = 0
    · have hS := sane_of hc
      by_cases hr : a2 < 0 ∨ (l0_1.length : Int) ≤ a2
      · rw [first_arg hc hs.fit (by omega), hpc]
        simp only [Option.bind_some]
        rw [if_pos hc]
        have hj : chalklinelaw20_LearnErrors.j0 (K + 1) l1 a2 a3 [] 0 1 true a0_0 l0_1 = some true := by simp [chalklinelaw20_LearnErrors.j0]
        by_cases h0 : a2 < 0
        · rw [if_pos h0]; exact hj
        · rw [if_neg h0, decide_eq_true (show a2 ≥ (l0_1.length : Int) by omega)]; exact hj
      · have h0 : 0 ≤ a2 := by omega
        have h1 : a2 < (l0_1.length : Int) := by omega
        have hrow := hs.2.1 _ (rd_L1_mem h0 h1)
        obtain ⟨k', hk', hrun⟩ := dead_run hS (x := a3) hs.2.2 h0 h1 hrow (if (rd_L1 l0_1 a2).all (knownB l1) = true then (match learn_First.f a0_0 l0_1 l1 a2 with | some r => r.2.2 | none => 0) else 1) (rd_L1 l0_1 a2).length K 0 rfl (by omega) (by omega) true rfl
        by_cases hk : (rd_L1 l0_1 a2).all (knownB l1) = true
        · rw [if_pos hk, hk] at hrun
          have hfv := first_value hS hc hs.fit h0 h1 hk (fun _ => True) trivial (fun _ _ _ _ _ _ _ _ _ => trivial)
          have hval : ∃ l bk e, learn_First.f a0_0 l0_1 l1 a2 = some (l, bk, e) ∧ (e = 0 ∨ e = 200) := by
            rcases hfv with ⟨e, _⟩ | ⟨_, l', k, _, e, _⟩
            · exact ⟨_, _, _, e, Or.inr rfl⟩
            · exact ⟨_, _, _, e, Or.inl rfl⟩
          obtain ⟨l, bk, e, hf, he⟩ := hval
          rw [hf] at hrun ⊢
          rw [hpc]
          simp only [Option.bind_some] at hrun ⊢
          rw [if_pos hc, if_neg (by omega), decide_eq_false (show ¬ a2 ≥ (l0_1.length : Int) by omega), chalklinelaw20_LearnErrors.j0]
          rw [if_neg (by simp)]
          have z : ((0 : Nat) : Int) = 0 := rfl
          rw [z] at hrun
          rw [hrun]
          obtain ⟨k', rfl⟩ : ∃ m, k' = m + 1 := ⟨k' - 1, by omega⟩
          rw [chalklinelaw20_LearnErrors.l0, if_pos h0, if_pos h1, if_neg (by omega), if_pos rfl]
          simp only [Option.bind_some, List.nil_append, List.length_nil]
          rw [if_pos (by have := hs.2.2; omega), if_pos (by have := hs.2.2; omega)]
          have hpu : prop_Check.f a0_0 l0_1 (l1 ++ [⟨a3, -1⟩]) = some (propCheckV a0_0 l0_1 (l1 ++ [⟨a3, -1⟩])) := rfl
          by_cases hu : propCheckV a0_0 l0_1 (l1 ++ [⟨a3, -1⟩]) = 0
          · have hfu : fitB l0_1 (l1 ++ [⟨a3, -1⟩]) = true := by
              unfold fitB
              rw [Bool.and_eq_true, List.all_eq_true]
              exact ⟨decide_eq_true (by have := hs.2.2; simp; omega), fun r hr => decide_eq_true (by have := hs.2.1 r hr; omega)⟩
            rw [snoc_back hu hfu hS h0 h1 hk, hpu, hu]
            rcases he with rfl | rfl <;> simp
          · rw [first_bad hu, hpu]
            rcases he with rfl | rfl <;> simp [hu]
        · rw [if_neg hk] at hrun
          have hk' : (rd_L1 l0_1 a2).all (knownB l1) = false := by simpa using hk
          rw [hk'] at hrun
          rw [first_arg hc hs.fit (Or.inr (Or.inr hk')), hpc]
          simp only [Option.bind_some]
          rw [if_pos hc, if_neg (by omega), decide_eq_false (show ¬ a2 ≥ (l0_1.length : Int) by omega), chalklinelaw20_LearnErrors.j0]
          rw [if_neg (by simp)]
          have z : ((0 : Nat) : Int) = 0 := rfl
          rw [z] at hrun
          rw [hrun]
          obtain ⟨k', rfl⟩ : ∃ m, k' = m + 1 := ⟨k' - 1, by omega⟩
          rw [chalklinelaw20_LearnErrors.l0, if_pos h0, if_pos h1, if_neg (by omega)]
          simp
    · rw [first_bad hc, hpc]
      simp only [Option.bind_some]
      rw [if_neg hc]
      simp [chalklinelaw20_LearnErrors.j0, hc]
end Go.Proofs.Ytobadajeekdakaa.Pure
