/- LearnSound in plain Lean: every model of the clauses holds what First and Less tell. -/
import Derived.Test.YtobadajeekdakaaY
import Derived.Test.YtobadajeekdakaaF14
namespace Go.Proofs.Ytobadajeekdakaa.Pure
open Go.RowKit Go.Proofs.Ytobadajeekdakaa.Print Go.Proofs.YtobadajeekdakaaW.PrintWords Go.Proofs.YtobadajeekdakaaW.PrintLast Go.Proofs.YtobadajeekdakaaW.PrintMore
set_option linter.unusedVariables false
set_option linter.unusedSimpArgs false
theorem lessOk_of {t : List S41} : ∀ {l vs : List Int}, (∀ x ∈ l, x ≠ 0 ∧ varOf x ∉ vs ∧ knownB t x = true) → (l.map varOf).Nodup → lessOkB t vs l = true
  | [], vs, _, _ => rfl
  | x :: l, vs, h, hn => by
    obtain ⟨h1, h2, h3⟩ := h x List.mem_cons_self
    rw [List.map_cons, List.nodup_cons] at hn
    rw [lessOkB, Bool.and_eq_true]
    refine ⟨by simp [h1, h2, h3], lessOk_of (fun y hy => ?_) hn.2⟩
    obtain ⟨q1, q2, q3⟩ := h y (List.mem_cons_of_mem _ hy)
    refine ⟨q1, fun hm => ?_, q3⟩
    rcases List.mem_append.1 hm with hm | hm
    · exact q2 hm
    · rw [List.mem_singleton] at hm
      exact hn.1 (hm ▸ List.mem_map.2 ⟨y, hy, rfl⟩)
section
variable {n : Int} {L : List (List Int)} {t : List S41} {a : List Bool}
theorem lit_opp {y : Int} (h1 : litB a y = true) (h2 : litB a (-y) = true) : False := by
  unfold litB at h1 h2
  rw [Bool.and_eq_true] at h1 h2
  obtain ⟨m1, e1⟩ := h1
  obtain ⟨m2, e2⟩ := h2
  have hy : y ≠ 0 := (of_decide_eq_true m1).1
  rw [Int.natAbs_neg] at e2
  have e1' : atB a y.natAbs = decide (0 < y) := by simpa using e1
  have e2' : atB a y.natAbs = decide (0 < -y) := by simpa using e2
  rw [e1'] at e2'
  have := decide_eq_decide.1 e2'
  omega
theorem lit_total {y : Int} (h0 : y ≠ 0) (h1 : -65536 ≤ y) (h2 : y ≤ 65536) (h : litB a (-y) ≠ true) : litB a y = true := by
  have m1 : mayB 65536 y = true := decide_eq_true ⟨h0, h1, h2⟩
  have m2 : mayB 65536 (-y) = true := decide_eq_true ⟨by omega, by omega, by omega⟩
  unfold litB at h ⊢
  rw [m1, Bool.true_and]
  rw [m2, Bool.true_and, Int.natAbs_neg] at h
  by_cases hp : 0 < y
  · have hn : ¬ 0 < -y := by omega
    rw [decide_eq_true hp]; rw [decide_eq_false hn] at h
    cases q : atB a y.natAbs <;> simp [q] at h ⊢
  · have hn : 0 < -y := by omega
    rw [decide_eq_false hp]; rw [decide_eq_true hn] at h
    cases q : atB a y.natAbs <;> simp [q] at h ⊢
theorem model_closed (hv : ∀ r ∈ L, holdsV r a = true) : UnitClosed L (fun z => litB a z = true) := by
  intro r hr z hz hf
  obtain ⟨y, hy, ht⟩ := List.any_eq_true.1 (hv r hr)
  by_cases e : y = z
  · subst e; exact ht
  · exact (lit_opp ht (hf y hy e)).elim
end
theorem nodupS_le : ∀ (l m : List Int), l.Nodup → (∀ x ∈ l, x ∈ m) → l.length ≤ m.length
  | [], m, _, _ => Nat.zero_le _
  | x :: l, m, hn, hs => by
    obtain ⟨h1, h2⟩ := List.nodup_cons.1 hn
    have hx := hs x List.mem_cons_self
    have := nodupS_le l (m.erase x) h2 fun y hy => (List.mem_erase_of_ne (fun e => h1 (by rw [← e]; exact hy))).2 (hs y (List.mem_cons_of_mem _ hy))
    rw [List.length_erase_of_mem hx] at this
    have : 0 < m.length := List.length_pos_of_mem hx
    simp only [List.length_cons]
    omega
theorem walkS_len {m : Nat} {l : List Int} {t : List S41} (h : WalkInv t (lastOf t) m l) (hm : m ≤ t.length) : l.length ≤ t.length := by
  have := nodupS_le l ((List.range t.length).map fun k => -(litAt t k)) h.nd fun x hx => by
    obtain ⟨k, hk, rfl⟩ := h.kn x hx
    exact List.mem_map.2 ⟨k, List.mem_range.2 (by omega), rfl⟩
  simpa using this
theorem LearnSound (a0_0 : Int) (l0_1 : List (List Int)) (l1 : List S41) (a2 : Int) (l3 : List Bool) (w0_0 : (Lit.int .i64 a0_0).wf = true) (hw0_1 : ∀ r ∈ l0_1, ∀ x ∈ r, (Lit.int .i64 x).wf = true)
    (hw1 : ∀ x ∈ l1, (Lit.int .i64 x.f0).wf = true ∧ (Lit.int .i64 x.f1).wf = true) (w2 : (Lit.int .i64 a2).wf = true) (hw3 : ∀ x ∈ l3, True) : ∃ k, chalklinelaw20_LearnSound.f k a0_0 l0_1 l1 a2 l3 = some true := by
  obtain ⟨K, hK⟩ : ∃ K : Nat, 9999 ≤ K := ⟨9999, Nat.le_refl _⟩
  refine ⟨K + 1, ?_⟩
  obtain ⟨b, hb, hsm⟩ := few_tells a0_0 l0_1 l1 (K + 1) (by omega)
  have hskip : chalklinelaw20_LearnSound.j0 (K + 1) l1 a2 l3 true a0_0 l0_1 = some true := by rw [chalklinelaw20_LearnSound.j0, if_pos rfl]
  unfold chalklinelaw20_LearnSound.f chalklinelaw20_live.f
  simp only [Option.bind_some, if_true]
  rw [hb]
  simp only [Option.bind_some]
  cases b with
  | false => rw [if_neg (by simp)]; exact hskip
  | true =>
    have hs := hsm rfl
    rw [if_pos rfl]
    by_cases hbig : (l3.length : Int) > 1000
    · rw [if_pos hbig]; exact hskip
    · rw [if_neg hbig, show cnf_Value.f a0_0 l0_1 l3 = some (valueV a0_0 l0_1 l3) from rfl]
      simp only [Option.bind_some]
      cases hv : valueV a0_0 l0_1 l3 with
      | false => exact hskip
      | true =>
        have hrows : ∀ r ∈ l0_1, holdsV r l3 = true := by
          unfold valueV at hv
          rw [Bool.and_eq_true, Bool.not_eq_true', List.any_eq_false] at hv
          intro r hr
          have := hv.2 r hr
          simpa using this
        have hU := model_closed hrows
        rw [chalklinelaw20_LearnSound.j0, if_neg (by simp)]
        by_cases hc : propCheckV a0_0 l0_1 l1 = 0
        · have hS := sane_of hc
          by_cases hr : a2 < 0 ∨ (l0_1.length : Int) ≤ a2 ∨ (rd_L1 l0_1 a2).all (knownB l1) = false
          · rw [first_arg hc hs.fit hr]; simp
          · have h0 : 0 ≤ a2 := by omega
            have h1 : a2 < (l0_1.length : Int) := by omega
            have hk : (rd_L1 l0_1 a2).all (knownB l1) = true := by simp only [not_or, Bool.not_eq_false] at hr; exact hr.2.2
            have hst : (∀ y ∈ moreL 0 (rd_L1 l0_1 a2) [], litB l3 (-y) = true) → False := fun hall => by
              obtain ⟨y, hy, ht⟩ := List.any_eq_true.1 (hrows _ (rd_L1_mem h0 h1))
              have hy0 := hS.row _ (rd_L1_mem h0 h1) y hy
              exact lit_opp ht (hall y ((moreL_mem _ _ _ _).2 (Or.inr ⟨hy, hy0.1⟩)))
            rcases first_value hS hc hs.fit h0 h1 hk (fun l => (∀ y ∈ l, litB l3 (-y) = true) → False) hst (fun l k hkl _ hw _ _ _ hp hall => hp (resolve_T hS hU hkl hw hall)) with ⟨e, _⟩ | ⟨hl0, l', k, hkl, e, hI, hcn, hm, hlv, hΦ⟩
            · rw [e]; simp
            · rw [e]
              simp only [Option.bind_some, if_true]
              have hperm := sortV_perm (l'.filter fun y => decide (lvlOf l1 y ≠ 0))
              obtain ⟨l, hl⟩ : ∃ l, l = sortV (l'.filter fun y => decide (lvlOf l1 y ≠ 0)) := ⟨_, rfl⟩
              rw [← hl] at hperm ⊢
              have hmem : ∀ y, y ∈ l ↔ y ∈ l' ∧ lvlOf l1 y ≠ 0 := fun y => by rw [hperm.mem_iff]; simp
              have hkn : ∀ y ∈ l, ∃ j, j < l1.length ∧ y = -(litAt l1 j) := fun y hy => by obtain ⟨j, hj, e⟩ := hI.kn y ((hmem y).1 hy).1; exact ⟨j, by omega, e⟩
              have hrange : ∀ y ∈ l, y ≠ 0 ∧ -65536 ≤ y ∧ y ≤ 65536 := fun y hy => by
                obtain ⟨j, hj, rfl⟩ := hkn y hy
                have := hS.lit' hj; have := hS.n1
                omega
              have hlhold : ∃ y ∈ l, litB l3 y = true := by
                apply Classical.byContradiction
                intro hno
                refine hΦ fun y hy => ?_
                by_cases hz : lvlOf l1 y = 0
                · obtain ⟨j, hj, rfl⟩ := hI.kn y hy
                  rw [hS.lvl (by omega)] at hz
                  rw [Int.neg_neg]
                  exact level0_T hS hU j (by omega) (by omega)
                · have hyl := (hmem y).2 ⟨hy, hz⟩
                  have hrg := hrange y hyl
                  apply Classical.byContradiction
                  intro hq
                  exact hno ⟨y, hyl, lit_total hrg.1 hrg.2.1 hrg.2.2 hq⟩
              have hlen : l.length ≤ 5000 := by
                have h3 := walkS_len hI (by omega)
                have h4 := List.length_filter_le (fun y => decide (lvlOf l1 y ≠ 0)) l'
                have h5 := hperm.length_eq
                have h6 := hs.2.2
                omega
              have hless : learn_Less.f a0_0 l0_1 l1 l = some (sortV (l.filter fun x => keepB l0_1 l1 l x), 0) := by
                unfold learn_Less.f
                have hfit : (fitB l0_1 l1 && (decide (l.length ≤ 5000) && l.all fun x => (Lit.int .i64 x).wf)) = true := by
                  rw [hs.fit, decide_eq_true hlen, Bool.true_and, Bool.true_and, List.all_eq_true]
                  intro y hy
                  have := hrange y hy
                  exact i64_of (by omega) (by omega)
                have hok : lessOkB l1 [] l = true := lessOk_of (fun y hy => ⟨(hrange y hy).1, by simp, by obtain ⟨j, hj, rfl⟩ := hkn y hy; exact hS.known hj⟩) ((hperm.map varOf).nodup_iff.2 (outOf_vars hS hI (by omega)))
                rw [if_neg (by rw [hc]; simp), if_neg (by rw [hfit]; simp), if_neg (by rw [hok]; simp)]
              rw [hless]
              simp only [Option.bind_some, if_true]
              have hH1 : cnf_Holds.f l l3 = some true := by
                show some (holdsV l l3) = some true
                obtain ⟨y, hy, ht⟩ := hlhold
                rw [show holdsV l l3 = true from List.any_eq_true.2 ⟨y, hy, ht⟩]
              have hH2 : cnf_Holds.f (sortV (l.filter fun x => keepB l0_1 l1 l x)) l3 = some true := by
                show some (holdsV _ l3) = some true
                have : holdsV (sortV (l.filter fun x => keepB l0_1 l1 l x)) l3 = true := by
                  apply Classical.byContradiction
                  intro hno
                  have hno' : ∀ y ∈ l, keepB l0_1 l1 l y = true → litB l3 (-y) = true := fun y hy hkp => by
                    apply Classical.byContradiction
                    intro hq
                    have hrg := hrange y hy
                    refine hno (List.any_eq_true.2 ⟨y, (sortV_perm _).mem_iff.2 (List.mem_filter.2 ⟨hy, hkp⟩), lit_total hrg.1 hrg.2.1 hrg.2.2 hq⟩)
                  obtain ⟨y, hy, ht⟩ := hlhold
                  obtain ⟨j, hj, e2⟩ := hkn y hy
                  have hf := less_T hS hU l hkn hno' j hj (Or.inr (e2 ▸ hy))
                  rw [e2] at ht
                  exact lit_opp ht (by rw [Int.neg_neg]; exact hf)
                rw [this]
              rw [hH1, hH2]
              simp
        · rw [first_bad hc]
          simp only [Option.bind_some]
          rw [if_neg hc]
          simp
end Go.Proofs.Ytobadajeekdakaa.Pure
