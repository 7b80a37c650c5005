/- learn.First's answers in plain Lean; the laws' own helpers few and level. -/
import Derived.Test.YtobadajeekdakaaV
import Derived.Test.YtobadajeekdakaaF34
namespace Go.Proofs.Ytobadajeekdakaa.Print
open Go.RowKit Go.Proofs.YtobadajeekdakaaW.PrintWords Go.Proofs.YtobadajeekdakaaW.PrintLast Go.Proofs.YtobadajeekdakaaW.PrintMore
set_option linter.unusedVariables false
set_option linter.unusedSimpArgs false

def Small (L : List (List Int)) (t : List S41) : Prop := L.length ≤ 50 ∧ (∀ r ∈ L, r.length ≤ 12) ∧ t.length ≤ 30
theorem few_run (L : List (List Int)) (t : List S41) (nn : Int) (d : Nat) : ∀ (k i : Nat), 60 - i = d → 2 * d + 2 ≤ k → i ≤ 60 → i ≤ L.length → (∀ j r, j < i → L[j]? = some r → r.length ≤ 12) →
    ∃ b, chalklineref20_Few.l0 k t (i : Int) nn L = some b ∧ (b = true → Small L t) := by
  induction d with
  | zero =>
    intro k i hd hk hi hl ha
    obtain ⟨k, rfl⟩ : ∃ m, k = m + 2 := ⟨k - 2, by omega⟩
    obtain rfl : i = 60 := by omega
    have e : chalklineref20_Few.l0 (k + 2) t ((60 : Nat) : Int) nn L = if (L.length : Int) ≤ 50 then some (decide ((t.length : Int) ≤ 30)) else some false := by
      simp only [chalklineref20_Few.l0]
      by_cases hlt : ((60 : Nat) : Int) < (L.length : Int)
      · rw [if_pos hlt]; simp [chalklineref20_Few.j1]
      · rw [if_neg hlt]; simp [chalklineref20_Few.j1]
    rw [e, if_neg (by omega)]
    exact ⟨false, rfl, by simp⟩
  | succ d ih =>
    intro k i hd hk hi hl ha
    obtain ⟨k, rfl⟩ : ∃ m, k = m + 2 := ⟨k - 2, by omega⟩
    by_cases hlt : i < L.length
    · have h60 : ((i : Int) < 60) := by omega
      have e : chalklineref20_Few.l0 (k + 2) t (i : Int) nn L = if ((rd_L1 L (i : Int)).length : Int) > 12 then some false else chalklineref20_Few.l0 k t (wrap64 ((i : Int) + 1)) nn L := by
        simp only [chalklineref20_Few.l0]
        rw [if_pos (by omega)]
        simp only [chalklineref20_Few.j1, h60, decide_true, if_true]
        rw [if_pos (by omega), if_pos (by omega)]
      rw [e]
      by_cases h12 : ((rd_L1 L (i : Int)).length : Int) > 12
      · rw [if_pos h12]; exact ⟨false, rfl, by simp⟩
      · rw [if_neg h12, show wrap64 ((i : Int) + 1) = ((i + 1 : Nat) : Int) by unfold wrap64; omega]
        refine ih k (i + 1) (by omega) (by omega) (by omega) (by omega) fun j r hj hr => ?_
        by_cases hji : j = i
        · subst hji
          have : rd_L1 L (j : Int) = r := by unfold rd_L1; rw [Int.toNat_natCast, List.getD_eq_getElem?_getD, hr]; rfl
          rw [this] at h12; omega
        · exact ha j r (by omega) hr
    · have e : chalklineref20_Few.l0 (k + 2) t (i : Int) nn L = if (L.length : Int) ≤ 50 then some (decide ((t.length : Int) ≤ 30)) else some false := by
        simp only [chalklineref20_Few.l0]
        rw [if_neg (by omega)]; simp [chalklineref20_Few.j1]
      rw [e]
      by_cases h50 : (L.length : Int) ≤ 50
      · rw [if_pos h50]
        refine ⟨_, rfl, fun hb => ⟨by omega, fun r hr => ?_, by have := of_decide_eq_true hb; omega⟩⟩
        obtain ⟨j, hj, rfl⟩ := List.getElem_of_mem hr
        exact ha j _ (by omega) (List.getElem?_eq_getElem hj)
      · rw [if_neg h50]; exact ⟨false, rfl, by simp⟩
theorem few_tells (nn : Int) (L : List (List Int)) (t : List S41) (k : Nat) (hk : 122 ≤ k) : ∃ b, chalklinelaw20_few.f k nn L t = some b ∧ (b = true → Small L t) := by
  obtain ⟨b, h1, h2⟩ := few_run L t nn 60 k 0 rfl (by omega) (by omega) (by omega) (fun j r hj => absurd hj (Nat.not_lt_zero _))
  refine ⟨b, ?_, h2⟩
  unfold chalklinelaw20_few.f chalklineref20_Few.f
  rw [show ((0 : Nat) : Int) = 0 from rfl] at h1
  rw [h1]; rfl
theorem Small.fit {L : List (List Int)} {t : List S41} (h : Small L t) : fitB L t = true := by
  unfold fitB
  rw [Bool.and_eq_true, List.all_eq_true]
  exact ⟨decide_eq_true (by have := h.2.2; omega), fun r hr => decide_eq_true (by have := h.2.1 r hr; omega)⟩
section
variable {n : Int} {L : List (List Int)} {t : List S41}
/-- Literals that are false by different steps have different variables. -/
theorem varOf_lit (h : Sane n L t) {k : Nat} (hk : k < t.length) : varOf (-(litAt t k)) = (litAt t k).natAbs := by
  unfold varOf
  rw [h.neg hk]
  unfold mx
  split <;> omega
theorem WalkInv.vars (h : Sane n L t) {last : Int} {m : Nat} {l : List Int} (hI : WalkInv t last m l) (hm : m ≤ t.length) : (l.map varOf).Nodup := by
  rw [List.nodup_iff_pairwise_ne, List.pairwise_map]
  refine (List.nodup_iff_pairwise_ne.1 hI.nd).imp_of_mem fun {a b} ha hb hne e => ?_
  obtain ⟨i, hi, rfl⟩ := hI.kn a ha
  obtain ⟨j, hj, rfl⟩ := hI.kn b hb
  rw [varOf_lit h (by omega), varOf_lit h (by omega)] at e
  have h1 : litAt t i ≠ litAt t j := fun q => hne (by rw [q])
  have h2 := h.opp (show i < t.length by omega) (show j < t.length by omega)
  omega
theorem outOf_vars (h : Sane n L t) {last : Int} {m : Nat} {l : List Int} (hI : WalkInv t last m l) (hm : m ≤ t.length) : ((l.filter fun y => decide (lvlOf t y ≠ 0)).map varOf).Nodup := (List.Sublist.map varOf List.filter_sublist).nodup (hI.vars h hm)
/-- The row of a clause: its literals are of their kind. -/
theorem Sane.rowI (h : Sane n L t) {a : Int} (h0 : 0 ≤ a) (h1 : a < L.length) : ∀ x ∈ rd_L1 L a, I64 x := fun x hx => by
  have := h.row _ (rd_L1_mem h0 h1) x hx; have := h.n1
  exact i64_of (by omega) (by omega)
theorem start_inv (h : Sane n L t) {r : List Int} (hr : ∀ x ∈ r, I64 x) (hk : r.all (knownB t) = true) : WalkInv t (lastOf t) t.length (moreL 0 r []) := by
  refine ⟨moreL_nodup _ _ _ List.nodup_nil, fun y hy => ?_⟩
  rcases (moreL_mem _ _ _ _).1 hy with hy | ⟨hy, _⟩
  · cases hy
  · exact (h.known_iff (hr y hy)).1 ((List.all_eq_true.1 hk) y hy)
/-- learn.First, where the trail is sound and the clause is false: ErrBack, or a clause, with whatever the walk keeps. -/
theorem first_value (h : Sane n L t) (hc : propCheckV n L t = 0) (hf : fitB L t = true) {a : Int} (h0 : 0 ≤ a) (h1 : a < L.length) (hk : (rd_L1 L a).all (knownB t) = true) (Φ : List Int → Prop) (hΦ0 : Φ (moreL 0 (rd_L1 L a) []))
    (hΦ : ∀ l k, k < t.length → -(litAt t k) ∈ l → 0 ≤ whyAt t k → lvlOf t (-(litAt t k)) = lastOf t → 2 ≤ cnt t (lastOf t) l → WalkInv t (lastOf t) (k + 1) l → Φ l → Φ (moreL (litAt t k) (rd_L1 L (whyAt t k)) (dropL (-(litAt t k)) l))) :
    (learn_First.f n L t a = some ([], 0, 200) ∧ (lastOf t = 0 ∨ cnt t (lastOf t) (moreL 0 (rd_L1 L a) []) = 0)) ∨
    (lastOf t ≠ 0 ∧ ∃ l' k, k < t.length ∧ learn_First.f n L t a = some (sortV (l'.filter fun y => decide (lvlOf t y ≠ 0)), backOf t (-(litAt t k)) (l'.filter fun y => decide (lvlOf t y ≠ 0)), 0) ∧
      WalkInv t (lastOf t) (k + 1) l' ∧ cnt t (lastOf t) l' = 1 ∧ -(litAt t k) ∈ l' ∧ lvlOf t (-(litAt t k)) = lastOf t ∧ Φ l') := by
  have hI := start_inv h (h.rowI h0 h1) hk
  have hp := putL_more t (lastOf t) 0 (rd_L1 L a) []
  have e0 : ((cnt t (lastOf t) [] : Nat) : Int) = 0 := rfl
  rw [e0] at hp
  have hb : ¬ (a < 0 ∨ (L.length : Int) ≤ a ∨ (rd_L1 L a).all (knownB t) = false) := by rw [hk]; simp; omega
  unfold learn_First.f
  rw [if_neg (by rw [hc]; simp), if_neg (by rw [hf]; simp), if_neg hb, hp]
  by_cases hz : lastOf t = 0 ∨ cnt t (lastOf t) (moreL 0 (rd_L1 L a) []) = 0
  · refine Or.inl ⟨?_, hz⟩
    rw [if_pos (by rcases hz with hz | hz; exact Or.inl hz; exact Or.inr (by dsimp only; rw [hz]; rfl))]
  · refine Or.inr ⟨fun e => hz (Or.inl e), ?_⟩
    have hc1 : 1 ≤ cnt t (lastOf t) (moreL 0 (rd_L1 L a) []) := by have : ¬ cnt t (lastOf t) (moreL 0 (rd_L1 L a) []) = 0 := fun e => hz (Or.inr e); omega
    obtain ⟨l', k, hkl, hw, hI2, hc2, hm2, hl2, hp2⟩ := walk_ok h (lastOf t) (lastOf_eq t) Φ hΦ t.length 0 rfl (Nat.zero_le _) (moreL 0 (rd_L1 L a) []) (by rw [Nat.sub_zero]; exact hI) hc1 hΦ0
    rw [List.drop_zero] at hw
    refine ⟨l', k, hkl, ?_, hI2, hc2, hm2, hl2, hp2⟩
    rw [if_neg (by rintro (e | e); exact hz (Or.inl e); exact hz (Or.inr (by dsimp only at e; omega))), hw]
    simp only [Option.bind_some]
    rw [if_pos (outOf_vars h hI2 (by omega))]
theorem first_bad {n : Int} {L : List (List Int)} {t : List S41} (hc : propCheckV n L t ≠ 0) (a : Int) : learn_First.f n L t a = some ([], 0, propCheckV n L t) := by
  unfold learn_First.f; rw [if_pos hc]
theorem first_arg {n : Int} {L : List (List Int)} {t : List S41} (hc : propCheckV n L t = 0) (hf : fitB L t = true) {a : Int} (hb : a < 0 ∨ (L.length : Int) ≤ a ∨ (rd_L1 L a).all (knownB t) = false) : learn_First.f n L t a = some ([], 0, 1) := by
  unfold learn_First.f; rw [if_neg (by rw [hc]; simp), if_neg (by rw [hf]; simp), if_pos hb]
end
end Go.Proofs.Ytobadajeekdakaa.Print
