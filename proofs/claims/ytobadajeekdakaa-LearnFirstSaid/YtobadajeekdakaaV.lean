/- learn.First and learn.Less in plain Lean: what unit propagation makes of the clauses that they tell. -/
import Derived.Test.YtobadajeekdakaaU
namespace Go.Proofs.Ytobadajeekdakaa.Print
open Go.RowKit Go.Proofs.YtobadajeekdakaaW.PrintWords Go.Proofs.YtobadajeekdakaaW.PrintLast Go.Proofs.YtobadajeekdakaaW.PrintMore
set_option linter.unusedVariables false
set_option linter.unusedSimpArgs false

/-- learn.Less: is a false literal implied by the others of l? d: how deep to look. -/
def implF (L : List (List Int)) (t : List S41) (l : List Int) : Nat → Int → Bool
  | 0, _ => false
  | d + 1, x =>
    if lvlOf t x = 0 then true
    else if (rd_T41 t ((atT t (wrap64 (-x))).getD 0)).f1 < 0 then false
    else !((rd_L1 L (rd_T41 t ((atT t (wrap64 (-x))).getD 0)).f1).any fun y => decide (y ≠ (rd_T41 t ((atT t (wrap64 (-x))).getD 0)).f0) && (!l.contains y && !implF L t l d y))
def implB (L : List (List Int)) (t : List S41) (l : List Int) (x : Int) : Bool := implF L t l t.length x
def lessOkB (t : List S41) : List Int → List Int → Bool
  | _, [] => true
  | vs, x :: l => (!(decide (x = 0) || (vs.contains (varOf x) || !knownB t x))) && lessOkB t (vs ++ [varOf x]) l
def topOf (t : List S41) (l : List Int) : Int := l.foldl (fun m x => mx m (lvlOf t x)) 0
def keepB (L : List (List Int)) (t : List S41) (l : List Int) (x : Int) : Bool := (decide (0 < topOf t l) && decide (lvlOf t x = topOf t l)) || !implB L t l x
def learn_Less.f (a0_0 : Int) (l0_1 : List (List Int)) (l1 : List S41) (l2 : List Int) : Option (List Int × Int) :=
  if propCheckV a0_0 l0_1 l1 ≠ 0 then some ([], propCheckV a0_0 l0_1 l1)
  else if (fitB l0_1 l1 && (decide (l2.length ≤ 5000) && l2.all fun x => (Lit.int .i64 x).wf)) = false then none
  else if lessOkB l1 [] l2 = false then some ([], 1)
  else some (sortV (l2.filter fun x => keepB l0_1 l1 l2 x), 0)

section
variable {n : Int} {L : List (List Int)} {t : List S41}
theorem Sane.neg (h : Sane n L t) {k : Nat} (hk : k < t.length) : wrap64 (-(-(litAt t k))) = litAt t k := by
  have h1 := h.lit' hk; have h2 := h.n1
  rw [Int.neg_neg]; exact wrap_small (by omega) (by omega)
theorem implF_at (h : Sane n L t) (l : List Int) (d : Nat) {k : Nat} (hk : k < t.length) : implF L t l (d + 1) (-(litAt t k)) =
    if decs t (k + 1) = 0 then true else if whyAt t k < 0 then false else !((rd_L1 L (whyAt t k)).any fun y => decide (y ≠ litAt t k) && (!l.contains y && !implF L t l d y)) := by
  rw [implF, h.lvl hk, h.neg hk, h.at hk]
  simp only [Option.getD_some]
  show (if (decs t (k + 1) : Int) = 0 then true else if whyAt t k < 0 then false else _) = _
  by_cases e : decs t (k + 1) = 0
  · rw [if_pos e, if_pos (by omega)]
  · rw [if_neg e, if_neg (by omega)]; rfl
theorem implF_more (h : Sane n L t) (l : List Int) : ∀ (k : Nat), k < t.length → ∀ d, k < d → implF L t l d (-(litAt t k)) = implF L t l (k + 1) (-(litAt t k)) := by
  intro k
  induction k using Nat.strongRecOn with
  | _ k ih =>
    intro hk d hd
    obtain ⟨d, rfl⟩ : ∃ m, d = m + 1 := ⟨d - 1, by omega⟩
    rw [implF_at h l d hk, implF_at h l k hk]
    by_cases e : decs t (k + 1) = 0
    · rw [if_pos e, if_pos e]
    · rw [if_neg e, if_neg e]
      by_cases e2 : whyAt t k < 0
      · rw [if_pos e2, if_pos e2]
      · rw [if_neg e2, if_neg e2]
        congr 1
        rw [Bool.eq_iff_iff, List.any_eq_true, List.any_eq_true]
        have hr := (h.reason hk (by omega)).2
        have key : ∀ y ∈ rd_L1 L (whyAt t k), y ≠ litAt t k → implF L t l d y = implF L t l k y := by
          intro y hy hne
          obtain ⟨i, hi, rfl⟩ := hr y hy hne
          rw [ih i hi (by omega) d (by omega), ih i hi (by omega) k hi]
        constructor <;> rintro ⟨y, hy, hb⟩ <;> refine ⟨y, hy, ?_⟩
        · by_cases hne : y ≠ litAt t k
          · rw [← key y hy hne]; exact hb
          · simp [hne] at hb
        · by_cases hne : y ≠ litAt t k
          · rw [key y hy hne]; exact hb
          · simp [hne] at hb
/-- The step at k: what learn.Less computes there. -/
theorem implB_at (h : Sane n L t) (l : List Int) {k : Nat} (hk : k < t.length) : implB L t l (-(litAt t k)) =
    if decs t (k + 1) = 0 then true else if whyAt t k < 0 then false else !((rd_L1 L (whyAt t k)).any fun y => decide (y ≠ litAt t k) && (!l.contains y && !implB L t l y)) := by
  unfold implB
  rw [implF_more h l k hk _ hk, implF_at h l k hk]
  by_cases e : decs t (k + 1) = 0
  · rw [if_pos e, if_pos e]
  · rw [if_neg e, if_neg e]
    by_cases e2 : whyAt t k < 0
    · rw [if_pos e2, if_pos e2]
    · rw [if_neg e2, if_neg e2]
      congr 1
      rw [Bool.eq_iff_iff, List.any_eq_true, List.any_eq_true]
      have hr := (h.reason hk (by omega)).2
      have key : ∀ y ∈ rd_L1 L (whyAt t k), y ≠ litAt t k → implF L t l k y = implF L t l t.length y := by
        intro y hy hne
        obtain ⟨i, hi, rfl⟩ := hr y hy hne
        rw [implF_more h l i (by omega) k hi, implF_more h l i (by omega) t.length (by omega)]
      constructor <;> rintro ⟨y, hy, hb⟩ <;> refine ⟨y, hy, ?_⟩
      · by_cases hne : y ≠ litAt t k
        · rw [← key y hy hne]; exact hb
        · simp [hne] at hb
      · by_cases hne : y ≠ litAt t k
        · rw [key y hy hne]; exact hb
        · simp [hne] at hb

end
end Go.Proofs.Ytobadajeekdakaa.Print
