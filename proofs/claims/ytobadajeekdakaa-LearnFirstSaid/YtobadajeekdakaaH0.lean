/- learn.First in plain Lean: what it computes, as lists of literals; the laws that join it to the maps of the walk. -/
import Derived.Test.YtobadajeekdakaaG
namespace Go.Proofs.Ytobadajeekdakaa.Print
open Go.RowKit Go.Proofs.YtobadajeekdakaaW.PrintWords Go.Proofs.YtobadajeekdakaaW.PrintLast Go.Proofs.YtobadajeekdakaaW.PrintMore
set_option linter.unusedVariables false
set_option linter.unusedSimpArgs false

def atT (t : List S41) : Int → Option Int := atTo t t.length
def lvT (t : List S41) : List Int := levelsFrom 0 t
def lvlOf (t : List S41) (y : Int) : Int := lvOf (atT t) (lvT t) y
def knownB (t : List S41) (y : Int) : Bool := (atT t (wrap64 (-y))).isSome
theorem atTo_some (t : List S41) : ∀ (k : Nat) (x i : Int), atTo t k x = some i → 0 ≤ i ∧ i < k
  | 0, x, i, h => by cases h
  | k + 1, x, i, h => by
    unfold atTo upd at h
    split at h
    · injection h with h; subst h; omega
    · have := atTo_some t k x i h; omega
theorem known_at {t : List S41} {y : Int} (h : knownB t y = true) : ∃ i : Int, atT t (wrap64 (-y)) = some i ∧ 0 ≤ i ∧ i < (lvT t).length := by
  obtain ⟨i, hi⟩ := Option.isSome_iff_exists.mp h
  have := atTo_some t _ _ _ hi
  exact ⟨i, hi, this.1, by rw [lvT, levelsFrom_length]; exact this.2⟩

def putLS (t : List S41) (last but : Int) (s : List Int × Int) (x : Int) : List Int × Int :=
  if x = but ∨ s.1.contains x = true then s else (s.1 ++ [x], if lvlOf t x = last then s.2 + 1 else s.2)
def putL (t : List S41) (last but : Int) (l : List Int) (s : List Int × Int) : List Int × Int := l.foldl (putLS t last but) s
theorem putLS_set (t : List S41) (last but : Int) (s : List Int × Int) (x : Int) :
    putStep (lvOf (atT t) (lvT t)) last but (dset s.1, s.2) x = (dset (putLS t last but s x).1, (putLS t last but s x).2) := by
  unfold putStep putLS lvlOf
  dsimp only
  rw [dset_getD]
  by_cases h : x = but ∨ s.1.contains x = true
  · rw [if_pos h, if_pos h]
  · rw [if_neg h, if_neg h, dset_snoc]
theorem putL_set (t : List S41) (last but : Int) (l : List Int) : ∀ s : List Int × Int,
    putAll (lvOf (atT t) (lvT t)) last but l (dset s.1, s.2) = (dset (putL t last but l s).1, (putL t last but l s).2) := by
  induction l with
  | nil => intro s; rfl
  | cons x r ih =>
    intro s
    have h1 := ih (putLS t last but s x)
    simp only [putAll, putL, List.foldl_cons] at h1 ⊢
    rw [putLS_set, h1]
theorem dset_drop (l : List Int) (x : Int) : upd (dset l) x none = dset (l.filter fun y => decide (y ≠ x)) := by
  funext y
  unfold upd dset
  by_cases h : y = x
  · subst h; simp
  · rw [if_neg h]
    have : (l.filter fun y => decide (y ≠ x)).contains y = l.contains y := by
      rw [Bool.eq_iff_iff]; simp [h]
    rw [this]

def okStep (t : List S41) (L : List (List Int)) (s : S41) : Bool :=
  decide (0 ≤ s.f1 ∧ s.f1 < L.length) && (rd_L1 L s.f1).all fun y => decide (y = s.f0) || knownB t y
def walkL (t : List S41) (L : List (List Int)) (last : Int) : List (Nat × S41) → List Int × Int → Option ((List Int × Int) × Int)
  | [], s => some (s, 0)
  | x :: r, s =>
    if s.1.contains (wrap64 (-x.2.f0)) = false then walkL t L last r s
    else if s.2 = 1 then some (s, wrap64 (-x.2.f0))
    else if okStep t L x.2 = true then walkL t L last r (putL t last x.2.f0 (rd_L1 L x.2.f1) (s.1.filter fun y => decide (y ≠ wrap64 (-x.2.f0)), s.2 - 1))
    else none
def backOf (t : List S41) (first : Int) (out : List Int) : Int := out.foldl (fun b y => if y = first then b else mx b (lvlOf t y)) 0
def insV (x : Int) : List Int → List Int
  | [] => [x]
  | y :: l => if varOf y < varOf x then y :: insV x l else x :: y :: l
def sortV (l : List Int) : List Int := l.foldl (fun acc x => insV x acc) []
theorem insV_perm (x : Int) : ∀ l : List Int, (insV x l).Perm (x :: l)
  | [] => List.Perm.refl _
  | y :: l => by
    unfold insV
    split
    · exact ((insV_perm x l).cons y).trans (List.Perm.swap x y l)
    · exact List.Perm.refl _
theorem insV_asc (x : Int) : ∀ l : List Int, (l.Pairwise fun a b => varOf a ≤ varOf b) → (insV x l).Pairwise fun a b => varOf a ≤ varOf b
  | [], _ => by simp [insV]
  | y :: l, h => by
    obtain ⟨h1, h2⟩ := List.pairwise_cons.1 h
    unfold insV
    split
    · rename_i hlt
      refine List.pairwise_cons.2 ⟨fun z hz => ?_, insV_asc x l h2⟩
      rcases List.mem_cons.1 ((insV_perm x l).mem_iff.1 hz) with rfl | hz
      · omega
      · exact h1 z hz
    · rename_i hlt
      refine List.pairwise_cons.2 ⟨fun z hz => ?_, h⟩
      rcases List.mem_cons.1 hz with rfl | hz
      · omega
      · have := h1 z hz; omega
theorem sortV_of : ∀ (l acc : List Int), (acc.Pairwise fun a b => varOf a ≤ varOf b) → (l.foldl (fun acc x => insV x acc) acc).Perm (acc ++ l) ∧ (l.foldl (fun acc x => insV x acc) acc).Pairwise fun a b => varOf a ≤ varOf b
  | [], acc, h => by simpa using h
  | x :: l, acc, h => by
    rw [List.foldl_cons]
    obtain ⟨h1, h2⟩ := sortV_of l (insV x acc) (insV_asc x acc h)
    refine ⟨h1.trans ?_, h2⟩
    exact ((insV_perm x acc).append_right l).trans ((List.perm_middle (a := x) (l₁ := acc) (l₂ := l)).symm)
theorem sortV_perm (l : List Int) : (sortV l).Perm l := by unfold sortV; have := (sortV_of l [] List.Pairwise.nil).1; rwa [List.nil_append] at this
theorem sortV_asc (l : List Int) : (sortV l).Pairwise fun a b => varOf a ≤ varOf b := (sortV_of l [] List.Pairwise.nil).2
def lastOf (t : List S41) : Int := if 0 < t.length then rd (lvT t) ((t.length : Int) - 1) else 0
def fitB (L : List (List Int)) (t : List S41) : Bool := decide (t.length ≤ 5000) && L.all fun r => decide (r.length ≤ 100)
def learn_First.f (a0_0 : Int) (l0_1 : List (List Int)) (l1 : List S41) (a2 : Int) : Option (List Int × Int × Int) :=
  if propCheckV a0_0 l0_1 l1 ≠ 0 then some ([], 0, propCheckV a0_0 l0_1 l1)
  else if fitB l0_1 l1 = false then none
  else if a2 < 0 ∨ (l0_1.length : Int) ≤ a2 ∨ (rd_L1 l0_1 a2).all (knownB l1) = false then some ([], 0, 1)
  else if lastOf l1 = 0 ∨ (putL l1 (lastOf l1) 0 (rd_L1 l0_1 a2) ([], 0)).2 = 0 then some ([], 0, 200)
  else (walkL l1 l0_1 (lastOf l1) (backs l1) (putL l1 (lastOf l1) 0 (rd_L1 l0_1 a2) ([], 0))).bind fun r =>
    if ((r.1.1.filter fun y => decide (lvlOf l1 y ≠ 0)).map varOf).Nodup then some (sortV (r.1.1.filter fun y => decide (lvlOf l1 y ≠ 0)), backOf l1 r.2 (r.1.1.filter fun y => decide (lvlOf l1 y ≠ 0)), 0) else none

/-- Two lists sorted by variable with the same members, no variable twice: one. -/
theorem sortV_only {out ys : List Int} (hn : (out.map varOf).Nodup) (hp : ys.Perm out) (hs : ys.Pairwise fun a b => varOf a ≤ varOf b) : ys = sortV out := by
  have hs2 := sortV_asc out
  have hp2 : ys.Perm (sortV out) := hp.trans (sortV_perm out).symm
  refine List.Perm.eq_of_pairwise (le := fun a b => varOf a ≤ varOf b) ?_ hs hs2 hp2
  intro a b ha hb h1 h2
  have ha' := hp.mem_iff.1 ha
  have hb' := (sortV_perm out).mem_iff.1 hb
  have hv : varOf a = varOf b := by omega
  obtain ⟨i, hi, rfl⟩ := List.getElem_of_mem ha'
  obtain ⟨j, hj, rfl⟩ := List.getElem_of_mem hb'
  have := (List.getElem_inj (xs := out.map varOf) (i := i) (j := j) (h₀ := by simpa using hi) (h₁ := by simpa using hj) hn).1 (by simpa using hv)
  subst this; rfl
theorem trailOk_at (n : Int) (L : List (List Int)) : ∀ (t : List S41) (done : List Int), trailOkB n L done t = true → ∀ k, k < t.length → stepBadB n L.length (done ++ litsTo t k) (rd_T41 t (k : Int)) = false ∧ stepWhyB L (done ++ litsTo t k) (rd_T41 t (k : Int)) = true
  | [], done, h, k, hk => absurd hk (Nat.not_lt_zero _)
  | s :: t, done, h, k, hk => by
    unfold trailOkB at h
    rw [Bool.and_eq_true, Bool.and_eq_true] at h
    obtain ⟨⟨h1, h2⟩, h3⟩ := h
    cases k with
    | zero => exact ⟨by simpa [rd_T41, litsTo] using h1, by simpa [rd_T41, litsTo] using h2⟩
    | succ k =>
      have := trailOk_at n L t (done ++ [s.f0]) h3 k (by simpa using hk)
      have e1 : done ++ litsTo (s :: t) (k + 1) = done ++ [s.f0] ++ litsTo t k := by simp [litsTo]
      have e2 : rd_T41 (s :: t) ((k + 1 : Nat) : Int) = rd_T41 t (k : Int) := by simp only [rd_T41, Int.toNat_natCast, List.getD_cons_succ]
      rw [e1, e2]; exact this
/-- What prop.Check's OK tells. -/
structure Sane (n : Int) (L : List (List Int)) (t : List S41) : Prop where
  n0 : 0 ≤ n
  n1 : n ≤ 65536
  row : ∀ r ∈ L, ∀ x ∈ r, x ≠ 0 ∧ -n ≤ x ∧ x ≤ n
  bad : ∀ k, k < t.length → stepBadB n L.length (litsTo t k) (rd_T41 t (k : Int)) = false
  why : ∀ k, k < t.length → stepWhyB L (litsTo t k) (rd_T41 t (k : Int)) = true
theorem sane_of {n : Int} {L : List (List Int)} {t : List S41} (h : propCheckV n L t = 0) : Sane n L t := by
  unfold propCheckV at h
  by_cases hc : cnfCheckV n L = 0
  · rw [if_pos hc] at h
    have ht : trailOkB n L [] t = true := by
      by_cases hk : trailOkB n L [] t = true
      · exact hk
      · rw [if_neg hk] at h; cases h
    unfold cnfCheckV at hc
    by_cases h1 : n < 0 ∨ 65536 < n
    · rw [if_pos h1] at hc; cases hc
    · rw [if_neg h1] at hc
      by_cases h2 : (L.any fun l => l.any fun x => !mayB n x) = true
      · rw [if_pos h2] at hc; cases hc
      · refine ⟨by omega, by omega, fun r hr x hx => ?_, fun k hk => ?_, fun k hk => ?_⟩
        · have h3 : (L.any fun l => l.any fun x => !mayB n x) = false := by simpa using h2
          rw [List.any_eq_false] at h3
          have := h3 r hr
          rw [Bool.not_eq_true, List.any_eq_false] at this
          have := this x hx
          simpa [mayB] using this
        · have := (trailOk_at n L t [] ht k hk).1; simpa using this
        · have := (trailOk_at n L t [] ht k hk).2; simpa using this
  · rw [if_neg hc] at h; exact absurd h hc
theorem Sane.lit {n : Int} {L : List (List Int)} {t : List S41} (h : Sane n L t) (k : Nat) (hk : k < t.length) : (rd_T41 t (k : Int)).f0 ≠ 0 ∧ -n ≤ (rd_T41 t (k : Int)).f0 ∧ (rd_T41 t (k : Int)).f0 ≤ n := by
  have := h.bad k hk
  unfold stepBadB at this
  simp only [Bool.or_eq_false_iff, decide_eq_false_iff_not] at this
  omega
theorem Sane.wf {n : Int} {L : List (List Int)} {t : List S41} (h : Sane n L t) (k : Nat) (hk : k < t.length) : I64 (rd_T41 t (k : Int)).f0 := by
  have := h.lit k hk; have := h.n1; exact i64_of (by omega) (by omega)
theorem rd_L1_mem {L : List (List Int)} {i : Int} (h0 : 0 ≤ i) (h1 : i < L.length) : rd_L1 L i ∈ L := by
  unfold rd_L1
  rw [List.getD_eq_getElem?_getD, List.getElem?_eq_getElem (by omega)]
  exact List.getElem_mem _
end Go.Proofs.Ytobadajeekdakaa.Print
