/- A trail that prop.Check passes, and learn.First's walk back along it, in plain Lean: the walk ends at one literal of the last level. -/
import Derived.Test.YtobadajeekdakaaH0
namespace Go.Proofs.Ytobadajeekdakaa.Print
open Go.RowKit Go.Proofs.YtobadajeekdakaaW.PrintWords Go.Proofs.YtobadajeekdakaaW.PrintLast Go.Proofs.YtobadajeekdakaaW.PrintMore
set_option linter.unusedVariables false
set_option linter.unusedSimpArgs false

def litAt (t : List S41) (k : Nat) : Int := (rd_T41 t (k : Int)).f0
def whyAt (t : List S41) (k : Nat) : Int := (rd_T41 t (k : Int)).f1
theorem mem_litsTo {t : List S41} : ∀ {k : Nat}, k ≤ t.length → ∀ {x : Int}, x ∈ litsTo t k ↔ ∃ i, i < k ∧ litAt t i = x
  | 0, _, x => by simp [litsTo]
  | k + 1, hk, x => by
    rw [litsTo_succ t k (by omega), List.mem_append, mem_litsTo (by omega), List.mem_singleton]
    constructor
    · rintro (⟨i, hi, h⟩ | h)
      · exact ⟨i, by omega, h⟩
      · exact ⟨k, by omega, h.symm⟩
    · rintro ⟨i, hi, h⟩
      by_cases e : i = k
      · subst e; exact Or.inr h.symm
      · exact Or.inl ⟨i, by omega, h⟩
theorem at_some {t : List S41} : ∀ {k : Nat} {x i : Int}, atTo t k x = some i → 0 ≤ i ∧ i.toNat < k ∧ litAt t i.toNat = x
  | 0, x, i, h => by cases h
  | k + 1, x, i, h => by
    unfold atTo upd at h
    split at h
    · rename_i e
      injection h with h
      subst h
      refine ⟨by omega, by omega, ?_⟩
      rw [Int.toNat_natCast]; exact e.symm
    · have := at_some h
      exact ⟨this.1, by omega, this.2.2⟩
theorem at_has {t : List S41} : ∀ {k i : Nat}, i < k → (atTo t k (litAt t i)).isSome = true
  | 0, i, h => absurd h (Nat.not_lt_zero _)
  | k + 1, i, h => by
    unfold atTo upd
    split
    · rfl
    · rename_i e
      refine at_has ?_
      by_cases hk : i = k
      · subst hk; exact absurd rfl e
      · omega
theorem T41_drop (s : S41) (t : List S41) (k : Nat) : rd_T41 (s :: t) ((k + 1 : Nat) : Int) = rd_T41 t (k : Int) := by simp only [rd_T41, Int.toNat_natCast, List.getD_cons_succ]
section
variable {n : Int} {L : List (List Int)} {t : List S41}
theorem Sane.lit' (h : Sane n L t) {k : Nat} (hk : k < t.length) : litAt t k ≠ 0 ∧ -n ≤ litAt t k ∧ litAt t k ≤ n := h.lit k hk
theorem Sane.wr (h : Sane n L t) {k : Nat} (hk : k < t.length) : wrap64 (-(litAt t k)) = -(litAt t k) := by
  have h1 := h.lit' hk; have h2 := h.n1; exact wrap_small (by omega) (by omega)
theorem Sane.new (h : Sane n L t) {j : Nat} (hj : j < t.length) {i : Nat} (hij : i < j) : litAt t i ≠ litAt t j ∧ litAt t i ≠ -(litAt t j) := by
  have h1 := h.bad j hj
  unfold stepBadB at h1
  simp only [Bool.or_eq_false_iff, decide_eq_false_iff_not] at h1
  obtain ⟨_, _, _, ⟨h2, h3⟩, _⟩ := h1
  have h2' : litAt t j ∉ litsTo t j := by simpa [litAt] using h2
  have h3' : wrap64 (-(litAt t j)) ∉ litsTo t j := by simpa [litAt] using h3
  rw [h.wr hj] at h3'
  exact ⟨fun e => h2' ((mem_litsTo (by omega)).2 ⟨i, hij, e⟩), fun e => h3' ((mem_litsTo (by omega)).2 ⟨i, hij, e⟩)⟩
theorem Sane.inj (h : Sane n L t) {i j : Nat} (hi : i < t.length) (hj : j < t.length) (e : litAt t i = litAt t j) : i = j := by
  rcases Nat.lt_trichotomy i j with hl | he | hl
  · exact absurd e (h.new hj hl).1
  · exact he
  · exact absurd e.symm (h.new hi hl).1
theorem Sane.opp (h : Sane n L t) {i j : Nat} (hi : i < t.length) (hj : j < t.length) : litAt t i ≠ -(litAt t j) := by
  intro e
  rcases Nat.lt_trichotomy i j with hl | he | hl
  · exact (h.new hj hl).2 e
  · subst he; have := (h.lit' hi).1; omega
  · exact (h.new hi hl).2 (by omega)
theorem Sane.whyR (h : Sane n L t) {k : Nat} (hk : k < t.length) : -1 ≤ whyAt t k ∧ whyAt t k < L.length := by
  have h1 := bad_lit (h.bad k hk)
  exact ⟨h1.2.2.2.1, h1.2.2.2.2⟩
theorem Sane.reason (h : Sane n L t) {k : Nat} (hk : k < t.length) (h0 : 0 ≤ whyAt t k) : litAt t k ∈ rd_L1 L (whyAt t k) ∧ ∀ y ∈ rd_L1 L (whyAt t k), y ≠ litAt t k → ∃ i, i < k ∧ y = -(litAt t i) := by
  have h1 := h.why k hk
  unfold stepWhyB at h1
  have e : decide ((rd_T41 t (k : Int)).f1 < 0) = false := decide_eq_false (by unfold whyAt at h0; omega)
  rw [e, Bool.false_or, Bool.and_eq_true] at h1
  obtain ⟨h1, h2⟩ := h1
  refine ⟨by simpa [litAt, whyAt] using h1, fun y hy hne => ?_⟩
  have h3 : (List.any (rd_L1 L (whyAt t k)) fun x => decide (x ≠ litAt t k) && !(litsTo t k).contains (wrap64 (-x))) = false := by rw [Bool.not_eq_true'] at h2; exact h2
  rw [List.any_eq_false] at h3
  have h4 := h3 y hy
  simp only [Bool.and_eq_true, decide_eq_true_eq, Bool.not_eq_true', not_and, Bool.not_eq_false] at h4
  have h5 : wrap64 (-y) ∈ litsTo t k := by simpa using h4 hne
  obtain ⟨i, hi, he⟩ := (mem_litsTo (by omega)).1 h5
  have hr := h.row _ (rd_L1_mem h0 (h.whyR hk).2) y hy
  have hn := h.n1
  rw [wrap_small (by omega) (by omega)] at he
  exact ⟨i, hi, by omega⟩
theorem Sane.at (h : Sane n L t) {k : Nat} (hk : k < t.length) : atT t (litAt t k) = some (k : Int) := by
  obtain ⟨i, hi⟩ := Option.isSome_iff_exists.1 (at_has (t := t) hk)
  have h1 := at_some hi
  have h2 := h.inj h1.2.1 hk h1.2.2
  have : i = (k : Int) := by omega
  rw [← this]; exact hi
theorem Sane.known (h : Sane n L t) {k : Nat} (hk : k < t.length) : knownB t (-(litAt t k)) = true := by
  have h1 := h.lit' hk; have h2 := h.n1
  unfold knownB
  rw [show wrap64 (-(-(litAt t k))) = litAt t k by rw [Int.neg_neg]; exact wrap_small (by omega) (by omega), h.at hk]
  rfl
theorem Sane.known_iff (h : Sane n L t) {y : Int} (hy : I64 y) : knownB t y = true ↔ ∃ k, k < t.length ∧ y = -(litAt t k) := by
  constructor
  · intro hk
    unfold knownB at hk
    obtain ⟨i, hi⟩ := Option.isSome_iff_exists.1 hk
    have h1 := at_some hi
    have h2 := h.lit' h1.2.1
    have h3 := h.n1
    have h4 := i64_range hy
    refine ⟨i.toNat, h1.2.1, ?_⟩
    have h5 := h1.2.2
    unfold wrap64 at h5
    omega
  · rintro ⟨k, hk, rfl⟩; exact h.known hk
end
/-- How many of the first k steps are decisions. -/
def decs (t : List S41) (k : Nat) : Nat := ((t.take k).filter fun s => decide (s.f1 = -1)).length
theorem decs_zero (t : List S41) : decs t 0 = 0 := by simp [decs]
theorem decs_cons (s : S41) (t : List S41) (k : Nat) : decs (s :: t) (k + 1) = (if s.f1 = -1 then 1 else 0) + decs t k := by
  unfold decs
  rw [List.take_succ_cons, List.filter_cons]
  by_cases h : s.f1 = -1
  · simp [h]; omega
  · simp [h]
theorem decs_succ : ∀ (t : List S41) (k : Nat), k < t.length → decs t (k + 1) = decs t k + (if whyAt t k = -1 then 1 else 0)
  | [], k, h => absurd h (Nat.not_lt_zero _)
  | s :: t, 0, h => by rw [decs_cons, decs_zero, decs_zero]; simp [whyAt, rd_T41]
  | s :: t, k + 1, h => by
    rw [decs_cons, decs_cons, decs_succ t k (by simpa using h)]
    have : whyAt (s :: t) (k + 1) = whyAt t k := by unfold whyAt; rw [T41_drop]
    rw [this]; omega
theorem decs_mono (t : List S41) {i j : Nat} (h : i ≤ j) : decs t i ≤ decs t j := by
  unfold decs
  have hs : (t.take i).Sublist (t.take j) := by
    have : t.take i = (t.take j).take i := by rw [List.take_take, Nat.min_eq_left h]
    rw [this]; exact List.take_sublist _ _
  exact (hs.filter _).length_le
theorem levels_at : ∀ (t : List S41) (m : Int) (k : Nat), k < t.length → rd (levelsFrom m t) (k : Int) = m + decs t (k + 1)
  | [], m, k, h => absurd h (Nat.not_lt_zero _)
  | s :: t, m, 0, h => by
    rw [decs_cons, decs_zero]
    by_cases e : s.f1 = -1 <;> simp [levelsFrom, rd, e]
  | s :: t, m, k + 1, h => by
    have h1 := levels_at t (if s.f1 = -1 then m + 1 else m) k (by simpa using h)
    rw [decs_cons]
    have h2 : rd (levelsFrom m (s :: t)) ((k + 1 : Nat) : Int) = rd (levelsFrom (if s.f1 = -1 then m + 1 else m) t) (k : Int) := by simp only [levelsFrom, rd, Int.toNat_natCast, List.getD_cons_succ]
    rw [h2, h1]
    by_cases e : s.f1 = -1 <;> simp [e] <;> omega
theorem lv_at {t : List S41} {k : Nat} (hk : k < t.length) : rd (lvT t) (k : Int) = decs t (k + 1) := by
  unfold lvT; rw [levels_at t 0 k hk]; omega
theorem lastOf_eq (t : List S41) : lastOf t = decs t t.length := by
  unfold lastOf
  by_cases h : 0 < t.length
  · rw [if_pos h]
    have : ((t.length : Int) - 1) = ((t.length - 1 : Nat) : Int) := by omega
    rw [this, lv_at (by omega)]
    congr 2; omega
  · rw [if_neg h]
    have : t.length = 0 := by omega
    rw [this, decs_zero]; rfl
section
variable {n : Int} {L : List (List Int)} {t : List S41}
theorem Sane.lvl (h : Sane n L t) {k : Nat} (hk : k < t.length) : lvlOf t (-(litAt t k)) = decs t (k + 1) := by
  have h1 := h.lit' hk; have h2 := h.n1
  unfold lvlOf lvOf
  rw [show wrap64 (-(-(litAt t k))) = litAt t k by rw [Int.neg_neg]; exact wrap_small (by omega) (by omega), h.at hk]
  exact lv_at hk
end
/-- The literals of r, but 'but', behind l, none twice. -/
def moreL (but : Int) (r l : List Int) : List Int := r.foldl (fun l x => if x = but ∨ l.contains x = true then l else l ++ [x]) l
def cnt (t : List S41) (last : Int) (l : List Int) : Nat := (l.filter fun y => decide (lvlOf t y = last)).length
theorem cnt_snoc (t : List S41) (last : Int) (l : List Int) (x : Int) : cnt t last (l ++ [x]) = cnt t last l + (if lvlOf t x = last then 1 else 0) := by
  unfold cnt
  rw [List.filter_append, List.length_append]
  by_cases h : lvlOf t x = last <;> simp [h]
theorem putL_more (t : List S41) (last but : Int) : ∀ (r l : List Int), putL t last but r (l, (cnt t last l : Int)) = (moreL but r l, (cnt t last (moreL but r l) : Int))
  | [], l => rfl
  | x :: r, l => by
    unfold putL moreL
    rw [List.foldl_cons, List.foldl_cons]
    by_cases h : x = but ∨ l.contains x = true
    · have e : putLS t last but (l, (cnt t last l : Int)) x = (l, (cnt t last l : Int)) := by unfold putLS; rw [if_pos h]
      rw [e, if_pos h]
      exact putL_more t last but r l
    · have e : putLS t last but (l, (cnt t last l : Int)) x = (l ++ [x], (cnt t last (l ++ [x]) : Int)) := by
        unfold putLS
        rw [if_neg h, cnt_snoc]
        dsimp only
        by_cases h2 : lvlOf t x = last
        · rw [if_pos h2, if_pos h2]; rfl
        · rw [if_neg h2, if_neg h2]; rfl
      rw [e, if_neg h]
      exact putL_more t last but r (l ++ [x])
theorem moreL_mem (but : Int) : ∀ (r l : List Int) (y : Int), y ∈ moreL but r l ↔ y ∈ l ∨ (y ∈ r ∧ y ≠ but)
  | [], l, y => by simp [moreL]
  | x :: r, l, y => by
    unfold moreL
    rw [List.foldl_cons]
    by_cases h : x = but ∨ l.contains x = true
    · rw [if_pos h]
      have ih := moreL_mem but r l y
      unfold moreL at ih
      rw [ih, List.mem_cons]
      constructor
      · rintro (h1 | h1)
        · exact Or.inl h1
        · exact Or.inr ⟨Or.inr h1.1, h1.2⟩
      · rintro (h1 | ⟨rfl | h1, h2⟩)
        · exact Or.inl h1
        · rcases h with h | h
          · exact absurd h h2
          · exact Or.inl (by simpa using h)
        · exact Or.inr ⟨h1, h2⟩
    · rw [if_neg h]
      have ih := moreL_mem but r (l ++ [x]) y
      unfold moreL at ih
      rw [ih, List.mem_append, List.mem_singleton, List.mem_cons]
      constructor
      · rintro ((h1 | rfl) | h1)
        · exact Or.inl h1
        · exact Or.inr ⟨Or.inl rfl, fun e => h (Or.inl e)⟩
        · exact Or.inr ⟨Or.inr h1.1, h1.2⟩
      · rintro (h1 | ⟨rfl | h1, h2⟩)
        · exact Or.inl (Or.inl h1)
        · exact Or.inl (Or.inr rfl)
        · exact Or.inr ⟨h1, h2⟩
theorem moreL_nodup (but : Int) : ∀ (r l : List Int), l.Nodup → (moreL but r l).Nodup
  | [], l, h => h
  | x :: r, l, h => by
    unfold moreL
    rw [List.foldl_cons]
    by_cases hx : x = but ∨ l.contains x = true
    · rw [if_pos hx]; exact moreL_nodup but r l h
    · rw [if_neg hx]
      refine moreL_nodup but r (l ++ [x]) (List.nodup_append.mpr ⟨h, by simp, fun a ha b hb => ?_⟩)
      rw [List.mem_singleton] at hb
      subst hb
      rintro rfl
      exact hx (Or.inr (by simpa using ha))
theorem moreL_cnt (t : List S41) (last but : Int) : ∀ (r l : List Int), cnt t last l ≤ cnt t last (moreL but r l)
  | [], l => Nat.le_refl _
  | x :: r, l => by
    unfold moreL
    rw [List.foldl_cons]
    by_cases hx : x = but ∨ l.contains x = true
    · rw [if_pos hx]; exact moreL_cnt t last but r l
    · rw [if_neg hx]
      have := moreL_cnt t last but r (l ++ [x])
      rw [cnt_snoc] at this
      unfold moreL at this
      omega
def dropL (key : Int) (l : List Int) : List Int := l.filter fun y => decide (y ≠ key)
theorem dropL_mem {key y : Int} {l : List Int} : y ∈ dropL key l ↔ y ∈ l ∧ y ≠ key := by simp [dropL]
theorem dropL_out {key : Int} {l : List Int} (h : key ∉ l) : dropL key l = l := by
  unfold dropL
  rw [List.filter_eq_self]
  intro a ha
  exact decide_eq_true (fun e => h (e ▸ ha))
theorem dropL_cnt (t : List S41) (last key : Int) : ∀ l : List Int, l.Nodup → key ∈ l → lvlOf t key = last → cnt t last l = cnt t last (dropL key l) + 1
  | [], _, h, _ => by cases h
  | x :: l, hn, hm, hl => by
    obtain ⟨hx, hn'⟩ := List.nodup_cons.1 hn
    by_cases e : x = key
    · subst e
      have h1 : dropL x (x :: l) = l := by
        have h2 := dropL_out hx
        unfold dropL at h2 ⊢
        rw [List.filter_cons]
        simpa using h2
      rw [h1]
      unfold cnt
      rw [List.filter_cons]
      simp [hl]
    · have hm' : key ∈ l := by
        rcases List.mem_cons.1 hm with h | h
        · exact absurd h.symm e
        · exact h
      have ih := dropL_cnt t last key l hn' hm' hl
      have h1 : dropL key (x :: l) = x :: dropL key l := by
        unfold dropL
        rw [List.filter_cons, if_pos (decide_eq_true e)]
      rw [h1]
      unfold cnt at ih ⊢
      rw [List.filter_cons, List.filter_cons]
      by_cases h2 : lvlOf t x = last
      · rw [if_pos (decide_eq_true h2), if_pos (decide_eq_true h2)]; simp [ih]
      · rw [if_neg (by simpa using h2), if_neg (by simpa using h2)]; exact ih
/-- What holds of the set along the walk: its literals are false by steps before m. -/
structure WalkInv (t : List S41) (last : Int) (m : Nat) (l : List Int) : Prop where
  nd : l.Nodup
  kn : ∀ y ∈ l, ∃ k, k < m ∧ y = -(litAt t k)
theorem walk_ok {n : Int} {L : List (List Int)} {t : List S41} (h : Sane n L t) (last : Int) (hlast : last = decs t t.length) (Φ : List Int → Prop)
    (hΦ : ∀ l k, k < t.length → -(litAt t k) ∈ l → 0 ≤ whyAt t k → lvlOf t (-(litAt t k)) = last → 2 ≤ cnt t last l → WalkInv t last (k + 1) l → Φ l → Φ (moreL (litAt t k) (rd_L1 L (whyAt t k)) (dropL (-(litAt t k)) l))) :
    ∀ (d j : Nat), t.length - j = d → j ≤ t.length → ∀ l : List Int, WalkInv t last (t.length - j) l → 1 ≤ cnt t last l → Φ l →
      ∃ l' k, k < t.length ∧ walkL t L last ((backs t).drop j) (l, (cnt t last l : Int)) = some ((l', 1), -(litAt t k)) ∧ WalkInv t last (k + 1) l' ∧ cnt t last l' = 1 ∧ -(litAt t k) ∈ l' ∧ lvlOf t (-(litAt t k)) = last ∧ Φ l' := by
  intro d
  induction d with
  | zero =>
    intro j hd hj l hI hc _
    obtain ⟨y, hy⟩ := List.exists_mem_of_length_pos (show 0 < (l.filter fun y => decide (lvlOf t y = last)).length from hc)
    obtain ⟨k, hk, _⟩ := hI.kn y (List.mem_filter.1 hy).1
    omega
  | succ d ih =>
    intro j hd hj l hI hc hp
    have hjl : j < t.length := by omega
    obtain ⟨k, hk⟩ : ∃ k, k = t.length - 1 - j := ⟨_, rfl⟩
    have hkl : k < t.length := by omega
    have hb : (backs t).drop j = backAt t j :: (backs t).drop (j + 1) := by
      rw [List.drop_eq_getElem_cons (by rw [backs_length]; exact hjl)]
      simp [backs]
    have hx0 : (backAt t j).2.f0 = litAt t k := by rw [hk]; rfl
    have hx1 : (backAt t j).2.f1 = whyAt t k := by rw [hk]; rfl
    have hkey : wrap64 (-(backAt t j).2.f0) = -(litAt t k) := by rw [hx0]; exact h.wr hkl
    rw [hb, walkL, hkey]
    by_cases hin : -(litAt t k) ∈ l
    · rw [if_neg (by simpa using hin)]
      have hall : ∀ y ∈ l, ∃ i, i ≤ k ∧ y = -(litAt t i) := fun y hy => by obtain ⟨i, hi, e⟩ := hI.kn y hy; exact ⟨i, by omega, e⟩
      have hlv : lvlOf t (-(litAt t k)) = last := by
        obtain ⟨y, hy⟩ := List.exists_mem_of_length_pos (show 0 < (l.filter fun y => decide (lvlOf t y = last)).length from hc)
        obtain ⟨hy1, hy2⟩ := List.mem_filter.1 hy
        obtain ⟨i, hi, e⟩ := hall y hy1
        have e2 : lvlOf t y = last := by simpa using hy2
        rw [e, h.lvl (by omega)] at e2
        rw [h.lvl hkl]
        have m1 := decs_mono t (show i + 1 ≤ k + 1 by omega)
        have m2 := decs_mono t (show k + 1 ≤ t.length by omega)
        omega
      have hI2 : WalkInv t last (k + 1) l := ⟨hI.nd, fun y hy => by obtain ⟨i, hi, e⟩ := hall y hy; exact ⟨i, by omega, e⟩⟩
      by_cases hone : cnt t last l = 1
      · rw [if_pos (by rw [hone]; rfl)]
        exact ⟨l, k, hkl, by rw [hone]; rfl, hI2, hone, hin, hlv, hp⟩
      · rw [if_neg (by dsimp only; omega)]
        have hdc := dropL_cnt t last (-(litAt t k)) l hI.nd hin hlv
        have hwhy : 0 ≤ whyAt t k := by
          have hr := h.whyR hkl
          by_cases hw : whyAt t k = -1
          · exfalso
            obtain ⟨y, hy⟩ := List.exists_mem_of_length_pos (show 0 < ((dropL (-(litAt t k)) l).filter fun y => decide (lvlOf t y = last)).length from (by unfold cnt at hdc; unfold cnt at hone hc; omega))
            obtain ⟨hy1, hy2⟩ := List.mem_filter.1 hy
            obtain ⟨hy3, hy4⟩ := dropL_mem.1 hy1
            obtain ⟨i, hi, e⟩ := hall y hy3
            have e2 : lvlOf t y = last := by simpa using hy2
            have hik : i ≠ k := by rintro rfl; exact hy4 e
            rw [e, h.lvl (by omega)] at e2
            rw [h.lvl hkl, decs_succ t k hkl, if_pos hw] at hlv
            have m1 := decs_mono t (show i + 1 ≤ k by omega)
            omega
          · omega
        obtain ⟨hrm, hrk⟩ := h.reason hkl hwhy
        have hok : okStep t L (backAt t j).2 = true := by
          unfold okStep
          rw [hx0, hx1, Bool.and_eq_true]
          refine ⟨decide_eq_true ⟨hwhy, (h.whyR hkl).2⟩, List.all_eq_true.2 fun y hy => ?_⟩
          by_cases e : y = litAt t k
          · simp [e]
          · obtain ⟨i, hi, e2⟩ := hrk y hy e
            rw [e2, h.known (by omega), Bool.or_true]
        rw [if_pos hok, hx0, hx1]
        have hst : ((cnt t last l : Int) - 1) = (cnt t last (dropL (-(litAt t k)) l) : Int) := by omega
        dsimp only
        rw [hst]
        have hpm := putL_more t last (litAt t k) (rd_L1 L (whyAt t k)) (dropL (-(litAt t k)) l)
        unfold dropL at hpm ⊢
        rw [hpm]
        have hI3 : WalkInv t last (t.length - (j + 1)) (moreL (litAt t k) (rd_L1 L (whyAt t k)) (dropL (-(litAt t k)) l)) := by
          refine ⟨moreL_nodup _ _ _ (hI.nd.filter _), fun y hy => ?_⟩
          rcases (moreL_mem _ _ _ _).1 hy with hy | ⟨hy, hne⟩
          · obtain ⟨hy3, hy4⟩ := dropL_mem.1 hy
            obtain ⟨i, hi, e⟩ := hall y hy3
            have hik : i ≠ k := by rintro rfl; exact hy4 e
            exact ⟨i, by omega, e⟩
          · obtain ⟨i, hi, e2⟩ := hrk y hy hne
            exact ⟨i, by omega, e2⟩
        refine ih (j + 1) (by omega) (by omega) _ hI3 ?_ (hΦ l k hkl hin hwhy hlv (by omega) hI2 hp)
        have := moreL_cnt t last (litAt t k) (rd_L1 L (whyAt t k)) (dropL (-(litAt t k)) l)
        unfold dropL at this hdc
        omega
    · rw [if_pos (by simpa using hin)]
      refine ih (j + 1) (by omega) (by omega) l ⟨hI.nd, fun y hy => ?_⟩ hc hp
      obtain ⟨i, hi, e⟩ := hI.kn y hy
      have hik : i ≠ k := by rintro rfl; exact hin (e ▸ hy)
      exact ⟨i, by omega, e⟩
end Go.Proofs.Ytobadajeekdakaa.Print
