/- learn.First: the last sweep over the set of literals, in plain Lean. -/
import Derived.Test.YtobadajeekdakaaH1
namespace Go.Proofs.Ytobadajeekdakaa.Print
open Go.RowKit Go.Proofs.YtobadajeekdakaaW.PrintWords Go.Proofs.YtobadajeekdakaaW.PrintLast Go.Proofs.YtobadajeekdakaaW.PrintMore
set_option linter.unusedVariables false
set_option linter.unusedSimpArgs false

theorem level_at {w4 W : World} {nn : Int} {AL A1 Av : Option Addr} {nL cL c1 cv bm gx : Nat} {l1 : List S41} (hh : FHead w4 nn AL nL cL A1 c1 l1 Av cv bm gx) (hb : Below w4.heap.size w4 W) {x : Int} (hk : knownB l1 x = true) :
    Calls Try.prog 85 #[.agg #[.int .i64 nn, .slice AL nL cL, .slice A1 l1.length c1, .slice Av l1.length cv, .map (some bm)], .int .i64 x] W fun e w' => e = .returned (.int .i64 (lvlOf l1 x)) ∧ Below W.heap.size W w' := by
  obtain ⟨i, hi, h0, h1⟩ := known_at hk
  have hlen : (lvT l1).length = l1.length := by rw [lvT, levelsFrom_length]
  have h := look_level nn AL A1 Av nL cL l1.length c1 cv bm l1.length (atT l1) (lvT l1) x i W (hh.ma.below hb) (by rw [hlen]; exact Kd.C_below hh.lv hb) hi h0 h1
  rw [hlen] at h
  rwa [show lvlOf l1 x = rd (lvT l1) i by unfold lvlOf lvOf; rw [hi]; rfl]
def outOf (t : List S41) (s1 : List Int) : List Int := s1.filter fun y => decide (lvlOf t y ≠ 0)
/-- The sweep, some keys still to come ('left'). -/
structure Sweep (t : List S41) (first : Int) (s1 : List Int) (left : Int → Bool) (fm : Int → Option Bool) (b : Int) : Prop where
  fm : ∀ y, I64 y → fm y = if left y = true then dset s1 y else dset (outOf t s1) y
  lf : ∀ y, I64 y → left y = true → y ∈ s1
  b0 : 0 ≤ b
  up : ∀ y ∈ outOf t s1, left y = false → y ≠ first → lvlOf t y ≤ b
  hit : b = 0 ∨ ∃ y ∈ outOf t s1, left y = false ∧ y ≠ first ∧ lvlOf t y = b
section
variable {t : List S41} {first : Int} {s1 : List Int} {left : Int → Bool} {fm : Int → Option Bool} {b : Int}
theorem mem_outOf {y : Int} : y ∈ outOf t s1 ↔ y ∈ s1 ∧ lvlOf t y ≠ 0 := by simp [outOf]
theorem dset_isSome (l : List Int) (y : Int) : (dset l y).isSome = l.contains y := by unfold dset; cases l.contains y <;> rfl
theorem Sweep.start : Sweep t first s1 (fun y => (dset s1 y).isSome) (dset s1) 0 := by
  refine ⟨fun y _ => ?_, fun y _ h => ?_, Int.le_refl _, fun y hy h => ?_, Or.inl rfl⟩
  · by_cases h : (dset s1 y).isSome = true
    · rw [if_pos h]
    · rw [if_neg h]
      rw [dset_isSome] at h
      have hn : y ∉ s1 := by simpa using h
      have hn2 : y ∉ outOf t s1 := fun hm => hn (mem_outOf.1 hm).1
      simp [dset, hn, hn2]
  · rw [dset_isSome] at h; simpa using h
  · have := (mem_outOf.1 hy).1
    rw [dset_isSome] at h
    simp [this] at h
theorem Sweep.drop (h : Sweep t first s1 left fm b) {x : Int} (hx : I64 x) (hl : left x = true) (h0 : lvlOf t x = 0) :
    Sweep t first s1 (fun y => (left y && decide (y ≠ x)) && decide (y ≠ x)) (upd fm x none) b := by
  have hnx : x ∉ outOf t s1 := fun hm => (mem_outOf.1 hm).2 h0
  refine ⟨fun y hy => ?_, fun y hy hh => h.lf y hy (by simp at hh; exact hh.1), h.b0, fun y hy hh hf => h.up y hy ?_ hf, ?_⟩
  · unfold upd
    by_cases e : y = x
    · subst e; simp [dset, hnx]
    · rw [if_neg e, h.fm y hy]; simp [e]
  · have e : y ≠ x := fun e => hnx (e ▸ hy)
    simpa [e] using hh
  · rcases h.hit with h1 | ⟨y, hy, h1, h2⟩
    · exact Or.inl h1
    · exact Or.inr ⟨y, hy, by simp [h1], h2⟩
theorem Sweep.keep (h : Sweep t first s1 left fm b) {x : Int} (hx : I64 x) (hl : left x = true) (h0 : lvlOf t x ≠ 0) :
    Sweep t first s1 (fun y => left y && decide (y ≠ x)) fm (if x = first then b else mx b (lvlOf t x)) := by
  have hox : x ∈ outOf t s1 := mem_outOf.2 ⟨h.lf x hx hl, h0⟩
  have hle : b ≤ (if x = first then b else mx b (lvlOf t x)) := by
    split
    · exact Int.le_refl _
    · unfold mx; split <;> omega
  refine ⟨fun y hy => ?_, fun y hy hh => h.lf y hy (by simp at hh; exact hh.1), Int.le_trans h.b0 hle, fun y hy hh hf => ?_, ?_⟩
  · by_cases e : y = x
    · subst e
      rw [h.fm y hy, if_pos hl]
      have : y ∈ s1 := h.lf y hx hl
      simp [dset, this, hox]
    · rw [h.fm y hy]; simp [e]
  · by_cases e : y = x
    · subst e
      rw [if_neg hf]; unfold mx; split <;> omega
    · exact Int.le_trans (h.up y hy (by simpa [e] using hh) hf) hle
  · by_cases e : x = first
    · rw [if_pos e]
      rcases h.hit with h1 | ⟨y, hy, h1, h2⟩
      · exact Or.inl h1
      · exact Or.inr ⟨y, hy, by simp [h1], h2⟩
    · rw [if_neg e]
      by_cases hlt : b < lvlOf t x
      · exact Or.inr ⟨x, hox, by simp, e, by unfold mx; split <;> omega⟩
      · have hb : mx b (lvlOf t x) = b := by unfold mx; split <;> omega
        rw [hb]
        rcases h.hit with h1 | ⟨y, hy, h1, h2⟩
        · exact Or.inl h1
        · exact Or.inr ⟨y, hy, by simp [h1], h2⟩
theorem backOf_char (t : List S41) (first : Int) : ∀ (out : List Int) (b : Int), let r := out.foldl (fun b y => if y = first then b else mx b (lvlOf t y)) b; b ≤ r ∧ (∀ y ∈ out, y ≠ first → lvlOf t y ≤ r) ∧ (r = b ∨ ∃ y ∈ out, y ≠ first ∧ lvlOf t y = r)
  | [], b => ⟨Int.le_refl _, by simp, Or.inl rfl⟩
  | x :: out, b => by
    have ih := backOf_char t first out (if x = first then b else mx b (lvlOf t x))
    dsimp only at ih ⊢
    rw [List.foldl_cons]
    obtain ⟨h1, h2, h3⟩ := ih
    by_cases e : x = first
    · rw [if_pos e] at h1 h2 h3 ⊢
      refine ⟨h1, fun y hy hf => ?_, ?_⟩
      · rcases List.mem_cons.1 hy with rfl | hy
        · exact absurd e hf
        · exact h2 y hy hf
      · rcases h3 with h3 | ⟨y, hy, h4⟩
        · exact Or.inl h3
        · exact Or.inr ⟨y, List.mem_cons_of_mem _ hy, h4⟩
    · rw [if_neg e] at h1 h2 h3 ⊢
      have hm1 : b ≤ mx b (lvlOf t x) := by unfold mx; split <;> omega
      have hm2 : lvlOf t x ≤ mx b (lvlOf t x) := by unfold mx; split <;> omega
      have hm3 : mx b (lvlOf t x) = b ∨ mx b (lvlOf t x) = lvlOf t x := by unfold mx; split <;> omega
      refine ⟨Int.le_trans hm1 h1, fun y hy hf => ?_, ?_⟩
      · rcases List.mem_cons.1 hy with rfl | hy
        · exact Int.le_trans hm2 h1
        · exact h2 y hy hf
      · rcases h3 with h3 | ⟨y, hy, h4⟩
        · rcases hm3 with h5 | h5
          · exact Or.inl (h3.trans h5)
          · exact Or.inr ⟨x, List.mem_cons_self, e, by rw [h3, h5]⟩
        · exact Or.inr ⟨y, List.mem_cons_of_mem _ hy, h4⟩
theorem Sweep.back (h : Sweep t first s1 left fm b) (hd : ∀ y, I64 y → left y = false) (hwf : ∀ y ∈ s1, I64 y) : b = backOf t first (outOf t s1) := by
  have hc := backOf_char t first (outOf t s1) 0
  have e : backOf t first (outOf t s1) = (outOf t s1).foldl (fun b y => if y = first then b else mx b (lvlOf t y)) 0 := rfl
  dsimp only at hc
  rw [← e] at hc
  obtain ⟨c1, c2, c3⟩ := hc
  have hw : ∀ y ∈ outOf t s1, left y = false := fun y hy => hd y (hwf y (mem_outOf.1 hy).1)
  have a1 : b ≤ backOf t first (outOf t s1) := by
    rcases h.hit with h1 | ⟨y, hy, h1, h2, h3⟩
    · omega
    · have := c2 y hy h2; omega
  have a2 : backOf t first (outOf t s1) ≤ b := by
    rcases c3 with h1 | ⟨y, hy, h2, h3⟩
    · have := h.b0; omega
    · have := h.up y hy (hw y hy) h2; omega
  omega
theorem Sweep.sorted (h : Sweep t first s1 left fm b) (hd : ∀ y, I64 y → left y = false) (hwf : ∀ y ∈ s1, I64 y) {ys : List Int} (hT : Told fm ys) (hn : ((outOf t s1).map varOf).Nodup) : ys = sortV (outOf t s1) := by
  refine sortV_only hn ?_ hT.asc
  have hno : (outOf t s1).Nodup := by
    rw [List.nodup_iff_pairwise_ne] at hn ⊢
    rw [List.pairwise_map] at hn
    exact hn.imp (fun hne e => hne (congrArg varOf e))
  refine (List.perm_ext_iff_of_nodup hT.nd hno).2 fun y => ?_
  constructor
  · intro hy
    have hw := hT.wf y hy
    have := (hT.mem y hw).1 hy
    rw [h.fm y hw, hd y hw] at this
    simp only [Bool.false_eq_true, if_false, dset_isSome] at this
    simpa using this
  · intro hy
    have hw := hwf y (mem_outOf.1 hy).1
    refine (hT.mem y hw).2 ?_
    rw [h.fm y hw, hd y hw]
    simp only [Bool.false_eq_true, if_false, dset_isSome]
    simpa using hy
end
end Go.Proofs.Ytobadajeekdakaa.Print
