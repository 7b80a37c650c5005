/- (*heap.work).scaled: its contract, under a law of the sort. -/
import Derived.Test.YtobadajeekdakaaHK
namespace Go.Proofs.Ytobadajeekdakaa.Print
open Go.RowKit Go.Proofs.YtobadajeekdakaaW.PrintWords Go.Proofs.YtobadajeekdakaaW.PrintLast Go.Proofs.YtobadajeekdakaaW.PrintMore
open Go.Sort (grow alloc_eq_grow)
open Go.Shelf
attribute [local go_sem] max2_int min2_int max_two min_two
set_option linter.unusedVariables false
set_option linter.unusedSimpArgs false

/-- The sort's law, for rows of at most N elements. -/
def HSort (N : Nat) : Prop := ∀ (w0 : World) (gw base g n cap : Nat) (act l : List Int) (w : World), CmpLaw w0 g gw act → SortSt w0 base g n cap l w → InR act l → n ≤ N →
  Calls Try.prog 109 #[.slice (some ⟨g, 0, none⟩) n cap, .func (.func 151) #[.pointer (some ⟨gw, 0, none⟩)] #[]] w (SortPost w0 base g n cap 0 n act l)
theorem hsort12 : HSort 12 := fun w0 gw base g n cap act l w h1 h2 h3 h4 => sort_small w0 gw base g n cap act l w h1 h2 h3 h4

def sortA (act l : List Int) : List Int := l.mergeSort (fun x y => !decide (ordV act y x < 0))
theorem sortA_only {act l ys : List Int} (hp : ys.Perm l) (hs : SortedTo act 0 ys.length ys) : ys = sortA act l := by
  have h1 : ys.Pairwise (fun x y => ¬ aheadP act y x) := by
    rw [List.pairwise_iff_getElem]
    intro i j hi hj hij
    have := hs i j (Nat.zero_le _) hij hj
    rwa [rd_get hi, rd_get hj] at this
  have h2 : (sortA act l).Pairwise (fun x y => ¬ aheadP act y x) := by
    have := List.pairwise_mergeSort (le := fun x y => !decide (ordV act y x < 0)) (fun a b c hab hbc => by
      simp only [Bool.not_eq_true', decide_eq_false_iff_not] at *
      exact le_trans' hab hbc) (fun a b => by
      by_cases h : ordV act b a < 0
      · have := ahead_asymm h
        simp [show ¬ ordV act a b < 0 from this]
      · simp [h]) l
    exact this.imp (fun h => by simpa [aheadP] using h)
  refine List.Perm.eq_of_pairwise ?_ h1 h2 (hp.trans (List.mergeSort_perm l _).symm)
  intro a b _ _ hab hba
  by_cases he : a = b
  · exact he
  · exact absurd (ordV_total hab (fun e => he e.symm)) hba
structure ScSt (w : World) (base gw gr ga n ca : Nat) (vL : Value) (act l : List Int) (by_ : Int) (W : World) : Prop where
  blk : W.heap[gw]? = some (.cells #[.slice (some ⟨ga, 0, none⟩) n ca, vL, .int .i64 by_] 136 (0, 0))
  res : W.heap[gr]? = some Z74
  rA : Kd.R (Kd.int .i64) 3 W base (fun k => some k ≠ vL.ownBlock) (.slice (some ⟨ga, 0, none⟩) n ca) act
  rL : Kd.R (Kd.int .i64) 3 W base (fun k => some k ≠ some ga) vL l
  below : Below base w W
  ge : base ≤ gw
section
variable {w W W1 : World} {base gw gr ga n ca : Nat} {vL : Value} {act l ys : List Int} {by_ : Int}
theorem ScSt.step (h : ScSt w base gw gr ga n ca vL act l by_ W) (hb : Below W.heap.size W W1) : ScSt w base gw gr ga n ca vL act l by_ W1 :=
  ⟨blk_below h.blk hb, blk_below h.res hb, Kd.R_below h.rA hb, Kd.R_below h.rL hb, h.below.trans (hb.mono (Nat.le_trans h.ge (Nat.le_of_lt (blk_lt h.blk)))), h.ge⟩
theorem ScSt.lenA (h : ScSt w base gw gr ga n ca vL act l by_ W) : act.length = n := (Kd.R_reads' h.rA).1.symm
theorem ScSt.neA (h : ScSt w base gw gr ga n ca vL act l by_ W) : gw ≠ ga := fun e => by
  have := Kd.R_ne h.rA h.blk (by decide)
  rw [e] at this
  exact this rfl
theorem ScSt.neR (h : ScSt w base gw gr ga n ca vL act l by_ W) : gr ≠ ga := fun e => by
  have := Kd.R_ne h.rA h.res (by decide)
  rw [e] at this
  exact this rfl
theorem ScSt.neG (h : ScSt w base gw gr ga n ca vL act l by_ W) : gr ≠ gw := fun e => by
  have := h.res
  rw [e] at this
  have := this.symm.trans h.blk
  simp at this
theorem ScSt.geA (h : ScSt w base gw gr ga n ca vL act l by_ W) : base ≤ ga := Kd.R_base h.rA ga rfl
theorem ScSt.putA (h : ScSt w base gw gr ga n ca vL act l by_ W) (i : Nat) (x : Int) : ScSt w base gw gr ga n ca vL (act.set i x) l by_ (W.setCell ⟨ga, i, none⟩ (.int .i64 x)) := by
  obtain ⟨h1, h2⟩ := Kd.R_putg h.rA (i : Int) x
  rw [Int.toNat_natCast] at h1 h2
  exact ⟨blk_far h.blk (p := ⟨ga, i, none⟩) h.neA _, blk_far h.res (p := ⟨ga, i, none⟩) h.neR _, h1, Kd.R_far (p := ⟨ga, i, none⟩) h.rL (fun k hk e => hk (by rw [e])) _, below_setB h.below h.geA, h.ge⟩
where below_setB {w W : World} {B g j : Nat} {v : Value} (h : Below B w W) (hg : B ≤ g) : Below B w (W.setCell ⟨g, j, none⟩ v) := h.setCell hg _
theorem ScSt.putBy (h : ScSt w base gw gr ga n ca vL act l by_ W) (v : Int) : ScSt w base gw gr ga n ca vL act l v (W.setCell ⟨gw, 2, none⟩ (.int .i64 v)) :=
  ⟨blk_put h.blk 2 _ rfl, blk_far h.res (p := ⟨gw, 2, none⟩) h.neG _, Kd.R_set h.rA h.blk ne136 2 _, Kd.R_set h.rL h.blk ne136 2 _, h.below.setCell h.ge _, h.ge⟩
theorem ScSt.sorted (h : ScSt w base gw gr ga n ca vL act l by_ W) (hg : W.grownBy W1 vL.ownBlock) (hr : Kd.R (Kd.int .i64) 3 W1 base (fun _ => True) vL ys) : ScSt w base gw gr ga n ca vL act ys by_ W1 :=
  ⟨blk_grown h.blk hg (Kd.R_ne h.rL h.blk (by decide)), blk_grown h.res hg (Kd.R_ne h.rL h.res (by decide)), Kd.R_grown h.rA hg (fun k hk => hk), Kd.R_reok rfl hr (fun k hk => h.rL.1 k hk),
    ⟨hg.os.trans h.below.os, hg.tape.trans h.below.tape, hg.output.trans h.below.output, Nat.le_trans h.below.size hg.size, fun k hk => (hg.block k (Nat.lt_of_lt_of_le hk (Nat.le_trans h.ge (Nat.le_of_lt (blk_lt h.blk)))) (fun e => by
      have := Kd.R_base h.rL k e.symm
      omega)).trans (h.below.block k hk)⟩, h.ge⟩
/-- The queue, sorted. -/
theorem ScSt.sort (h : ScSt w base gw gr ga n ca vL act l by_ W) {N : Nat} (hs : HSort N) (hl : InR act l) (hN : l.length ≤ N) :
    Calls Try.prog 109 #[vL, .func (.func 151) #[.pointer (some ⟨gw, 0, none⟩)] #[]] W fun e w' => e = .returned (.tuple #[]) ∧ ScSt w base gw gr ga n ca vL act (sortA act l) by_ w' := by
  obtain ⟨AL, cl, e⟩ := Kd.R_slice h.rL
  obtain ⟨_, h2 | ⟨g, cap, cur, e1, hb, hg, hn, hc, hsz, htk⟩⟩ := Kd.own_of_R h.rL
  · obtain ⟨rfl, h0⟩ := h2
    have hl0 : l = [] := List.eq_nil_of_length_eq_zero h0
    subst hl0
    refine (AnyF.slices_SortFunc_none (P := Try.prog) { Try.slays6 with } none 0 (.func (.func 151) #[.pointer (some ⟨gw, 0, none⟩)] #[]) W).mono ?_
    rintro e w' ⟨rfl, rfl⟩
    exact ⟨rfl, by simpa [sortA] using h⟩
  · subst e1
    have hcmp : CmpLaw W g gw act := fun W2 x y hgr hx hy => by
      have hA := Kd.R_grown h.rA hgr (fun k hk => hk)
      have hAl := h.lenA
      obtain ⟨_, _, hC⟩ := Kd.R_reads' hA
      subst hAl
      exact order_any gw _ _ ca _ _ act by_ x y W2 (blk_grown h.blk hgr (Kd.R_ne h.rL h.blk (by decide))) hC hx.1 hx.2 hy.1 hy.2
    have hR := Kd.R_mono h.rL (ok' := fun _ => True) (fun _ _ => trivial)
    refine (hs W gw base g l.length cap act l W hcmp ⟨hR, grown_of_below (Below.refl _ _) _⟩ hl hN).mono ?_
    rintro e w' ⟨rfl, ys, h3, h4, h5⟩
    have hys : ys = sortA act l := sortA_only h3.perm (by rw [h3.len]; exact h4)
    rw [← hys]
    exact ⟨rfl, h.sorted h5.grown h5.row⟩
end
end Go.Proofs.Ytobadajeekdakaa.Print
