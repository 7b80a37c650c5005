/- learn.told sorts by variable: the contract of slices.SortFunc as it calls it. -/
import Derived.Test.YtobadajeekdakaaT
import Derived.Test.YtobadajeekdakaaShelf
import Derived.Shelf.SlSortCmp.NoneTotal
import Derived.Sort.OwnSortedInts
import Derived.Shelf.SlGeneric
import Derived.Ground.SlsfProg
namespace Go.Proofs.Ytobadajeekdakaa.Print
open Go.RowKit Go.Proofs.YtobadajeekdakaaW.PrintWords Go.Proofs.YtobadajeekdakaaW.PrintLast Go.Proofs.YtobadajeekdakaaW.PrintMore
open Go.Sort Go.Shelf
set_option linter.unusedVariables false
set_option linter.unusedSimpArgs false

def cmpI (x y : Int) : Int := if x < y then -1 else if x > y then 1 else 0
theorem isnan_any (x : Int) (w : World) : Calls Try.prog 165 #[.int .i64 x] w fun e w' => e = .returned (.bool false) ∧ w' = w := by
  go_enter Try.func165, Try.ntmps165
  go_wp2
  all_goals (go_ret; exact ⟨ret_b (by simp), rfl⟩)
theorem compare_any (x y : Int) (w : World) : Calls Try.prog 112 #[.int .i64 x, .int .i64 y] w fun e w' => e = .returned (.int .i64 (cmpI x y)) ∧ w' = w := by
  obtain ⟨r, hr⟩ : ∃ r, cmpI x y = r := ⟨_, rfl⟩
  rw [hr]
  have HR := Aside0.mk hr
  clear hr
  go_enter Try.func112, Try.ntmps112
  go_wp2_with (go_at_call 165; refine (isnan_any _ _).mono ?_; rintro e w2 ⟨rfl, rfl⟩)
  all_goals (go_ret; exact ⟨ret_eq (by rw [← HR.out]; unfold cmpI; split <;> (try split) <;> omega), rfl⟩)
def cfV (x y : Int) : Int := cmpI (varOf x) (varOf y)
theorem told_cmp (x y : Int) (w : World) : Calls Try.prog 154 #[.int .i64 x, .int .i64 y] w fun e w' => e = .returned (.int .i64 (cfV x y)) ∧ w' = w := by
  obtain ⟨r, hr⟩ : ∃ r, cfV x y = r := ⟨_, rfl⟩
  rw [hr]
  have HR := Aside0.mk hr
  clear hr
  go_enter Try.func154, Try.ntmps154
  go_wp2_with (first | (go_at_call 97; refine (learn_variable_any _ _).mono ?_; rintro e w2 ⟨rfl, rfl⟩) | (go_at_call 112; refine (compare_any _ _ _).mono ?_; rintro e w2 ⟨rfl, rfl⟩))
  all_goals (go_ret; exact ⟨ret_eq HR.out, rfl⟩)
theorem cfV_lt (x y : Int) : ltOf cfV x y = decide (varOf x < varOf y) := by
  unfold ltOf cfV cmpI
  by_cases h : varOf x < varOf y
  · simp [h]
  · rw [if_neg h]; split <;> simp [h]
theorem cfV_swo : SWO (ltOf cfV) := ⟨fun x => by simp [cfV_lt], fun x y z h1 h2 => by simp [cfV_lt] at *; omega, fun x y z h1 h2 => by simp [cfV_lt] at *; omega⟩

theorem sortLaw : SortLaw := by
  intro base v xs w hR hlen
  have eg : ∀ args w, (callFunc 154 args).run Try.prog w = .ok (.enter 154 args) w := enters_of Try.func154 (by kernel_rfl) rfl
  obtain ⟨hl, h | ⟨g, cap, cur, rfl, hb, hg, hn, hc, hsz, htk⟩⟩ := Kd.own_of_R hR
  · obtain ⟨rfl, h0⟩ := h
    obtain rfl : xs = [] := List.eq_nil_of_length_eq_zero h0
    refine (AnyF.slices_SortFunc_none (P := Try.prog) { Try.slays6 with } none 0 (.func (.func 154) #[] #[]) w).mono ?_
    rintro e w' ⟨rfl, rfl⟩
    exact ⟨rfl, [], List.Perm.refl _, List.Pairwise.nil, hR, grown_of_below (Below.refl _ _) _⟩
  · rw [Nat.mul_one] at htk
    have hlt : g < w.heap.size := blk_lt hg
    have hcmp : CmpLays1 Try.prog 154 #[] (Value.int .i64) cfV g 0 xs.toArray.size w := fun m os dk hs x y => by
      refine (told_cmp x y _).mono ?_
      rintro e w' ⟨rfl, rfl⟩
      exact ⟨rfl, 0, #[], by rw [grow_empty]; rfl⟩
    have hcall := Any.slices_SortFunc Try.slays6 (Value.int .i64) (fun _ => rfl) cfV cfV_swo 154 #[] g 0 cap xs.toArray w eg hcmp (holds_of_blockI hg htk) hlt (by simpa using hlen)
    rw [show xs.toArray.size = xs.length by simp] at hcall
    refine hcall.mono ?_
    rintro e w' ⟨rfl, d', n, os, ⟨hd1, _, hd2⟩, hs, rfl⟩
    have hz : d'.size = xs.length := by rw [hd1]; simp
    have hp : d'.toList.Perm xs := by
      have e1 : d'.extract 0 xs.length = d' := by rw [← hz]; simp
      have e2 : xs.toArray.extract 0 xs.length = xs.toArray := by simp
      rw [e1, e2] at hd2
      simpa using hd2
    have hl2 : d'.toList.length = xs.length := by simpa using hz
    refine ⟨rfl, d'.toList, hp, ?_, ?_, ?_⟩
    · rw [List.pairwise_iff_getElem]
      intro i j hi hj hij
      have := hs i j (Nat.zero_le _) hij (by rw [hl2] at hj; exact hj)
      rw [cfV_lt] at this
      simp only [decide_eq_false_iff_not] at this
      have hi' : i < d'.size := by simpa using hi
      have hj' : j < d'.size := by simpa using hj
      rw [getElem!_pos d' i hi', getElem!_pos d' j hj'] at this
      simp only [Array.getElem_toList]
      omega
    · have := ownsRow_sortedI (w := w) (n := n) (os := os) (ss := xs) (ts := d'.toList) hl2 hb hg hn hc (by simpa using hsz)
      rw [Array.toArray_toList] at this
      refine Kd.R_of_own ?_ (fun _ _ => trivial)
      rw [hl2]
      exact this
    · exact grownBy_sortedI d'
end Go.Proofs.Ytobadajeekdakaa.Print
