/- Contracts of functions of the program, out of Lean's own print of the translation: written by gen.py (wip/) with the kit's print. -/
import Derived.Test.YtobadajeekdakaaK
import Derived.Test.YtobadajeekdakaaC
import Derived.Test.YtobadajeekdakaaF33
import Derived.Test.YtobadajeekdakaaF34
import Derived.Test.YtobadajeekdakaaH
import Derived.Test.YtobadajeekdakaaQ
namespace Go.Proofs.Ytobadajeekdakaa.Print
open Go.RowKit Go.Proofs.YtobadajeekdakaaW.PrintWords Go.Proofs.YtobadajeekdakaaW.PrintLast
set_option linter.unusedVariables false
set_option linter.unusedSimpArgs false

/-! ### chalklinelaw20_LearnErrors: function 6 -/
mutual
def chalklinelaw20_LearnErrors.j0 : Nat → List (S41) → Int → Int → List Int → Int → Int → Bool → Int → List (List Int) → Option (Bool)
  | 0, _, _, _, _, _, _, _, _, _ => none
  | k + 1, x1, x2, x3, x9, x10, x11, x46, x361000, x361001 => if x46 = true then (if x11 = 0 then (some false) else (if (x9.length : Int) = 0 then (some (x10 == 0)) else (some false))) else (chalklinelaw20_LearnErrors.l0 k x1 x2 x3 x11 true 0 x361000 x361001)
def chalklinelaw20_LearnErrors.l0 : Nat → List (S41) → Int → Int → Int → Bool → Int → Int → List (List Int) → Option (Bool)
  | 0, _, _, _, _, _, _, _, _ => none
  | k + 1, x1, x2, x3, x11, x12, x13, x361000, x361001 => if 0 ≤ x2 then (if x2 < (x361001.length : Int) then (if x13 < ((rd_L1 x361001 x2).length : Int) then (if x12 = true then (if 0 ≤ x13 then ((chalklinelaw20_level.f k x1 (rd (rd_L1 x361001 x2) x13)).bind fun t372 => (chalklinelaw20_LearnErrors.l0 k x1 x2 x3 x11 (decide (t372 ≥ 0)) (wrap64 (x13 + 1)) x361000 x361001)) else (none)) else (chalklinelaw20_LearnErrors.l0 k x1 x2 x3 x11 false (wrap64 (x13 + 1)) x361000 x361001)) else (if x12 = true then ((some (([] : List (S41)) : List (S41))).bind fun y373 => (if y373.length + x1.length < 8796093022208 then ((some (y373 ++ x1 : List (S41))).bind fun y376 => (if y376.length < 8796093022208 then ((some (y376 ++ [(⟨x3, (-1)⟩ : S41)] : List (S41))).bind fun y379 => ((learn_First.f x361000 x361001 y379 x2).bind fun bt382 => (if x11 = 0 then ((prop_Check.f x361000 x361001 y379).bind fun t387 => (if t387 = 0 then (some (bt382.2.2 == 200)) else (some true))) else (if x11 = 200 then ((prop_Check.f x361000 x361001 y379).bind fun t388 => (if t388 = 0 then (some (bt382.2.2 == 200)) else (some true))) else (some false))))) else (none))) else (none))) else (some (x11 == 1)))) else (none)) else (none)
end
def chalklinelaw20_LearnErrors.f (k : Nat) (a0_0 : Int) (l0_1 : List (List Int)) (l1 : List (S41)) (a2 : Int) (a3 : Int) : Option (Bool) := (chalklinelaw20_live.f).bind fun t361 => (if t361 = true then ((chalklinelaw20_few.f k a0_0 l0_1 l1).bind fun t362 => (if t362 = true then ((learn_First.f a0_0 l0_1 l1 a2).bind fun bt363 => ((prop_Check.f a0_0 l0_1 l1).bind fun t368 => (if t368 = 0 then (if a2 < 0 then (chalklinelaw20_LearnErrors.j0 k l1 a2 a3 bt363.1 bt363.2.1 bt363.2.2 true a0_0 l0_1) else (chalklinelaw20_LearnErrors.j0 k l1 a2 a3 bt363.1 bt363.2.1 bt363.2.2 (decide (a2 ≥ (l0_1.length : Int))) a0_0 l0_1)) else (chalklinelaw20_LearnErrors.j0 k l1 a2 a3 bt363.1 bt363.2.1 bt363.2.2 true a0_0 l0_1)))) else (some true))) else (some false))
theorem chalklinelaw20_LearnErrors.mono_l : ∀ k, (∀ y0 y1 y2 y3 y4 y5 y6 y7 y8, LeO (chalklinelaw20_LearnErrors.j0 k y0 y1 y2 y3 y4 y5 y6 y7 y8) (chalklinelaw20_LearnErrors.j0 (k + 1) y0 y1 y2 y3 y4 y5 y6 y7 y8)) ∧ (∀ y0 y1 y2 y3 y4 y5 y6 y7, LeO (chalklinelaw20_LearnErrors.l0 k y0 y1 y2 y3 y4 y5 y6 y7) (chalklinelaw20_LearnErrors.l0 (k + 1) y0 y1 y2 y3 y4 y5 y6 y7))
  | 0 => ⟨fun _ _ _ _ _ _ _ _ _ r h => by simp [chalklinelaw20_LearnErrors.j0] at h, fun _ _ _ _ _ _ _ _ r h => by simp [chalklinelaw20_LearnErrors.l0] at h⟩
  | k + 1 => by
    obtain ⟨ih0, ih1⟩ := chalklinelaw20_LearnErrors.mono_l k
    refine ⟨?_, ?_⟩
    · intro y0 y1 y2 y3 y4 y5 y6 y7 y8
      unfold chalklinelaw20_LearnErrors.j0
      repeat' first
      | (with_reducible exact ih0 _ _ _ _ _ _ _ _ _)
      | (with_reducible exact ih1 _ _ _ _ _ _ _ _)
      | (with_reducible exact chalklinelaw20_few.mono _ _ _ _)
      | (with_reducible exact chalklinelaw20_level.mono _ _ _)
      | (with_reducible exact LeO.refl _)
      | (with_reducible exact LeO.none _)
      | (with_reducible refine LeO.ite ?_ ?_)
      | (with_reducible refine LeO.bind ?_ (fun _ => ?_))
      | exact ih0 _ _ _ _ _ _ _ _ _
      | exact ih1 _ _ _ _ _ _ _ _
      | exact chalklinelaw20_few.mono _ _ _ _
      | exact chalklinelaw20_level.mono _ _ _
      | exact LeO.none _
      | refine LeO.ite ?_ ?_
      | refine LeO.bind ?_ (fun _ => ?_)
    · intro y0 y1 y2 y3 y4 y5 y6 y7
      unfold chalklinelaw20_LearnErrors.l0
      repeat' first
      | (with_reducible exact ih0 _ _ _ _ _ _ _ _ _)
      | (with_reducible exact ih1 _ _ _ _ _ _ _ _)
      | (with_reducible exact chalklinelaw20_few.mono _ _ _ _)
      | (with_reducible exact chalklinelaw20_level.mono _ _ _)
      | (with_reducible exact LeO.refl _)
      | (with_reducible exact LeO.none _)
      | (with_reducible refine LeO.ite ?_ ?_)
      | (with_reducible refine LeO.bind ?_ (fun _ => ?_))
      | exact ih0 _ _ _ _ _ _ _ _ _
      | exact ih1 _ _ _ _ _ _ _ _
      | exact chalklinelaw20_few.mono _ _ _ _
      | exact chalklinelaw20_level.mono _ _ _
      | exact LeO.none _
      | refine LeO.ite ?_ ?_
      | refine LeO.bind ?_ (fun _ => ?_)
theorem chalklinelaw20_LearnErrors.mono : ∀ a0 a1 a2 a3 a4 k, LeO (chalklinelaw20_LearnErrors.f k a0 a1 a2 a3 a4) (chalklinelaw20_LearnErrors.f (k + 1) a0 a1 a2 a3 a4) := by
  intro a0 a1 a2 a3 a4 k
  obtain ⟨ih0, ih1⟩ := chalklinelaw20_LearnErrors.mono_l k
  unfold chalklinelaw20_LearnErrors.f
  repeat' first
      | (with_reducible exact ih0 _ _ _ _ _ _ _ _ _)
      | (with_reducible exact ih1 _ _ _ _ _ _ _ _)
      | (with_reducible exact chalklinelaw20_few.mono _ _ _ _)
      | (with_reducible exact chalklinelaw20_level.mono _ _ _)
      | (with_reducible exact LeO.refl _)
      | (with_reducible exact LeO.none _)
      | (with_reducible refine LeO.ite ?_ ?_)
      | (with_reducible refine LeO.bind ?_ (fun _ => ?_))
      | exact ih0 _ _ _ _ _ _ _ _ _
      | exact ih1 _ _ _ _ _ _ _ _
      | exact chalklinelaw20_few.mono _ _ _ _
      | exact chalklinelaw20_level.mono _ _ _
      | exact LeO.none _
      | refine LeO.ite ?_ ?_
      | refine LeO.bind ?_ (fun _ => ?_)
set_option maxHeartbeats 8000000 in
set_option maxRecDepth 100000 in
theorem chalklinelaw20_LearnErrors.calls (k : Nat) (a0_0 : Int) (A0_1 : Option Addr) (c0_1 : Nat) (l0_1 : List (List Int)) (A1 : Option Addr) (c1 : Nat) (l1 : List (S41)) (a2 : Int) (a3 : Int) (r : Bool) (w : World) (hr0_1 : Kd.C (Kd.slice 3 (Kd.int .i64)) w A0_1 l0_1.length l0_1) (hc0_1 : l0_1.length ≤ c0_1) (hr1 : Kd.C k41 w A1 l1.length l1) (hc1 : l1.length ≤ c1) (h : chalklinelaw20_LearnErrors.f k a0_0 l0_1 l1 a2 a3 = some r) :
    Calls Try.prog 6 #[.agg #[.int .i64 a0_0, .slice A0_1 l0_1.length c0_1], .slice A1 l1.length c1, .int .i64 a2, .int .i64 a3] w fun e w' => e = .returned (.bool r) ∧ Below w.heap.size w w' := by
  have hu24 := Try.underlying24
  have hu41 := Try.underlying41
  have HR0_1 := Aside0.mk hr0_1
  have HC0_1 := Aside0.mk hc0_1
  clear hr0_1 hc0_1
  have HR1 := Aside0.mk hr1
  have HC1 := Aside0.mk hc1
  clear hr1 hc1
  have HB := Aside0.mk (Below.refl w.heap.size w)
  have H : ((chalklinelaw20_live.f).bind fun t361 => (if t361 = true then ((chalklinelaw20_few.f k a0_0 l0_1 l1).bind fun t362 => (if t362 = true then ((learn_First.f a0_0 l0_1 l1 a2).bind fun bt363 => ((prop_Check.f a0_0 l0_1 l1).bind fun t368 => (if t368 = 0 then (if a2 < 0 then (chalklinelaw20_LearnErrors.j0 k l1 a2 a3 bt363.1 bt363.2.1 bt363.2.2 true a0_0 l0_1) else (chalklinelaw20_LearnErrors.j0 k l1 a2 a3 bt363.1 bt363.2.1 bt363.2.2 (decide (a2 ≥ (l0_1.length : Int))) a0_0 l0_1)) else (chalklinelaw20_LearnErrors.j0 k l1 a2 a3 bt363.1 bt363.2.1 bt363.2.2 true a0_0 l0_1)))) else (some true))) else (some false))) = some r := h
  clear h
  replace H := Option.bind_eq_some_iff.mp H
  obtain ⟨t361, A50, H⟩ := H
  replace H : (if t361 = true then ((chalklinelaw20_few.f k a0_0 l0_1 l1).bind fun t362 => (if t362 = true then ((learn_First.f a0_0 l0_1 l1 a2).bind fun bt363 => ((prop_Check.f a0_0 l0_1 l1).bind fun t368 => (if t368 = 0 then (if a2 < 0 then (chalklinelaw20_LearnErrors.j0 k l1 a2 a3 bt363.1 bt363.2.1 bt363.2.2 true a0_0 l0_1) else (chalklinelaw20_LearnErrors.j0 k l1 a2 a3 bt363.1 bt363.2.1 bt363.2.2 (decide (a2 ≥ (l0_1.length : Int))) a0_0 l0_1)) else (chalklinelaw20_LearnErrors.j0 k l1 a2 a3 bt363.1 bt363.2.1 bt363.2.2 true a0_0 l0_1)))) else (some true))) else (some false)) = some r := H
  have A5 := Aside0.mk A50
  clear A50
  by_cases c6 : t361 = true
  · subst c6
    have H1 : ((chalklinelaw20_few.f k a0_0 l0_1 l1).bind fun t362 => (if t362 = true then ((learn_First.f a0_0 l0_1 l1 a2).bind fun bt363 => ((prop_Check.f a0_0 l0_1 l1).bind fun t368 => (if t368 = 0 then (if a2 < 0 then (chalklinelaw20_LearnErrors.j0 k l1 a2 a3 bt363.1 bt363.2.1 bt363.2.2 true a0_0 l0_1) else (chalklinelaw20_LearnErrors.j0 k l1 a2 a3 bt363.1 bt363.2.1 bt363.2.2 (decide (a2 ≥ (l0_1.length : Int))) a0_0 l0_1)) else (chalklinelaw20_LearnErrors.j0 k l1 a2 a3 bt363.1 bt363.2.1 bt363.2.2 true a0_0 l0_1)))) else (some true))) = some r := by rw [if_pos rfl] at H; exact H
    clear H
    have H := H1
    clear H1
    replace H := Option.bind_eq_some_iff.mp H
    obtain ⟨t362, A70, H⟩ := H
    replace H : (if t362 = true then ((learn_First.f a0_0 l0_1 l1 a2).bind fun bt363 => ((prop_Check.f a0_0 l0_1 l1).bind fun t368 => (if t368 = 0 then (if a2 < 0 then (chalklinelaw20_LearnErrors.j0 k l1 a2 a3 bt363.1 bt363.2.1 bt363.2.2 true a0_0 l0_1) else (chalklinelaw20_LearnErrors.j0 k l1 a2 a3 bt363.1 bt363.2.1 bt363.2.2 (decide (a2 ≥ (l0_1.length : Int))) a0_0 l0_1)) else (chalklinelaw20_LearnErrors.j0 k l1 a2 a3 bt363.1 bt363.2.1 bt363.2.2 true a0_0 l0_1)))) else (some true)) = some r := H
    have A7 := Aside0.mk A70
    clear A70
    by_cases c8 : t362 = true
    · subst c8
      have H1 : ((learn_First.f a0_0 l0_1 l1 a2).bind fun bt363 => ((prop_Check.f a0_0 l0_1 l1).bind fun t368 => (if t368 = 0 then (if a2 < 0 then (chalklinelaw20_LearnErrors.j0 k l1 a2 a3 bt363.1 bt363.2.1 bt363.2.2 true a0_0 l0_1) else (chalklinelaw20_LearnErrors.j0 k l1 a2 a3 bt363.1 bt363.2.1 bt363.2.2 (decide (a2 ≥ (l0_1.length : Int))) a0_0 l0_1)) else (chalklinelaw20_LearnErrors.j0 k l1 a2 a3 bt363.1 bt363.2.1 bt363.2.2 true a0_0 l0_1)))) = some r := by rw [if_pos rfl] at H; exact H
      clear H
      have H := H1
      clear H1
      replace H := Option.bind_eq_some_iff.mp H
      obtain ⟨⟨t363, t366, t367⟩, A90, H⟩ := H
      replace H : ((prop_Check.f a0_0 l0_1 l1).bind fun t368 => (if t368 = 0 then (if a2 < 0 then (chalklinelaw20_LearnErrors.j0 k l1 a2 a3 t363 t366 t367 true a0_0 l0_1) else (chalklinelaw20_LearnErrors.j0 k l1 a2 a3 t363 t366 t367 (decide (a2 ≥ (l0_1.length : Int))) a0_0 l0_1)) else (chalklinelaw20_LearnErrors.j0 k l1 a2 a3 t363 t366 t367 true a0_0 l0_1))) = some r := H
      have A9 := Aside0.mk A90
      clear A90
      have HC10 := Aside0.mk H
      clear H
      go_enter Try.func6, Try.ntmps6
      go_upto_region 6 with (first | ((with_reducible refine gate_dst (N := 4) rfl ?_); refine box_event ?hg (N := 4) ?hd (cs := #[.int .i64 a0_0, .slice A0_1 l0_1.length c0_1]) (t := 24) ?hr ?_; (case hd => rfl); (case hg => rfl); (case hr => first | (go_simp; done) | (go_simp; rfl)); intro gb360 hg w11 hbox hb; have n0_ := Aside0.mk (below_step (by repeat (first | (with_reducible first | exact HB.out | apply below_alloc | apply pw_below_drewN | apply below_drew1) | exact HB.out)) hb); have n1_ := Aside0.mk (hbox); have n2_ := Aside0.mk ((by rw [hg]; exact (below_size (by repeat (first | (with_reducible first | exact HB.out | apply below_alloc | apply pw_below_drewN | apply below_drew1) | exact HB.out))) : w.heap.size ≤ gb360)); have n3_ := Aside0.mk ((by rw [hg]; exact (below_size (by repeat (first | (with_reducible first | exact HB.out | apply below_alloc | apply pw_below_drewN | apply below_drew1) | exact HB.out))) : w.heap.size ≤ gb360)); clear HB; have HB := n0_; have BK360 := n1_; have GW360 := n2_; have GE360 := n3_; clear n0_ n1_ n2_ n3_; clear hb hbox hg) | ((with_reducible refine gate_callee (f := 26) rfl ?_); refine goesL_ (some 18) rfl rfl Try.func26 (by kernel_rfl) rfl #[] rfl (by (try simp only [List.map_toArray, List.map_cons, List.map_nil]); first | done | rfl | (simp only [List.length_drop, List.length_take]; rfl)) ?_; (with_reducible refine (chalklinelaw20_live.calls  true _ A5.out).mono ?_); rintro e w12 ⟨rfl, hb⟩; refine ⟨_, rfl, ?_⟩; have n0_ := Aside0.mk (blk_below (g := gb360) (o := .cells #[.int .i64 a0_0, .slice A0_1 l0_1.length c0_1] 24 (0, 0)) (by (with_reducible repeat (first | refine blk_drewN ?_ _ | refine blk_drew ?_ | refine blk_alloc ?_ _)); exact BK360.out) hb); have n1_ := Aside0.mk (below_step (by repeat (first | (with_reducible first | exact HB.out | apply below_alloc | apply pw_below_drewN | apply below_drew1 | refine below_set ?_ GE360.out) | exact HB.out)) hb); clear BK360; clear HB; have BK360 := n0_; have HB := n1_; clear n0_ n1_; (try clear hb); (try clear hb2); (try clear hk); (try clear hi); have hcz13_0 : w12.cell? ⟨gb360, 0, none⟩ = some (.int .i64 a0_0) := (blk_cell BK360.out 0).trans rfl; have hcz13_1 : w12.cell? ⟨gb360, 1, none⟩ = some (.slice A0_1 l0_1.length c0_1) := (blk_cell BK360.out 1).trans rfl; have hfz13_0 := blk_frozen BK360.out 0; have hfz13_1 := blk_frozen BK360.out 1) | ((with_reducible refine gate_callee (f := 27) rfl ?_); refine goesL_ (some 22) rfl rfl Try.func27 (by kernel_rfl) rfl #[.agg #[.int .i64 a0_0, .slice A0_1 l0_1.length c0_1], .slice A1 l1.length c1] rfl (by (try simp only [List.map_toArray, List.map_cons, List.map_nil]); first | done | rfl | (simp only [List.length_drop, List.length_take]; rfl)) ?_; (with_reducible refine (chalklinelaw20_few.calls k a0_0 _ _ l0_1 _ _ l1 true _ ?side1 ?side2 ?side3 ?side4 A7.out).mono ?_); (case side1 => repeat (first | exact (Kd.C_below HR0_1.out HB.out) | (with_reducible refine Kd.C_alloc ?_ _) | (with_reducible refine Kd.C_drewN ?_ _) | (with_reducible refine Kd.C_drew ?_))); (case side2 => exact HC0_1.out); (case side3 => repeat (first | exact (Kd.C_below HR1.out HB.out) | (with_reducible refine Kd.C_alloc ?_ _) | (with_reducible refine Kd.C_drewN ?_ _) | (with_reducible refine Kd.C_drew ?_))); (case side4 => exact HC1.out); rintro e w14 ⟨rfl, hb⟩; refine ⟨_, rfl, ?_⟩; have n0_ := Aside0.mk (blk_below (g := gb360) (o := .cells #[.int .i64 a0_0, .slice A0_1 l0_1.length c0_1] 24 (0, 0)) (by (with_reducible repeat (first | refine blk_drewN ?_ _ | refine blk_drew ?_ | refine blk_alloc ?_ _)); exact BK360.out) hb); have n1_ := Aside0.mk (below_step (by repeat (first | (with_reducible first | exact HB.out | apply below_alloc | apply pw_below_drewN | apply below_drew1 | refine below_set ?_ GE360.out) | exact HB.out)) hb); clear BK360; clear HB; have BK360 := n0_; have HB := n1_; clear n0_ n1_; (try clear hb); (try clear hb2); (try clear hk); (try clear hi); have hcz15_0 : w14.cell? ⟨gb360, 0, none⟩ = some (.int .i64 a0_0) := (blk_cell BK360.out 0).trans rfl; have hcz15_1 : w14.cell? ⟨gb360, 1, none⟩ = some (.slice A0_1 l0_1.length c0_1) := (blk_cell BK360.out 1).trans rfl; have hfz15_0 := blk_frozen BK360.out 0; have hfz15_1 := blk_frozen BK360.out 1) | ((with_reducible refine gate_callee (f := 28) rfl ?_); refine goesL_ (some 28) rfl rfl Try.func28 (by kernel_rfl) rfl #[.agg #[.int .i64 a0_0, .slice A0_1 l0_1.length c0_1], .slice A1 l1.length c1, .int .i64 a2] rfl (by (try simp only [List.map_toArray, List.map_cons, List.map_nil]); first | done | rfl | (simp only [List.length_drop, List.length_take]; rfl)) ?_; (with_reducible refine (learn_First.calls a0_0 _ _ l0_1 _ _ l1 a2 t363 t366 t367 _ ?side1 ?side2 ?side3 ?side4 A9.out).mono ?_); (case side1 => repeat (first | exact (Kd.C_below HR0_1.out HB.out) | (with_reducible refine Kd.C_alloc ?_ _) | (with_reducible refine Kd.C_drewN ?_ _) | (with_reducible refine Kd.C_drew ?_))); (case side2 => exact HC0_1.out); (case side3 => repeat (first | exact (Kd.C_below HR1.out HB.out) | (with_reducible refine Kd.C_alloc ?_ _) | (with_reducible refine Kd.C_drewN ?_ _) | (with_reducible refine Kd.C_drew ?_))); (case side4 => exact HC1.out); rintro e w16 ⟨v364, rfl, ho0, hb⟩; refine ⟨_, rfl, ?_⟩; have n0_ := Aside0.mk (Kd.R_lower ho0 (below_size (by repeat (first | (with_reducible first | exact HB.out | apply below_alloc | apply pw_below_drewN | apply below_drew1 | refine below_set ?_ GE360.out) | exact HB.out)))); have n1_ := Aside0.mk (blk_below (g := gb360) (o := .cells #[.int .i64 a0_0, .slice A0_1 l0_1.length c0_1] 24 (0, 0)) (by (with_reducible repeat (first | refine blk_drewN ?_ _ | refine blk_drew ?_ | refine blk_alloc ?_ _)); exact BK360.out) hb); have n2_ := Aside0.mk (below_step (by repeat (first | (with_reducible first | exact HB.out | apply below_alloc | apply pw_below_drewN | apply below_drew1 | refine below_set ?_ GE360.out) | exact HB.out)) hb); clear BK360; clear HB; have HO365 := n0_; have BK360 := n1_; have HB := n2_; clear n0_ n1_ n2_; (try clear hb); (try clear hb2); (try clear hk); (try clear hi); (try clear ho0)))
      (try simp only [Act.put, List.setIfInBounds_toArray, List.set_cons_zero, List.set_cons_succ])
      go_cut [46] (fun v46 wc => ∃ (kq : Nat) (x46_9 : Bool), v46 = .bool x46_9 ∧ Aside0 (chalklinelaw20_LearnErrors.j0 kq l1 a2 a3 t363 t366 t367 x46_9 a0_0 l0_1 = some r) ∧ Aside0 (kq ≤ k) ∧ Aside0 (Kd.R (Kd.int .i64) 3 wc w.heap.size (fun _ => True) v364 t363) ∧ Aside0 (wc.heap[gb360]? = some (.cells #[.int .i64 a0_0, (.slice A0_1 l0_1.length c0_1)] 24 (0, 0))) ∧ Aside0 (Below w.heap.size w wc))
      case first =>
        have H := HC10.out
        clear HC10
        replace H := Option.bind_eq_some_iff.mp H
        obtain ⟨t368, A170, H⟩ := H
        replace H : (if t368 = 0 then (if a2 < 0 then (chalklinelaw20_LearnErrors.j0 k l1 a2 a3 t363 t366 t367 true a0_0 l0_1) else (chalklinelaw20_LearnErrors.j0 k l1 a2 a3 t363 t366 t367 (decide (a2 ≥ (l0_1.length : Int))) a0_0 l0_1)) else (chalklinelaw20_LearnErrors.j0 k l1 a2 a3 t363 t366 t367 true a0_0 l0_1)) = some r := H
        have A17 := Aside0.mk A170
        clear A170
        by_cases c18 : t368 = 0
        · rw [if_pos c18] at H
          have c18b0 : (t368 == 0) = true := beq_iff_eq.mpr c18
          have c18b1 : (t368 != 0) = false := bne_eq_false_iff_eq.mpr c18
          clear c18
          (first | rw [c18b0] | (simp only [i64_w, i32_w]; rw [c18b0]) | skip)
          by_cases c19 : a2 < 0
          · rw [if_pos c19] at H
            have c19b0 : decide (a2 < 0) = true := decide_eq_true c19
            clear c19
            have H' := Aside0.mk H
            clear H
            have hcz20_0 : w16.cell? ⟨gb360, 0, none⟩ = some (.int .i64 a0_0) := (blk_cell BK360.out 0).trans rfl
            have hcz20_1 : w16.cell? ⟨gb360, 1, none⟩ = some (.slice A0_1 l0_1.length c0_1) := (blk_cell BK360.out 1).trans rfl
            have hfz20_0 := blk_frozen BK360.out 0
            have hfz20_1 := blk_frozen BK360.out 1
            go_wp2_with (first | ((with_reducible refine gate_callee (f := 35) rfl ?_); refine goesL_ (some 34) rfl rfl Try.func35 (by kernel_rfl) rfl #[.agg #[.int .i64 a0_0, .slice A0_1 l0_1.length c0_1], .slice A1 l1.length c1] rfl (by (try simp only [List.map_toArray, List.map_cons, List.map_nil]); first | done | rfl | (simp only [List.length_drop, List.length_take]; rfl)) ?_; (with_reducible refine (prop_Check.calls a0_0 _ _ l0_1 _ _ l1 t368 _ ?side1 ?side2 ?side3 ?side4 A17.out).mono ?_); (case side1 => repeat (first | exact (Kd.C_below HR0_1.out HB.out) | (with_reducible refine Kd.C_alloc ?_ _) | (with_reducible refine Kd.C_drewN ?_ _) | (with_reducible refine Kd.C_drew ?_))); (case side2 => exact HC0_1.out); (case side3 => repeat (first | exact (Kd.C_below HR1.out HB.out) | (with_reducible refine Kd.C_alloc ?_ _) | (with_reducible refine Kd.C_drewN ?_ _) | (with_reducible refine Kd.C_drew ?_))); (case side4 => exact HC1.out); rintro e w21 ⟨rfl, hb⟩; refine ⟨_, rfl, ?_⟩; have n0_ := Aside0.mk (Kd.R_below (by (with_reducible repeat (first | apply Kd.R_alloc | apply Kd.R_drewN | apply Kd.R_drew)); exact HO365.out) hb); have n1_ := Aside0.mk (blk_below (g := gb360) (o := .cells #[.int .i64 a0_0, .slice A0_1 l0_1.length c0_1] 24 (0, 0)) (by (with_reducible repeat (first | refine blk_drewN ?_ _ | refine blk_drew ?_ | refine blk_alloc ?_ _)); exact BK360.out) hb); have n2_ := Aside0.mk (below_step (by repeat (first | (with_reducible first | exact HB.out | apply below_alloc | apply pw_below_drewN | apply below_drew1 | refine below_set ?_ GE360.out) | exact HB.out)) hb); clear HO365; clear BK360; clear HB; have HO365 := n0_; have BK360 := n1_; have HB := n2_; clear n0_ n1_ n2_; (try clear hb); (try clear hb2); (try clear hk); (try clear hi)))
            go_meet
            case rel => exact ⟨_, (true), (by first | rfl | (simp; done) | (simp [*]; done)), H', ⟨by first | omega | exact Nat.le_refl _⟩, ⟨by (with_reducible repeat (first | apply Kd.R_alloc | apply Kd.R_drewN | apply Kd.R_drew)); exact HO365.out⟩, ⟨by (with_reducible repeat (first | refine blk_drewN ?_ _ | refine blk_drew ?_ | refine blk_alloc ?_ _)); exact BK360.out⟩, ⟨by repeat (first | (with_reducible first | exact HB.out | apply below_alloc | apply pw_below_drewN | apply below_drew1 | refine below_set ?_ GE360.out) | exact HB.out)⟩⟩
          · rw [if_neg c19] at H
            have c19b0 : decide (a2 < 0) = false := decide_eq_false c19
            clear c19
            have H' := Aside0.mk H
            clear H
            have hcz22_0 : w16.cell? ⟨gb360, 0, none⟩ = some (.int .i64 a0_0) := (blk_cell BK360.out 0).trans rfl
            have hcz22_1 : w16.cell? ⟨gb360, 1, none⟩ = some (.slice A0_1 l0_1.length c0_1) := (blk_cell BK360.out 1).trans rfl
            have hfz22_0 := blk_frozen BK360.out 0
            have hfz22_1 := blk_frozen BK360.out 1
            go_wp2_with (first | ((with_reducible refine gate_callee (f := 35) rfl ?_); refine goesL_ (some 34) rfl rfl Try.func35 (by kernel_rfl) rfl #[.agg #[.int .i64 a0_0, .slice A0_1 l0_1.length c0_1], .slice A1 l1.length c1] rfl (by (try simp only [List.map_toArray, List.map_cons, List.map_nil]); first | done | rfl | (simp only [List.length_drop, List.length_take]; rfl)) ?_; (with_reducible refine (prop_Check.calls a0_0 _ _ l0_1 _ _ l1 t368 _ ?side1 ?side2 ?side3 ?side4 A17.out).mono ?_); (case side1 => repeat (first | exact (Kd.C_below HR0_1.out HB.out) | (with_reducible refine Kd.C_alloc ?_ _) | (with_reducible refine Kd.C_drewN ?_ _) | (with_reducible refine Kd.C_drew ?_))); (case side2 => exact HC0_1.out); (case side3 => repeat (first | exact (Kd.C_below HR1.out HB.out) | (with_reducible refine Kd.C_alloc ?_ _) | (with_reducible refine Kd.C_drewN ?_ _) | (with_reducible refine Kd.C_drew ?_))); (case side4 => exact HC1.out); rintro e w23 ⟨rfl, hb⟩; refine ⟨_, rfl, ?_⟩; have n0_ := Aside0.mk (Kd.R_below (by (with_reducible repeat (first | apply Kd.R_alloc | apply Kd.R_drewN | apply Kd.R_drew)); exact HO365.out) hb); have n1_ := Aside0.mk (blk_below (g := gb360) (o := .cells #[.int .i64 a0_0, .slice A0_1 l0_1.length c0_1] 24 (0, 0)) (by (with_reducible repeat (first | refine blk_drewN ?_ _ | refine blk_drew ?_ | refine blk_alloc ?_ _)); exact BK360.out) hb); have n2_ := Aside0.mk (below_step (by repeat (first | (with_reducible first | exact HB.out | apply below_alloc | apply pw_below_drewN | apply below_drew1 | refine below_set ?_ GE360.out) | exact HB.out)) hb); clear HO365; clear BK360; clear HB; have HO365 := n0_; have BK360 := n1_; have HB := n2_; clear n0_ n1_ n2_; (try clear hb); (try clear hb2); (try clear hk); (try clear hi); have hcz24_0 : w23.cell? ⟨gb360, 0, none⟩ = some (.int .i64 a0_0) := (blk_cell BK360.out 0).trans rfl; have hcz24_1 : w23.cell? ⟨gb360, 1, none⟩ = some (.slice A0_1 l0_1.length c0_1) := (blk_cell BK360.out 1).trans rfl; have hfz24_0 := blk_frozen BK360.out 0; have hfz24_1 := blk_frozen BK360.out 1))
            go_meet
            case rel => exact ⟨_, (decide (a2 ≥ (l0_1.length : Int))), (by first | rfl | (simp; done) | (simp [*]; done)), H', ⟨by first | omega | exact Nat.le_refl _⟩, ⟨by (with_reducible repeat (first | apply Kd.R_alloc | apply Kd.R_drewN | apply Kd.R_drew)); exact HO365.out⟩, ⟨by (with_reducible repeat (first | refine blk_drewN ?_ _ | refine blk_drew ?_ | refine blk_alloc ?_ _)); exact BK360.out⟩, ⟨by repeat (first | (with_reducible first | exact HB.out | apply below_alloc | apply pw_below_drewN | apply below_drew1 | refine below_set ?_ GE360.out) | exact HB.out)⟩⟩
        · rw [if_neg c18] at H
          have c18b0 : (t368 == 0) = false := beq_eq_false_iff_ne.mpr c18
          have c18b1 : (t368 != 0) = true := bne_iff_ne.mpr c18
          (first | rw [c18b0] | (simp only [i64_w, i32_w]; rw [c18b0]) | skip)
          have H' := Aside0.mk H
          clear H
          have hcz25_0 : w16.cell? ⟨gb360, 0, none⟩ = some (.int .i64 a0_0) := (blk_cell BK360.out 0).trans rfl
          have hcz25_1 : w16.cell? ⟨gb360, 1, none⟩ = some (.slice A0_1 l0_1.length c0_1) := (blk_cell BK360.out 1).trans rfl
          have hfz25_0 := blk_frozen BK360.out 0
          have hfz25_1 := blk_frozen BK360.out 1
          go_wp2_with (first | ((with_reducible refine gate_callee (f := 35) rfl ?_); refine goesL_ (some 34) rfl rfl Try.func35 (by kernel_rfl) rfl #[.agg #[.int .i64 a0_0, .slice A0_1 l0_1.length c0_1], .slice A1 l1.length c1] rfl (by (try simp only [List.map_toArray, List.map_cons, List.map_nil]); first | done | rfl | (simp only [List.length_drop, List.length_take]; rfl)) ?_; (with_reducible refine (prop_Check.calls a0_0 _ _ l0_1 _ _ l1 t368 _ ?side1 ?side2 ?side3 ?side4 A17.out).mono ?_); (case side1 => repeat (first | exact (Kd.C_below HR0_1.out HB.out) | (with_reducible refine Kd.C_alloc ?_ _) | (with_reducible refine Kd.C_drewN ?_ _) | (with_reducible refine Kd.C_drew ?_))); (case side2 => exact HC0_1.out); (case side3 => repeat (first | exact (Kd.C_below HR1.out HB.out) | (with_reducible refine Kd.C_alloc ?_ _) | (with_reducible refine Kd.C_drewN ?_ _) | (with_reducible refine Kd.C_drew ?_))); (case side4 => exact HC1.out); rintro e w26 ⟨rfl, hb⟩; refine ⟨_, rfl, ?_⟩; have n0_ := Aside0.mk (Kd.R_below (by (with_reducible repeat (first | apply Kd.R_alloc | apply Kd.R_drewN | apply Kd.R_drew)); exact HO365.out) hb); have n1_ := Aside0.mk (blk_below (g := gb360) (o := .cells #[.int .i64 a0_0, .slice A0_1 l0_1.length c0_1] 24 (0, 0)) (by (with_reducible repeat (first | refine blk_drewN ?_ _ | refine blk_drew ?_ | refine blk_alloc ?_ _)); exact BK360.out) hb); have n2_ := Aside0.mk (below_step (by repeat (first | (with_reducible first | exact HB.out | apply below_alloc | apply pw_below_drewN | apply below_drew1 | refine below_set ?_ GE360.out) | exact HB.out)) hb); clear HO365; clear BK360; clear HB; have HO365 := n0_; have BK360 := n1_; have HB := n2_; clear n0_ n1_ n2_; (try clear hb); (try clear hb2); (try clear hk); (try clear hi)))
          go_meet
          case rel => exact ⟨_, (true), (by first | rfl | (simp; done) | (simp [*]; done)), H', ⟨by first | omega | exact Nat.le_refl _⟩, ⟨by (with_reducible repeat (first | apply Kd.R_alloc | apply Kd.R_drewN | apply Kd.R_drew)); exact HO365.out⟩, ⟨by (with_reducible repeat (first | refine blk_drewN ?_ _ | refine blk_drew ?_ | refine blk_alloc ?_ _)); exact BK360.out⟩, ⟨by repeat (first | (with_reducible first | exact HB.out | apply below_alloc | apply pw_below_drewN | apply below_drew1 | refine below_set ?_ GE360.out) | exact HB.out)⟩⟩
      case rest =>
        clear HC10
        try clear c1
        try clear c2
        try clear p2
        try clear c3
        try clear c6
        try clear c8
        try clear c18
        try clear c18b0
        try clear c18b1
        try clear c19
        try clear c19b0
        try clear c26
        try clear hcz13_0
        try clear hcz13_1
        try clear hcz15_0
        try clear hcz15_1
        try clear hcz20_0
        try clear hcz20_1
        try clear hcz22_0
        try clear hcz22_1
        try clear hcz24_0
        try clear hcz24_1
        try clear hcz25_0
        try clear hcz25_1
        try clear hfz13_0
        try clear hfz13_1
        try clear hfz15_0
        try clear hfz15_1
        try clear hfz20_0
        try clear hfz20_1
        try clear hfz22_0
        try clear hfz22_1
        try clear hfz24_0
        try clear hfz24_1
        try clear hfz25_0
        try clear hfz25_1
        obtain ⟨kq, x46_9, rfl, HA, HJ9, HO_9, BK360, HB⟩ := hcut
        cases kq with
        | zero => exact absurd HA.out (by simp [chalklinelaw20_LearnErrors.j0])
        | succ kj9 =>
          have H := HA.out
          clear HA
          simp only [chalklinelaw20_LearnErrors.j0] at H
          by_cases c27 : x46_9 = true
          · subst c27
            have H1 : (if t367 = 0 then (some false) else (if (t363.length : Int) = 0 then (some (t366 == 0)) else (some false))) = some r := by rw [if_pos rfl] at H; exact H
            clear H
            have H := H1
            clear H1
            by_cases c28 : t367 = 0
            · rw [if_pos c28] at H
              have c28b0 : (t367 == 0) = true := beq_iff_eq.mpr c28
              have c28b1 : (t367 != 0) = false := bne_eq_false_iff_eq.mpr c28
              clear c28
              obtain rfl := Option.some.inj H
              go_wp2
              go_ret
              exact ⟨by first | rfl | (simp [errW_none, errW_some] <;> rfl) | (simp [*, errW_none, errW_some] <;> rfl), by repeat (first | (with_reducible first | exact HB.out | apply below_alloc | apply pw_below_drewN | apply below_drew1 | refine below_set ?_ GE360.out) | exact HB.out)⟩
            · rw [if_neg c28] at H
              have c28b0 : (t367 == 0) = false := beq_eq_false_iff_ne.mpr c28
              have c28b1 : (t367 != 0) = true := bne_iff_ne.mpr c28
              by_cases c29 : (t363.length : Int) = 0
              · rw [if_pos c29] at H
                have c29b0 : ((t363.length : Int) == 0) = true := beq_iff_eq.mpr c29
                have c29b1 : ((t363.length : Int) != 0) = false := bne_eq_false_iff_eq.mpr c29
                clear c29
                obtain rfl := Option.some.inj H
                obtain ⟨Ao30, co30, eo30⟩ := Kd.R_slice HO_9.out
                subst eo30
                go_wp2
                go_ret
                exact ⟨by first | rfl | (simp [errW_none, errW_some] <;> rfl) | (simp [*, errW_none, errW_some] <;> rfl), by repeat (first | (with_reducible first | exact HB.out | apply below_alloc | apply pw_below_drewN | apply below_drew1 | refine below_set ?_ GE360.out) | exact HB.out)⟩
              · rw [if_neg c29] at H
                have c29b0 : ((t363.length : Int) == 0) = false := beq_eq_false_iff_ne.mpr c29
                have c29b1 : ((t363.length : Int) != 0) = true := bne_iff_ne.mpr c29
                have c29b2 : ¬ (t363 = []) := fun h_ => c29 (by rw [h_]; rfl)
                obtain rfl := Option.some.inj H
                obtain ⟨Ao31, co31, eo31⟩ := Kd.R_slice HO_9.out
                subst eo31
                go_wp2
                go_ret
                exact ⟨by first | rfl | (simp [errW_none, errW_some] <;> rfl) | (simp [*, errW_none, errW_some] <;> rfl), by repeat (first | (with_reducible first | exact HB.out | apply below_alloc | apply pw_below_drewN | apply below_drew1 | refine below_set ?_ GE360.out) | exact HB.out)⟩
          · replace c27 := Bool.eq_false_iff.mpr c27
            subst c27
            have H1 : (chalklinelaw20_LearnErrors.l0 kj9 l1 a2 a3 t367 true 0 a0_0 l0_1) = some r := by rw [if_neg (show ¬ (false = true) by decide)] at H; exact H
            clear H
            have H := H1
            clear H1
            have H' := Aside0.mk H
            clear H
            go_wp2
            go_loopg [12, 13] kj9 (fun kq v12 v13 w' => ∃ (x12_2 : Bool) (x13_2 : Int), v12 = .bool x12_2 ∧ v13 = .int .i64 x13_2 ∧ Aside0 (chalklinelaw20_LearnErrors.l0 kq l1 a2 a3 t367 x12_2 x13_2 a0_0 l0_1 = some r) ∧ Aside0 (kq ≤ kj9) ∧ Aside0 (w'.heap[gb360]? = some (.cells #[.int .i64 a0_0, (.slice A0_1 l0_1.length c0_1)] 24 (0, 0))) ∧ Aside0 (Below w.heap.size w w'))
            case atStart => exact ⟨(true), (0), (by first | rfl | (simp; done) | (simp [*]; done)), (by first | rfl | (simp; done) | (simp [*]; done)), H', ⟨Nat.le_refl _⟩, ⟨by (with_reducible repeat (first | refine blk_drewN ?_ _ | refine blk_drew ?_ | refine blk_alloc ?_ _)); exact BK360.out⟩, ⟨by repeat (first | (with_reducible first | exact HB.out | apply below_alloc | apply pw_below_drewN | apply below_drew1 | refine below_set ?_ GE360.out) | exact HB.out)⟩⟩
            case round =>
              clear H'
              try clear c1
              try clear c2
              try clear p2
              try clear c3
              try clear c6
              try clear c8
              try clear c18
              try clear c18b0
              try clear c18b1
              try clear c19
              try clear c19b0
              try clear c26
              try clear c27
              try clear c28
              try clear c28b0
              try clear c28b1
              try clear c29
              try clear c29b0
              try clear c29b1
              try clear c29b2
              try clear hcz13_0
              try clear hcz13_1
              try clear hcz15_0
              try clear hcz15_1
              try clear hcz20_0
              try clear hcz20_1
              try clear hcz22_0
              try clear hcz22_1
              try clear hcz24_0
              try clear hcz24_1
              try clear hcz25_0
              try clear hcz25_1
              try clear hfz13_0
              try clear hfz13_1
              try clear hfz15_0
              try clear hfz15_1
              try clear hfz20_0
              try clear hfz20_1
              try clear hfz22_0
              try clear hfz22_1
              try clear hfz24_0
              try clear hfz24_1
              try clear hfz25_0
              try clear hfz25_1
              try clear p2
              obtain ⟨x12_2, x13_2, rfl, rfl, HA, HK2, BK360, HB⟩ := hrel
              cases gk with
              | zero => exact absurd HA.out (by simp [chalklinelaw20_LearnErrors.l0])
              | succ k2 =>
                have H := HA.out
                clear HA
                simp only [chalklinelaw20_LearnErrors.l0] at H
                by_cases c32 : 0 ≤ a2
                · rw [if_pos c32] at H
                  have c32b0 : decide (0 ≤ a2) = true := decide_eq_true c32
                  clear c32
                  by_cases c33 : a2 < (l0_1.length : Int)
                  · rw [if_pos c33] at H
                    have c33b0 : decide (a2 < (l0_1.length : Int)) = true := decide_eq_true c33
                    clear c33
                    by_cases c34 : x13_2 < ((rd_L1 l0_1 a2).length : Int)
                    · rw [if_pos c34] at H
                      have c34b0 : decide (x13_2 < ((rd_L1 l0_1 a2).length : Int)) = true := decide_eq_true c34
                      clear c34
                      by_cases c35 : x12_2 = true
                      · subst c35
                        have H1 : (if 0 ≤ x13_2 then ((chalklinelaw20_level.f k2 l1 (rd (rd_L1 l0_1 a2) x13_2)).bind fun t372 => (chalklinelaw20_LearnErrors.l0 k2 l1 a2 a3 t367 (decide (t372 ≥ 0)) (wrap64 (x13_2 + 1)) a0_0 l0_1)) else (none)) = some r := by rw [if_pos rfl] at H; exact H
                        clear H
                        have H := H1
                        clear H1
                        by_cases c36 : 0 ≤ x13_2
                        · rw [if_pos c36] at H
                          have c36b0 : decide (0 ≤ x13_2) = true := decide_eq_true c36
                          clear c36
                          replace H := Option.bind_eq_some_iff.mp H
                          obtain ⟨t372, A370, H⟩ := H
                          replace H : (chalklinelaw20_LearnErrors.l0 k2 l1 a2 a3 t367 (decide (t372 ≥ 0)) (wrap64 (x13_2 + 1)) a0_0 l0_1) = some r := H
                          have A37 := Aside0.mk A370
                          clear A370
                          have H' := Aside0.mk H
                          clear H
                          have hcz38_0 : wr.cell? ⟨gb360, 0, none⟩ = some (.int .i64 a0_0) := (blk_cell BK360.out 0).trans rfl
                          have hcz38_1 : wr.cell? ⟨gb360, 1, none⟩ = some (.slice A0_1 l0_1.length c0_1) := (blk_cell BK360.out 1).trans rfl
                          have hfz38_0 := blk_frozen BK360.out 0
                          have hfz38_1 := blk_frozen BK360.out 1
                          have p369 : 0 ≤ (a2 : Int) := of_decide_eq_true (by first | (with_reducible assumption) | assumption)
                          have q369 : a2 < (l0_1.length : Int) := of_decide_eq_true (by first | (with_reducible assumption) | assumption)
                          obtain ⟨ad369, A369_0, c369_0, e369, hx369_0, hl369_0, hi369_0⟩ := at_L1 HR0_1.out a2 p369 q369
                          cases e369
                          replace hx369_0 := (HB.out.cell (World.block_lt_of_cell? w _ hx369_0)).trans hx369_0
                          have HR369_0 := Aside0.mk hi369_0
                          have HC369_0 := Aside0.mk hl369_0
                          clear hi369_0 hl369_0
                          replace p369 := eq_true p369
                          replace q369 := eq_true q369
                          have p370 : 0 ≤ (a2 : Int) := of_decide_eq_true (by first | (with_reducible assumption) | assumption)
                          have q370 : a2 < (l0_1.length : Int) := of_decide_eq_true (by first | (with_reducible assumption) | assumption)
                          obtain ⟨ad370, A370_0, c370_0, e370, hx370_0, hl370_0, hi370_0⟩ := at_L1 HR0_1.out a2 p370 q370
                          obtain rfl : ad369 = ad370 := (by injection e370)
                          replace hx370_0 := (HB.out.cell (World.block_lt_of_cell? w _ hx370_0)).trans hx370_0
                          have HR370_0 := Aside0.mk hi370_0
                          have HC370_0 := Aside0.mk hl370_0
                          clear hi370_0 hl370_0
                          replace p370 := eq_true p370
                          replace q370 := eq_true q370
                          have ea_ := Option.some.inj (hx369_0.symm.trans hx370_0)
                          injection ea_ with ea_ en_ ec_
                          subst ea_
                          subst ec_
                          clear en_
                          have p371 : 0 ≤ (x13_2 : Int) := of_decide_eq_true (by first | (with_reducible assumption) | assumption)
                          have q371 : x13_2 < ((rd_L1 l0_1 a2).length : Int) := of_decide_eq_true (by first | (with_reducible assumption) | assumption)
                          obtain ⟨ad371, e371, hx371_0⟩ := Kd.at_int HR370_0.out x13_2 p371 q371
                          cases e371
                          replace hx371_0 := (HB.out.cell (World.block_lt_of_cell? w _ hx371_0)).trans hx371_0
                          replace p371 := eq_true p371
                          replace q371 := eq_true q371
                          go_wp2_with (first | (go_at_call 34; (with_reducible refine (chalklinelaw20_level.calls k2 _ _ l1 (rd (rd_L1 l0_1 a2) x13_2) t372 _ ?side1 ?side2 A37.out).mono ?_); (case side1 => repeat (first | exact (Kd.C_below HR1.out HB.out) | (with_reducible refine Kd.C_alloc ?_ _) | (with_reducible refine Kd.C_drewN ?_ _) | (with_reducible refine Kd.C_drew ?_))); (case side2 => exact HC1.out); rintro e w39 ⟨rfl, hb⟩; have n0_ := Aside0.mk (blk_below (g := gb360) (o := .cells #[.int .i64 a0_0, .slice (some ad369) l0_1.length c0_1] 24 (0, 0)) (by (with_reducible repeat (first | refine blk_drewN ?_ _ | refine blk_drew ?_ | refine blk_alloc ?_ _)); exact BK360.out) hb); have n1_ := Aside0.mk (below_step (by repeat (first | (with_reducible first | exact HB.out | apply below_alloc | apply pw_below_drewN | apply below_drew1 | refine below_set ?_ GE360.out) | exact HB.out)) hb); clear BK360; clear HB; have BK360 := n0_; have HB := n1_; clear n0_ n1_; (try clear hb); (try clear hb2); (try clear hk); (try clear hi)))
                          go_roundg k2
                          case measure => have := HJ9.out; have := HK2.out; omega
                          case rel => exact ⟨(decide (t372 ≥ 0)), (wrap64 (x13_2 + 1)), (by first | rfl | (simp; done) | (simp [*]; done)), (by first | rfl | (simp; done) | (simp [*]; done)), H', ⟨by have := HJ9.out; have := HK2.out; omega⟩, ⟨by (with_reducible repeat (first | refine blk_drewN ?_ _ | refine blk_drew ?_ | refine blk_alloc ?_ _)); exact BK360.out⟩, ⟨by repeat (first | (with_reducible first | exact HB.out | apply below_alloc | apply pw_below_drewN | apply below_drew1 | refine below_set ?_ GE360.out) | exact HB.out)⟩⟩
                        · rw [if_neg c36] at H
                          exact absurd H (by simp)
                      · replace c35 := Bool.eq_false_iff.mpr c35
                        subst c35
                        have H1 : (chalklinelaw20_LearnErrors.l0 k2 l1 a2 a3 t367 false (wrap64 (x13_2 + 1)) a0_0 l0_1) = some r := by rw [if_neg (show ¬ (false = true) by decide)] at H; exact H
                        clear H
                        have H := H1
                        clear H1
                        have H' := Aside0.mk H
                        clear H
                        have hcz40_0 : wr.cell? ⟨gb360, 0, none⟩ = some (.int .i64 a0_0) := (blk_cell BK360.out 0).trans rfl
                        have hcz40_1 : wr.cell? ⟨gb360, 1, none⟩ = some (.slice A0_1 l0_1.length c0_1) := (blk_cell BK360.out 1).trans rfl
                        have hfz40_0 := blk_frozen BK360.out 0
                        have hfz40_1 := blk_frozen BK360.out 1
                        have p369 : 0 ≤ (a2 : Int) := of_decide_eq_true (by first | (with_reducible assumption) | assumption)
                        have q369 : a2 < (l0_1.length : Int) := of_decide_eq_true (by first | (with_reducible assumption) | assumption)
                        obtain ⟨ad369, A369_0, c369_0, e369, hx369_0, hl369_0, hi369_0⟩ := at_L1 HR0_1.out a2 p369 q369
                        cases e369
                        replace hx369_0 := (HB.out.cell (World.block_lt_of_cell? w _ hx369_0)).trans hx369_0
                        have HR369_0 := Aside0.mk hi369_0
                        have HC369_0 := Aside0.mk hl369_0
                        clear hi369_0 hl369_0
                        replace p369 := eq_true p369
                        replace q369 := eq_true q369
                        go_wp2
                        go_roundg k2
                        case measure => have := HJ9.out; have := HK2.out; omega
                        case rel => exact ⟨(false), (wrap64 (x13_2 + 1)), (by first | rfl | (simp; done) | (simp [*]; done)), (by first | rfl | (simp; done) | (simp [*]; done)), H', ⟨by have := HJ9.out; have := HK2.out; omega⟩, ⟨by (with_reducible repeat (first | refine blk_drewN ?_ _ | refine blk_drew ?_ | refine blk_alloc ?_ _)); exact BK360.out⟩, ⟨by repeat (first | (with_reducible first | exact HB.out | apply below_alloc | apply pw_below_drewN | apply below_drew1 | refine below_set ?_ GE360.out) | exact HB.out)⟩⟩
                    · rw [if_neg c34] at H
                      have c34b0 : decide (x13_2 < ((rd_L1 l0_1 a2).length : Int)) = false := decide_eq_false c34
                      clear c34
                      by_cases c41 : x12_2 = true
                      · subst c41
                        have H1 : ((some (([] : List (S41)) : List (S41))).bind fun y373 => (if y373.length + l1.length < 8796093022208 then ((some (y373 ++ l1 : List (S41))).bind fun y376 => (if y376.length < 8796093022208 then ((some (y376 ++ [(⟨a3, (-1)⟩ : S41)] : List (S41))).bind fun y379 => ((learn_First.f a0_0 l0_1 y379 a2).bind fun bt382 => (if t367 = 0 then ((prop_Check.f a0_0 l0_1 y379).bind fun t387 => (if t387 = 0 then (some (bt382.2.2 == 200)) else (some true))) else (if t367 = 200 then ((prop_Check.f a0_0 l0_1 y379).bind fun t388 => (if t388 = 0 then (some (bt382.2.2 == 200)) else (some true))) else (some false))))) else (none))) else (none))) = some r := by rw [if_pos rfl] at H; exact H
                        clear H
                        have H := H1
                        clear H1
                        obtain ⟨y373, hy373⟩ : ∃ y_ : List (S41), y_ = (([] : List (S41))) := ⟨_, rfl⟩
                        replace H : (if y373.length + l1.length < 8796093022208 then ((some (y373 ++ l1 : List (S41))).bind fun y376 => (if y376.length < 8796093022208 then ((some (y376 ++ [(⟨a3, (-1)⟩ : S41)] : List (S41))).bind fun y379 => ((learn_First.f a0_0 l0_1 y379 a2).bind fun bt382 => (if t367 = 0 then ((prop_Check.f a0_0 l0_1 y379).bind fun t387 => (if t387 = 0 then (some (bt382.2.2 == 200)) else (some true))) else (if t367 = 200 then ((prop_Check.f a0_0 l0_1 y379).bind fun t388 => (if t388 = 0 then (some (bt382.2.2 == 200)) else (some true))) else (some false))))) else (none))) else (none)) = some r := by first | (rw [hy373]; with_reducible exact H) | (have H2_ := (Option.bind_some _ _).symm.trans H; rw [hy373]; with_reducible exact H2_) | (have H2_ := (Option.bind_some _ _).symm.trans H; with_reducible exact H2_) | with_reducible exact H | (rw [hy373]; exact H) | exact H
                        have Ny373 := Aside0.mk hy373
                        clear hy373
                        by_cases c42 : y373.length + l1.length < 8796093022208
                        · rw [if_pos c42] at H
                          have LMc42 := Aside0.mk c42
                          clear c42
                          obtain ⟨y376, hy376⟩ : ∃ y_ : List (S41), y_ = (y373 ++ l1) := ⟨_, rfl⟩
                          replace H : (if y376.length < 8796093022208 then ((some (y376 ++ [(⟨a3, (-1)⟩ : S41)] : List (S41))).bind fun y379 => ((learn_First.f a0_0 l0_1 y379 a2).bind fun bt382 => (if t367 = 0 then ((prop_Check.f a0_0 l0_1 y379).bind fun t387 => (if t387 = 0 then (some (bt382.2.2 == 200)) else (some true))) else (if t367 = 200 then ((prop_Check.f a0_0 l0_1 y379).bind fun t388 => (if t388 = 0 then (some (bt382.2.2 == 200)) else (some true))) else (some false))))) else (none)) = some r := by first | (rw [hy376]; with_reducible exact H) | (have H2_ := (Option.bind_some _ _).symm.trans H; rw [hy376]; with_reducible exact H2_) | (have H2_ := (Option.bind_some _ _).symm.trans H; with_reducible exact H2_) | with_reducible exact H | (rw [hy376]; exact H) | exact H
                          have Ny376 := Aside0.mk hy376
                          clear hy376
                          by_cases c43 : y376.length < 8796093022208
                          · rw [if_pos c43] at H
                            have LMc43 := Aside0.mk c43
                            clear c43
                            obtain ⟨y379, hy379⟩ : ∃ y_ : List (S41), y_ = (y376 ++ [(⟨a3, (-1)⟩ : S41)]) := ⟨_, rfl⟩
                            replace H : ((learn_First.f a0_0 l0_1 y379 a2).bind fun bt382 => (if t367 = 0 then ((prop_Check.f a0_0 l0_1 y379).bind fun t387 => (if t387 = 0 then (some (bt382.2.2 == 200)) else (some true))) else (if t367 = 200 then ((prop_Check.f a0_0 l0_1 y379).bind fun t388 => (if t388 = 0 then (some (bt382.2.2 == 200)) else (some true))) else (some false)))) = some r := by first | (rw [hy379]; with_reducible exact H) | (have H2_ := (Option.bind_some _ _).symm.trans H; rw [hy379]; with_reducible exact H2_) | (have H2_ := (Option.bind_some _ _).symm.trans H; with_reducible exact H2_) | with_reducible exact H | (rw [hy379]; exact H) | exact H
                            have Ny379 := Aside0.mk hy379
                            clear hy379
                            replace H := Option.bind_eq_some_iff.mp H
                            obtain ⟨⟨t382, t385, t386⟩, A440, H⟩ := H
                            replace H : (if t367 = 0 then ((prop_Check.f a0_0 l0_1 y379).bind fun t387 => (if t387 = 0 then (some (t386 == 200)) else (some true))) else (if t367 = 200 then ((prop_Check.f a0_0 l0_1 y379).bind fun t388 => (if t388 = 0 then (some (t386 == 200)) else (some true))) else (some false))) = some r := H
                            have A44 := Aside0.mk A440
                            clear A440
                            by_cases c45 : t367 = 0
                            · rw [if_pos c45] at H
                              have c45b0 : (t367 == 0) = true := beq_iff_eq.mpr c45
                              have c45b1 : (t367 != 0) = false := bne_eq_false_iff_eq.mpr c45
                              clear c45
                              replace H := Option.bind_eq_some_iff.mp H
                              obtain ⟨t387, A460, H⟩ := H
                              replace H : (if t387 = 0 then (some (t386 == 200)) else (some true)) = some r := H
                              have A46 := Aside0.mk A460
                              clear A460
                              by_cases c47 : t387 = 0
                              · rw [if_pos c47] at H
                                have c47b0 : (t387 == 0) = true := beq_iff_eq.mpr c47
                                have c47b1 : (t387 != 0) = false := bne_eq_false_iff_eq.mpr c47
                                clear c47
                                obtain rfl := Option.some.inj H
                                have hcz48_0 : wr.cell? ⟨gb360, 0, none⟩ = some (.int .i64 a0_0) := (blk_cell BK360.out 0).trans rfl
                                have hcz48_1 : wr.cell? ⟨gb360, 1, none⟩ = some (.slice A0_1 l0_1.length c0_1) := (blk_cell BK360.out 1).trans rfl
                                have hfz48_0 := blk_frozen BK360.out 0
                                have hfz48_1 := blk_frozen BK360.out 1
                                have p369 : 0 ≤ (a2 : Int) := of_decide_eq_true (by first | (with_reducible assumption) | assumption)
                                have q369 : a2 < (l0_1.length : Int) := of_decide_eq_true (by first | (with_reducible assumption) | assumption)
                                obtain ⟨ad369, A369_0, c369_0, e369, hx369_0, hl369_0, hi369_0⟩ := at_L1 HR0_1.out a2 p369 q369
                                cases e369
                                replace hx369_0 := (HB.out.cell (World.block_lt_of_cell? w _ hx369_0)).trans hx369_0
                                have HR369_0 := Aside0.mk hi369_0
                                have HC369_0 := Aside0.mk hl369_0
                                clear hi369_0 hl369_0
                                replace p369 := eq_true p369
                                replace q369 := eq_true q369
                                go_wp2_with (first | ((with_reducible refine gate_dst (N := 86) rfl ?_); refine Kd.R_lit k41 _ 41 ?hg (N := 86) ?hd (xs := ([] : List (S41))) (inner := []) (ok := fun _ => True) (okp := fun _ => True) ?hr ?hp (fun _ hk => hk) trivial (Below.refl _ _) (Nat.le_refl _) (by simp) ?_; (case hd => rfl); (case hg => rfl); (case hr => first | (go_simp; done) | (go_simp; rfl)); (case hp => exact (Reps.none _ _)); intro v374 w49 ho50 hb hg_ hnew_; clear hg_ hnew_; (first | rw [← Ny373.out] at ho50 | (simp only [Int.reduceToNat] at ho50; rw [← Ny373.out] at ho50)); have n0_ := Aside0.mk (Kd.R_lower ho50 (below_size (by repeat (first | (with_reducible first | exact HB.out | apply below_alloc | apply pw_below_drewN | apply below_drew1 | refine below_set ?_ GE360.out) | exact HB.out)))); have n1_ := Aside0.mk (blk_below (g := gb360) (o := .cells #[.int .i64 a0_0, .slice (some ad369) l0_1.length c0_1] 24 (0, 0)) (by (with_reducible repeat (first | refine blk_drewN ?_ _ | refine blk_drew ?_ | refine blk_alloc ?_ _)); exact BK360.out) hb); have n2_ := Aside0.mk (below_step (by repeat (first | (with_reducible first | exact HB.out | apply below_alloc | apply pw_below_drewN | apply below_drew1 | refine below_set ?_ GE360.out) | exact HB.out)) hb); clear BK360; clear HB; have HO375 := n0_; have BK360 := n1_; have HB := n2_; clear n0_ n1_ n2_; clear hb ho50) | ((with_reducible refine gate_builtin (b := .append) (xs := #[.tmp 86, .tmp 87]) rfl ?_); at_builtin; refine Kd.R_append_rows k41 (w0 := w) w.heap.size rfl (.tmp 86) (.tmp 87) 25 41 (.agg #[(.int .i64 0), (.int .i64 0)]) 16 rfl Try.underlying25 info41 rfl (by decide) (by omega) v374 y373 l1 _ _ _ (fun _ => True) (fun _ => False) rfl rfl ?aO ?aR (fun _ _ h => h) (fun _ h => h.elim) ?aF ?aB ?aS ?aL ?_; (case aR => repeat (first | exact (Kd.C_below HR1.out HB.out) | (with_reducible refine Kd.C_alloc ?_ _) | (with_reducible refine Kd.C_drewN ?_ _) | (with_reducible refine Kd.C_drew ?_))); (case aB => exact (by repeat (first | (with_reducible first | exact HB.out | apply below_alloc | apply pw_below_drewN | apply below_drew1 | refine below_set ?_ GE360.out) | exact HB.out))); (case aF => exact (fun _ _ => trivial)); (case aO => exact (by (with_reducible repeat (first | apply Kd.R_alloc | apply Kd.R_drewN | apply Kd.R_drew)); exact HO375.out)); (case aS => exact (below_size (by repeat (first | (with_reducible first | exact HB.out | apply below_alloc | apply pw_below_drewN | apply below_drew1 | refine below_set ?_ GE360.out) | exact HB.out)))); (case aL => have := LMc42.out; omega); intro v377 w51 ho hb hg hat; rw [← Ny376.out] at ho; have n0_ := Aside0.mk (blk_grown (g := gb360) (o := .cells #[.int .i64 a0_0, .slice (some ad369) l0_1.length c0_1] 24 (0, 0)) (by (with_reducible repeat (first | refine blk_drewN ?_ _ | refine blk_drew ?_ | refine blk_alloc ?_ _)); exact BK360.out) hg (Kd.R_ne HO375.out BK360.out (by decide))); have n1_ := Aside0.mk (hb); have n2_ := Aside0.mk (ho); clear BK360; clear HB; clear HO375; have BK360 := n0_; have HB := n1_; have HO378 := n2_; clear n0_ n1_ n2_; clear ho hb hg hat) | ((with_reducible refine gate_builtin (b := .append) (xs := #[.tmp 88, .tmp 91]) rfl ?_); at_builtin; refine Kd.R_append k41 (w0 := w) w.heap.size rfl (.tmp 88) (.tmp 91) 25 41 (.agg #[(.int .i64 0), (.int .i64 0)]) 16 rfl Try.underlying25 info41 rfl (by decide) (by omega) v377 y376 (⟨a3, (-1)⟩ : S41) [.int .i64 a3, .int .i64 (-1)] (fun _ => True) (fun _ => False) rfl rfl ?aP (fun _ hk => hk.elim) ?aF ?aO ?aB ?aS ?aL ?_; (case aP => exact k41_mkM _ _ _ (⟨a3, (-1)⟩ : S41)); (case aB => exact (by repeat (first | (with_reducible first | exact HB.out | apply below_alloc | apply pw_below_drewN | apply below_drew1 | refine below_set ?_ GE360.out) | exact HB.out))); (case aF => exact (fun _ _ => trivial)); (case aO => exact (by (with_reducible repeat (first | apply Kd.R_alloc | apply Kd.R_drewN | apply Kd.R_drew)); exact HO378.out)); (case aS => exact (below_size (by repeat (first | (with_reducible first | exact HB.out | apply below_alloc | apply pw_below_drewN | apply below_drew1 | refine below_set ?_ GE360.out) | exact HB.out)))); (case aL => have := LMc43.out; omega); intro v380 w52 ho hb hg hat; rw [← Ny379.out] at ho; have n0_ := Aside0.mk (blk_grown (g := gb360) (o := .cells #[.int .i64 a0_0, .slice (some ad369) l0_1.length c0_1] 24 (0, 0)) (by (with_reducible repeat (first | refine blk_drewN ?_ _ | refine blk_drew ?_ | refine blk_alloc ?_ _)); exact BK360.out) hg (Kd.R_ne HO378.out BK360.out (by decide))); have n1_ := Aside0.mk (hb); have n2_ := Aside0.mk (ho); clear BK360; clear HB; clear HO378; have BK360 := n0_; have HB := n1_; have HO381 := n2_; clear n0_ n1_ n2_; clear ho hb hg hat; have hcz53_0 : w52.cell? ⟨gb360, 0, none⟩ = some (.int .i64 a0_0) := (blk_cell BK360.out 0).trans rfl; have hcz53_1 : w52.cell? ⟨gb360, 1, none⟩ = some (.slice (some ad369) l0_1.length c0_1) := (blk_cell BK360.out 1).trans rfl; have hfz53_0 := blk_frozen BK360.out 0; have hfz53_1 := blk_frozen BK360.out 1; obtain ⟨Ao54, co54, eo54⟩ := Kd.R_slice HO381.out; subst eo54) | ((with_reducible refine gate_callee (f := 28) rfl ?_); refine goesL_ (some 97) rfl rfl Try.func28 (by kernel_rfl) rfl #[.agg #[.int .i64 a0_0, .slice (some ad369) l0_1.length c0_1], .slice Ao54 y379.length co54, .int .i64 a2] rfl (by (try simp only [List.map_toArray, List.map_cons, List.map_nil]); first | done | rfl | (simp only [List.length_drop, List.length_take]; rfl)) ?_; (with_reducible refine (learn_First.calls a0_0 _ _ l0_1 _ _ y379 a2 t382 t385 t386 _ ?side1 ?side2 ?side3 ?side4 A44.out).mono ?_); (case side1 => repeat (first | exact (Kd.C_below HR0_1.out HB.out) | (with_reducible refine Kd.C_alloc ?_ _) | (with_reducible refine Kd.C_drewN ?_ _) | (with_reducible refine Kd.C_drew ?_))); (case side2 => exact HC0_1.out); (case side3 => repeat (first | exact (Kd.R_reads' HO381.out).2.2 | (with_reducible refine Kd.C_alloc ?_ _) | (with_reducible refine Kd.C_drewN ?_ _) | (with_reducible refine Kd.C_drew ?_))); (case side4 => exact (Kd.R_reads' HO381.out).2.1); rintro e w55 ⟨v383, rfl, ho0, hb⟩; refine ⟨_, rfl, ?_⟩; have n0_ := Aside0.mk (Kd.R_below (by (with_reducible repeat (first | apply Kd.R_alloc | apply Kd.R_drewN | apply Kd.R_drew)); exact HO381.out) hb); have n1_ := Aside0.mk (Kd.R_lower ho0 (below_size (by repeat (first | (with_reducible first | exact HB.out | apply below_alloc | apply pw_below_drewN | apply below_drew1 | refine below_set ?_ GE360.out) | exact HB.out)))); have n2_ := Aside0.mk (blk_below (g := gb360) (o := .cells #[.int .i64 a0_0, .slice (some ad369) l0_1.length c0_1] 24 (0, 0)) (by (with_reducible repeat (first | refine blk_drewN ?_ _ | refine blk_drew ?_ | refine blk_alloc ?_ _)); exact BK360.out) hb); have n3_ := Aside0.mk (below_step (by repeat (first | (with_reducible first | exact HB.out | apply below_alloc | apply pw_below_drewN | apply below_drew1 | refine below_set ?_ GE360.out) | exact HB.out)) hb); clear HO381; clear BK360; clear HB; have HO381 := n0_; have HO384 := n1_; have BK360 := n2_; have HB := n3_; clear n0_ n1_ n2_ n3_; (try clear hb); (try clear hb2); (try clear hk); (try clear hi); (try clear ho0); have hcz56_0 : w55.cell? ⟨gb360, 0, none⟩ = some (.int .i64 a0_0) := (blk_cell BK360.out 0).trans rfl; have hcz56_1 : w55.cell? ⟨gb360, 1, none⟩ = some (.slice (some ad369) l0_1.length c0_1) := (blk_cell BK360.out 1).trans rfl; have hfz56_0 := blk_frozen BK360.out 0; have hfz56_1 := blk_frozen BK360.out 1) | (go_at_call 35; (with_reducible refine (prop_Check.calls a0_0 _ _ l0_1 _ _ y379 t387 _ ?side1 ?side2 ?side3 ?side4 A46.out).mono ?_); (case side1 => repeat (first | exact (Kd.C_below HR0_1.out HB.out) | (with_reducible refine Kd.C_alloc ?_ _) | (with_reducible refine Kd.C_drewN ?_ _) | (with_reducible refine Kd.C_drew ?_))); (case side2 => exact HC0_1.out); (case side3 => repeat (first | exact (Kd.R_reads' HO381.out).2.2 | (with_reducible refine Kd.C_alloc ?_ _) | (with_reducible refine Kd.C_drewN ?_ _) | (with_reducible refine Kd.C_drew ?_))); (case side4 => exact (Kd.R_reads' HO381.out).2.1); rintro e w57 ⟨rfl, hb⟩; have n0_ := Aside0.mk (Kd.R_below (by (with_reducible repeat (first | apply Kd.R_alloc | apply Kd.R_drewN | apply Kd.R_drew)); exact HO381.out) hb); have n1_ := Aside0.mk (Kd.R_below (by (with_reducible repeat (first | apply Kd.R_alloc | apply Kd.R_drewN | apply Kd.R_drew)); exact HO384.out) hb); have n2_ := Aside0.mk (blk_below (g := gb360) (o := .cells #[.int .i64 a0_0, .slice (some ad369) l0_1.length c0_1] 24 (0, 0)) (by (with_reducible repeat (first | refine blk_drewN ?_ _ | refine blk_drew ?_ | refine blk_alloc ?_ _)); exact BK360.out) hb); have n3_ := Aside0.mk (below_step (by repeat (first | (with_reducible first | exact HB.out | apply below_alloc | apply pw_below_drewN | apply below_drew1 | refine below_set ?_ GE360.out) | exact HB.out)) hb); clear HO381; clear HO384; clear BK360; clear HB; have HO381 := n0_; have HO384 := n1_; have BK360 := n2_; have HB := n3_; clear n0_ n1_ n2_ n3_; (try clear hb); (try clear hb2); (try clear hk); (try clear hi)))
                                go_ret
                                exact ⟨by first | rfl | (simp [errW_none, errW_some] <;> rfl) | (simp [*, errW_none, errW_some] <;> rfl), by repeat (first | (with_reducible first | exact HB.out | apply below_alloc | apply pw_below_drewN | apply below_drew1 | refine below_set ?_ GE360.out) | exact HB.out)⟩
                              · rw [if_neg c47] at H
                                have c47b0 : (t387 == 0) = false := beq_eq_false_iff_ne.mpr c47
                                have c47b1 : (t387 != 0) = true := bne_iff_ne.mpr c47
                                obtain rfl := Option.some.inj H
                                have hcz58_0 : wr.cell? ⟨gb360, 0, none⟩ = some (.int .i64 a0_0) := (blk_cell BK360.out 0).trans rfl
                                have hcz58_1 : wr.cell? ⟨gb360, 1, none⟩ = some (.slice A0_1 l0_1.length c0_1) := (blk_cell BK360.out 1).trans rfl
                                have hfz58_0 := blk_frozen BK360.out 0
                                have hfz58_1 := blk_frozen BK360.out 1
                                have p369 : 0 ≤ (a2 : Int) := of_decide_eq_true (by first | (with_reducible assumption) | assumption)
                                have q369 : a2 < (l0_1.length : Int) := of_decide_eq_true (by first | (with_reducible assumption) | assumption)
                                obtain ⟨ad369, A369_0, c369_0, e369, hx369_0, hl369_0, hi369_0⟩ := at_L1 HR0_1.out a2 p369 q369
                                cases e369
                                replace hx369_0 := (HB.out.cell (World.block_lt_of_cell? w _ hx369_0)).trans hx369_0
                                have HR369_0 := Aside0.mk hi369_0
                                have HC369_0 := Aside0.mk hl369_0
                                clear hi369_0 hl369_0
                                replace p369 := eq_true p369
                                replace q369 := eq_true q369
                                go_wp2_with (first | ((with_reducible refine gate_dst (N := 86) rfl ?_); refine Kd.R_lit k41 _ 41 ?hg (N := 86) ?hd (xs := ([] : List (S41))) (inner := []) (ok := fun _ => True) (okp := fun _ => True) ?hr ?hp (fun _ hk => hk) trivial (Below.refl _ _) (Nat.le_refl _) (by simp) ?_; (case hd => rfl); (case hg => rfl); (case hr => first | (go_simp; done) | (go_simp; rfl)); (case hp => exact (Reps.none _ _)); intro v374 w59 ho60 hb hg_ hnew_; clear hg_ hnew_; (first | rw [← Ny373.out] at ho60 | (simp only [Int.reduceToNat] at ho60; rw [← Ny373.out] at ho60)); have n0_ := Aside0.mk (Kd.R_lower ho60 (below_size (by repeat (first | (with_reducible first | exact HB.out | apply below_alloc | apply pw_below_drewN | apply below_drew1 | refine below_set ?_ GE360.out) | exact HB.out)))); have n1_ := Aside0.mk (blk_below (g := gb360) (o := .cells #[.int .i64 a0_0, .slice (some ad369) l0_1.length c0_1] 24 (0, 0)) (by (with_reducible repeat (first | refine blk_drewN ?_ _ | refine blk_drew ?_ | refine blk_alloc ?_ _)); exact BK360.out) hb); have n2_ := Aside0.mk (below_step (by repeat (first | (with_reducible first | exact HB.out | apply below_alloc | apply pw_below_drewN | apply below_drew1 | refine below_set ?_ GE360.out) | exact HB.out)) hb); clear BK360; clear HB; have HO375 := n0_; have BK360 := n1_; have HB := n2_; clear n0_ n1_ n2_; clear hb ho60) | ((with_reducible refine gate_builtin (b := .append) (xs := #[.tmp 86, .tmp 87]) rfl ?_); at_builtin; refine Kd.R_append_rows k41 (w0 := w) w.heap.size rfl (.tmp 86) (.tmp 87) 25 41 (.agg #[(.int .i64 0), (.int .i64 0)]) 16 rfl Try.underlying25 info41 rfl (by decide) (by omega) v374 y373 l1 _ _ _ (fun _ => True) (fun _ => False) rfl rfl ?aO ?aR (fun _ _ h => h) (fun _ h => h.elim) ?aF ?aB ?aS ?aL ?_; (case aR => repeat (first | exact (Kd.C_below HR1.out HB.out) | (with_reducible refine Kd.C_alloc ?_ _) | (with_reducible refine Kd.C_drewN ?_ _) | (with_reducible refine Kd.C_drew ?_))); (case aB => exact (by repeat (first | (with_reducible first | exact HB.out | apply below_alloc | apply pw_below_drewN | apply below_drew1 | refine below_set ?_ GE360.out) | exact HB.out))); (case aF => exact (fun _ _ => trivial)); (case aO => exact (by (with_reducible repeat (first | apply Kd.R_alloc | apply Kd.R_drewN | apply Kd.R_drew)); exact HO375.out)); (case aS => exact (below_size (by repeat (first | (with_reducible first | exact HB.out | apply below_alloc | apply pw_below_drewN | apply below_drew1 | refine below_set ?_ GE360.out) | exact HB.out)))); (case aL => have := LMc42.out; omega); intro v377 w61 ho hb hg hat; rw [← Ny376.out] at ho; have n0_ := Aside0.mk (blk_grown (g := gb360) (o := .cells #[.int .i64 a0_0, .slice (some ad369) l0_1.length c0_1] 24 (0, 0)) (by (with_reducible repeat (first | refine blk_drewN ?_ _ | refine blk_drew ?_ | refine blk_alloc ?_ _)); exact BK360.out) hg (Kd.R_ne HO375.out BK360.out (by decide))); have n1_ := Aside0.mk (hb); have n2_ := Aside0.mk (ho); clear BK360; clear HB; clear HO375; have BK360 := n0_; have HB := n1_; have HO378 := n2_; clear n0_ n1_ n2_; clear ho hb hg hat) | ((with_reducible refine gate_builtin (b := .append) (xs := #[.tmp 88, .tmp 91]) rfl ?_); at_builtin; refine Kd.R_append k41 (w0 := w) w.heap.size rfl (.tmp 88) (.tmp 91) 25 41 (.agg #[(.int .i64 0), (.int .i64 0)]) 16 rfl Try.underlying25 info41 rfl (by decide) (by omega) v377 y376 (⟨a3, (-1)⟩ : S41) [.int .i64 a3, .int .i64 (-1)] (fun _ => True) (fun _ => False) rfl rfl ?aP (fun _ hk => hk.elim) ?aF ?aO ?aB ?aS ?aL ?_; (case aP => exact k41_mkM _ _ _ (⟨a3, (-1)⟩ : S41)); (case aB => exact (by repeat (first | (with_reducible first | exact HB.out | apply below_alloc | apply pw_below_drewN | apply below_drew1 | refine below_set ?_ GE360.out) | exact HB.out))); (case aF => exact (fun _ _ => trivial)); (case aO => exact (by (with_reducible repeat (first | apply Kd.R_alloc | apply Kd.R_drewN | apply Kd.R_drew)); exact HO378.out)); (case aS => exact (below_size (by repeat (first | (with_reducible first | exact HB.out | apply below_alloc | apply pw_below_drewN | apply below_drew1 | refine below_set ?_ GE360.out) | exact HB.out)))); (case aL => have := LMc43.out; omega); intro v380 w62 ho hb hg hat; rw [← Ny379.out] at ho; have n0_ := Aside0.mk (blk_grown (g := gb360) (o := .cells #[.int .i64 a0_0, .slice (some ad369) l0_1.length c0_1] 24 (0, 0)) (by (with_reducible repeat (first | refine blk_drewN ?_ _ | refine blk_drew ?_ | refine blk_alloc ?_ _)); exact BK360.out) hg (Kd.R_ne HO378.out BK360.out (by decide))); have n1_ := Aside0.mk (hb); have n2_ := Aside0.mk (ho); clear BK360; clear HB; clear HO378; have BK360 := n0_; have HB := n1_; have HO381 := n2_; clear n0_ n1_ n2_; clear ho hb hg hat; have hcz63_0 : w62.cell? ⟨gb360, 0, none⟩ = some (.int .i64 a0_0) := (blk_cell BK360.out 0).trans rfl; have hcz63_1 : w62.cell? ⟨gb360, 1, none⟩ = some (.slice (some ad369) l0_1.length c0_1) := (blk_cell BK360.out 1).trans rfl; have hfz63_0 := blk_frozen BK360.out 0; have hfz63_1 := blk_frozen BK360.out 1; obtain ⟨Ao64, co64, eo64⟩ := Kd.R_slice HO381.out; subst eo64) | ((with_reducible refine gate_callee (f := 28) rfl ?_); refine goesL_ (some 97) rfl rfl Try.func28 (by kernel_rfl) rfl #[.agg #[.int .i64 a0_0, .slice (some ad369) l0_1.length c0_1], .slice Ao64 y379.length co64, .int .i64 a2] rfl (by (try simp only [List.map_toArray, List.map_cons, List.map_nil]); first | done | rfl | (simp only [List.length_drop, List.length_take]; rfl)) ?_; (with_reducible refine (learn_First.calls a0_0 _ _ l0_1 _ _ y379 a2 t382 t385 t386 _ ?side1 ?side2 ?side3 ?side4 A44.out).mono ?_); (case side1 => repeat (first | exact (Kd.C_below HR0_1.out HB.out) | (with_reducible refine Kd.C_alloc ?_ _) | (with_reducible refine Kd.C_drewN ?_ _) | (with_reducible refine Kd.C_drew ?_))); (case side2 => exact HC0_1.out); (case side3 => repeat (first | exact (Kd.R_reads' HO381.out).2.2 | (with_reducible refine Kd.C_alloc ?_ _) | (with_reducible refine Kd.C_drewN ?_ _) | (with_reducible refine Kd.C_drew ?_))); (case side4 => exact (Kd.R_reads' HO381.out).2.1); rintro e w65 ⟨v383, rfl, ho0, hb⟩; refine ⟨_, rfl, ?_⟩; have n0_ := Aside0.mk (Kd.R_below (by (with_reducible repeat (first | apply Kd.R_alloc | apply Kd.R_drewN | apply Kd.R_drew)); exact HO381.out) hb); have n1_ := Aside0.mk (Kd.R_lower ho0 (below_size (by repeat (first | (with_reducible first | exact HB.out | apply below_alloc | apply pw_below_drewN | apply below_drew1 | refine below_set ?_ GE360.out) | exact HB.out)))); have n2_ := Aside0.mk (blk_below (g := gb360) (o := .cells #[.int .i64 a0_0, .slice (some ad369) l0_1.length c0_1] 24 (0, 0)) (by (with_reducible repeat (first | refine blk_drewN ?_ _ | refine blk_drew ?_ | refine blk_alloc ?_ _)); exact BK360.out) hb); have n3_ := Aside0.mk (below_step (by repeat (first | (with_reducible first | exact HB.out | apply below_alloc | apply pw_below_drewN | apply below_drew1 | refine below_set ?_ GE360.out) | exact HB.out)) hb); clear HO381; clear BK360; clear HB; have HO381 := n0_; have HO384 := n1_; have BK360 := n2_; have HB := n3_; clear n0_ n1_ n2_ n3_; (try clear hb); (try clear hb2); (try clear hk); (try clear hi); (try clear ho0); have hcz66_0 : w65.cell? ⟨gb360, 0, none⟩ = some (.int .i64 a0_0) := (blk_cell BK360.out 0).trans rfl; have hcz66_1 : w65.cell? ⟨gb360, 1, none⟩ = some (.slice (some ad369) l0_1.length c0_1) := (blk_cell BK360.out 1).trans rfl; have hfz66_0 := blk_frozen BK360.out 0; have hfz66_1 := blk_frozen BK360.out 1) | (go_at_call 35; (with_reducible refine (prop_Check.calls a0_0 _ _ l0_1 _ _ y379 t387 _ ?side1 ?side2 ?side3 ?side4 A46.out).mono ?_); (case side1 => repeat (first | exact (Kd.C_below HR0_1.out HB.out) | (with_reducible refine Kd.C_alloc ?_ _) | (with_reducible refine Kd.C_drewN ?_ _) | (with_reducible refine Kd.C_drew ?_))); (case side2 => exact HC0_1.out); (case side3 => repeat (first | exact (Kd.R_reads' HO381.out).2.2 | (with_reducible refine Kd.C_alloc ?_ _) | (with_reducible refine Kd.C_drewN ?_ _) | (with_reducible refine Kd.C_drew ?_))); (case side4 => exact (Kd.R_reads' HO381.out).2.1); rintro e w67 ⟨rfl, hb⟩; have n0_ := Aside0.mk (Kd.R_below (by (with_reducible repeat (first | apply Kd.R_alloc | apply Kd.R_drewN | apply Kd.R_drew)); exact HO381.out) hb); have n1_ := Aside0.mk (Kd.R_below (by (with_reducible repeat (first | apply Kd.R_alloc | apply Kd.R_drewN | apply Kd.R_drew)); exact HO384.out) hb); have n2_ := Aside0.mk (blk_below (g := gb360) (o := .cells #[.int .i64 a0_0, .slice (some ad369) l0_1.length c0_1] 24 (0, 0)) (by (with_reducible repeat (first | refine blk_drewN ?_ _ | refine blk_drew ?_ | refine blk_alloc ?_ _)); exact BK360.out) hb); have n3_ := Aside0.mk (below_step (by repeat (first | (with_reducible first | exact HB.out | apply below_alloc | apply pw_below_drewN | apply below_drew1 | refine below_set ?_ GE360.out) | exact HB.out)) hb); clear HO381; clear HO384; clear BK360; clear HB; have HO381 := n0_; have HO384 := n1_; have BK360 := n2_; have HB := n3_; clear n0_ n1_ n2_ n3_; (try clear hb); (try clear hb2); (try clear hk); (try clear hi)))
                                go_ret
                                exact ⟨by first | rfl | (simp [errW_none, errW_some] <;> rfl) | (simp [*, errW_none, errW_some] <;> rfl), by repeat (first | (with_reducible first | exact HB.out | apply below_alloc | apply pw_below_drewN | apply below_drew1 | refine below_set ?_ GE360.out) | exact HB.out)⟩
                            · rw [if_neg c45] at H
                              have c45b0 : (t367 == 0) = false := beq_eq_false_iff_ne.mpr c45
                              have c45b1 : (t367 != 0) = true := bne_iff_ne.mpr c45
                              by_cases c68 : t367 = 200
                              · rw [if_pos c68] at H
                                have c68b0 : (t367 == 200) = true := beq_iff_eq.mpr c68
                                have c68b1 : (t367 != 200) = false := bne_eq_false_iff_eq.mpr c68
                                clear c68
                                replace H := Option.bind_eq_some_iff.mp H
                                obtain ⟨t388, A690, H⟩ := H
                                replace H : (if t388 = 0 then (some (t386 == 200)) else (some true)) = some r := H
                                have A69 := Aside0.mk A690
                                clear A690
                                by_cases c70 : t388 = 0
                                · rw [if_pos c70] at H
                                  have c70b0 : (t388 == 0) = true := beq_iff_eq.mpr c70
                                  have c70b1 : (t388 != 0) = false := bne_eq_false_iff_eq.mpr c70
                                  clear c70
                                  obtain rfl := Option.some.inj H
                                  have hcz71_0 : wr.cell? ⟨gb360, 0, none⟩ = some (.int .i64 a0_0) := (blk_cell BK360.out 0).trans rfl
                                  have hcz71_1 : wr.cell? ⟨gb360, 1, none⟩ = some (.slice A0_1 l0_1.length c0_1) := (blk_cell BK360.out 1).trans rfl
                                  have hfz71_0 := blk_frozen BK360.out 0
                                  have hfz71_1 := blk_frozen BK360.out 1
                                  have p369 : 0 ≤ (a2 : Int) := of_decide_eq_true (by first | (with_reducible assumption) | assumption)
                                  have q369 : a2 < (l0_1.length : Int) := of_decide_eq_true (by first | (with_reducible assumption) | assumption)
                                  obtain ⟨ad369, A369_0, c369_0, e369, hx369_0, hl369_0, hi369_0⟩ := at_L1 HR0_1.out a2 p369 q369
                                  cases e369
                                  replace hx369_0 := (HB.out.cell (World.block_lt_of_cell? w _ hx369_0)).trans hx369_0
                                  have HR369_0 := Aside0.mk hi369_0
                                  have HC369_0 := Aside0.mk hl369_0
                                  clear hi369_0 hl369_0
                                  replace p369 := eq_true p369
                                  replace q369 := eq_true q369
                                  go_wp2_with (first | ((with_reducible refine gate_dst (N := 86) rfl ?_); refine Kd.R_lit k41 _ 41 ?hg (N := 86) ?hd (xs := ([] : List (S41))) (inner := []) (ok := fun _ => True) (okp := fun _ => True) ?hr ?hp (fun _ hk => hk) trivial (Below.refl _ _) (Nat.le_refl _) (by simp) ?_; (case hd => rfl); (case hg => rfl); (case hr => first | (go_simp; done) | (go_simp; rfl)); (case hp => exact (Reps.none _ _)); intro v374 w72 ho73 hb hg_ hnew_; clear hg_ hnew_; (first | rw [← Ny373.out] at ho73 | (simp only [Int.reduceToNat] at ho73; rw [← Ny373.out] at ho73)); have n0_ := Aside0.mk (Kd.R_lower ho73 (below_size (by repeat (first | (with_reducible first | exact HB.out | apply below_alloc | apply pw_below_drewN | apply below_drew1 | refine below_set ?_ GE360.out) | exact HB.out)))); have n1_ := Aside0.mk (blk_below (g := gb360) (o := .cells #[.int .i64 a0_0, .slice (some ad369) l0_1.length c0_1] 24 (0, 0)) (by (with_reducible repeat (first | refine blk_drewN ?_ _ | refine blk_drew ?_ | refine blk_alloc ?_ _)); exact BK360.out) hb); have n2_ := Aside0.mk (below_step (by repeat (first | (with_reducible first | exact HB.out | apply below_alloc | apply pw_below_drewN | apply below_drew1 | refine below_set ?_ GE360.out) | exact HB.out)) hb); clear BK360; clear HB; have HO375 := n0_; have BK360 := n1_; have HB := n2_; clear n0_ n1_ n2_; clear hb ho73) | ((with_reducible refine gate_builtin (b := .append) (xs := #[.tmp 86, .tmp 87]) rfl ?_); at_builtin; refine Kd.R_append_rows k41 (w0 := w) w.heap.size rfl (.tmp 86) (.tmp 87) 25 41 (.agg #[(.int .i64 0), (.int .i64 0)]) 16 rfl Try.underlying25 info41 rfl (by decide) (by omega) v374 y373 l1 _ _ _ (fun _ => True) (fun _ => False) rfl rfl ?aO ?aR (fun _ _ h => h) (fun _ h => h.elim) ?aF ?aB ?aS ?aL ?_; (case aR => repeat (first | exact (Kd.C_below HR1.out HB.out) | (with_reducible refine Kd.C_alloc ?_ _) | (with_reducible refine Kd.C_drewN ?_ _) | (with_reducible refine Kd.C_drew ?_))); (case aB => exact (by repeat (first | (with_reducible first | exact HB.out | apply below_alloc | apply pw_below_drewN | apply below_drew1 | refine below_set ?_ GE360.out) | exact HB.out))); (case aF => exact (fun _ _ => trivial)); (case aO => exact (by (with_reducible repeat (first | apply Kd.R_alloc | apply Kd.R_drewN | apply Kd.R_drew)); exact HO375.out)); (case aS => exact (below_size (by repeat (first | (with_reducible first | exact HB.out | apply below_alloc | apply pw_below_drewN | apply below_drew1 | refine below_set ?_ GE360.out) | exact HB.out)))); (case aL => have := LMc42.out; omega); intro v377 w74 ho hb hg hat; rw [← Ny376.out] at ho; have n0_ := Aside0.mk (blk_grown (g := gb360) (o := .cells #[.int .i64 a0_0, .slice (some ad369) l0_1.length c0_1] 24 (0, 0)) (by (with_reducible repeat (first | refine blk_drewN ?_ _ | refine blk_drew ?_ | refine blk_alloc ?_ _)); exact BK360.out) hg (Kd.R_ne HO375.out BK360.out (by decide))); have n1_ := Aside0.mk (hb); have n2_ := Aside0.mk (ho); clear BK360; clear HB; clear HO375; have BK360 := n0_; have HB := n1_; have HO378 := n2_; clear n0_ n1_ n2_; clear ho hb hg hat) | ((with_reducible refine gate_builtin (b := .append) (xs := #[.tmp 88, .tmp 91]) rfl ?_); at_builtin; refine Kd.R_append k41 (w0 := w) w.heap.size rfl (.tmp 88) (.tmp 91) 25 41 (.agg #[(.int .i64 0), (.int .i64 0)]) 16 rfl Try.underlying25 info41 rfl (by decide) (by omega) v377 y376 (⟨a3, (-1)⟩ : S41) [.int .i64 a3, .int .i64 (-1)] (fun _ => True) (fun _ => False) rfl rfl ?aP (fun _ hk => hk.elim) ?aF ?aO ?aB ?aS ?aL ?_; (case aP => exact k41_mkM _ _ _ (⟨a3, (-1)⟩ : S41)); (case aB => exact (by repeat (first | (with_reducible first | exact HB.out | apply below_alloc | apply pw_below_drewN | apply below_drew1 | refine below_set ?_ GE360.out) | exact HB.out))); (case aF => exact (fun _ _ => trivial)); (case aO => exact (by (with_reducible repeat (first | apply Kd.R_alloc | apply Kd.R_drewN | apply Kd.R_drew)); exact HO378.out)); (case aS => exact (below_size (by repeat (first | (with_reducible first | exact HB.out | apply below_alloc | apply pw_below_drewN | apply below_drew1 | refine below_set ?_ GE360.out) | exact HB.out)))); (case aL => have := LMc43.out; omega); intro v380 w75 ho hb hg hat; rw [← Ny379.out] at ho; have n0_ := Aside0.mk (blk_grown (g := gb360) (o := .cells #[.int .i64 a0_0, .slice (some ad369) l0_1.length c0_1] 24 (0, 0)) (by (with_reducible repeat (first | refine blk_drewN ?_ _ | refine blk_drew ?_ | refine blk_alloc ?_ _)); exact BK360.out) hg (Kd.R_ne HO378.out BK360.out (by decide))); have n1_ := Aside0.mk (hb); have n2_ := Aside0.mk (ho); clear BK360; clear HB; clear HO378; have BK360 := n0_; have HB := n1_; have HO381 := n2_; clear n0_ n1_ n2_; clear ho hb hg hat; have hcz76_0 : w75.cell? ⟨gb360, 0, none⟩ = some (.int .i64 a0_0) := (blk_cell BK360.out 0).trans rfl; have hcz76_1 : w75.cell? ⟨gb360, 1, none⟩ = some (.slice (some ad369) l0_1.length c0_1) := (blk_cell BK360.out 1).trans rfl; have hfz76_0 := blk_frozen BK360.out 0; have hfz76_1 := blk_frozen BK360.out 1; obtain ⟨Ao77, co77, eo77⟩ := Kd.R_slice HO381.out; subst eo77) | ((with_reducible refine gate_callee (f := 28) rfl ?_); refine goesL_ (some 97) rfl rfl Try.func28 (by kernel_rfl) rfl #[.agg #[.int .i64 a0_0, .slice (some ad369) l0_1.length c0_1], .slice Ao77 y379.length co77, .int .i64 a2] rfl (by (try simp only [List.map_toArray, List.map_cons, List.map_nil]); first | done | rfl | (simp only [List.length_drop, List.length_take]; rfl)) ?_; (with_reducible refine (learn_First.calls a0_0 _ _ l0_1 _ _ y379 a2 t382 t385 t386 _ ?side1 ?side2 ?side3 ?side4 A44.out).mono ?_); (case side1 => repeat (first | exact (Kd.C_below HR0_1.out HB.out) | (with_reducible refine Kd.C_alloc ?_ _) | (with_reducible refine Kd.C_drewN ?_ _) | (with_reducible refine Kd.C_drew ?_))); (case side2 => exact HC0_1.out); (case side3 => repeat (first | exact (Kd.R_reads' HO381.out).2.2 | (with_reducible refine Kd.C_alloc ?_ _) | (with_reducible refine Kd.C_drewN ?_ _) | (with_reducible refine Kd.C_drew ?_))); (case side4 => exact (Kd.R_reads' HO381.out).2.1); rintro e w78 ⟨v383, rfl, ho0, hb⟩; refine ⟨_, rfl, ?_⟩; have n0_ := Aside0.mk (Kd.R_below (by (with_reducible repeat (first | apply Kd.R_alloc | apply Kd.R_drewN | apply Kd.R_drew)); exact HO381.out) hb); have n1_ := Aside0.mk (Kd.R_lower ho0 (below_size (by repeat (first | (with_reducible first | exact HB.out | apply below_alloc | apply pw_below_drewN | apply below_drew1 | refine below_set ?_ GE360.out) | exact HB.out)))); have n2_ := Aside0.mk (blk_below (g := gb360) (o := .cells #[.int .i64 a0_0, .slice (some ad369) l0_1.length c0_1] 24 (0, 0)) (by (with_reducible repeat (first | refine blk_drewN ?_ _ | refine blk_drew ?_ | refine blk_alloc ?_ _)); exact BK360.out) hb); have n3_ := Aside0.mk (below_step (by repeat (first | (with_reducible first | exact HB.out | apply below_alloc | apply pw_below_drewN | apply below_drew1 | refine below_set ?_ GE360.out) | exact HB.out)) hb); clear HO381; clear BK360; clear HB; have HO381 := n0_; have HO384 := n1_; have BK360 := n2_; have HB := n3_; clear n0_ n1_ n2_ n3_; (try clear hb); (try clear hb2); (try clear hk); (try clear hi); (try clear ho0); have hcz79_0 : w78.cell? ⟨gb360, 0, none⟩ = some (.int .i64 a0_0) := (blk_cell BK360.out 0).trans rfl; have hcz79_1 : w78.cell? ⟨gb360, 1, none⟩ = some (.slice (some ad369) l0_1.length c0_1) := (blk_cell BK360.out 1).trans rfl; have hfz79_0 := blk_frozen BK360.out 0; have hfz79_1 := blk_frozen BK360.out 1) | (go_at_call 35; (with_reducible refine (prop_Check.calls a0_0 _ _ l0_1 _ _ y379 t388 _ ?side1 ?side2 ?side3 ?side4 A69.out).mono ?_); (case side1 => repeat (first | exact (Kd.C_below HR0_1.out HB.out) | (with_reducible refine Kd.C_alloc ?_ _) | (with_reducible refine Kd.C_drewN ?_ _) | (with_reducible refine Kd.C_drew ?_))); (case side2 => exact HC0_1.out); (case side3 => repeat (first | exact (Kd.R_reads' HO381.out).2.2 | (with_reducible refine Kd.C_alloc ?_ _) | (with_reducible refine Kd.C_drewN ?_ _) | (with_reducible refine Kd.C_drew ?_))); (case side4 => exact (Kd.R_reads' HO381.out).2.1); rintro e w80 ⟨rfl, hb⟩; have n0_ := Aside0.mk (Kd.R_below (by (with_reducible repeat (first | apply Kd.R_alloc | apply Kd.R_drewN | apply Kd.R_drew)); exact HO381.out) hb); have n1_ := Aside0.mk (Kd.R_below (by (with_reducible repeat (first | apply Kd.R_alloc | apply Kd.R_drewN | apply Kd.R_drew)); exact HO384.out) hb); have n2_ := Aside0.mk (blk_below (g := gb360) (o := .cells #[.int .i64 a0_0, .slice (some ad369) l0_1.length c0_1] 24 (0, 0)) (by (with_reducible repeat (first | refine blk_drewN ?_ _ | refine blk_drew ?_ | refine blk_alloc ?_ _)); exact BK360.out) hb); have n3_ := Aside0.mk (below_step (by repeat (first | (with_reducible first | exact HB.out | apply below_alloc | apply pw_below_drewN | apply below_drew1 | refine below_set ?_ GE360.out) | exact HB.out)) hb); clear HO381; clear HO384; clear BK360; clear HB; have HO381 := n0_; have HO384 := n1_; have BK360 := n2_; have HB := n3_; clear n0_ n1_ n2_ n3_; (try clear hb); (try clear hb2); (try clear hk); (try clear hi)))
                                  go_ret
                                  exact ⟨by first | rfl | (simp [errW_none, errW_some] <;> rfl) | (simp [*, errW_none, errW_some] <;> rfl), by repeat (first | (with_reducible first | exact HB.out | apply below_alloc | apply pw_below_drewN | apply below_drew1 | refine below_set ?_ GE360.out) | exact HB.out)⟩
                                · rw [if_neg c70] at H
                                  have c70b0 : (t388 == 0) = false := beq_eq_false_iff_ne.mpr c70
                                  have c70b1 : (t388 != 0) = true := bne_iff_ne.mpr c70
                                  obtain rfl := Option.some.inj H
                                  have hcz81_0 : wr.cell? ⟨gb360, 0, none⟩ = some (.int .i64 a0_0) := (blk_cell BK360.out 0).trans rfl
                                  have hcz81_1 : wr.cell? ⟨gb360, 1, none⟩ = some (.slice A0_1 l0_1.length c0_1) := (blk_cell BK360.out 1).trans rfl
                                  have hfz81_0 := blk_frozen BK360.out 0
                                  have hfz81_1 := blk_frozen BK360.out 1
                                  have p369 : 0 ≤ (a2 : Int) := of_decide_eq_true (by first | (with_reducible assumption) | assumption)
                                  have q369 : a2 < (l0_1.length : Int) := of_decide_eq_true (by first | (with_reducible assumption) | assumption)
                                  obtain ⟨ad369, A369_0, c369_0, e369, hx369_0, hl369_0, hi369_0⟩ := at_L1 HR0_1.out a2 p369 q369
                                  cases e369
                                  replace hx369_0 := (HB.out.cell (World.block_lt_of_cell? w _ hx369_0)).trans hx369_0
                                  have HR369_0 := Aside0.mk hi369_0
                                  have HC369_0 := Aside0.mk hl369_0
                                  clear hi369_0 hl369_0
                                  replace p369 := eq_true p369
                                  replace q369 := eq_true q369
                                  go_wp2_with (first | ((with_reducible refine gate_dst (N := 86) rfl ?_); refine Kd.R_lit k41 _ 41 ?hg (N := 86) ?hd (xs := ([] : List (S41))) (inner := []) (ok := fun _ => True) (okp := fun _ => True) ?hr ?hp (fun _ hk => hk) trivial (Below.refl _ _) (Nat.le_refl _) (by simp) ?_; (case hd => rfl); (case hg => rfl); (case hr => first | (go_simp; done) | (go_simp; rfl)); (case hp => exact (Reps.none _ _)); intro v374 w82 ho83 hb hg_ hnew_; clear hg_ hnew_; (first | rw [← Ny373.out] at ho83 | (simp only [Int.reduceToNat] at ho83; rw [← Ny373.out] at ho83)); have n0_ := Aside0.mk (Kd.R_lower ho83 (below_size (by repeat (first | (with_reducible first | exact HB.out | apply below_alloc | apply pw_below_drewN | apply below_drew1 | refine below_set ?_ GE360.out) | exact HB.out)))); have n1_ := Aside0.mk (blk_below (g := gb360) (o := .cells #[.int .i64 a0_0, .slice (some ad369) l0_1.length c0_1] 24 (0, 0)) (by (with_reducible repeat (first | refine blk_drewN ?_ _ | refine blk_drew ?_ | refine blk_alloc ?_ _)); exact BK360.out) hb); have n2_ := Aside0.mk (below_step (by repeat (first | (with_reducible first | exact HB.out | apply below_alloc | apply pw_below_drewN | apply below_drew1 | refine below_set ?_ GE360.out) | exact HB.out)) hb); clear BK360; clear HB; have HO375 := n0_; have BK360 := n1_; have HB := n2_; clear n0_ n1_ n2_; clear hb ho83) | ((with_reducible refine gate_builtin (b := .append) (xs := #[.tmp 86, .tmp 87]) rfl ?_); at_builtin; refine Kd.R_append_rows k41 (w0 := w) w.heap.size rfl (.tmp 86) (.tmp 87) 25 41 (.agg #[(.int .i64 0), (.int .i64 0)]) 16 rfl Try.underlying25 info41 rfl (by decide) (by omega) v374 y373 l1 _ _ _ (fun _ => True) (fun _ => False) rfl rfl ?aO ?aR (fun _ _ h => h) (fun _ h => h.elim) ?aF ?aB ?aS ?aL ?_; (case aR => repeat (first | exact (Kd.C_below HR1.out HB.out) | (with_reducible refine Kd.C_alloc ?_ _) | (with_reducible refine Kd.C_drewN ?_ _) | (with_reducible refine Kd.C_drew ?_))); (case aB => exact (by repeat (first | (with_reducible first | exact HB.out | apply below_alloc | apply pw_below_drewN | apply below_drew1 | refine below_set ?_ GE360.out) | exact HB.out))); (case aF => exact (fun _ _ => trivial)); (case aO => exact (by (with_reducible repeat (first | apply Kd.R_alloc | apply Kd.R_drewN | apply Kd.R_drew)); exact HO375.out)); (case aS => exact (below_size (by repeat (first | (with_reducible first | exact HB.out | apply below_alloc | apply pw_below_drewN | apply below_drew1 | refine below_set ?_ GE360.out) | exact HB.out)))); (case aL => have := LMc42.out; omega); intro v377 w84 ho hb hg hat; rw [← Ny376.out] at ho; have n0_ := Aside0.mk (blk_grown (g := gb360) (o := .cells #[.int .i64 a0_0, .slice (some ad369) l0_1.length c0_1] 24 (0, 0)) (by (with_reducible repeat (first | refine blk_drewN ?_ _ | refine blk_drew ?_ | refine blk_alloc ?_ _)); exact BK360.out) hg (Kd.R_ne HO375.out BK360.out (by decide))); have n1_ := Aside0.mk (hb); have n2_ := Aside0.mk (ho); clear BK360; clear HB; clear HO375; have BK360 := n0_; have HB := n1_; have HO378 := n2_; clear n0_ n1_ n2_; clear ho hb hg hat) | ((with_reducible refine gate_builtin (b := .append) (xs := #[.tmp 88, .tmp 91]) rfl ?_); at_builtin; refine Kd.R_append k41 (w0 := w) w.heap.size rfl (.tmp 88) (.tmp 91) 25 41 (.agg #[(.int .i64 0), (.int .i64 0)]) 16 rfl Try.underlying25 info41 rfl (by decide) (by omega) v377 y376 (⟨a3, (-1)⟩ : S41) [.int .i64 a3, .int .i64 (-1)] (fun _ => True) (fun _ => False) rfl rfl ?aP (fun _ hk => hk.elim) ?aF ?aO ?aB ?aS ?aL ?_; (case aP => exact k41_mkM _ _ _ (⟨a3, (-1)⟩ : S41)); (case aB => exact (by repeat (first | (with_reducible first | exact HB.out | apply below_alloc | apply pw_below_drewN | apply below_drew1 | refine below_set ?_ GE360.out) | exact HB.out))); (case aF => exact (fun _ _ => trivial)); (case aO => exact (by (with_reducible repeat (first | apply Kd.R_alloc | apply Kd.R_drewN | apply Kd.R_drew)); exact HO378.out)); (case aS => exact (below_size (by repeat (first | (with_reducible first | exact HB.out | apply below_alloc | apply pw_below_drewN | apply below_drew1 | refine below_set ?_ GE360.out) | exact HB.out)))); (case aL => have := LMc43.out; omega); intro v380 w85 ho hb hg hat; rw [← Ny379.out] at ho; have n0_ := Aside0.mk (blk_grown (g := gb360) (o := .cells #[.int .i64 a0_0, .slice (some ad369) l0_1.length c0_1] 24 (0, 0)) (by (with_reducible repeat (first | refine blk_drewN ?_ _ | refine blk_drew ?_ | refine blk_alloc ?_ _)); exact BK360.out) hg (Kd.R_ne HO378.out BK360.out (by decide))); have n1_ := Aside0.mk (hb); have n2_ := Aside0.mk (ho); clear BK360; clear HB; clear HO378; have BK360 := n0_; have HB := n1_; have HO381 := n2_; clear n0_ n1_ n2_; clear ho hb hg hat; have hcz86_0 : w85.cell? ⟨gb360, 0, none⟩ = some (.int .i64 a0_0) := (blk_cell BK360.out 0).trans rfl; have hcz86_1 : w85.cell? ⟨gb360, 1, none⟩ = some (.slice (some ad369) l0_1.length c0_1) := (blk_cell BK360.out 1).trans rfl; have hfz86_0 := blk_frozen BK360.out 0; have hfz86_1 := blk_frozen BK360.out 1; obtain ⟨Ao87, co87, eo87⟩ := Kd.R_slice HO381.out; subst eo87) | ((with_reducible refine gate_callee (f := 28) rfl ?_); refine goesL_ (some 97) rfl rfl Try.func28 (by kernel_rfl) rfl #[.agg #[.int .i64 a0_0, .slice (some ad369) l0_1.length c0_1], .slice Ao87 y379.length co87, .int .i64 a2] rfl (by (try simp only [List.map_toArray, List.map_cons, List.map_nil]); first | done | rfl | (simp only [List.length_drop, List.length_take]; rfl)) ?_; (with_reducible refine (learn_First.calls a0_0 _ _ l0_1 _ _ y379 a2 t382 t385 t386 _ ?side1 ?side2 ?side3 ?side4 A44.out).mono ?_); (case side1 => repeat (first | exact (Kd.C_below HR0_1.out HB.out) | (with_reducible refine Kd.C_alloc ?_ _) | (with_reducible refine Kd.C_drewN ?_ _) | (with_reducible refine Kd.C_drew ?_))); (case side2 => exact HC0_1.out); (case side3 => repeat (first | exact (Kd.R_reads' HO381.out).2.2 | (with_reducible refine Kd.C_alloc ?_ _) | (with_reducible refine Kd.C_drewN ?_ _) | (with_reducible refine Kd.C_drew ?_))); (case side4 => exact (Kd.R_reads' HO381.out).2.1); rintro e w88 ⟨v383, rfl, ho0, hb⟩; refine ⟨_, rfl, ?_⟩; have n0_ := Aside0.mk (Kd.R_below (by (with_reducible repeat (first | apply Kd.R_alloc | apply Kd.R_drewN | apply Kd.R_drew)); exact HO381.out) hb); have n1_ := Aside0.mk (Kd.R_lower ho0 (below_size (by repeat (first | (with_reducible first | exact HB.out | apply below_alloc | apply pw_below_drewN | apply below_drew1 | refine below_set ?_ GE360.out) | exact HB.out)))); have n2_ := Aside0.mk (blk_below (g := gb360) (o := .cells #[.int .i64 a0_0, .slice (some ad369) l0_1.length c0_1] 24 (0, 0)) (by (with_reducible repeat (first | refine blk_drewN ?_ _ | refine blk_drew ?_ | refine blk_alloc ?_ _)); exact BK360.out) hb); have n3_ := Aside0.mk (below_step (by repeat (first | (with_reducible first | exact HB.out | apply below_alloc | apply pw_below_drewN | apply below_drew1 | refine below_set ?_ GE360.out) | exact HB.out)) hb); clear HO381; clear BK360; clear HB; have HO381 := n0_; have HO384 := n1_; have BK360 := n2_; have HB := n3_; clear n0_ n1_ n2_ n3_; (try clear hb); (try clear hb2); (try clear hk); (try clear hi); (try clear ho0); have hcz89_0 : w88.cell? ⟨gb360, 0, none⟩ = some (.int .i64 a0_0) := (blk_cell BK360.out 0).trans rfl; have hcz89_1 : w88.cell? ⟨gb360, 1, none⟩ = some (.slice (some ad369) l0_1.length c0_1) := (blk_cell BK360.out 1).trans rfl; have hfz89_0 := blk_frozen BK360.out 0; have hfz89_1 := blk_frozen BK360.out 1) | (go_at_call 35; (with_reducible refine (prop_Check.calls a0_0 _ _ l0_1 _ _ y379 t388 _ ?side1 ?side2 ?side3 ?side4 A69.out).mono ?_); (case side1 => repeat (first | exact (Kd.C_below HR0_1.out HB.out) | (with_reducible refine Kd.C_alloc ?_ _) | (with_reducible refine Kd.C_drewN ?_ _) | (with_reducible refine Kd.C_drew ?_))); (case side2 => exact HC0_1.out); (case side3 => repeat (first | exact (Kd.R_reads' HO381.out).2.2 | (with_reducible refine Kd.C_alloc ?_ _) | (with_reducible refine Kd.C_drewN ?_ _) | (with_reducible refine Kd.C_drew ?_))); (case side4 => exact (Kd.R_reads' HO381.out).2.1); rintro e w90 ⟨rfl, hb⟩; have n0_ := Aside0.mk (Kd.R_below (by (with_reducible repeat (first | apply Kd.R_alloc | apply Kd.R_drewN | apply Kd.R_drew)); exact HO381.out) hb); have n1_ := Aside0.mk (Kd.R_below (by (with_reducible repeat (first | apply Kd.R_alloc | apply Kd.R_drewN | apply Kd.R_drew)); exact HO384.out) hb); have n2_ := Aside0.mk (blk_below (g := gb360) (o := .cells #[.int .i64 a0_0, .slice (some ad369) l0_1.length c0_1] 24 (0, 0)) (by (with_reducible repeat (first | refine blk_drewN ?_ _ | refine blk_drew ?_ | refine blk_alloc ?_ _)); exact BK360.out) hb); have n3_ := Aside0.mk (below_step (by repeat (first | (with_reducible first | exact HB.out | apply below_alloc | apply pw_below_drewN | apply below_drew1 | refine below_set ?_ GE360.out) | exact HB.out)) hb); clear HO381; clear HO384; clear BK360; clear HB; have HO381 := n0_; have HO384 := n1_; have BK360 := n2_; have HB := n3_; clear n0_ n1_ n2_ n3_; (try clear hb); (try clear hb2); (try clear hk); (try clear hi)))
                                  go_ret
                                  exact ⟨by first | rfl | (simp [errW_none, errW_some] <;> rfl) | (simp [*, errW_none, errW_some] <;> rfl), by repeat (first | (with_reducible first | exact HB.out | apply below_alloc | apply pw_below_drewN | apply below_drew1 | refine below_set ?_ GE360.out) | exact HB.out)⟩
                              · rw [if_neg c68] at H
                                have c68b0 : (t367 == 200) = false := beq_eq_false_iff_ne.mpr c68
                                have c68b1 : (t367 != 200) = true := bne_iff_ne.mpr c68
                                obtain rfl := Option.some.inj H
                                have hcz91_0 : wr.cell? ⟨gb360, 0, none⟩ = some (.int .i64 a0_0) := (blk_cell BK360.out 0).trans rfl
                                have hcz91_1 : wr.cell? ⟨gb360, 1, none⟩ = some (.slice A0_1 l0_1.length c0_1) := (blk_cell BK360.out 1).trans rfl
                                have hfz91_0 := blk_frozen BK360.out 0
                                have hfz91_1 := blk_frozen BK360.out 1
                                have p369 : 0 ≤ (a2 : Int) := of_decide_eq_true (by first | (with_reducible assumption) | assumption)
                                have q369 : a2 < (l0_1.length : Int) := of_decide_eq_true (by first | (with_reducible assumption) | assumption)
                                obtain ⟨ad369, A369_0, c369_0, e369, hx369_0, hl369_0, hi369_0⟩ := at_L1 HR0_1.out a2 p369 q369
                                cases e369
                                replace hx369_0 := (HB.out.cell (World.block_lt_of_cell? w _ hx369_0)).trans hx369_0
                                have HR369_0 := Aside0.mk hi369_0
                                have HC369_0 := Aside0.mk hl369_0
                                clear hi369_0 hl369_0
                                replace p369 := eq_true p369
                                replace q369 := eq_true q369
                                go_wp2_with (first | ((with_reducible refine gate_dst (N := 86) rfl ?_); refine Kd.R_lit k41 _ 41 ?hg (N := 86) ?hd (xs := ([] : List (S41))) (inner := []) (ok := fun _ => True) (okp := fun _ => True) ?hr ?hp (fun _ hk => hk) trivial (Below.refl _ _) (Nat.le_refl _) (by simp) ?_; (case hd => rfl); (case hg => rfl); (case hr => first | (go_simp; done) | (go_simp; rfl)); (case hp => exact (Reps.none _ _)); intro v374 w92 ho93 hb hg_ hnew_; clear hg_ hnew_; (first | rw [← Ny373.out] at ho93 | (simp only [Int.reduceToNat] at ho93; rw [← Ny373.out] at ho93)); have n0_ := Aside0.mk (Kd.R_lower ho93 (below_size (by repeat (first | (with_reducible first | exact HB.out | apply below_alloc | apply pw_below_drewN | apply below_drew1 | refine below_set ?_ GE360.out) | exact HB.out)))); have n1_ := Aside0.mk (blk_below (g := gb360) (o := .cells #[.int .i64 a0_0, .slice (some ad369) l0_1.length c0_1] 24 (0, 0)) (by (with_reducible repeat (first | refine blk_drewN ?_ _ | refine blk_drew ?_ | refine blk_alloc ?_ _)); exact BK360.out) hb); have n2_ := Aside0.mk (below_step (by repeat (first | (with_reducible first | exact HB.out | apply below_alloc | apply pw_below_drewN | apply below_drew1 | refine below_set ?_ GE360.out) | exact HB.out)) hb); clear BK360; clear HB; have HO375 := n0_; have BK360 := n1_; have HB := n2_; clear n0_ n1_ n2_; clear hb ho93) | ((with_reducible refine gate_builtin (b := .append) (xs := #[.tmp 86, .tmp 87]) rfl ?_); at_builtin; refine Kd.R_append_rows k41 (w0 := w) w.heap.size rfl (.tmp 86) (.tmp 87) 25 41 (.agg #[(.int .i64 0), (.int .i64 0)]) 16 rfl Try.underlying25 info41 rfl (by decide) (by omega) v374 y373 l1 _ _ _ (fun _ => True) (fun _ => False) rfl rfl ?aO ?aR (fun _ _ h => h) (fun _ h => h.elim) ?aF ?aB ?aS ?aL ?_; (case aR => repeat (first | exact (Kd.C_below HR1.out HB.out) | (with_reducible refine Kd.C_alloc ?_ _) | (with_reducible refine Kd.C_drewN ?_ _) | (with_reducible refine Kd.C_drew ?_))); (case aB => exact (by repeat (first | (with_reducible first | exact HB.out | apply below_alloc | apply pw_below_drewN | apply below_drew1 | refine below_set ?_ GE360.out) | exact HB.out))); (case aF => exact (fun _ _ => trivial)); (case aO => exact (by (with_reducible repeat (first | apply Kd.R_alloc | apply Kd.R_drewN | apply Kd.R_drew)); exact HO375.out)); (case aS => exact (below_size (by repeat (first | (with_reducible first | exact HB.out | apply below_alloc | apply pw_below_drewN | apply below_drew1 | refine below_set ?_ GE360.out) | exact HB.out)))); (case aL => have := LMc42.out; omega); intro v377 w94 ho hb hg hat; rw [← Ny376.out] at ho; have n0_ := Aside0.mk (blk_grown (g := gb360) (o := .cells #[.int .i64 a0_0, .slice (some ad369) l0_1.length c0_1] 24 (0, 0)) (by (with_reducible repeat (first | refine blk_drewN ?_ _ | refine blk_drew ?_ | refine blk_alloc ?_ _)); exact BK360.out) hg (Kd.R_ne HO375.out BK360.out (by decide))); have n1_ := Aside0.mk (hb); have n2_ := Aside0.mk (ho); clear BK360; clear HB; clear HO375; have BK360 := n0_; have HB := n1_; have HO378 := n2_; clear n0_ n1_ n2_; clear ho hb hg hat) | ((with_reducible refine gate_builtin (b := .append) (xs := #[.tmp 88, .tmp 91]) rfl ?_); at_builtin; refine Kd.R_append k41 (w0 := w) w.heap.size rfl (.tmp 88) (.tmp 91) 25 41 (.agg #[(.int .i64 0), (.int .i64 0)]) 16 rfl Try.underlying25 info41 rfl (by decide) (by omega) v377 y376 (⟨a3, (-1)⟩ : S41) [.int .i64 a3, .int .i64 (-1)] (fun _ => True) (fun _ => False) rfl rfl ?aP (fun _ hk => hk.elim) ?aF ?aO ?aB ?aS ?aL ?_; (case aP => exact k41_mkM _ _ _ (⟨a3, (-1)⟩ : S41)); (case aB => exact (by repeat (first | (with_reducible first | exact HB.out | apply below_alloc | apply pw_below_drewN | apply below_drew1 | refine below_set ?_ GE360.out) | exact HB.out))); (case aF => exact (fun _ _ => trivial)); (case aO => exact (by (with_reducible repeat (first | apply Kd.R_alloc | apply Kd.R_drewN | apply Kd.R_drew)); exact HO378.out)); (case aS => exact (below_size (by repeat (first | (with_reducible first | exact HB.out | apply below_alloc | apply pw_below_drewN | apply below_drew1 | refine below_set ?_ GE360.out) | exact HB.out)))); (case aL => have := LMc43.out; omega); intro v380 w95 ho hb hg hat; rw [← Ny379.out] at ho; have n0_ := Aside0.mk (blk_grown (g := gb360) (o := .cells #[.int .i64 a0_0, .slice (some ad369) l0_1.length c0_1] 24 (0, 0)) (by (with_reducible repeat (first | refine blk_drewN ?_ _ | refine blk_drew ?_ | refine blk_alloc ?_ _)); exact BK360.out) hg (Kd.R_ne HO378.out BK360.out (by decide))); have n1_ := Aside0.mk (hb); have n2_ := Aside0.mk (ho); clear BK360; clear HB; clear HO378; have BK360 := n0_; have HB := n1_; have HO381 := n2_; clear n0_ n1_ n2_; clear ho hb hg hat; have hcz96_0 : w95.cell? ⟨gb360, 0, none⟩ = some (.int .i64 a0_0) := (blk_cell BK360.out 0).trans rfl; have hcz96_1 : w95.cell? ⟨gb360, 1, none⟩ = some (.slice (some ad369) l0_1.length c0_1) := (blk_cell BK360.out 1).trans rfl; have hfz96_0 := blk_frozen BK360.out 0; have hfz96_1 := blk_frozen BK360.out 1; obtain ⟨Ao97, co97, eo97⟩ := Kd.R_slice HO381.out; subst eo97) | ((with_reducible refine gate_callee (f := 28) rfl ?_); refine goesL_ (some 97) rfl rfl Try.func28 (by kernel_rfl) rfl #[.agg #[.int .i64 a0_0, .slice (some ad369) l0_1.length c0_1], .slice Ao97 y379.length co97, .int .i64 a2] rfl (by (try simp only [List.map_toArray, List.map_cons, List.map_nil]); first | done | rfl | (simp only [List.length_drop, List.length_take]; rfl)) ?_; (with_reducible refine (learn_First.calls a0_0 _ _ l0_1 _ _ y379 a2 t382 t385 t386 _ ?side1 ?side2 ?side3 ?side4 A44.out).mono ?_); (case side1 => repeat (first | exact (Kd.C_below HR0_1.out HB.out) | (with_reducible refine Kd.C_alloc ?_ _) | (with_reducible refine Kd.C_drewN ?_ _) | (with_reducible refine Kd.C_drew ?_))); (case side2 => exact HC0_1.out); (case side3 => repeat (first | exact (Kd.R_reads' HO381.out).2.2 | (with_reducible refine Kd.C_alloc ?_ _) | (with_reducible refine Kd.C_drewN ?_ _) | (with_reducible refine Kd.C_drew ?_))); (case side4 => exact (Kd.R_reads' HO381.out).2.1); rintro e w98 ⟨v383, rfl, ho0, hb⟩; refine ⟨_, rfl, ?_⟩; have n0_ := Aside0.mk (Kd.R_below (by (with_reducible repeat (first | apply Kd.R_alloc | apply Kd.R_drewN | apply Kd.R_drew)); exact HO381.out) hb); have n1_ := Aside0.mk (Kd.R_lower ho0 (below_size (by repeat (first | (with_reducible first | exact HB.out | apply below_alloc | apply pw_below_drewN | apply below_drew1 | refine below_set ?_ GE360.out) | exact HB.out)))); have n2_ := Aside0.mk (blk_below (g := gb360) (o := .cells #[.int .i64 a0_0, .slice (some ad369) l0_1.length c0_1] 24 (0, 0)) (by (with_reducible repeat (first | refine blk_drewN ?_ _ | refine blk_drew ?_ | refine blk_alloc ?_ _)); exact BK360.out) hb); have n3_ := Aside0.mk (below_step (by repeat (first | (with_reducible first | exact HB.out | apply below_alloc | apply pw_below_drewN | apply below_drew1 | refine below_set ?_ GE360.out) | exact HB.out)) hb); clear HO381; clear BK360; clear HB; have HO381 := n0_; have HO384 := n1_; have BK360 := n2_; have HB := n3_; clear n0_ n1_ n2_ n3_; (try clear hb); (try clear hb2); (try clear hk); (try clear hi); (try clear ho0)))
                                go_ret
                                exact ⟨by first | rfl | (simp [errW_none, errW_some] <;> rfl) | (simp [*, errW_none, errW_some] <;> rfl), by repeat (first | (with_reducible first | exact HB.out | apply below_alloc | apply pw_below_drewN | apply below_drew1 | refine below_set ?_ GE360.out) | exact HB.out)⟩
                          · rw [if_neg c43] at H
                            exact absurd H (by simp)
                        · rw [if_neg c42] at H
                          exact absurd H (by simp)
                      · replace c41 := Bool.eq_false_iff.mpr c41
                        subst c41
                        have H1 : (some (t367 == 1)) = some r := by rw [if_neg (show ¬ (false = true) by decide)] at H; exact H
                        clear H
                        have H := H1
                        clear H1
                        obtain rfl := Option.some.inj H
                        have hcz99_0 : wr.cell? ⟨gb360, 0, none⟩ = some (.int .i64 a0_0) := (blk_cell BK360.out 0).trans rfl
                        have hcz99_1 : wr.cell? ⟨gb360, 1, none⟩ = some (.slice A0_1 l0_1.length c0_1) := (blk_cell BK360.out 1).trans rfl
                        have hfz99_0 := blk_frozen BK360.out 0
                        have hfz99_1 := blk_frozen BK360.out 1
                        have p369 : 0 ≤ (a2 : Int) := of_decide_eq_true (by first | (with_reducible assumption) | assumption)
                        have q369 : a2 < (l0_1.length : Int) := of_decide_eq_true (by first | (with_reducible assumption) | assumption)
                        obtain ⟨ad369, A369_0, c369_0, e369, hx369_0, hl369_0, hi369_0⟩ := at_L1 HR0_1.out a2 p369 q369
                        cases e369
                        replace hx369_0 := (HB.out.cell (World.block_lt_of_cell? w _ hx369_0)).trans hx369_0
                        have HR369_0 := Aside0.mk hi369_0
                        have HC369_0 := Aside0.mk hl369_0
                        clear hi369_0 hl369_0
                        replace p369 := eq_true p369
                        replace q369 := eq_true q369
                        go_wp2
                        go_ret
                        exact ⟨by first | rfl | (simp [errW_none, errW_some] <;> rfl) | (simp [*, errW_none, errW_some] <;> rfl), by repeat (first | (with_reducible first | exact HB.out | apply below_alloc | apply pw_below_drewN | apply below_drew1 | refine below_set ?_ GE360.out) | exact HB.out)⟩
                  · rw [if_neg c33] at H
                    exact absurd H (by simp)
                · rw [if_neg c32] at H
                  exact absurd H (by simp)
    · replace c8 := Bool.eq_false_iff.mpr c8
      subst c8
      have H1 : (some true) = some r := by rw [if_neg (show ¬ (false = true) by decide)] at H; exact H
      clear H
      have H := H1
      clear H1
      obtain rfl := Option.some.inj H
      go_enter Try.func6, Try.ntmps6
      go_wp2_with (first | ((with_reducible refine gate_dst (N := 4) rfl ?_); refine box_event ?hg (N := 4) ?hd (cs := #[.int .i64 a0_0, .slice A0_1 l0_1.length c0_1]) (t := 24) ?hr ?_; (case hd => rfl); (case hg => rfl); (case hr => first | (go_simp; done) | (go_simp; rfl)); intro gb360 hg w100 hbox hb; have n0_ := Aside0.mk (below_step (by repeat (first | (with_reducible first | exact HB.out | apply below_alloc | apply pw_below_drewN | apply below_drew1) | exact HB.out)) hb); have n1_ := Aside0.mk (hbox); have n2_ := Aside0.mk ((by rw [hg]; exact (below_size (by repeat (first | (with_reducible first | exact HB.out | apply below_alloc | apply pw_below_drewN | apply below_drew1) | exact HB.out))) : w.heap.size ≤ gb360)); have n3_ := Aside0.mk ((by rw [hg]; exact (below_size (by repeat (first | (with_reducible first | exact HB.out | apply below_alloc | apply pw_below_drewN | apply below_drew1) | exact HB.out))) : w.heap.size ≤ gb360)); clear HB; have HB := n0_; have BK360 := n1_; have GW360 := n2_; have GE360 := n3_; clear n0_ n1_ n2_ n3_; clear hb hbox hg) | ((with_reducible refine gate_callee (f := 26) rfl ?_); refine goesL_ (some 18) rfl rfl Try.func26 (by kernel_rfl) rfl #[] rfl (by (try simp only [List.map_toArray, List.map_cons, List.map_nil]); first | done | rfl | (simp only [List.length_drop, List.length_take]; rfl)) ?_; (with_reducible refine (chalklinelaw20_live.calls  true _ A5.out).mono ?_); rintro e w101 ⟨rfl, hb⟩; refine ⟨_, rfl, ?_⟩; have n0_ := Aside0.mk (blk_below (g := gb360) (o := .cells #[.int .i64 a0_0, .slice A0_1 l0_1.length c0_1] 24 (0, 0)) (by (with_reducible repeat (first | refine blk_drewN ?_ _ | refine blk_drew ?_ | refine blk_alloc ?_ _)); exact BK360.out) hb); have n1_ := Aside0.mk (below_step (by repeat (first | (with_reducible first | exact HB.out | apply below_alloc | apply pw_below_drewN | apply below_drew1 | refine below_set ?_ GE360.out) | exact HB.out)) hb); clear BK360; clear HB; have BK360 := n0_; have HB := n1_; clear n0_ n1_; (try clear hb); (try clear hb2); (try clear hk); (try clear hi); have hcz102_0 : w101.cell? ⟨gb360, 0, none⟩ = some (.int .i64 a0_0) := (blk_cell BK360.out 0).trans rfl; have hcz102_1 : w101.cell? ⟨gb360, 1, none⟩ = some (.slice A0_1 l0_1.length c0_1) := (blk_cell BK360.out 1).trans rfl; have hfz102_0 := blk_frozen BK360.out 0; have hfz102_1 := blk_frozen BK360.out 1) | ((with_reducible refine gate_callee (f := 27) rfl ?_); refine goesL_ (some 22) rfl rfl Try.func27 (by kernel_rfl) rfl #[.agg #[.int .i64 a0_0, .slice A0_1 l0_1.length c0_1], .slice A1 l1.length c1] rfl (by (try simp only [List.map_toArray, List.map_cons, List.map_nil]); first | done | rfl | (simp only [List.length_drop, List.length_take]; rfl)) ?_; (with_reducible refine (chalklinelaw20_few.calls k a0_0 _ _ l0_1 _ _ l1 false _ ?side1 ?side2 ?side3 ?side4 A7.out).mono ?_); (case side1 => repeat (first | exact (Kd.C_below HR0_1.out HB.out) | (with_reducible refine Kd.C_alloc ?_ _) | (with_reducible refine Kd.C_drewN ?_ _) | (with_reducible refine Kd.C_drew ?_))); (case side2 => exact HC0_1.out); (case side3 => repeat (first | exact (Kd.C_below HR1.out HB.out) | (with_reducible refine Kd.C_alloc ?_ _) | (with_reducible refine Kd.C_drewN ?_ _) | (with_reducible refine Kd.C_drew ?_))); (case side4 => exact HC1.out); rintro e w103 ⟨rfl, hb⟩; refine ⟨_, rfl, ?_⟩; have n0_ := Aside0.mk (blk_below (g := gb360) (o := .cells #[.int .i64 a0_0, .slice A0_1 l0_1.length c0_1] 24 (0, 0)) (by (with_reducible repeat (first | refine blk_drewN ?_ _ | refine blk_drew ?_ | refine blk_alloc ?_ _)); exact BK360.out) hb); have n1_ := Aside0.mk (below_step (by repeat (first | (with_reducible first | exact HB.out | apply below_alloc | apply pw_below_drewN | apply below_drew1 | refine below_set ?_ GE360.out) | exact HB.out)) hb); clear BK360; clear HB; have BK360 := n0_; have HB := n1_; clear n0_ n1_; (try clear hb); (try clear hb2); (try clear hk); (try clear hi)))
      go_ret
      exact ⟨by first | rfl | (simp [errW_none, errW_some] <;> rfl) | (simp [*, errW_none, errW_some] <;> rfl), by repeat (first | (with_reducible first | exact HB.out | apply below_alloc | apply pw_below_drewN | apply below_drew1 | refine below_set ?_ GE360.out) | exact HB.out)⟩
  · replace c6 := Bool.eq_false_iff.mpr c6
    subst c6
    have H1 : (some false) = some r := by rw [if_neg (show ¬ (false = true) by decide)] at H; exact H
    clear H
    have H := H1
    clear H1
    obtain rfl := Option.some.inj H
    go_enter Try.func6, Try.ntmps6
    go_wp2_with (first | ((with_reducible refine gate_dst (N := 4) rfl ?_); refine box_event ?hg (N := 4) ?hd (cs := #[.int .i64 a0_0, .slice A0_1 l0_1.length c0_1]) (t := 24) ?hr ?_; (case hd => rfl); (case hg => rfl); (case hr => first | (go_simp; done) | (go_simp; rfl)); intro gb360 hg w104 hbox hb; have n0_ := Aside0.mk (below_step (by repeat (first | (with_reducible first | exact HB.out | apply below_alloc | apply pw_below_drewN | apply below_drew1) | exact HB.out)) hb); have n1_ := Aside0.mk (hbox); have n2_ := Aside0.mk ((by rw [hg]; exact (below_size (by repeat (first | (with_reducible first | exact HB.out | apply below_alloc | apply pw_below_drewN | apply below_drew1) | exact HB.out))) : w.heap.size ≤ gb360)); have n3_ := Aside0.mk ((by rw [hg]; exact (below_size (by repeat (first | (with_reducible first | exact HB.out | apply below_alloc | apply pw_below_drewN | apply below_drew1) | exact HB.out))) : w.heap.size ≤ gb360)); clear HB; have HB := n0_; have BK360 := n1_; have GW360 := n2_; have GE360 := n3_; clear n0_ n1_ n2_ n3_; clear hb hbox hg) | ((with_reducible refine gate_callee (f := 26) rfl ?_); refine goesL_ (some 18) rfl rfl Try.func26 (by kernel_rfl) rfl #[] rfl (by (try simp only [List.map_toArray, List.map_cons, List.map_nil]); first | done | rfl | (simp only [List.length_drop, List.length_take]; rfl)) ?_; (with_reducible refine (chalklinelaw20_live.calls  false _ A5.out).mono ?_); rintro e w105 ⟨rfl, hb⟩; refine ⟨_, rfl, ?_⟩; have n0_ := Aside0.mk (blk_below (g := gb360) (o := .cells #[.int .i64 a0_0, .slice A0_1 l0_1.length c0_1] 24 (0, 0)) (by (with_reducible repeat (first | refine blk_drewN ?_ _ | refine blk_drew ?_ | refine blk_alloc ?_ _)); exact BK360.out) hb); have n1_ := Aside0.mk (below_step (by repeat (first | (with_reducible first | exact HB.out | apply below_alloc | apply pw_below_drewN | apply below_drew1 | refine below_set ?_ GE360.out) | exact HB.out)) hb); clear BK360; clear HB; have BK360 := n0_; have HB := n1_; clear n0_ n1_; (try clear hb); (try clear hb2); (try clear hk); (try clear hi)))
    go_ret
    exact ⟨by first | rfl | (simp [errW_none, errW_some] <;> rfl) | (simp [*, errW_none, errW_some] <;> rfl), by repeat (first | (with_reducible first | exact HB.out | apply below_alloc | apply pw_below_drewN | apply below_drew1 | refine below_set ?_ GE360.out) | exact HB.out)⟩

end Go.Proofs.Ytobadajeekdakaa.Print
