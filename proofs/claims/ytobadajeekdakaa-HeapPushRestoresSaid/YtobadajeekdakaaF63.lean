/- Contracts of functions of the program, out of Lean's own print of the translation: written by gen.py (wip/) with the kit's print. -/
import Derived.Test.YtobadajeekdakaaK
namespace Go.Proofs.Ytobadajeekdakaa.Print
open Go.RowKit Go.Proofs.YtobadajeekdakaaW.PrintWords Go.Proofs.YtobadajeekdakaaW.PrintLast
set_option linter.unusedVariables false
set_option linter.unusedSimpArgs false

/-! ### heap_New: function 63 -/
mutual
def heap_New.j0 : Nat → Int → Bool → Option (List Int × List Int × Int × Int)
  | 0, _, _ => none
  | k + 1, x0, x11 => if x11 = true then (some (([] : List Int), ([] : List Int), 0, 1)) else (if 0 ≤ (wrap64 (x0 + 1)) then (if (wrap64 (x0 + 1) : Int).toNat ≤ 35184372088832 then (heap_New.l0 k x0 0 (List.replicate (wrap64 (x0 + 1) : Int).toNat 0) ([] : List Int) 1) else (none)) else (none))
def heap_New.l0 : Nat → Int → Int → List Int → List Int → Int → Option (List Int × List Int × Int × Int)
  | 0, _, _, _, _, _ => none
  | k + 1, x17, x18, x726000, x726001, x726002 => if x18 < x17 then (if x726001.length < 17592186044416 then (heap_New.l0 k x17 (wrap64 (x18 + 1)) x726000 (x726001 ++ [wrap64 (x18 + 1)]) x726002) else (none)) else (some (x726000, x726001, x726002, 0))
end
def heap_New.f (k : Nat) (a0 : Int) : Option (List Int × List Int × Int × Int) := if a0 < 0 then (heap_New.j0 k a0 true) else (heap_New.j0 k a0 (decide (a0 > 65536)))
set_option maxHeartbeats 8000000 in
set_option maxRecDepth 100000 in
theorem heap_New.calls (k : Nat) (a0 : Int) (r1 : List Int) (r2 : List Int) (r3 : Int) (r4 : Int) (w : World) (h : heap_New.f k a0 = some (r1, r2, r3, r4)) :
    Calls Try.prog 63 #[.int .i64 a0] w fun e w' => ∃ v0_ v1_ : Value, e = .returned (.tuple #[.agg #[v0_, v1_, .int .i64 r3], .int .i64 r4]) ∧ Kd.R (Kd.int .i64) 3 w' w.heap.size (fun k_ => some k_ ≠ (v1_ : Value).ownBlock) v0_ r1 ∧ Kd.R (Kd.int .i64) 3 w' w.heap.size (fun k_ => some k_ ≠ (v0_ : Value).ownBlock) v1_ r2 ∧ Below w.heap.size w w' := by
  have hu74 := Try.underlying74
  have HB := Aside0.mk (Below.refl w.heap.size w)
  have H : (if a0 < 0 then (heap_New.j0 k a0 true) else (heap_New.j0 k a0 (decide (a0 > 65536)))) = some (r1, r2, r3, r4) := h
  clear h
  have HC2 := Aside0.mk H
  clear H
  go_enter Try.func63, Try.ntmps63
  go_upto_region 1 with (first | ((with_reducible refine gate_dst (N := 2) rfl ?_); refine box_event ?hg (N := 2) ?hd (cs := #[.slice none 0 0, .slice none 0 0, .int .i64 0]) (t := 74) ?hr ?_; (case hd => rfl); (case hg => rfl); (case hr => first | (go_simp; done) | (go_simp; rfl)); intro gb721 hg w3 hbox hb; have n0_ := Aside0.mk (below_step (by repeat (first | (with_reducible first | exact HB.out | apply below_alloc | apply pw_below_drewN | apply below_drew1) | exact HB.out)) hb); have n1_ := Aside0.mk (hbox); have n2_ := Aside0.mk ((by rw [hg]; exact (below_size (by repeat (first | (with_reducible first | exact HB.out | apply below_alloc | apply pw_below_drewN | apply below_drew1) | exact HB.out))) : w.heap.size ≤ gb721)); have n3_ := Aside0.mk ((by rw [hg]; exact (below_size (by repeat (first | (with_reducible first | exact HB.out | apply below_alloc | apply pw_below_drewN | apply below_drew1) | exact HB.out))) : w.heap.size ≤ gb721)); clear HB; have HB := n0_; have BK721 := n1_; have GW721 := n2_; have GE721 := n3_; clear n0_ n1_ n2_ n3_; clear hb hbox hg))
  (try simp only [Act.put, List.setIfInBounds_toArray, List.set_cons_zero, List.set_cons_succ])
  go_cut [11] (fun v11 wc => ∃ (kq : Nat) (x11_1 : Bool), v11 = .bool x11_1 ∧ Aside0 (heap_New.j0 kq a0 x11_1 = some (r1, r2, r3, r4)) ∧ Aside0 (kq ≤ k) ∧ Aside0 (wc.heap[gb721]? = some (.cells #[(.slice none 0 0), (.slice none 0 0), .int .i64 0] 74 (0, 0))) ∧ Aside0 (Below w.heap.size w wc))
  case first =>
    have H := HC2.out
    clear HC2
    by_cases c4 : a0 < 0
    · rw [if_pos c4] at H
      have c4b0 : decide (a0 < 0) = true := decide_eq_true c4
      clear c4
      (first | rw [c4b0] | (simp only [i64_w, i32_w]; rw [c4b0]) | skip)
      have H' := Aside0.mk H
      clear H
      go_wp2
      go_meet
      case rel => exact ⟨_, (true), (by first | rfl | (simp; done) | (simp [*]; done)), H', ⟨by first | omega | exact Nat.le_refl _⟩, ⟨by (with_reducible repeat (first | refine blk_drewN ?_ _ | refine blk_drew ?_ | refine blk_alloc ?_ _)); exact BK721.out⟩, ⟨by repeat (first | (with_reducible first | exact HB.out | apply below_alloc | apply pw_below_drewN | apply below_drew1 | refine below_set ?_ GE721.out) | exact HB.out)⟩⟩
    · rw [if_neg c4] at H
      have c4b0 : decide (a0 < 0) = false := decide_eq_false c4
      clear c4
      (first | rw [c4b0] | (simp only [i64_w, i32_w]; rw [c4b0]) | skip)
      have H' := Aside0.mk H
      clear H
      go_wp2
      go_meet
      case rel => exact ⟨_, (decide (a0 > 65536)), (by first | rfl | (simp; done) | (simp [*]; done)), H', ⟨by first | omega | exact Nat.le_refl _⟩, ⟨by (with_reducible repeat (first | refine blk_drewN ?_ _ | refine blk_drew ?_ | refine blk_alloc ?_ _)); exact BK721.out⟩, ⟨by repeat (first | (with_reducible first | exact HB.out | apply below_alloc | apply pw_below_drewN | apply below_drew1 | refine below_set ?_ GE721.out) | exact HB.out)⟩⟩
  case rest =>
    clear HC2
    try clear p2
    try clear c4
    try clear c4b0
    obtain ⟨kq, x11_1, rfl, HA, HJ1, BK721, HB⟩ := hcut
    cases kq with
    | zero => exact absurd HA.out (by simp [heap_New.j0])
    | succ kj1 =>
      have H := HA.out
      clear HA
      simp only [heap_New.j0] at H
      by_cases c5 : x11_1 = true
      · subst c5
        have H1 : (some (([] : List Int), ([] : List Int), 0, 1)) = some (r1, r2, r3, r4) := by rw [if_pos rfl] at H; exact H
        clear H
        have H := H1
        clear H1
        simp only [Option.some.injEq, Prod.mk.injEq] at H
        obtain ⟨rfl, rfl, rfl, rfl⟩ := H
        have hcz6_0 : wc.cell? ⟨gb721, 0, none⟩ = some (.slice none 0 0) := (blk_cell BK721.out 0).trans rfl
        have hcz6_1 : wc.cell? ⟨gb721, 1, none⟩ = some (.slice none 0 0) := (blk_cell BK721.out 1).trans rfl
        have hcz6_2 : wc.cell? ⟨gb721, 2, none⟩ = some (.int .i64 0) := (blk_cell BK721.out 2).trans rfl
        have hfz6_0 := blk_frozen BK721.out 0
        have hfz6_1 := blk_frozen BK721.out 1
        have hfz6_2 := blk_frozen BK721.out 2
        go_wp2
        refine bodyPost_ret (results_ct rfl _ _ gb721 74 #[.slice none 0 0, .slice none 0 0, .int .i64 0] (0, 0) _ rfl (by (with_reducible repeat (first | refine blk_drewN ?_ _ | refine blk_drew ?_ | refine blk_alloc ?_ _)); refine blk_put (cs := #[.slice none 0 0, .slice none 0 0, .int .i64 0]) ?_ 2 _ rfl; (with_reducible repeat (first | refine blk_drewN ?_ _ | refine blk_drew ?_ | refine blk_alloc ?_ _)); refine blk_put (cs := #[.slice none 0 0, .slice none 0 0, .int .i64 0]) ?_ 1 _ rfl; (with_reducible repeat (first | refine blk_drewN ?_ _ | refine blk_drew ?_ | refine blk_alloc ?_ _)); refine blk_put (cs := #[.slice none 0 0, .slice none 0 0, .int .i64 0]) ?_ 0 _ rfl; (with_reducible repeat (first | refine blk_drewN ?_ _ | refine blk_drew ?_ | refine blk_alloc ?_ _)); exact BK721.out) Try.underlying74 rfl (by kernel_rfl)) rfl ?_
        exact ⟨_, _, by first | rfl | (simp [errW_none, errW_some] <;> rfl) | (simp [*, errW_none, errW_some] <;> rfl), by first | exact Kd.R_nil _ _ _ _ _ | exact Kd.N_nil _ _ _ _ _ | exact Kd.V_nil _ _ _ _ _ | exact Kd.Q_nil _ _ _ _ _ | exact Kd.S_nil _ _ _ _ _, by first | exact Kd.R_nil _ _ _ _ _ | exact Kd.N_nil _ _ _ _ _ | exact Kd.V_nil _ _ _ _ _ | exact Kd.Q_nil _ _ _ _ _ | exact Kd.S_nil _ _ _ _ _, by repeat (first | (with_reducible first | exact HB.out | apply below_alloc | apply pw_below_drewN | apply below_drew1 | refine below_set ?_ GE721.out) | exact HB.out)⟩
      · replace c5 := Bool.eq_false_iff.mpr c5
        subst c5
        have H1 : (if 0 ≤ (wrap64 (a0 + 1)) then (if (wrap64 (a0 + 1) : Int).toNat ≤ 35184372088832 then (heap_New.l0 kj1 a0 0 (List.replicate (wrap64 (a0 + 1) : Int).toNat 0) ([] : List Int) 1) else (none)) else (none)) = some (r1, r2, r3, r4) := by rw [if_neg (show ¬ (false = true) by decide)] at H; exact H
        clear H
        have H := H1
        clear H1
        obtain ⟨ji7, hji7⟩ : ∃ j_ : Int, (wrap64 (a0 + 1)) = j_ := ⟨_, rfl⟩
        replace H : (if 0 ≤ (ji7) then (if (ji7 : Int).toNat ≤ 35184372088832 then (heap_New.l0 kj1 a0 0 (List.replicate (ji7 : Int).toNat 0) ([] : List Int) 1) else (none)) else (none)) = some (r1, r2, r3, r4) := by first | (rw [hji7] at H; exact H) | (simp only [hji7] at H ⊢; exact H)
        have hji7w : (IntKind.i64.wrap (a0 + 1)) = ji7 := (i64_w _).trans hji7
        by_cases c8 : 0 ≤ (ji7)
        · rw [if_pos c8] at H
          have c8b0 := eq_true c8
          have c8b1 : decide (0 ≤ (ji7)) = true := decide_eq_true c8
          clear c8
          by_cases c9 : (ji7 : Int).toNat ≤ 35184372088832
          · rw [if_pos c9] at H
            have c9b0 := eq_true c9
            have c9b1 : decide ((ji7 : Int).toNat ≤ 35184372088832) = true := decide_eq_true c9
            clear c9
            obtain ⟨y722, hy722⟩ : ∃ y_ : List Int, y_ = (List.replicate (ji7 : Int).toNat 0) := ⟨_, rfl⟩
            replace H : (heap_New.l0 kj1 a0 0 y722 ([] : List Int) 1) = some (r1, r2, r3, r4) := by first | (rw [hy722]; with_reducible exact H) | (have H2_ := (Option.bind_some _ _).symm.trans H; rw [hy722]; with_reducible exact H2_) | (have H2_ := (Option.bind_some _ _).symm.trans H; with_reducible exact H2_) | with_reducible exact H | (rw [hy722]; exact H) | exact H
            have Ny722 := Aside0.mk hy722
            clear hy722
            have H' := Aside0.mk H
            clear H
            go_wp2_with (first | ((with_reducible refine gate_dst (N := 15) rfl ?_); refine Kd.R_make (Kd.int .i64) _ 3 rfl (N := 15) rfl 28 _ _ rfl ji7 rfl rfl Try.underlying28 (.int .i64 0) 8 info3 rfl (by decide) (by omega) 0 (ok := fun _ => True) (okp := fun _ => True) rfl (fun _ hk => hk) trivial (of_decide_eq_true (by first | (with_reducible assumption) | assumption)) (Nat.le_trans (Nat.mul_le_mul_right _ (of_decide_eq_true (by first | (with_reducible assumption) | assumption) : ji7.toNat ≤ 35184372088832)) (by omega)) (Below.refl _ _) (Nat.le_refl _) ?_; intro v723 w10 ho11 hb hg_ hnew_; clear hg_ hnew_; (first | rw [← Ny722.out] at ho11 | (simp only [Int.reduceToNat] at ho11; rw [← Ny722.out] at ho11)); have n0_ := Aside0.mk (Kd.R_lower ho11 (below_size (by repeat (first | (with_reducible first | exact HB.out | apply below_alloc | apply pw_below_drewN | apply below_drew1 | refine below_set ?_ GE721.out) | exact HB.out)))); have n1_ := Aside0.mk (blk_below (g := gb721) (o := .cells #[.slice none 0 0, .slice none 0 0, .int .i64 0] 74 (0, 0)) (by (with_reducible repeat (first | refine blk_drewN ?_ _ | refine blk_drew ?_ | refine blk_alloc ?_ _)); exact BK721.out) hb); have n2_ := Aside0.mk (below_step (by repeat (first | (with_reducible first | exact HB.out | apply below_alloc | apply pw_below_drewN | apply below_drew1 | refine below_set ?_ GE721.out) | exact HB.out)) hb); clear BK721; clear HB; have HO724 := n0_; have BK721 := n1_; have HB := n2_; clear n0_ n1_ n2_; clear hb ho11; obtain ⟨Ao12, co12, eo12⟩ := Kd.R_slice HO724.out; subst eo12) | ((with_reducible refine gate_dst (N := 4) rfl ?_); refine box_event ?hg (N := 4) ?hd (cs := #[.slice none 0 0, .slice none 0 0, .int .i64 0]) (t := 74) ?hr ?_; (case hd => rfl); (case hg => rfl); (case hr => first | (go_simp; done) | (go_simp; rfl)); intro gb725 hg w13 hbox hb; have n0_ := Aside0.mk (Kd.R_below (by (with_reducible repeat (first | apply Kd.R_alloc | apply Kd.R_drewN | apply Kd.R_drew)); exact HO724.out) hb); have n1_ := Aside0.mk (blk_below (g := gb721) (o := .cells #[.slice none 0 0, .slice none 0 0, .int .i64 0] 74 (0, 0)) (by (with_reducible repeat (first | refine blk_drewN ?_ _ | refine blk_drew ?_ | refine blk_alloc ?_ _)); exact BK721.out) hb); have n2_ := Aside0.mk (below_step (by repeat (first | (with_reducible first | exact HB.out | apply below_alloc | apply pw_below_drewN | apply below_drew1 | refine below_set ?_ GE721.out) | exact HB.out)) hb); have n3_ := Aside0.mk (hbox); have n4_ := Aside0.mk ((by rw [hg]; exact (below_size (by repeat (first | (with_reducible first | exact HB.out | apply below_alloc | apply pw_below_drewN | apply below_drew1 | refine below_set ?_ GE721.out) | exact HB.out))) : w.heap.size ≤ gb725)); have n5_ := Aside0.mk ((by rw [hg]; exact (below_size (by repeat (first | (with_reducible first | exact HB.out | apply below_alloc | apply pw_below_drewN | apply below_drew1 | refine below_set ?_ GE721.out) | exact HB.out))) : w.heap.size ≤ gb725)); have n6_ := Aside0.mk ((by rw [hg]; exact Nat.ne_of_lt (blk_lt (g := gb721) (o := .cells #[.slice none 0 0, .slice none 0 0, .int .i64 0] 74 (0, 0)) (by (with_reducible repeat (first | refine blk_drewN ?_ _ | refine blk_drew ?_ | refine blk_alloc ?_ _)); exact BK721.out)) : gb721 ≠ gb725)); have n7_ := Aside0.mk ((by rw [hg]; exact Nat.ne_of_gt (blk_lt (g := gb721) (o := .cells #[.slice none 0 0, .slice none 0 0, .int .i64 0] 74 (0, 0)) (by (with_reducible repeat (first | refine blk_drewN ?_ _ | refine blk_drew ?_ | refine blk_alloc ?_ _)); exact BK721.out)) : gb725 ≠ gb721)); clear HO724; clear BK721; clear HB; have HO724 := n0_; have BK721 := n1_; have HB := n2_; have BK725 := n3_; have GW725 := n4_; have GE725 := n5_; have NB721_725 := n6_; have NB725_721 := n7_; clear n0_ n1_ n2_ n3_ n4_ n5_ n6_ n7_; clear hb hbox hg; have hnb14 := NB725_721.out; have hnc14 := NB721_725.out; have hcz15_0 : w13.cell? ⟨gb725, 0, none⟩ = some (.slice none 0 0) := (blk_cell BK725.out 0).trans rfl; have hcz15_1 : w13.cell? ⟨gb725, 1, none⟩ = some (.slice none 0 0) := (blk_cell BK725.out 1).trans rfl; have hcz15_2 : w13.cell? ⟨gb725, 2, none⟩ = some (.int .i64 0) := (blk_cell BK725.out 2).trans rfl; have hfz15_0 := blk_frozen BK725.out 0; have hfz15_1 := blk_frozen BK725.out 1; have hfz15_2 := blk_frozen BK725.out 2))
            go_loopg [18] kj1 (fun kq v18 w' => ∃ (x18_2 : Int) (x726001_2 : List Int) (u726001 : Value), v18 = .int .i64 x18_2 ∧ Aside0 (heap_New.l0 kq a0 x18_2 y722 x726001_2 1 = some (r1, r2, r3, r4)) ∧ Aside0 (kq ≤ kj1) ∧ Aside0 (Kd.R (Kd.int .i64) 3 w' w.heap.size (fun k_ => some k_ ≠ (u726001 : Value).ownBlock) (.slice Ao12 y722.length co12) y722) ∧ Aside0 (Kd.R (Kd.int .i64) 3 w' w.heap.size (fun k_ => some k_ ≠ ((.slice Ao12 y722.length co12) : Value).ownBlock) u726001 x726001_2) ∧ Aside0 (w'.heap[gb721]? = some (.cells #[(.slice none 0 0), (.slice none 0 0), .int .i64 0] 74 (0, 0))) ∧ Aside0 (w'.heap[gb725]? = some (.cells #[(.slice Ao12 y722.length co12), u726001, .int .i64 1] 74 (0, 0))) ∧ Aside0 (Below w.heap.size w w'))
            case atStart => exact ⟨(0), (([] : List Int)), (.slice none 0 0), (by first | rfl | (simp; done) | (simp [*]; done)), H', ⟨Nat.le_refl _⟩, ⟨by (with_reducible repeat (first | apply Kd.R_alloc | apply Kd.R_drewN | apply Kd.R_drew)); exact Kd.R_mono (Kd.R_far (p := ⟨gb725, 2, none⟩) (Kd.R_far (p := ⟨gb725, 1, none⟩) (Kd.R_far (p := ⟨gb725, 0, none⟩) (Kd.R_types HO724.out BK725.out (by decide)) (fun _ hk => hk.2) (.slice Ao12 y722.length co12)) (fun _ hk => hk.2) (.slice none 0 0)) (fun _ hk => hk.2) (.int .i64 1)) (fun _ hk => (by simp [Value.ownBlock]))⟩, ⟨by first | exact Kd.R_nil _ _ _ _ _ | exact Kd.N_nil _ _ _ _ _ | exact Kd.V_nil _ _ _ _ _ | exact Kd.Q_nil _ _ _ _ _ | exact Kd.S_nil _ _ _ _ _⟩, ⟨by (with_reducible repeat (first | refine blk_drewN ?_ _ | refine blk_drew ?_ | refine blk_alloc ?_ _)); refine blk_far ?_ NB721_725.out _; (with_reducible repeat (first | refine blk_drewN ?_ _ | refine blk_drew ?_ | refine blk_alloc ?_ _)); refine blk_far ?_ NB721_725.out _; (with_reducible repeat (first | refine blk_drewN ?_ _ | refine blk_drew ?_ | refine blk_alloc ?_ _)); refine blk_far ?_ NB721_725.out _; (with_reducible repeat (first | refine blk_drewN ?_ _ | refine blk_drew ?_ | refine blk_alloc ?_ _)); exact BK721.out⟩, ⟨by (with_reducible repeat (first | refine blk_drewN ?_ _ | refine blk_drew ?_ | refine blk_alloc ?_ _)); refine blk_put (cs := #[.slice Ao12 y722.length co12, .slice none 0 0, .int .i64 0]) ?_ 2 _ rfl; (with_reducible repeat (first | refine blk_drewN ?_ _ | refine blk_drew ?_ | refine blk_alloc ?_ _)); refine blk_put (cs := #[.slice Ao12 y722.length co12, .slice none 0 0, .int .i64 0]) ?_ 1 _ rfl; (with_reducible repeat (first | refine blk_drewN ?_ _ | refine blk_drew ?_ | refine blk_alloc ?_ _)); refine blk_put (cs := #[.slice none 0 0, .slice none 0 0, .int .i64 0]) ?_ 0 _ rfl; (with_reducible repeat (first | refine blk_drewN ?_ _ | refine blk_drew ?_ | refine blk_alloc ?_ _)); exact BK725.out⟩, ⟨by repeat (first | (with_reducible first | exact HB.out | apply below_alloc | apply pw_below_drewN | apply below_drew1 | refine below_set ?_ GE721.out | refine below_set ?_ GE725.out) | exact HB.out)⟩⟩
            case round =>
              clear H'
              try clear c1
              try clear p2
              try clear c4
              try clear c4b0
              try clear c5
              try clear c6
              try clear p6
              try clear c8
              try clear c8b0
              try clear c8b1
              try clear c9
              try clear c9b0
              try clear c9b1
              try clear c14
              try clear hcz15_0
              try clear hcz15_1
              try clear hcz15_2
              try clear hcz6_0
              try clear hcz6_1
              try clear hcz6_2
              try clear hfz15_0
              try clear hfz15_1
              try clear hfz15_2
              try clear hfz6_0
              try clear hfz6_1
              try clear hfz6_2
              try clear p2
              obtain ⟨x18_2, x726001_2, u726001, rfl, HA, HK2, HO_726000, HO_726001, BK721, BK725, HB⟩ := hrel
              cases gk with
              | zero => exact absurd HA.out (by simp [heap_New.l0])
              | succ k2 =>
                have H := HA.out
                clear HA
                simp only [heap_New.l0] at H
                by_cases c16 : x18_2 < a0
                · rw [if_pos c16] at H
                  have c16b0 : decide (x18_2 < a0) = true := decide_eq_true c16
                  clear c16
                  by_cases c17 : x726001_2.length < 17592186044416
                  · rw [if_pos c17] at H
                    have LMc17 := Aside0.mk c17
                    clear c17
                    obtain ⟨y726, hy726⟩ : ∃ y_ : List Int, y_ = (x726001_2 ++ [wrap64 (x18_2 + 1)]) := ⟨_, rfl⟩
                    replace H : (heap_New.l0 k2 a0 (wrap64 (x18_2 + 1)) y722 y726 1) = some (r1, r2, r3, r4) := by first | (rw [hy726]; with_reducible exact H) | (have H2_ := (Option.bind_some _ _).symm.trans H; rw [hy726]; with_reducible exact H2_) | (have H2_ := (Option.bind_some _ _).symm.trans H; with_reducible exact H2_) | with_reducible exact H | (rw [hy726]; exact H) | exact H
                    have Ny726 := Aside0.mk hy726
                    clear hy726
                    have H' := Aside0.mk H
                    clear H
                    have hnb18 := NB725_721.out
                    have hnc18 := NB721_725.out
                    have hcz19_0 : wr.cell? ⟨gb725, 0, none⟩ = some (.slice Ao12 y722.length co12) := (blk_cell BK725.out 0).trans rfl
                    have hcz19_1 : wr.cell? ⟨gb725, 1, none⟩ = some (u726001) := (blk_cell BK725.out 1).trans rfl
                    have hcz19_2 : wr.cell? ⟨gb725, 2, none⟩ = some (.int .i64 1) := (blk_cell BK725.out 2).trans rfl
                    have hfz19_0 := blk_frozen BK725.out 0
                    have hfz19_1 := blk_frozen BK725.out 1
                    have hfz19_2 := blk_frozen BK725.out 2
                    go_wp2_with (first | ((with_reducible refine gate_builtin (b := .append) (xs := #[.tmp 22, .tmp 25]) rfl ?_); at_builtin; refine Kd.R_append (Kd.int .i64) (w0 := w) w.heap.size rfl (.tmp 22) (.tmp 25) 28 3 (.int .i64 0) 8 rfl Try.underlying28 info3 rfl (by decide) (by omega) u726001 x726001_2 (wrap64 (x18_2 + 1)) [.int .i64 (wrap64 (x18_2 + 1))] (fun k_ => some k_ ≠ (.slice Ao12 y722.length co12 : Value).ownBlock) (fun _ => False) rfl rfl ?aP (fun _ hk => hk.elim) ?aF ?aO ?aB ?aS ?aL ?_; (case aP => exact rfl); (case aB => exact (by repeat (first | (with_reducible first | exact HB.out | apply below_alloc | apply pw_below_drewN | apply below_drew1 | refine below_set ?_ GE721.out | refine below_set ?_ GE725.out) | exact HB.out))); (case aF => exact (fun k_ hk => Kd.fresh' (Kd.R_lt (by (with_reducible repeat (first | apply Kd.R_alloc | apply Kd.R_drewN | apply Kd.R_drew)); exact HO_726000.out)) k_ hk)); (case aO => exact (by (with_reducible repeat (first | apply Kd.R_alloc | apply Kd.R_drewN | apply Kd.R_drew)); exact HO_726001.out)); (case aS => exact (below_size (by repeat (first | (with_reducible first | exact HB.out | apply below_alloc | apply pw_below_drewN | apply below_drew1 | refine below_set ?_ GE721.out | refine below_set ?_ GE725.out) | exact HB.out)))); (case aL => have := LMc17.out; omega); intro v727 w20 ho hb hg hat; rw [← Ny726.out] at ho; have n0_ := Aside0.mk (Kd.R_after (ok := (fun _ => True)) (by (with_reducible repeat (first | apply Kd.R_alloc | apply Kd.R_drewN | apply Kd.R_drew)); exact Kd.R_mono HO_726000.out (fun _ hk => ⟨trivial, hk⟩)) hg hat); have n1_ := Aside0.mk (blk_grown (g := gb721) (o := .cells #[.slice none 0 0, .slice none 0 0, .int .i64 0] 74 (0, 0)) (by (with_reducible repeat (first | refine blk_drewN ?_ _ | refine blk_drew ?_ | refine blk_alloc ?_ _)); exact BK721.out) hg (Kd.R_ne HO_726001.out BK721.out (by decide))); have n2_ := Aside0.mk (blk_grown (g := gb725) (o := .cells #[.slice Ao12 y722.length co12, u726001, .int .i64 1] 74 (0, 0)) (by (with_reducible repeat (first | refine blk_drewN ?_ _ | refine blk_drew ?_ | refine blk_alloc ?_ _)); exact BK725.out) hg (Kd.R_ne HO_726001.out BK725.out (by decide))); have n3_ := Aside0.mk (hb); have n4_ := Aside0.mk (ho); clear HO_726000; clear BK721; clear BK725; clear HB; clear HO_726001; have HO_726000 := n0_; have BK721 := n1_; have BK725 := n2_; have HB := n3_; have HO728 := n4_; clear n0_ n1_ n2_ n3_ n4_; clear ho hb hg hat; obtain ⟨Ao21, co21, eo21⟩ := Kd.R_slice HO728.out; subst eo21; have hcz22_0 : w20.cell? ⟨gb725, 0, none⟩ = some (.slice Ao12 y722.length co12) := (blk_cell BK725.out 0).trans rfl; have hcz22_1 : w20.cell? ⟨gb725, 1, none⟩ = some (u726001) := (blk_cell BK725.out 1).trans rfl; have hcz22_2 : w20.cell? ⟨gb725, 2, none⟩ = some (.int .i64 1) := (blk_cell BK725.out 2).trans rfl; have hfz22_0 := blk_frozen BK725.out 0; have hfz22_1 := blk_frozen BK725.out 1; have hfz22_2 := blk_frozen BK725.out 2))
                    go_roundg k2
                    case measure => have := HJ1.out; have := HK2.out; omega
                    case rel => exact ⟨(wrap64 (x18_2 + 1)), (y726), (.slice Ao21 y726.length co21), (by first | rfl | (simp; done) | (simp [*]; done)), H', ⟨by have := HJ1.out; have := HK2.out; omega⟩, ⟨by (with_reducible repeat (first | apply Kd.R_alloc | apply Kd.R_drewN | apply Kd.R_drew)); exact Kd.R_mono (Kd.R_far (p := ⟨gb725, 1, none⟩) (Kd.R_types HO_726000.out BK725.out (by decide)) (fun _ hk => hk.2) (.slice Ao21 y726.length co21)) (fun _ hk => hk.1.2)⟩, ⟨by (with_reducible repeat (first | apply Kd.R_alloc | apply Kd.R_drewN | apply Kd.R_drew)); exact Kd.R_mono (Kd.R_far (p := ⟨gb725, 1, none⟩) (Kd.R_types HO728.out BK725.out (by decide)) (fun _ hk => hk.2) (.slice Ao21 y726.length co21)) (fun _ hk => hk.1)⟩, ⟨by (with_reducible repeat (first | refine blk_drewN ?_ _ | refine blk_drew ?_ | refine blk_alloc ?_ _)); refine blk_far ?_ NB721_725.out _; (with_reducible repeat (first | refine blk_drewN ?_ _ | refine blk_drew ?_ | refine blk_alloc ?_ _)); exact BK721.out⟩, ⟨by (with_reducible repeat (first | refine blk_drewN ?_ _ | refine blk_drew ?_ | refine blk_alloc ?_ _)); refine blk_put (cs := #[.slice Ao12 y722.length co12, u726001, .int .i64 1]) ?_ 1 _ rfl; (with_reducible repeat (first | refine blk_drewN ?_ _ | refine blk_drew ?_ | refine blk_alloc ?_ _)); exact BK725.out⟩, ⟨by repeat (first | (with_reducible first | exact HB.out | apply below_alloc | apply pw_below_drewN | apply below_drew1 | refine below_set ?_ GE721.out | refine below_set ?_ GE725.out) | exact HB.out)⟩⟩
                  · rw [if_neg c17] at H
                    exact absurd H (by simp)
                · rw [if_neg c16] at H
                  have c16b0 : decide (x18_2 < a0) = false := decide_eq_false c16
                  clear c16
                  simp only [Option.some.injEq, Prod.mk.injEq] at H
                  obtain ⟨rfl, rfl, rfl, rfl⟩ := H
                  have hnb23 := NB725_721.out
                  have hnc23 := NB721_725.out
                  have hcz24_0 : wr.cell? ⟨gb725, 0, none⟩ = some (.slice Ao12 y722.length co12) := (blk_cell BK725.out 0).trans rfl
                  have hcz24_1 : wr.cell? ⟨gb725, 1, none⟩ = some (u726001) := (blk_cell BK725.out 1).trans rfl
                  have hcz24_2 : wr.cell? ⟨gb725, 2, none⟩ = some (.int .i64 1) := (blk_cell BK725.out 2).trans rfl
                  have hfz24_0 := blk_frozen BK725.out 0
                  have hfz24_1 := blk_frozen BK725.out 1
                  have hfz24_2 := blk_frozen BK725.out 2
                  have hcz25_0 : wr.cell? ⟨gb721, 0, none⟩ = some (.slice none 0 0) := (blk_cell BK721.out 0).trans rfl
                  have hcz25_1 : wr.cell? ⟨gb721, 1, none⟩ = some (.slice none 0 0) := (blk_cell BK721.out 1).trans rfl
                  have hcz25_2 : wr.cell? ⟨gb721, 2, none⟩ = some (.int .i64 0) := (blk_cell BK721.out 2).trans rfl
                  have hfz25_0 := blk_frozen BK721.out 0
                  have hfz25_1 := blk_frozen BK721.out 1
                  have hfz25_2 := blk_frozen BK721.out 2
                  obtain ⟨Ao26, co26, eo26⟩ := Kd.R_slice HO_726001.out
                  subst eo26
                  go_wp2
                  refine bodyPost_ret (results_ct rfl _ _ gb721 74 #[.slice Ao12 y722.length co12, .slice Ao26 x726001_2.length co26, .int .i64 1] (0, 0) _ rfl (by (with_reducible repeat (first | refine blk_drewN ?_ _ | refine blk_drew ?_ | refine blk_alloc ?_ _)); refine blk_put (cs := #[.slice Ao12 y722.length co12, .slice Ao26 x726001_2.length co26, .int .i64 0]) ?_ 2 _ rfl; (with_reducible repeat (first | refine blk_drewN ?_ _ | refine blk_drew ?_ | refine blk_alloc ?_ _)); refine blk_put (cs := #[.slice Ao12 y722.length co12, .slice none 0 0, .int .i64 0]) ?_ 1 _ rfl; (with_reducible repeat (first | refine blk_drewN ?_ _ | refine blk_drew ?_ | refine blk_alloc ?_ _)); refine blk_put (cs := #[.slice none 0 0, .slice none 0 0, .int .i64 0]) ?_ 0 _ rfl; (with_reducible repeat (first | refine blk_drewN ?_ _ | refine blk_drew ?_ | refine blk_alloc ?_ _)); exact BK721.out) Try.underlying74 rfl (by kernel_rfl)) rfl ?_
                  exact ⟨_, _, by first | rfl | (simp [errW_none, errW_some] <;> rfl) | (simp only [← hji7]; first | rfl | (simp [errW_none, errW_some] <;> rfl)) | (simp [*, errW_none, errW_some] <;> rfl), by (with_reducible repeat (first | apply Kd.R_alloc | apply Kd.R_drewN | apply Kd.R_drew)); exact Kd.R_mono (Kd.R_far (p := ⟨gb721, 2, none⟩) (Kd.R_far (p := ⟨gb721, 1, none⟩) (Kd.R_far (p := ⟨gb721, 0, none⟩) (Kd.R_types HO_726000.out BK721.out (by decide)) (fun _ hk => hk.2) (.slice Ao12 y722.length co12)) (fun _ hk => hk.2) (.slice Ao26 x726001_2.length co26)) (fun _ hk => hk.2) (.int .i64 1)) (fun _ hk => hk.1), by (with_reducible repeat (first | apply Kd.R_alloc | apply Kd.R_drewN | apply Kd.R_drew)); exact Kd.R_mono (Kd.R_far (p := ⟨gb721, 2, none⟩) (Kd.R_far (p := ⟨gb721, 1, none⟩) (Kd.R_far (p := ⟨gb721, 0, none⟩) (Kd.R_types HO_726001.out BK721.out (by decide)) (fun _ hk => hk.2) (.slice Ao12 y722.length co12)) (fun _ hk => hk.2) (.slice Ao26 x726001_2.length co26)) (fun _ hk => hk.2) (.int .i64 1)) (fun _ hk => hk.1), by repeat (first | (with_reducible first | exact HB.out | apply below_alloc | apply pw_below_drewN | apply below_drew1 | refine below_set ?_ GE721.out | refine below_set ?_ GE725.out) | exact HB.out)⟩
          · rw [if_neg c9] at H
            exact absurd H (by simp)
        · rw [if_neg c8] at H
          exact absurd H (by simp)

/-! ### heap_Luby: function 68 -/
mutual
def heap_Luby.j0 : Nat → Int → Bool → Option (Int)
  | 0, _, _ => none
  | k + 1, x0, x9 => if x9 = true then (some 0) else (heap_Luby.l0 k x0)
def heap_Luby.l0 : Nat → Int → Option (Int)
  | 0, _ => none
  | k + 1, x0 => heap_Luby.l1 k x0 1
def heap_Luby.l1 : Nat → Int → Int → Option (Int)
  | 0, _, _ => none
  | k + 1, x0, x3 => if x3 ≤ x0 then (heap_Luby.l1 k x0 (wrap64 (x3 * 2))) else (if x0 = (wrap64 (x3 - 1)) then (some (x3 / 2)) else (heap_Luby.l0 k (wrap64 (x0 - (wrap64 ((x3 / 2) - 1))))))
end
def heap_Luby.f (k : Nat) (a0 : Int) : Option (Int) := if a0 < 1 then (heap_Luby.j0 k a0 true) else (heap_Luby.j0 k a0 (decide (a0 > 1099511627776)))
set_option maxHeartbeats 8000000 in
set_option maxRecDepth 100000 in
theorem heap_Luby.calls (k : Nat) (a0 : Int) (r : Int) (w : World) (h : heap_Luby.f k a0 = some r) :
    Calls Try.prog 68 #[.int .i64 a0] w fun e w' => e = .returned (.int .i64 r) ∧ Drawn0 w w' := by
  have H : (if a0 < 1 then (heap_Luby.j0 k a0 true) else (heap_Luby.j0 k a0 (decide (a0 > 1099511627776)))) = some r := h
  clear h
  have HC2 := Aside0.mk H
  clear H
  go_enter Try.func68, Try.ntmps68
  go_upto_region 1 with (fail)
  go_cut [9] (fun v9 wc => ∃ (kq : Nat) (x9_1 : Bool), v9 = .bool x9_1 ∧ Aside0 (heap_Luby.j0 kq a0 x9_1 = some r) ∧ Aside0 (kq ≤ k) ∧ Drawn0 w wc)
  case first =>
    have H := HC2.out
    clear HC2
    by_cases c3 : a0 < 1
    · rw [if_pos c3] at H
      have c3b0 : decide (a0 < 1) = true := decide_eq_true c3
      clear c3
      (first | rw [c3b0] | (simp only [i64_w, i32_w]; rw [c3b0]) | skip)
      have H' := Aside0.mk H
      clear H
      go_wp2
      go_meet
      case rel => exact ⟨_, (true), (by first | rfl | (simp; done) | (simp [*]; done)), H', ⟨by first | omega | exact Nat.le_refl _⟩, by repeat (first | exact Drawn0.refl _ | apply Drawn0.step)⟩
    · rw [if_neg c3] at H
      have c3b0 : decide (a0 < 1) = false := decide_eq_false c3
      clear c3
      (first | rw [c3b0] | (simp only [i64_w, i32_w]; rw [c3b0]) | skip)
      have H' := Aside0.mk H
      clear H
      go_wp2
      go_meet
      case rel => exact ⟨_, (decide (a0 > 1099511627776)), (by first | rfl | (simp; done) | (simp [*]; done)), H', ⟨by first | omega | exact Nat.le_refl _⟩, by repeat (first | exact Drawn0.refl _ | apply Drawn0.step)⟩
  case rest =>
    clear HC2
    try clear p2
    try clear c3
    try clear c3b0
    obtain ⟨kq, x9_1, rfl, HA, HJ1, ⟨mc1, rfl⟩⟩ := hcut
    cases kq with
    | zero => exact absurd HA.out (by simp [heap_Luby.j0])
    | succ kj1 =>
      have H := HA.out
      clear HA
      simp only [heap_Luby.j0] at H
      by_cases c4 : x9_1 = true
      · subst c4
        have H1 : (some 0) = some r := by rw [if_pos rfl] at H; exact H
        clear H
        have H := H1
        clear H1
        obtain rfl := Option.some.inj H
        go_wp2
        go_ret
        exact ⟨by first | rfl | (simp; done) | (simp [*]; done), by repeat (first | exact Drawn0.refl _ | apply Drawn0.step)⟩
      · replace c4 := Bool.eq_false_iff.mpr c4
        subst c4
        have H1 : (heap_Luby.l0 kj1 a0) = some r := by rw [if_neg (show ¬ (false = true) by decide)] at H; exact H
        clear H
        have H := H1
        clear H1
        have H' := Aside0.mk H
        clear H
        go_wp2
        go_loopg [0] kj1 (fun kq v0 w' => ∃ (x0_2 : Int), v0 = .int .i64 x0_2 ∧ Aside0 (heap_Luby.l0 kq x0_2 = some r) ∧ Aside0 (kq ≤ kj1) ∧ Drawn0 w w')
        case atStart => exact ⟨(a0), (by first | rfl | (simp; done) | (simp [*]; done)), H', ⟨Nat.le_refl _⟩, by repeat (first | exact Drawn0.refl _ | apply Drawn0.step)⟩
        case round =>
          clear H'
          try clear c1
          try clear p2
          try clear c3
          try clear c3b0
          try clear c4
          try clear p2
          obtain ⟨x0_2, rfl, HA, HK2, ⟨m2, rfl⟩⟩ := hrel
          cases gk with
          | zero => exact absurd HA.out (by simp [heap_Luby.l0])
          | succ k2 =>
            have H := HA.out
            clear HA
            simp only [heap_Luby.l0] at H
            have H' := Aside0.mk H
            clear H
            go_wp2
            go_loopg [3] k2 (fun kq v3 w' => ∃ (x3_3 : Int), v3 = .int .i64 x3_3 ∧ Aside0 (heap_Luby.l1 kq x0_2 x3_3 = some r) ∧ Aside0 (kq ≤ k2) ∧ Drawn0 w w')
            case atStart => exact ⟨(1), (by first | rfl | (simp; done) | (simp [*]; done)), H', ⟨Nat.le_refl _⟩, by repeat (first | exact Drawn0.refl _ | apply Drawn0.step)⟩
            case round =>
              clear H'
              try clear c1
              try clear p2
              try clear c3
              try clear c3b0
              try clear c4
              try clear p2
              obtain ⟨x3_3, rfl, HA, HK3, ⟨m3, rfl⟩⟩ := hrel
              cases gk with
              | zero => exact absurd HA.out (by simp [heap_Luby.l1])
              | succ k3 =>
                have H := HA.out
                clear HA
                simp only [heap_Luby.l1] at H
                by_cases c5 : x3_3 ≤ x0_2
                · rw [if_pos c5] at H
                  have c5b0 : decide (x3_3 ≤ x0_2) = true := decide_eq_true c5
                  clear c5
                  have H' := Aside0.mk H
                  clear H
                  go_wp2
                  go_roundg k3
                  case measure => have := HJ1.out; have := HK2.out; have := HK3.out; omega
                  case rel => exact ⟨(wrap64 (x3_3 * 2)), (by first | rfl | (simp; done) | (simp [*]; done)), H', ⟨by have := HJ1.out; have := HK2.out; have := HK3.out; omega⟩, by repeat (first | exact Drawn0.refl _ | apply Drawn0.step)⟩
                · rw [if_neg c5] at H
                  have c5b0 : decide (x3_3 ≤ x0_2) = false := decide_eq_false c5
                  clear c5
                  by_cases c6 : x0_2 = (wrap64 (x3_3 - 1))
                  · rw [if_pos c6] at H
                    have c6b0 : (x0_2 == (wrap64 (x3_3 - 1))) = true := beq_iff_eq.mpr c6
                    have c6b1 : (x0_2 != (wrap64 (x3_3 - 1))) = false := bne_eq_false_iff_eq.mpr c6
                    clear c6
                    obtain rfl := Option.some.inj H
                    go_wp2
                    go_ret
                    exact ⟨by first | rfl | (simp; done) | (simp [*]; done), by repeat (first | exact Drawn0.refl _ | apply Drawn0.step)⟩
                  · rw [if_neg c6] at H
                    have c6b0 : (x0_2 == (wrap64 (x3_3 - 1))) = false := beq_eq_false_iff_ne.mpr c6
                    have c6b1 : (x0_2 != (wrap64 (x3_3 - 1))) = true := bne_iff_ne.mpr c6
                    have H' := Aside0.mk H
                    clear H
                    go_wp2
                    go_roundg k3
                    case measure => have := HJ1.out; have := HK2.out; have := HK3.out; omega
                    case rel => exact ⟨(wrap64 (x0_2 - (wrap64 ((x3_3 / 2) - 1)))), (by first | rfl | (simp; done) | (simp [*]; done)), H', ⟨by have := HJ1.out; have := HK2.out; have := HK3.out; omega⟩, by repeat (first | exact Drawn0.refl _ | apply Drawn0.step)⟩

end Go.Proofs.Ytobadajeekdakaa.Print
