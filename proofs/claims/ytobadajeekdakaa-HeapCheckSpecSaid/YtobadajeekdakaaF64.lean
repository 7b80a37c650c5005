/- Contracts of functions of the program, out of Lean's own print of the translation: written by gen.py (wip/) with the kit's print. -/
import Derived.Test.YtobadajeekdakaaK
namespace Go.Proofs.Ytobadajeekdakaa.Print
open Go.RowKit Go.Proofs.YtobadajeekdakaaW.PrintWords Go.Proofs.YtobadajeekdakaaW.PrintLast
set_option linter.unusedVariables false
set_option linter.unusedSimpArgs false

/-! ### chalklineref21_New: function 64 -/
mutual
def chalklineref21_New.j0 : Nat → Int → Bool → Option (List Int × List Int × Int × Int)
  | 0, _, _ => none
  | k + 1, x0, x11 => if x11 = true then (some (([] : List Int), ([] : List Int), 0, 1)) else (chalklineref21_New.l0 k x0 1 (([0] : List Int)) ([] : List Int) 1)
def chalklineref21_New.l0 : Nat → Int → Int → List Int → List Int → Int → Option (List Int × List Int × Int × Int)
  | 0, _, _, _, _, _ => none
  | k + 1, x0, x5, x735000, x735001, x735002 => if x5 ≤ x0 then (if x735000.length < 17592186044416 then (if x735001.length < 17592186044416 then (chalklineref21_New.l0 k x0 (wrap64 (x5 + 1)) (x735000 ++ [0]) (x735001 ++ [x5]) x735002) else (none)) else (none)) else (some (x735000, x735001, x735002, 0))
end
def chalklineref21_New.f (k : Nat) (a0 : Int) : Option (List Int × List Int × Int × Int) := if a0 < 0 then (chalklineref21_New.j0 k a0 true) else (chalklineref21_New.j0 k a0 (decide (a0 > 65536)))
set_option maxHeartbeats 8000000 in
set_option maxRecDepth 100000 in
theorem chalklineref21_New.calls (k : Nat) (a0 : Int) (r1 : List Int) (r2 : List Int) (r3 : Int) (r4 : Int) (w : World) (h : chalklineref21_New.f k a0 = some (r1, r2, r3, r4)) :
    Calls Try.prog 64 #[.int .i64 a0] w fun e w' => ∃ v0_ v1_ : Value, e = .returned (.tuple #[.agg #[v0_, v1_, .int .i64 r3], .int .i64 r4]) ∧ Kd.R (Kd.int .i64) 3 w' w.heap.size (fun k_ => some k_ ≠ (v1_ : Value).ownBlock) v0_ r1 ∧ Kd.R (Kd.int .i64) 3 w' w.heap.size (fun k_ => some k_ ≠ (v0_ : Value).ownBlock) v1_ r2 ∧ Below w.heap.size w w' := by
  have hu74 := Try.underlying74
  have HB := Aside0.mk (Below.refl w.heap.size w)
  have H : (if a0 < 0 then (chalklineref21_New.j0 k a0 true) else (chalklineref21_New.j0 k a0 (decide (a0 > 65536)))) = some (r1, r2, r3, r4) := h
  clear h
  have HC2 := Aside0.mk H
  clear H
  go_enter Try.func64, Try.ntmps64
  go_upto_region 1 with (first | ((with_reducible refine gate_dst (N := 2) rfl ?_); refine box_event ?hg (N := 2) ?hd (cs := #[.slice none 0 0, .slice none 0 0, .int .i64 0]) (t := 74) ?hr ?_; (case hd => rfl); (case hg => rfl); (case hr => first | (go_simp; done) | (go_simp; rfl)); intro gb730 hg w3 hbox hb; have n0_ := Aside0.mk (below_step (by repeat (first | (with_reducible first | exact HB.out | apply below_alloc | apply pw_below_drewN | apply below_drew1) | exact HB.out)) hb); have n1_ := Aside0.mk (hbox); have n2_ := Aside0.mk ((by rw [hg]; exact (below_size (by repeat (first | (with_reducible first | exact HB.out | apply below_alloc | apply pw_below_drewN | apply below_drew1) | exact HB.out))) : w.heap.size ≤ gb730)); have n3_ := Aside0.mk ((by rw [hg]; exact (below_size (by repeat (first | (with_reducible first | exact HB.out | apply below_alloc | apply pw_below_drewN | apply below_drew1) | exact HB.out))) : w.heap.size ≤ gb730)); clear HB; have HB := n0_; have BK730 := n1_; have GW730 := n2_; have GE730 := n3_; clear n0_ n1_ n2_ n3_; clear hb hbox hg))
  (try simp only [Act.put, List.setIfInBounds_toArray, List.set_cons_zero, List.set_cons_succ])
  go_cut [11] (fun v11 wc => ∃ (kq : Nat) (x11_1 : Bool), v11 = .bool x11_1 ∧ Aside0 (chalklineref21_New.j0 kq a0 x11_1 = some (r1, r2, r3, r4)) ∧ Aside0 (kq ≤ k) ∧ Aside0 (wc.heap[gb730]? = some (.cells #[(.slice none 0 0), (.slice none 0 0), .int .i64 0] 74 (0, 0))) ∧ Aside0 (Below w.heap.size w wc))
  case first =>
    have H := HC2.out
    clear HC2
    by_cases c4 : a0 < 0
    · rw [if_pos c4] at H
      have c4b0 : decide (a0 < 0) = true := decide_eq_true c4
      clear c4
      (first | rw [c4b0] | (simp only [i64_w, i32_w]; rw [c4b0]) | skip)
      have H' := Aside0.mk H
      clear H
      go_wp2
      go_meet
      case rel => exact ⟨_, (true), (by first | rfl | (simp; done) | (simp [*]; done)), H', ⟨by first | omega | exact Nat.le_refl _⟩, ⟨by (with_reducible repeat (first | refine blk_drewN ?_ _ | refine blk_drew ?_ | refine blk_alloc ?_ _)); exact BK730.out⟩, ⟨by repeat (first | (with_reducible first | exact HB.out | apply below_alloc | apply pw_below_drewN | apply below_drew1 | refine below_set ?_ GE730.out) | exact HB.out)⟩⟩
    · rw [if_neg c4] at H
      have c4b0 : decide (a0 < 0) = false := decide_eq_false c4
      clear c4
      (first | rw [c4b0] | (simp only [i64_w, i32_w]; rw [c4b0]) | skip)
      have H' := Aside0.mk H
      clear H
      go_wp2
      go_meet
      case rel => exact ⟨_, (decide (a0 > 65536)), (by first | rfl | (simp; done) | (simp [*]; done)), H', ⟨by first | omega | exact Nat.le_refl _⟩, ⟨by (with_reducible repeat (first | refine blk_drewN ?_ _ | refine blk_drew ?_ | refine blk_alloc ?_ _)); exact BK730.out⟩, ⟨by repeat (first | (with_reducible first | exact HB.out | apply below_alloc | apply pw_below_drewN | apply below_drew1 | refine below_set ?_ GE730.out) | exact HB.out)⟩⟩
  case rest =>
    clear HC2
    try clear p2
    try clear c4
    try clear c4b0
    obtain ⟨kq, x11_1, rfl, HA, HJ1, BK730, HB⟩ := hcut
    cases kq with
    | zero => exact absurd HA.out (by simp [chalklineref21_New.j0])
    | succ kj1 =>
      have H := HA.out
      clear HA
      simp only [chalklineref21_New.j0] at H
      by_cases c5 : x11_1 = true
      · subst c5
        have H1 : (some (([] : List Int), ([] : List Int), 0, 1)) = some (r1, r2, r3, r4) := by rw [if_pos rfl] at H; exact H
        clear H
        have H := H1
        clear H1
        simp only [Option.some.injEq, Prod.mk.injEq] at H
        obtain ⟨rfl, rfl, rfl, rfl⟩ := H
        have hcz6_0 : wc.cell? ⟨gb730, 0, none⟩ = some (.slice none 0 0) := (blk_cell BK730.out 0).trans rfl
        have hcz6_1 : wc.cell? ⟨gb730, 1, none⟩ = some (.slice none 0 0) := (blk_cell BK730.out 1).trans rfl
        have hcz6_2 : wc.cell? ⟨gb730, 2, none⟩ = some (.int .i64 0) := (blk_cell BK730.out 2).trans rfl
        have hfz6_0 := blk_frozen BK730.out 0
        have hfz6_1 := blk_frozen BK730.out 1
        have hfz6_2 := blk_frozen BK730.out 2
        go_wp2
        refine bodyPost_ret (results_ct rfl _ _ gb730 74 #[.slice none 0 0, .slice none 0 0, .int .i64 0] (0, 0) _ rfl (by (with_reducible repeat (first | refine blk_drewN ?_ _ | refine blk_drew ?_ | refine blk_alloc ?_ _)); refine blk_put (cs := #[.slice none 0 0, .slice none 0 0, .int .i64 0]) ?_ 2 _ rfl; (with_reducible repeat (first | refine blk_drewN ?_ _ | refine blk_drew ?_ | refine blk_alloc ?_ _)); refine blk_put (cs := #[.slice none 0 0, .slice none 0 0, .int .i64 0]) ?_ 1 _ rfl; (with_reducible repeat (first | refine blk_drewN ?_ _ | refine blk_drew ?_ | refine blk_alloc ?_ _)); refine blk_put (cs := #[.slice none 0 0, .slice none 0 0, .int .i64 0]) ?_ 0 _ rfl; (with_reducible repeat (first | refine blk_drewN ?_ _ | refine blk_drew ?_ | refine blk_alloc ?_ _)); exact BK730.out) Try.underlying74 rfl (by kernel_rfl)) rfl ?_
        exact ⟨_, _, by first | rfl | (simp [errW_none, errW_some] <;> rfl) | (simp [*, errW_none, errW_some] <;> rfl), by first | exact Kd.R_nil _ _ _ _ _ | exact Kd.N_nil _ _ _ _ _ | exact Kd.V_nil _ _ _ _ _ | exact Kd.Q_nil _ _ _ _ _ | exact Kd.S_nil _ _ _ _ _, by first | exact Kd.R_nil _ _ _ _ _ | exact Kd.N_nil _ _ _ _ _ | exact Kd.V_nil _ _ _ _ _ | exact Kd.Q_nil _ _ _ _ _ | exact Kd.S_nil _ _ _ _ _, by repeat (first | (with_reducible first | exact HB.out | apply below_alloc | apply pw_below_drewN | apply below_drew1 | refine below_set ?_ GE730.out) | exact HB.out)⟩
      · replace c5 := Bool.eq_false_iff.mpr c5
        subst c5
        have H1 : (chalklineref21_New.l0 kj1 a0 1 (([0] : List Int)) ([] : List Int) 1) = some (r1, r2, r3, r4) := by rw [if_neg (show ¬ (false = true) by decide)] at H; exact H
        clear H
        have H := H1
        clear H1
        obtain ⟨y731, hy731⟩ : ∃ y_ : List Int, y_ = (([0] : List Int)) := ⟨_, rfl⟩
        replace H : (chalklineref21_New.l0 kj1 a0 1 y731 ([] : List Int) 1) = some (r1, r2, r3, r4) := by first | (rw [hy731]; with_reducible exact H) | (have H2_ := (Option.bind_some _ _).symm.trans H; rw [hy731]; with_reducible exact H2_) | (have H2_ := (Option.bind_some _ _).symm.trans H; with_reducible exact H2_) | with_reducible exact H | (rw [hy731]; exact H) | exact H
        have Ny731 := Aside0.mk hy731
        clear hy731
        have H' := Aside0.mk H
        clear H
        go_wp2_with (first | ((with_reducible refine gate_dst (N := 13) rfl ?_); refine Kd.R_lit (Kd.int .i64) _ 3 ?hg (N := 13) ?hd (xs := ([0] : List Int)) (inner := [.int .i64 0]) (ok := fun _ => True) (okp := fun _ => True) ?hr ?hp (fun _ hk => hk) trivial (Below.refl _ _) (Nat.le_refl _) (by simp) ?_; (case hd => rfl); (case hg => rfl); (case hr => first | (go_simp; done) | (go_simp; rfl)); (case hp => exact (Reps.one (show Kd.M (Kd.int .i64) _ _ _ 0 [.int .i64 0] from rfl) (Reps.none _ _))); intro v732 w7 ho8 hb hg_ hnew_; clear hg_ hnew_; (first | rw [← Ny731.out] at ho8 | (simp only [Int.reduceToNat] at ho8; rw [← Ny731.out] at ho8)); have n0_ := Aside0.mk (Kd.R_lower ho8 (below_size (by repeat (first | (with_reducible first | exact HB.out | apply below_alloc | apply pw_below_drewN | apply below_drew1 | refine below_set ?_ GE730.out) | exact HB.out)))); have n1_ := Aside0.mk (blk_below (g := gb730) (o := .cells #[.slice none 0 0, .slice none 0 0, .int .i64 0] 74 (0, 0)) (by (with_reducible repeat (first | refine blk_drewN ?_ _ | refine blk_drew ?_ | refine blk_alloc ?_ _)); exact BK730.out) hb); have n2_ := Aside0.mk (below_step (by repeat (first | (with_reducible first | exact HB.out | apply below_alloc | apply pw_below_drewN | apply below_drew1 | refine below_set ?_ GE730.out) | exact HB.out)) hb); clear BK730; clear HB; have HO733 := n0_; have BK730 := n1_; have HB := n2_; clear n0_ n1_ n2_; clear hb ho8; obtain ⟨Ao9, co9, eo9⟩ := Kd.R_slice HO733.out; subst eo9) | ((with_reducible refine gate_dst (N := 4) rfl ?_); refine box_event ?hg (N := 4) ?hd (cs := #[.slice none 0 0, .slice none 0 0, .int .i64 0]) (t := 74) ?hr ?_; (case hd => rfl); (case hg => rfl); (case hr => first | (go_simp; done) | (go_simp; rfl)); intro gb734 hg w10 hbox hb; have n0_ := Aside0.mk (Kd.R_below (by (with_reducible repeat (first | apply Kd.R_alloc | apply Kd.R_drewN | apply Kd.R_drew)); exact HO733.out) hb); have n1_ := Aside0.mk (blk_below (g := gb730) (o := .cells #[.slice none 0 0, .slice none 0 0, .int .i64 0] 74 (0, 0)) (by (with_reducible repeat (first | refine blk_drewN ?_ _ | refine blk_drew ?_ | refine blk_alloc ?_ _)); exact BK730.out) hb); have n2_ := Aside0.mk (below_step (by repeat (first | (with_reducible first | exact HB.out | apply below_alloc | apply pw_below_drewN | apply below_drew1 | refine below_set ?_ GE730.out) | exact HB.out)) hb); have n3_ := Aside0.mk (hbox); have n4_ := Aside0.mk ((by rw [hg]; exact (below_size (by repeat (first | (with_reducible first | exact HB.out | apply below_alloc | apply pw_below_drewN | apply below_drew1 | refine below_set ?_ GE730.out) | exact HB.out))) : w.heap.size ≤ gb734)); have n5_ := Aside0.mk ((by rw [hg]; exact (below_size (by repeat (first | (with_reducible first | exact HB.out | apply below_alloc | apply pw_below_drewN | apply below_drew1 | refine below_set ?_ GE730.out) | exact HB.out))) : w.heap.size ≤ gb734)); have n6_ := Aside0.mk ((by rw [hg]; exact Nat.ne_of_lt (blk_lt (g := gb730) (o := .cells #[.slice none 0 0, .slice none 0 0, .int .i64 0] 74 (0, 0)) (by (with_reducible repeat (first | refine blk_drewN ?_ _ | refine blk_drew ?_ | refine blk_alloc ?_ _)); exact BK730.out)) : gb730 ≠ gb734)); have n7_ := Aside0.mk ((by rw [hg]; exact Nat.ne_of_gt (blk_lt (g := gb730) (o := .cells #[.slice none 0 0, .slice none 0 0, .int .i64 0] 74 (0, 0)) (by (with_reducible repeat (first | refine blk_drewN ?_ _ | refine blk_drew ?_ | refine blk_alloc ?_ _)); exact BK730.out)) : gb734 ≠ gb730)); clear HO733; clear BK730; clear HB; have HO733 := n0_; have BK730 := n1_; have HB := n2_; have BK734 := n3_; have GW734 := n4_; have GE734 := n5_; have NB730_734 := n6_; have NB734_730 := n7_; clear n0_ n1_ n2_ n3_ n4_ n5_ n6_ n7_; clear hb hbox hg; have hnb11 := NB734_730.out; have hnc11 := NB730_734.out; have hcz12_0 : w10.cell? ⟨gb734, 0, none⟩ = some (.slice none 0 0) := (blk_cell BK734.out 0).trans rfl; have hcz12_1 : w10.cell? ⟨gb734, 1, none⟩ = some (.slice none 0 0) := (blk_cell BK734.out 1).trans rfl; have hcz12_2 : w10.cell? ⟨gb734, 2, none⟩ = some (.int .i64 0) := (blk_cell BK734.out 2).trans rfl; have hfz12_0 := blk_frozen BK734.out 0; have hfz12_1 := blk_frozen BK734.out 1; have hfz12_2 := blk_frozen BK734.out 2))
        go_loopg [5] kj1 (fun kq v5 w' => ∃ (x5_2 : Int) (x735000_2 : List Int) (x735001_2 : List Int) (u735000 : Value) (u735001 : Value), v5 = .int .i64 x5_2 ∧ Aside0 (chalklineref21_New.l0 kq a0 x5_2 x735000_2 x735001_2 1 = some (r1, r2, r3, r4)) ∧ Aside0 (kq ≤ kj1) ∧ Aside0 (Kd.R (Kd.int .i64) 3 w' w.heap.size (fun k_ => some k_ ≠ (u735001 : Value).ownBlock) u735000 x735000_2) ∧ Aside0 (Kd.R (Kd.int .i64) 3 w' w.heap.size (fun k_ => some k_ ≠ (u735000 : Value).ownBlock) u735001 x735001_2) ∧ Aside0 (w'.heap[gb730]? = some (.cells #[(.slice none 0 0), (.slice none 0 0), .int .i64 0] 74 (0, 0))) ∧ Aside0 (w'.heap[gb734]? = some (.cells #[u735000, u735001, .int .i64 1] 74 (0, 0))) ∧ Aside0 (Below w.heap.size w w'))
        case atStart => exact ⟨(1), (y731), (([] : List Int)), (.slice Ao9 y731.length co9), (.slice none 0 0), (by first | rfl | (simp; done) | (simp [*]; done)), H', ⟨Nat.le_refl _⟩, ⟨by (with_reducible repeat (first | apply Kd.R_alloc | apply Kd.R_drewN | apply Kd.R_drew)); exact Kd.R_mono (Kd.R_far (p := ⟨gb734, 2, none⟩) (Kd.R_far (p := ⟨gb734, 1, none⟩) (Kd.R_far (p := ⟨gb734, 0, none⟩) (Kd.R_types HO733.out BK734.out (by decide)) (fun _ hk => hk.2) (.slice Ao9 y731.length co9)) (fun _ hk => hk.2) (.slice none 0 0)) (fun _ hk => hk.2) (.int .i64 1)) (fun _ hk => (by simp [Value.ownBlock]))⟩, ⟨by first | exact Kd.R_nil _ _ _ _ _ | exact Kd.N_nil _ _ _ _ _ | exact Kd.V_nil _ _ _ _ _ | exact Kd.Q_nil _ _ _ _ _ | exact Kd.S_nil _ _ _ _ _⟩, ⟨by (with_reducible repeat (first | refine blk_drewN ?_ _ | refine blk_drew ?_ | refine blk_alloc ?_ _)); refine blk_far ?_ NB730_734.out _; (with_reducible repeat (first | refine blk_drewN ?_ _ | refine blk_drew ?_ | refine blk_alloc ?_ _)); refine blk_far ?_ NB730_734.out _; (with_reducible repeat (first | refine blk_drewN ?_ _ | refine blk_drew ?_ | refine blk_alloc ?_ _)); refine blk_far ?_ NB730_734.out _; (with_reducible repeat (first | refine blk_drewN ?_ _ | refine blk_drew ?_ | refine blk_alloc ?_ _)); exact BK730.out⟩, ⟨by (with_reducible repeat (first | refine blk_drewN ?_ _ | refine blk_drew ?_ | refine blk_alloc ?_ _)); refine blk_put (cs := #[.slice Ao9 y731.length co9, .slice none 0 0, .int .i64 0]) ?_ 2 _ rfl; (with_reducible repeat (first | refine blk_drewN ?_ _ | refine blk_drew ?_ | refine blk_alloc ?_ _)); refine blk_put (cs := #[.slice Ao9 y731.length co9, .slice none 0 0, .int .i64 0]) ?_ 1 _ rfl; (with_reducible repeat (first | refine blk_drewN ?_ _ | refine blk_drew ?_ | refine blk_alloc ?_ _)); refine blk_put (cs := #[.slice none 0 0, .slice none 0 0, .int .i64 0]) ?_ 0 _ rfl; (with_reducible repeat (first | refine blk_drewN ?_ _ | refine blk_drew ?_ | refine blk_alloc ?_ _)); exact BK734.out⟩, ⟨by repeat (first | (with_reducible first | exact HB.out | apply below_alloc | apply pw_below_drewN | apply below_drew1 | refine below_set ?_ GE730.out | refine below_set ?_ GE734.out) | exact HB.out)⟩⟩
        case round =>
          clear H'
          try clear c1
          try clear p2
          try clear c4
          try clear c4b0
          try clear c5
          try clear c6
          try clear c11
          try clear hcz12_0
          try clear hcz12_1
          try clear hcz12_2
          try clear hcz6_0
          try clear hcz6_1
          try clear hcz6_2
          try clear hfz12_0
          try clear hfz12_1
          try clear hfz12_2
          try clear hfz6_0
          try clear hfz6_1
          try clear hfz6_2
          try clear p2
          obtain ⟨x5_2, x735000_2, x735001_2, u735000, u735001, rfl, HA, HK2, HO_735000, HO_735001, BK730, BK734, HB⟩ := hrel
          cases gk with
          | zero => exact absurd HA.out (by simp [chalklineref21_New.l0])
          | succ k2 =>
            have H := HA.out
            clear HA
            simp only [chalklineref21_New.l0] at H
            by_cases c13 : x5_2 ≤ a0
            · rw [if_pos c13] at H
              have c13b0 : decide (x5_2 ≤ a0) = true := decide_eq_true c13
              clear c13
              by_cases c14 : x735000_2.length < 17592186044416
              · rw [if_pos c14] at H
                have LMc14 := Aside0.mk c14
                clear c14
                obtain ⟨y735, hy735⟩ : ∃ y_ : List Int, y_ = (x735000_2 ++ [0]) := ⟨_, rfl⟩
                replace H : (if x735001_2.length < 17592186044416 then (chalklineref21_New.l0 k2 a0 (wrap64 (x5_2 + 1)) y735 (x735001_2 ++ [x5_2]) 1) else (none)) = some (r1, r2, r3, r4) := by first | (rw [hy735]; with_reducible exact H) | (have H2_ := (Option.bind_some _ _).symm.trans H; rw [hy735]; with_reducible exact H2_) | (have H2_ := (Option.bind_some _ _).symm.trans H; with_reducible exact H2_) | with_reducible exact H | (rw [hy735]; exact H) | exact H
                have Ny735 := Aside0.mk hy735
                clear hy735
                by_cases c15 : x735001_2.length < 17592186044416
                · rw [if_pos c15] at H
                  have LMc15 := Aside0.mk c15
                  clear c15
                  obtain ⟨y738, hy738⟩ : ∃ y_ : List Int, y_ = (x735001_2 ++ [x5_2]) := ⟨_, rfl⟩
                  replace H : (chalklineref21_New.l0 k2 a0 (wrap64 (x5_2 + 1)) y735 y738 1) = some (r1, r2, r3, r4) := by first | (rw [hy738]; with_reducible exact H) | (have H2_ := (Option.bind_some _ _).symm.trans H; rw [hy738]; with_reducible exact H2_) | (have H2_ := (Option.bind_some _ _).symm.trans H; with_reducible exact H2_) | with_reducible exact H | (rw [hy738]; exact H) | exact H
                  have Ny738 := Aside0.mk hy738
                  clear hy738
                  have H' := Aside0.mk H
                  clear H
                  have hnb16 := NB734_730.out
                  have hnc16 := NB730_734.out
                  have hcz17_0 : wr.cell? ⟨gb734, 0, none⟩ = some (u735000) := (blk_cell BK734.out 0).trans rfl
                  have hcz17_1 : wr.cell? ⟨gb734, 1, none⟩ = some (u735001) := (blk_cell BK734.out 1).trans rfl
                  have hcz17_2 : wr.cell? ⟨gb734, 2, none⟩ = some (.int .i64 1) := (blk_cell BK734.out 2).trans rfl
                  have hfz17_0 := blk_frozen BK734.out 0
                  have hfz17_1 := blk_frozen BK734.out 1
                  have hfz17_2 := blk_frozen BK734.out 2
                  go_wp2_with (first | ((with_reducible refine gate_builtin (b := .append) (xs := #[.tmp 21, .tmp 22]) rfl ?_); at_builtin; refine Kd.R_append (Kd.int .i64) (w0 := w) w.heap.size rfl (.tmp 21) (.tmp 22) 28 3 (.int .i64 0) 8 rfl Try.underlying28 info3 rfl (by decide) (by omega) u735000 x735000_2 0 [.int .i64 0] (fun k_ => some k_ ≠ (u735001 : Value).ownBlock) (fun _ => False) rfl rfl ?aP (fun _ hk => hk.elim) ?aF ?aO ?aB ?aS ?aL ?_; (case aP => exact rfl); (case aB => exact (by repeat (first | (with_reducible first | exact HB.out | apply below_alloc | apply pw_below_drewN | apply below_drew1 | refine below_set ?_ GE730.out | refine below_set ?_ GE734.out) | exact HB.out))); (case aF => exact (fun k_ hk => Kd.fresh' (Kd.R_lt (by (with_reducible repeat (first | apply Kd.R_alloc | apply Kd.R_drewN | apply Kd.R_drew)); exact HO_735001.out)) k_ hk)); (case aO => exact (by (with_reducible repeat (first | apply Kd.R_alloc | apply Kd.R_drewN | apply Kd.R_drew)); exact HO_735000.out)); (case aS => exact (below_size (by repeat (first | (with_reducible first | exact HB.out | apply below_alloc | apply pw_below_drewN | apply below_drew1 | refine below_set ?_ GE730.out | refine below_set ?_ GE734.out) | exact HB.out)))); (case aL => have := LMc14.out; omega); intro v736 w18 ho hb hg hat; rw [← Ny735.out] at ho; have n0_ := Aside0.mk (Kd.R_after (ok := (fun _ => True)) (by (with_reducible repeat (first | apply Kd.R_alloc | apply Kd.R_drewN | apply Kd.R_drew)); exact Kd.R_mono HO_735001.out (fun _ hk => ⟨trivial, hk⟩)) hg hat); have n1_ := Aside0.mk (blk_grown (g := gb730) (o := .cells #[.slice none 0 0, .slice none 0 0, .int .i64 0] 74 (0, 0)) (by (with_reducible repeat (first | refine blk_drewN ?_ _ | refine blk_drew ?_ | refine blk_alloc ?_ _)); exact BK730.out) hg (Kd.R_ne HO_735000.out BK730.out (by decide))); have n2_ := Aside0.mk (blk_grown (g := gb734) (o := .cells #[u735000, u735001, .int .i64 1] 74 (0, 0)) (by (with_reducible repeat (first | refine blk_drewN ?_ _ | refine blk_drew ?_ | refine blk_alloc ?_ _)); exact BK734.out) hg (Kd.R_ne HO_735000.out BK734.out (by decide))); have n3_ := Aside0.mk (hb); have n4_ := Aside0.mk (ho); clear HO_735001; clear BK730; clear BK734; clear HB; clear HO_735000; have HO_735001 := n0_; have BK730 := n1_; have BK734 := n2_; have HB := n3_; have HO737 := n4_; clear n0_ n1_ n2_ n3_ n4_; clear ho hb hg hat; obtain ⟨Ao19, co19, eo19⟩ := Kd.R_slice HO737.out; subst eo19; have hcz20_0 : w18.cell? ⟨gb734, 0, none⟩ = some (u735000) := (blk_cell BK734.out 0).trans rfl; have hcz20_1 : w18.cell? ⟨gb734, 1, none⟩ = some (u735001) := (blk_cell BK734.out 1).trans rfl; have hcz20_2 : w18.cell? ⟨gb734, 2, none⟩ = some (.int .i64 1) := (blk_cell BK734.out 2).trans rfl; have hfz20_0 := blk_frozen BK734.out 0; have hfz20_1 := blk_frozen BK734.out 1; have hfz20_2 := blk_frozen BK734.out 2) | ((with_reducible refine gate_builtin (b := .append) (xs := #[.tmp 26, .tmp 28]) rfl ?_); at_builtin; refine Kd.R_append (Kd.int .i64) (w0 := w) w.heap.size rfl (.tmp 26) (.tmp 28) 28 3 (.int .i64 0) 8 rfl Try.underlying28 info3 rfl (by decide) (by omega) u735001 x735001_2 x5_2 [.int .i64 x5_2] (fun k_ => some k_ ≠ (.slice Ao19 y735.length co19 : Value).ownBlock) (fun _ => False) rfl (by first | (go_simp; done) | (go_simp; rfl)) ?aP (fun _ hk => hk.elim) ?aF ?aO ?aB ?aS ?aL ?_; (case aP => exact rfl); (case aB => exact (by repeat (first | (with_reducible first | exact HB.out | apply below_alloc | apply pw_below_drewN | apply below_drew1 | refine below_set ?_ GE730.out | refine below_set ?_ GE734.out) | exact HB.out))); (case aF => exact (fun k_ hk => Kd.fresh' (Kd.R_lt (by (with_reducible repeat (first | apply Kd.R_alloc | apply Kd.R_drewN | apply Kd.R_drew)); exact (Kd.R_mono (Kd.R_far (p := ⟨gb734, 0, none⟩) (Kd.R_types HO737.out BK734.out (by decide)) (fun _ hk => hk.2) (.slice Ao19 y735.length co19)) (fun _ h_ => h_.1)))) k_ hk)); (case aO => exact (by (with_reducible repeat (first | apply Kd.R_alloc | apply Kd.R_drewN | apply Kd.R_drew)); exact Kd.R_mono (Kd.R_far (p := ⟨gb734, 0, none⟩) (Kd.R_types HO_735001.out BK734.out (by decide)) (fun _ hk => hk.2) (.slice Ao19 y735.length co19)) (fun _ hk => hk.1.2))); (case aS => exact (below_size (by repeat (first | (with_reducible first | exact HB.out | apply below_alloc | apply pw_below_drewN | apply below_drew1 | refine below_set ?_ GE730.out | refine below_set ?_ GE734.out) | exact HB.out)))); (case aL => have := LMc15.out; omega); intro v739 w21 ho hb hg hat; rw [← Ny738.out] at ho; have n0_ := Aside0.mk (blk_grown (g := gb730) (o := .cells #[.slice none 0 0, .slice none 0 0, .int .i64 0] 74 (0, 0)) (by (with_reducible repeat (first | refine blk_drewN ?_ _ | refine blk_drew ?_ | refine blk_alloc ?_ _)); refine blk_far ?_ NB730_734.out _; (with_reducible repeat (first | refine blk_drewN ?_ _ | refine blk_drew ?_ | refine blk_alloc ?_ _)); exact BK730.out) hg (Kd.R_ne HO_735001.out BK730.out (by decide))); have n1_ := Aside0.mk (blk_grown (g := gb734) (o := .cells #[.slice Ao19 y735.length co19, u735001, .int .i64 1] 74 (0, 0)) (by (with_reducible repeat (first | refine blk_drewN ?_ _ | refine blk_drew ?_ | refine blk_alloc ?_ _)); refine blk_put (cs := #[u735000, u735001, .int .i64 1]) ?_ 0 _ rfl; (with_reducible repeat (first | refine blk_drewN ?_ _ | refine blk_drew ?_ | refine blk_alloc ?_ _)); exact BK734.out) hg (Kd.R_ne HO_735001.out BK734.out (by decide))); have n2_ := Aside0.mk (Kd.R_after (ok := (fun _ => True)) (by (with_reducible repeat (first | apply Kd.R_alloc | apply Kd.R_drewN | apply Kd.R_drew)); exact Kd.R_mono (Kd.R_far (p := ⟨gb734, 0, none⟩) (Kd.R_types HO737.out BK734.out (by decide)) (fun _ hk => hk.2) (.slice Ao19 y735.length co19)) (fun _ hk => ⟨trivial, hk.1⟩)) hg hat); have n3_ := Aside0.mk (hb); have n4_ := Aside0.mk (ho); clear BK730; clear BK734; clear HO737; clear HB; clear HO_735001; have BK730 := n0_; have BK734 := n1_; have HO737 := n2_; have HB := n3_; have HO740 := n4_; clear n0_ n1_ n2_ n3_ n4_; clear ho hb hg hat; obtain ⟨Ao22, co22, eo22⟩ := Kd.R_slice HO740.out; subst eo22; have hcz23_0 : w21.cell? ⟨gb734, 0, none⟩ = some (.slice Ao19 y735.length co19) := (blk_cell BK734.out 0).trans rfl; have hcz23_1 : w21.cell? ⟨gb734, 1, none⟩ = some (u735001) := (blk_cell BK734.out 1).trans rfl; have hcz23_2 : w21.cell? ⟨gb734, 2, none⟩ = some (.int .i64 1) := (blk_cell BK734.out 2).trans rfl; have hfz23_0 := blk_frozen BK734.out 0; have hfz23_1 := blk_frozen BK734.out 1; have hfz23_2 := blk_frozen BK734.out 2))
                  go_roundg k2
                  case measure => have := HJ1.out; have := HK2.out; omega
                  case rel => exact ⟨(wrap64 (x5_2 + 1)), (y735), (y738), (.slice Ao19 y735.length co19), (.slice Ao22 y738.length co22), (by first | rfl | (simp; done) | (simp [*]; done)), H', ⟨by have := HJ1.out; have := HK2.out; omega⟩, ⟨by (with_reducible repeat (first | apply Kd.R_alloc | apply Kd.R_drewN | apply Kd.R_drew)); exact Kd.R_mono (Kd.R_far (p := ⟨gb734, 1, none⟩) (Kd.R_types HO737.out BK734.out (by decide)) (fun _ hk => hk.2) (.slice Ao22 y738.length co22)) (fun _ hk => hk.1.2)⟩, ⟨by (with_reducible repeat (first | apply Kd.R_alloc | apply Kd.R_drewN | apply Kd.R_drew)); exact Kd.R_mono (Kd.R_far (p := ⟨gb734, 1, none⟩) (Kd.R_types HO740.out BK734.out (by decide)) (fun _ hk => hk.2) (.slice Ao22 y738.length co22)) (fun _ hk => hk.1)⟩, ⟨by (with_reducible repeat (first | refine blk_drewN ?_ _ | refine blk_drew ?_ | refine blk_alloc ?_ _)); refine blk_far ?_ NB730_734.out _; (with_reducible repeat (first | refine blk_drewN ?_ _ | refine blk_drew ?_ | refine blk_alloc ?_ _)); exact BK730.out⟩, ⟨by (with_reducible repeat (first | refine blk_drewN ?_ _ | refine blk_drew ?_ | refine blk_alloc ?_ _)); refine blk_put (cs := #[.slice Ao19 y735.length co19, u735001, .int .i64 1]) ?_ 1 _ rfl; (with_reducible repeat (first | refine blk_drewN ?_ _ | refine blk_drew ?_ | refine blk_alloc ?_ _)); exact BK734.out⟩, ⟨by repeat (first | (with_reducible first | exact HB.out | apply below_alloc | apply pw_below_drewN | apply below_drew1 | refine below_set ?_ GE730.out | refine below_set ?_ GE734.out) | exact HB.out)⟩⟩
                · rw [if_neg c15] at H
                  exact absurd H (by simp)
              · rw [if_neg c14] at H
                exact absurd H (by simp)
            · rw [if_neg c13] at H
              have c13b0 : decide (x5_2 ≤ a0) = false := decide_eq_false c13
              clear c13
              simp only [Option.some.injEq, Prod.mk.injEq] at H
              obtain ⟨rfl, rfl, rfl, rfl⟩ := H
              have hnb24 := NB734_730.out
              have hnc24 := NB730_734.out
              have hcz25_0 : wr.cell? ⟨gb734, 0, none⟩ = some (u735000) := (blk_cell BK734.out 0).trans rfl
              have hcz25_1 : wr.cell? ⟨gb734, 1, none⟩ = some (u735001) := (blk_cell BK734.out 1).trans rfl
              have hcz25_2 : wr.cell? ⟨gb734, 2, none⟩ = some (.int .i64 1) := (blk_cell BK734.out 2).trans rfl
              have hfz25_0 := blk_frozen BK734.out 0
              have hfz25_1 := blk_frozen BK734.out 1
              have hfz25_2 := blk_frozen BK734.out 2
              obtain ⟨Ao26, co26, eo26⟩ := Kd.R_slice HO_735000.out
              subst eo26
              have hcz27_0 : wr.cell? ⟨gb730, 0, none⟩ = some (.slice none 0 0) := (blk_cell BK730.out 0).trans rfl
              have hcz27_1 : wr.cell? ⟨gb730, 1, none⟩ = some (.slice none 0 0) := (blk_cell BK730.out 1).trans rfl
              have hcz27_2 : wr.cell? ⟨gb730, 2, none⟩ = some (.int .i64 0) := (blk_cell BK730.out 2).trans rfl
              have hfz27_0 := blk_frozen BK730.out 0
              have hfz27_1 := blk_frozen BK730.out 1
              have hfz27_2 := blk_frozen BK730.out 2
              obtain ⟨Ao28, co28, eo28⟩ := Kd.R_slice HO_735001.out
              subst eo28
              go_wp2
              refine bodyPost_ret (results_ct rfl _ _ gb730 74 #[.slice Ao26 x735000_2.length co26, .slice Ao28 x735001_2.length co28, .int .i64 1] (0, 0) _ rfl (by (with_reducible repeat (first | refine blk_drewN ?_ _ | refine blk_drew ?_ | refine blk_alloc ?_ _)); refine blk_put (cs := #[.slice Ao26 x735000_2.length co26, .slice Ao28 x735001_2.length co28, .int .i64 0]) ?_ 2 _ rfl; (with_reducible repeat (first | refine blk_drewN ?_ _ | refine blk_drew ?_ | refine blk_alloc ?_ _)); refine blk_put (cs := #[.slice Ao26 x735000_2.length co26, .slice none 0 0, .int .i64 0]) ?_ 1 _ rfl; (with_reducible repeat (first | refine blk_drewN ?_ _ | refine blk_drew ?_ | refine blk_alloc ?_ _)); refine blk_put (cs := #[.slice none 0 0, .slice none 0 0, .int .i64 0]) ?_ 0 _ rfl; (with_reducible repeat (first | refine blk_drewN ?_ _ | refine blk_drew ?_ | refine blk_alloc ?_ _)); exact BK730.out) Try.underlying74 rfl (by kernel_rfl)) rfl ?_
              exact ⟨_, _, by first | rfl | (simp [errW_none, errW_some] <;> rfl) | (simp [*, errW_none, errW_some] <;> rfl), by (with_reducible repeat (first | apply Kd.R_alloc | apply Kd.R_drewN | apply Kd.R_drew)); exact Kd.R_mono (Kd.R_far (p := ⟨gb730, 2, none⟩) (Kd.R_far (p := ⟨gb730, 1, none⟩) (Kd.R_far (p := ⟨gb730, 0, none⟩) (Kd.R_types HO_735000.out BK730.out (by decide)) (fun _ hk => hk.2) (.slice Ao26 x735000_2.length co26)) (fun _ hk => hk.2) (.slice Ao28 x735001_2.length co28)) (fun _ hk => hk.2) (.int .i64 1)) (fun _ hk => hk.1), by (with_reducible repeat (first | apply Kd.R_alloc | apply Kd.R_drewN | apply Kd.R_drew)); exact Kd.R_mono (Kd.R_far (p := ⟨gb730, 2, none⟩) (Kd.R_far (p := ⟨gb730, 1, none⟩) (Kd.R_far (p := ⟨gb730, 0, none⟩) (Kd.R_types HO_735001.out BK730.out (by decide)) (fun _ hk => hk.2) (.slice Ao26 x735000_2.length co26)) (fun _ hk => hk.2) (.slice Ao28 x735001_2.length co28)) (fun _ hk => hk.2) (.int .i64 1)) (fun _ hk => hk.1), by repeat (first | (with_reducible first | exact HB.out | apply below_alloc | apply pw_below_drewN | apply below_drew1 | refine below_set ?_ GE730.out | refine below_set ?_ GE734.out) | exact HB.out)⟩

/-! ### chalklineref21_Luby: function 69 -/
mutual
def chalklineref21_Luby.j0 : Nat → Int → Bool → Option (Int)
  | 0, _, _ => none
  | k + 1, x0, x9 => if x9 = true then (some 0) else (chalklineref21_Luby.l0 k x0 1)
def chalklineref21_Luby.l0 : Nat → Int → Int → Option (Int)
  | 0, _, _ => none
  | k + 1, x0, x3 => if x3 ≤ x0 then (chalklineref21_Luby.l0 k x0 (wrap64 (2 * x3))) else (if x0 = (wrap64 (x3 - 1)) then (some (wrap64 (Int.tdiv x3 2))) else ((chalklineref21_Luby.f k (wrap64 ((wrap64 (x0 - (wrap64 (Int.tdiv x3 2)))) + 1))).bind fun t762 => (some t762)))
def chalklineref21_Luby.f : Nat → Int → Option (Int)
  | 0, _ => none
  | k + 1, a0 => if a0 < 1 then (chalklineref21_Luby.j0 k a0 true) else (chalklineref21_Luby.j0 k a0 (decide (a0 > 1099511627776)))
end
set_option maxHeartbeats 8000000 in
set_option maxRecDepth 100000 in
theorem chalklineref21_Luby.calls (k : Nat) : ∀ (a0 : Int) (r : Int) (w : World) (h : chalklineref21_Luby.f k a0 = some r),
    Calls Try.prog 69 #[.int .i64 a0] w fun e w' => e = .returned (.int .i64 r) ∧ Drawn0 w w' := by
  induction k using Nat.strongRecOn with
  | _ k ih =>
  intro a0 r w h
  cases k with
  | zero => exact absurd h (by simp [chalklineref21_Luby.f])
  | succ k =>
  simp only [chalklineref21_Luby.f] at h
  have H : (if a0 < 1 then (chalklineref21_Luby.j0 k a0 true) else (chalklineref21_Luby.j0 k a0 (decide (a0 > 1099511627776)))) = some r := h
  clear h
  have HC2 := Aside0.mk H
  clear H
  go_enter Try.func69, Try.ntmps69
  go_upto_region 1 with (fail)
  go_cut [9] (fun v9 wc => ∃ (kq : Nat) (x9_1 : Bool), v9 = .bool x9_1 ∧ Aside0 (chalklineref21_Luby.j0 kq a0 x9_1 = some r) ∧ Aside0 (kq ≤ k) ∧ Drawn0 w wc)
  case first =>
    have H := HC2.out
    clear HC2
    by_cases c3 : a0 < 1
    · rw [if_pos c3] at H
      have c3b0 : decide (a0 < 1) = true := decide_eq_true c3
      clear c3
      (first | rw [c3b0] | (simp only [i64_w, i32_w]; rw [c3b0]) | skip)
      have H' := Aside0.mk H
      clear H
      go_wp2
      go_meet
      case rel => exact ⟨_, (true), (by first | rfl | (simp; done) | (simp [*]; done)), H', ⟨by first | omega | exact Nat.le_refl _⟩, by repeat (first | exact Drawn0.refl _ | apply Drawn0.step)⟩
    · rw [if_neg c3] at H
      have c3b0 : decide (a0 < 1) = false := decide_eq_false c3
      clear c3
      (first | rw [c3b0] | (simp only [i64_w, i32_w]; rw [c3b0]) | skip)
      have H' := Aside0.mk H
      clear H
      go_wp2
      go_meet
      case rel => exact ⟨_, (decide (a0 > 1099511627776)), (by first | rfl | (simp; done) | (simp [*]; done)), H', ⟨by first | omega | exact Nat.le_refl _⟩, by repeat (first | exact Drawn0.refl _ | apply Drawn0.step)⟩
  case rest =>
    clear HC2
    try clear p2
    try clear c3
    try clear c3b0
    obtain ⟨kq, x9_1, rfl, HA, HJ1, ⟨mc1, rfl⟩⟩ := hcut
    cases kq with
    | zero => exact absurd HA.out (by simp [chalklineref21_Luby.j0])
    | succ kj1 =>
      have H := HA.out
      clear HA
      simp only [chalklineref21_Luby.j0] at H
      by_cases c4 : x9_1 = true
      · subst c4
        have H1 : (some 0) = some r := by rw [if_pos rfl] at H; exact H
        clear H
        have H := H1
        clear H1
        obtain rfl := Option.some.inj H
        go_wp2
        go_ret
        exact ⟨by first | rfl | (simp; done) | (simp [*]; done), by repeat (first | exact Drawn0.refl _ | apply Drawn0.step)⟩
      · replace c4 := Bool.eq_false_iff.mpr c4
        subst c4
        have H1 : (chalklineref21_Luby.l0 kj1 a0 1) = some r := by rw [if_neg (show ¬ (false = true) by decide)] at H; exact H
        clear H
        have H := H1
        clear H1
        have H' := Aside0.mk H
        clear H
        go_wp2
        go_loopg [3] kj1 (fun kq v3 w' => ∃ (x3_2 : Int), v3 = .int .i64 x3_2 ∧ Aside0 (chalklineref21_Luby.l0 kq a0 x3_2 = some r) ∧ Aside0 (kq ≤ kj1) ∧ Drawn0 w w')
        case atStart => exact ⟨(1), (by first | rfl | (simp; done) | (simp [*]; done)), H', ⟨Nat.le_refl _⟩, by repeat (first | exact Drawn0.refl _ | apply Drawn0.step)⟩
        case round =>
          clear H'
          try clear c1
          try clear p2
          try clear c3
          try clear c3b0
          try clear c4
          try clear p2
          obtain ⟨x3_2, rfl, HA, HK2, ⟨m2, rfl⟩⟩ := hrel
          cases gk with
          | zero => exact absurd HA.out (by simp [chalklineref21_Luby.l0])
          | succ k2 =>
            have H := HA.out
            clear HA
            simp only [chalklineref21_Luby.l0] at H
            by_cases c5 : x3_2 ≤ a0
            · rw [if_pos c5] at H
              have c5b0 : decide (x3_2 ≤ a0) = true := decide_eq_true c5
              clear c5
              have H' := Aside0.mk H
              clear H
              go_wp2
              go_roundg k2
              case measure => have := HJ1.out; have := HK2.out; omega
              case rel => exact ⟨(wrap64 (2 * x3_2)), (by first | rfl | (simp; done) | (simp [*]; done)), H', ⟨by have := HJ1.out; have := HK2.out; omega⟩, by repeat (first | exact Drawn0.refl _ | apply Drawn0.step)⟩
            · rw [if_neg c5] at H
              have c5b0 : decide (x3_2 ≤ a0) = false := decide_eq_false c5
              clear c5
              by_cases c6 : a0 = (wrap64 (x3_2 - 1))
              · rw [if_pos c6] at H
                have c6b0 : (a0 == (wrap64 (x3_2 - 1))) = true := beq_iff_eq.mpr c6
                have c6b1 : (a0 != (wrap64 (x3_2 - 1))) = false := bne_eq_false_iff_eq.mpr c6
                clear c6
                obtain rfl := Option.some.inj H
                go_wp2
                go_ret
                exact ⟨by first | rfl | (simp; done) | (simp [*]; done), by repeat (first | exact Drawn0.refl _ | apply Drawn0.step)⟩
              · rw [if_neg c6] at H
                have c6b0 : (a0 == (wrap64 (x3_2 - 1))) = false := beq_eq_false_iff_ne.mpr c6
                have c6b1 : (a0 != (wrap64 (x3_2 - 1))) = true := bne_iff_ne.mpr c6
                replace H := Option.bind_eq_some_iff.mp H
                obtain ⟨t762, A70, H⟩ := H
                replace H : (some t762) = some r := H
                have A7 := Aside0.mk A70
                clear A70
                obtain rfl := Option.some.inj H
                go_wp2_with (first | ((with_reducible refine gate_callee (f := 69) rfl ?_); refine goesL_ (some 26) rfl rfl Try.func69 (by kernel_rfl) rfl #[.int .i64 (wrap64 ((wrap64 (a0 - (wrap64 (Int.tdiv x3_2 2)))) + 1))] rfl (by (try simp only [List.map_toArray, List.map_cons, List.map_nil]); first | done | rfl | (simp only [List.length_drop, List.length_take]; rfl)) ?_; (with_reducible refine (ih k2 (by have := HJ1.out; have := HK2.out; omega) (wrap64 ((wrap64 (a0 - (wrap64 (Int.tdiv x3_2 2)))) + 1)) t762 _ A7.out).mono ?_); rintro e w' ⟨rfl, ⟨nd, rfl⟩⟩; refine ⟨_, rfl, ?_⟩))
                go_ret
                exact ⟨by first | rfl | (simp; done) | (simp [*]; done), by repeat (first | exact Drawn0.refl _ | apply Drawn0.step)⟩

end Go.Proofs.Ytobadajeekdakaa.Print
