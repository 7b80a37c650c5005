/- learn's small functions: step, level, dead, variable. -/
import Derived.Test.YtobadajeekdakaaC
namespace Go.Proofs.Ytobadajeekdakaa.Print
open Go.RowKit Go.Proofs.YtobadajeekdakaaW.PrintWords Go.Proofs.YtobadajeekdakaaW.PrintLast Go.Proofs.YtobadajeekdakaaW.PrintMore
attribute [local go_sem] max2_int min2_int max_two min_two
set_option linter.unusedVariables false
set_option linter.unusedSimpArgs false

section
variable (nn : Int) (AL AT AV : Option Addr) (nL cL nT cT nV cV : Nat) (bm n : Nat) (f : Int → Option Int)
/-- (look).step -/
theorem look_step (x : Int) (w : World) (hM : MapOf intE w bm n f) :
    Calls Try.prog 99 #[.agg #[.int .i64 nn, .slice AL nL cL, .slice AT nT cT, .slice AV nV cV, .map (some bm)], .int .i64 x] w fun e w' => e = .returned (.tuple #[.int .i64 ((f (wrap64 (-x))).getD 0), .bool (f (wrap64 (-x))).isSome]) ∧ Below w.heap.size w w' := by
  have h1 := (hM.alloc (.cells #[.int .i64 nn, .slice AL nL cL, .slice AT nT cT, .slice AV nV cV, .map (some bm)] 90 (0, 0))).look_ok Try.underlying88 (i64_wrap (-x))
  replace h1 : (Instr.lookup 88 (.map (some bm)) (.int .i64 (wrap64 (-x))) true).run Try.prog (w.alloc (.cells #[.int .i64 nn, .slice AL nL cL, .slice AT nT cT, .slice AV nV cV, .map (some bm)] 90 (0, 0))) = .ok (.tuple #[.int .i64 ((f (wrap64 (-x))).getD 0), .bool (f (wrap64 (-x))).isSome]) (w.alloc (.cells #[.int .i64 nn, .slice AL nL cL, .slice AT nT cT, .slice AV nV cV, .map (some bm)] 90 (0, 0))) := h1
  generalize (f (wrap64 (-x))).getD 0 = i at h1 ⊢
  generalize (f (wrap64 (-x))).isSome = b at h1 ⊢
  clear hM
  go_enter Try.func99, Try.ntmps99
  go_wp2
  go_ret2
  exact ⟨rfl, (Below.refl _ _).alloc (Nat.le_refl _) _⟩

/-- (look).level, of a literal whose negation has a step. -/
theorem look_level (lv : List Int) (x i : Int) (w : World) (hM : MapOf intE w bm n f) (hV : Kd.C (Kd.int .i64) w AV lv.length lv) (hf : f (wrap64 (-x)) = some i) (h0 : 0 ≤ i) (h1 : i < lv.length) :
    Calls Try.prog 85 #[.agg #[.int .i64 nn, .slice AL nL cL, .slice AT nT cT, .slice AV lv.length cV, .map (some bm)], .int .i64 x] w fun e w' => e = .returned (.int .i64 (rd lv i)) ∧ Below w.heap.size w w' := by
  have hl := (hM.alloc (.cells #[.int .i64 nn, .slice AL nL cL, .slice AT nT cT, .slice AV lv.length cV, .map (some bm)] 90 (0, 0))).look Try.underlying88 (i64_wrap (-x))
  rw [hf] at hl
  replace hl : (Instr.lookup 88 (.map (some bm)) (.int .i64 (wrap64 (-x))) false).run Try.prog (w.alloc (.cells #[.int .i64 nn, .slice AL nL cL, .slice AT nT cT, .slice AV lv.length cV, .map (some bm)] 90 (0, 0))) = .ok (.int .i64 i) (w.alloc (.cells #[.int .i64 nn, .slice AL nL cL, .slice AT nT cT, .slice AV lv.length cV, .map (some bm)] 90 (0, 0))) := hl
  obtain ⟨ad, e1, hcell⟩ := Kd.at_int hV i h0 h1
  cases e1
  have hcell2 : (w.alloc (.cells #[.int .i64 nn, .slice AL nL cL, .slice AT nT cT, .slice (some ad) lv.length cV, .map (some bm)] 90 (0, 0))).cell? (ad.add i.toNat) = some (.int .i64 (rd lv i)) := pw_cell_below ((Below.refl _ _).alloc (Nat.le_refl _) _) hcell
  generalize rd lv i = v at hcell hcell2 ⊢
  clear hM hV hf
  go_enter Try.func85, Try.ntmps85
  go_wp2
  go_ret
  exact ⟨rfl, (Below.refl _ _).alloc (Nat.le_refl _) _⟩

set_option maxHeartbeats 1000000 in
/-- (look).dead -/
theorem look_dead (A : Option Addr) (c : Nat) (l : List Int) (w : World) (hM : MapOf intE w bm n f) (hC : Kd.C (Kd.int .i64) w A l.length l) :
    Calls Try.prog 83 #[.agg #[.int .i64 nn, .slice AL nL cL, .slice AT nT cT, .slice AV nV cV, .map (some bm)], .slice A l.length c] w fun e w' => e = .returned (.bool (l.all fun x => (f (wrap64 (-x))).isSome)) ∧ Below w.heap.size w w' := by
  obtain ⟨b, hb⟩ : ∃ b, b = l.all fun x => (f (wrap64 (-x))).isSome := ⟨_, rfl⟩
  rw [← hb]
  have HBV := Aside0.mk hb
  have HM := Aside0.mk hM
  have HC := Aside0.mk hC
  have hm : l.length ≤ 9223372036854775807 := hC.2.1
  clear hb hM hC
  go_enter Try.func83, Try.ntmps83
  go_wp2
  have HX := Aside0.mk (blk_new w (.cells #[.int .i64 nn, .slice AL nL cL, .slice AT nT cT, .slice AV nV cV, .map (some bm)] 90 (0, 0)))
  have HB0 := Aside0.mk ((Below.refl w.heap.size w).alloc (Nat.le_refl _) (.cells #[.int .i64 nn, .slice AL nL cL, .slice AT nT cT, .slice AV nV cV, .map (some bm)] 90 (0, 0)))
  go_loopg [11] l.length (fun gg s11 wr => ∃ k : Nat, k ≤ l.length ∧ l.length - k ≤ gg ∧ s11 = .int .i64 k ∧ Aside0 (∀ j, j < k → (f (wrap64 (-(rd l j)))).isSome = true) ∧ Aside0 (wr.heap[w.heap.size]? = some (.cells #[.int .i64 nn, .slice AL nL cL, .slice AT nT cT, .slice AV nV cV, .map (some bm)] 90 (0, 0))) ∧ Aside0 (Below w.heap.size w wr))
  case atStart => exact ⟨0, Nat.zero_le _, by omega, rfl, ⟨fun j hj => absurd hj (Nat.not_lt_zero _)⟩, HX, HB0⟩
  case round =>
    obtain ⟨k, hk, hg, rfl, HA, HX, HB⟩ := hrel
    by_cases hlt : k < l.length
    · have hltz : (k : Int) < (l.length : Int) := by omega
      obtain ⟨ad, e1, hcell⟩ := Kd.at_int (Kd.C_below HC.out HB.out) (k : Int) (by omega) hltz
      cases e1
      rw [Int.toNat_natCast] at hcell
      have d0 : wr.cell? ⟨w.heap.size, 0, none⟩ = some (.int .i64 nn) := cell_in HX.out 0 rfl
      have d1 : wr.cell? ⟨w.heap.size, 1, none⟩ = some (.slice AL nL cL) := cell_in HX.out 1 rfl
      have d2 : wr.cell? ⟨w.heap.size, 2, none⟩ = some (.slice AT nT cT) := cell_in HX.out 2 rfl
      have d3 : wr.cell? ⟨w.heap.size, 3, none⟩ = some (.slice AV nV cV) := cell_in HX.out 3 rfl
      have d4 : wr.cell? ⟨w.heap.size, 4, none⟩ = some (.map (some bm)) := cell_in HX.out 4 rfl
      have hcall := look_step nn AL AT AV nL cL nT cT nV cV bm n f (rd l k) wr (HM.out.below HB.out)
      have HR := Aside0.mk (show rd l (k : Int) = l[k] by simp [rd, List.getElem?_eq_getElem hlt])
      cases hq : (f (wrap64 (-(rd l k)))).isSome with
      | true =>
        rw [hq] at hcall
        have HQ := Aside0.mk hq
        clear hq
        generalize (f (wrap64 (-(rd l k)))).getD 0 = i at hcall
        generalize hy : rd l k = y at hcell hcall HR HQ
        have HY := Aside0.mk hy
        clear hy
        go_wp2_with (go_at_call 99; refine hcall.mono ?_; rintro e w2 ⟨rfl, hb2⟩; have HX2 := Aside0.mk (blk_below HX.out hb2); have HB2 := Aside0.mk (below_step HB.out hb2); clear hb2)
        go_roundg (l.length - (k + 1))
        case measure => omega
        case rel =>
          refine ⟨k + 1, by omega, by omega, by go_num, ⟨fun j hj => ?_⟩, HX2, HB2⟩
          rcases Nat.lt_succ_iff_lt_or_eq.mp hj with h | rfl
          · exact HA.out j h
          · rw [HY.out]; exact HQ.out
      | false =>
        rw [hq] at hcall
        have HQ := Aside0.mk hq
        clear hq
        generalize (f (wrap64 (-(rd l k)))).getD 0 = i at hcall
        generalize rd l k = y at hcell hcall HR HQ
        go_wp2_with (go_at_call 99; refine hcall.mono ?_; rintro e w2 ⟨rfl, hb2⟩; have HB2 := Aside0.mk (below_step HB.out hb2); clear hb2)
        go_ret
        refine ⟨ret_b ?_, HB2.out⟩
        rw [HBV.out, Eq.comm, List.all_eq_false]
        exact ⟨l[k], List.getElem_mem _, by rw [← HR.out, HQ.out]; simp⟩
    · have hltz : ¬ (k : Int) < (l.length : Int) := by omega
      obtain rfl : k = l.length := by omega
      go_wp2
      go_ret
      refine ⟨ret_b ?_, HB.out⟩
      rw [HBV.out, Eq.comm, List.all_eq_true]
      intro x hx
      obtain ⟨j, hj, rfl⟩ := List.getElem_of_mem hx
      have := HA.out j hj
      rwa [show rd l (j : Int) = l[j] by simp [rd, List.getElem?_eq_getElem hj]] at this
end

/-- learn.variable -/
def varOf (x : Int) : Int := mx x (wrap64 (-x))
theorem learn_variable_any (x : Int) (w : World) : Calls Try.prog 97 #[.int .i64 x] w fun e w' => e = .returned (.int .i64 (varOf x)) ∧ w = w' := by
  go_enter Try.func97, Try.ntmps97
  go_wp2
  all_goals (go_ret; exact ⟨ret_eq (by unfold varOf mx; split <;> omega), rfl⟩)
end Go.Proofs.Ytobadajeekdakaa.Print
