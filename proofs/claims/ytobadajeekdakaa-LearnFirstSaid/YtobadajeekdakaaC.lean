/- prop.Check: its contract. -/
import Derived.Test.YtobadajeekdakaaM
namespace Go.Proofs.Ytobadajeekdakaa.Print
open Go.RowKit Go.Proofs.YtobadajeekdakaaW.PrintWords Go.Proofs.YtobadajeekdakaaW.PrintLast Go.Proofs.YtobadajeekdakaaW.PrintMore
set_option linter.unusedVariables false
set_option linter.unusedSimpArgs false

/-- truths.known -/
theorem truths_known (bm n : Nat) (f : Int → Option Bool) (x : Int) (w : World) (hM : MapOf boolE w bm n f) (hx : I64 x) :
    Calls Try.prog 104 #[.map (some bm), .int .i64 x] w fun e w' => e = .returned (.bool ((f x).getD false || (f (wrap64 (-x))).getD false)) ∧ w = w' := by
  have h1 := hM.look Try.underlying112 hx
  have h2 := hM.look Try.underlying112 (i64_wrap (-x))
  cases hb : (f x).getD false with
  | true =>
    rw [show (f x).getD boolE.zero = true from hb] at h1
    replace h1 : (Instr.lookup 112 (.map (some bm)) (.int .i64 x) false).run Try.prog w = .ok (.bool true) w := h1
    clear hM h2
    go_enter Try.func104, Try.ntmps104
    go_wp2
    go_ret
    exact ⟨ret_b (by simp), rfl⟩
  | false =>
    rw [show (f x).getD boolE.zero = false from hb] at h1
    replace h1 : (Instr.lookup 112 (.map (some bm)) (.int .i64 x) false).run Try.prog w = .ok (.bool false) w := h1
    replace h2 : (Instr.lookup 112 (.map (some bm)) (.int .i64 (wrap64 (-x))) false).run Try.prog w = .ok (.bool ((f (wrap64 (-x))).getD false)) w := h2
    generalize (f (wrap64 (-x))).getD false = b at h2 ⊢
    clear hM
    go_enter Try.func104, Try.ntmps104
    go_wp2
    go_ret
    exact ⟨ret_b (by simp), rfl⟩

/-- truths.step -/
theorem truths_step (bm n : Nat) (f : Int → Option Bool) (x : Int) (w : World) (hM : MapOf boolE w bm n f) (hn : n < maxLen) (hx : I64 x) :
    Calls Try.prog 107 #[.map (some bm), .int .i64 x] w fun e w' => e = .returned (.tuple #[]) ∧ MapOf boolE w' bm (n + 1) (upd f x (some true)) ∧ w.mapTurned w' bm := by
  obtain ⟨w1, hrun, hM1, ht⟩ := hM.store Try.underlying112 hn hx true trivial
  replace hrun : (Instr.mapUpdate 112 (.map (some bm)) (.int .i64 x) (.bool true)).run Try.prog w = .ok () w1 := hrun
  have HM := Aside0.mk hM1
  have HT := Aside0.mk ht
  clear hM hM1 ht hn
  go_enter Try.func107, Try.ntmps107
  go_wp2
  go_end0
  exact ⟨rfl, HM.out, HT.out⟩

/-- The closure in prop.Check: an element that is not the step's literal, and not false. -/
theorem propCheck1 (bm n : Nat) (f : Int → Option Bool) (y lit : Int) (ad am : Addr) (w : World) (hM : MapOf boolE w bm n f)
    (h1 : w.cell? ad = some (.int .i64 lit)) (h2 : w.cell? am = some (.map (some bm))) :
    Calls Try.prog 105 #[.int .i64 y, .pointer (some ad), .pointer (some am)] w fun e w' => e = .returned (.bool (decide (y ≠ lit) && !((f (wrap64 (-y))).getD false))) ∧ w = w' := by
  have hl := hM.look Try.underlying112 (i64_wrap (-y))
  replace hl : (Instr.lookup 112 (.map (some bm)) (.int .i64 (wrap64 (-y))) false).run Try.prog w = .ok (.bool ((f (wrap64 (-y))).getD false)) w := hl
  generalize (f (wrap64 (-y))).getD false = b at hl ⊢
  clear hM
  by_cases hq : y = lit
  · subst hq
    go_enter Try.func105, Try.ntmps105
    go_wp2
    go_ret
    exact ⟨ret_b (by simp), rfl⟩
  · have hb : (y != lit) = true := by simp [hq]
    go_enter Try.func105, Try.ntmps105
    go_wp2
    go_ret
    exact ⟨ret_b (by simp [hq]), rfl⟩

/-- A set of numbers as what a map holds. -/
def dset (l : List Int) : Int → Option Bool := fun x => if l.contains x then some true else none
theorem dset_getD (l : List Int) (x : Int) : (dset l x).getD false = l.contains x := by
  unfold dset; cases h : l.contains x <;> simp
theorem dset_nil : dset [] = fun _ => none := by funext x; simp [dset]
theorem dset_snoc (l : List Int) (x : Int) : upd (dset l) x (some true) = dset (l ++ [x]) := by
  funext y
  unfold upd dset
  by_cases h : y = x
  · subst h; simp
  · rw [if_neg h]; simp [h]

def stepBadB (n : Int) (m : Nat) (done : List Int) (s : S41) : Bool :=
  decide (s.f0 = 0) || (decide (n < s.f0) || (decide (s.f0 < -n) || ((done.contains s.f0 || done.contains (wrap64 (-s.f0))) || (decide (s.f1 < -1) || decide ((m : Int) ≤ s.f1)))))
def stepWhyB (L : List (List Int)) (done : List Int) (s : S41) : Bool :=
  decide (s.f1 < 0) || ((rd_L1 L s.f1).contains s.f0 && !((rd_L1 L s.f1).any fun x => decide (x ≠ s.f0) && !done.contains (wrap64 (-x))))
def trailOkB (n : Int) (L : List (List Int)) : List Int → List S41 → Bool
  | _, [] => true
  | done, s :: t => (!stepBadB n L.length done s && stepWhyB L done s) && trailOkB n L (done ++ [s.f0]) t
def propCheckV (n : Int) (L : List (List Int)) (t : List S41) : Int :=
  if cnfCheckV n L = 0 then (if trailOkB n L [] t then 0 else 1) else cnfCheckV n L
def prop_Check.f (a0_0 : Int) (l0_1 : List (List Int)) (l1 : List S41) : Option Int := some (propCheckV a0_0 l0_1 l1)
def litsTo (t : List S41) (k : Nat) : List Int := (t.take k).map S41.f0
theorem litsTo_succ (t : List S41) (k : Nat) (h : k < t.length) : litsTo t (k + 1) = litsTo t k ++ [(rd_T41 t k).f0] := by
  unfold litsTo
  rw [List.take_succ_eq_append_getElem h, List.map_append]
  congr 1
  simp [rd_T41, List.getElem?_eq_getElem h]
theorem trailOk_step (n : Int) (L : List (List Int)) (t : List S41) (k : Nat) (h : k < t.length) :
    trailOkB n L (litsTo t k) (t.drop k) = ((!stepBadB n L.length (litsTo t k) (rd_T41 t k) && stepWhyB L (litsTo t k) (rd_T41 t k)) && trailOkB n L (litsTo t (k + 1)) (t.drop (k + 1))) := by
  rw [List.drop_eq_getElem_cons h, litsTo_succ t k h]
  simp [trailOkB, rd_T41, List.getElem?_eq_getElem h]

theorem trail_bad (a b1 b2 rest : Bool) (h : ¬ (b1 = true ∧ b2 = false)) : (if ((!a && (b1 && !b2)) && rest) = true then (0 : Int) else 1) = 1 := by
  cases b1 <;> cases b2 <;> cases a <;> simp_all
theorem trail_good (a rest : Bool) (h : a = false) : ((!a && (true && !false)) && rest) = rest := by subst h; simp
theorem bad_lit {n : Int} {m : Nat} {done : List Int} {s : S41} (h : stepBadB n m done s = false) : s.f0 ≠ 0 ∧ s.f0 ≤ n ∧ -n ≤ s.f0 ∧ -1 ≤ s.f1 ∧ s.f1 < m := by
  unfold stepBadB at h
  simp only [Bool.or_eq_false_iff, decide_eq_false_iff_not] at h
  omega
set_option maxHeartbeats 4000000 in
set_option maxRecDepth 100000 in
theorem prop_Check.calls (a0_0 : Int) (A0_1 : Option Addr) (c0_1 : Nat) (l0_1 : List (List Int)) (A1 : Option Addr) (c1 : Nat) (l1 : List S41) (r : Int) (w : World) (hr0_1 : Kd.C (Kd.slice 3 (Kd.int .i64)) w A0_1 l0_1.length l0_1) (hc0_1 : l0_1.length ≤ c0_1) (hr1 : Kd.C k41 w A1 l1.length l1) (hc1 : l1.length ≤ c1) (h : prop_Check.f a0_0 l0_1 l1 = some r) :
    Calls Try.prog 35 #[.agg #[.int .i64 a0_0, .slice A0_1 l0_1.length c0_1], .slice A1 l1.length c1] w fun e w' => e = .returned (.int .i64 r) ∧ Below w.heap.size w w' := by
  have HV := Aside0.mk (show propCheckV a0_0 l0_1 l1 = r from Option.some.inj h)
  have HRL := Aside0.mk hr0_1
  have HCL := Aside0.mk hc0_1
  have HRT := Aside0.mk hr1
  have hm : l1.length ≤ 9223372036854775807 := hr1.2.1
  have hmL : l0_1.length ≤ 9223372036854775807 := hr0_1.2.1
  clear h hr0_1 hr1 hc1 hc0_1
  by_cases hc : cnfCheckV a0_0 l0_1 = 0
  · have HV2 := Aside0.mk (show (if trailOkB a0_0 l0_1 [] l1 then 0 else 1) = r by rw [← HV.out, propCheckV, if_pos hc])
    have hn0 : 0 ≤ a0_0 ∧ a0_0 ≤ 65536 := by
      unfold cnfCheckV at hc
      by_cases h1 : a0_0 < 0 ∨ 65536 < a0_0
      · rw [if_pos h1] at hc; exact absurd hc (by decide)
      · omega
    obtain ⟨hn1, hn2⟩ := hn0
    have HC0 := Aside0.mk (show cnf_Check.f a0_0 l0_1 = some 0 from congrArg some hc)
    clear hc HV
    have eg : ∀ args w, (callFunc 105 args).run Try.prog w = .ok (.enter 105 args) w := enters_of Try.func105 (by kernel_rfl) rfl
    go_enter Try.func35, Try.ntmps35
    go_wp2_with (first
      | ((with_reducible refine gate_dst (N := 2) rfl ?_); refine box_event ?hg (N := 2) ?hd (cs := #[.int .i64 a0_0, .slice A0_1 l0_1.length c0_1]) (t := 24) ?hr ?_; (case hd => rfl); (case hg => rfl); (case hr => first | (go_simp; done) | (go_simp; rfl)); intro gb hgb w1 hbox hb1; have cc0 := cell_in hbox 0 rfl; have cc1 := cell_in hbox 1 rfl; have HBX := Aside0.mk hbox; have HB := Aside0.mk hb1; have HGB := Aside0.mk hgb; clear hbox hb1 hgb)
      | (go_at_call 55; refine (cnf_Check.calls a0_0 A0_1 c0_1 l0_1 0 _ (Kd.C_below HRL.out HB.out) HCL.out HC0.out).mono ?_; rintro e w2 ⟨rfl, hb2⟩; have HBX2 := Aside0.mk (blk_below HBX.out hb2); have HB2 := Aside0.mk (below_step HB.out hb2); clear hb2 cc0 cc1 HBX HB)
      | ((with_reducible refine gate_dst (N := 16) rfl ?_); refine map_made_event boolE rfl (t := 112) rfl ?_; intro bm hbm w3 hM hb3; have HBX3 := Aside0.mk (blk_below HBX2.out hb3); have HB3 := Aside0.mk (below_step HB2.out hb3); have HM3 := Aside0.mk hM; have HBM := Aside0.mk (show w.heap.size ≤ bm by rw [hbm]; exact HB2.out.size); clear hbm hM hb3 HBX2 HB2))
    have HBX4 := Aside0.mk (blk_alloc HBX3.out (.cells #[.map (some bm)] 112 (0, 0)))
    have HB4 := Aside0.mk (below_alloc HB3.out (.cells #[.map (some bm)] 112 (0, 0)))
    have HM4 := Aside0.mk (HM3.out.alloc (.cells #[.map (some bm)] 112 (0, 0)))
    have HG4 := Aside0.mk (blk_new w3 (.cells #[.map (some bm)] 112 (0, 0)))
    have HSZ := Aside0.mk HB3.out.size
    clear HBX3 HB3 HM3
    go_loopg [19] l1.length (fun gg s19 wr => ∃ k : Nat, k ≤ l1.length ∧ l1.length - k ≤ gg ∧ s19 = .int .i64 k ∧ Aside0 (trailOkB a0_0 l0_1 (litsTo l1 k) (l1.drop k) = trailOkB a0_0 l0_1 [] l1) ∧ Aside0 (MapOf boolE wr bm k (dset (litsTo l1 k))) ∧ Aside0 (wr.heap[gb]? = some (.cells #[.int .i64 a0_0, .slice A0_1 l0_1.length c0_1] 24 (0, 0))) ∧ Aside0 (wr.heap[w3.heap.size]? = some (.cells #[.map (some bm)] 112 (0, 0))) ∧ Aside0 (Below w.heap.size w wr))
    case atStart => exact ⟨0, Nat.zero_le _, by omega, rfl, ⟨by simp [litsTo]⟩, ⟨by rw [show litsTo l1 0 = [] from rfl, dset_nil]; exact HM4.out⟩, HBX4, HG4, HB4⟩
    case round =>
      obtain ⟨k, hk, hg, rfl, HT, HM, HX, HG, HB⟩ := hrel
      clear HBX4 HB4 HM4 HG4
      by_cases hlt : k < l1.length
      · have hltz : (k : Int) < (l1.length : Int) := by omega
        obtain ⟨ad, e1, hx0, hx1⟩ := at_T41 HRT.out (k : Int) (by omega) hltz
        cases e1
        rw [Int.toNat_natCast] at hx0 hx1
        replace hx0 := (HB.out.cell (World.block_lt_of_cell? w _ hx0)).trans hx0
        replace hx1 := (HB.out.cell (World.block_lt_of_cell? w _ hx1)).trans hx1
        have HST := Aside0.mk (trailOk_step a0_0 l0_1 l1 k hlt)
        have HSS0 := Aside0.mk (rfl : rd_T41 l1 k = rd_T41 l1 k)
        obtain ⟨s, hs⟩ : ∃ s, s = rd_T41 l1 k := ⟨_, rfl⟩
        rw [← hs] at hx0 hx1 HST
        have HSS := Aside0.mk hs.symm
        clear hs HSS0
        go_upto_region 8 with (fail)
        have HX8 := Aside0.mk (blk_alloc HX.out (.cells #[.int .i64 s.f0, .int .i64 s.f1] 41 (0, 0)))
        have HB8 := Aside0.mk (below_alloc HB.out (.cells #[.int .i64 s.f0, .int .i64 s.f1] 41 (0, 0)))
        have HM8 := Aside0.mk (HM.out.alloc (.cells #[.int .i64 s.f0, .int .i64 s.f1] 41 (0, 0)))
        have HG8 := Aside0.mk (blk_alloc HG.out (.cells #[.int .i64 s.f0, .int .i64 s.f1] 41 (0, 0)))
        have HS8 := Aside0.mk (blk_new wr (.cells #[.int .i64 s.f0, .int .i64 s.f1] 41 (0, 0)))
        have HSL := Aside0.mk HB.out.size
        clear hx0 hx1 HX HB HM HG
        generalize hgs : wr.heap.size = gs at HS8 HSL ⊢
        generalize hw8 : wr.alloc (.cells #[.int .i64 s.f0, .int .i64 s.f1] 41 (0, 0)) = w8 at HX8 HB8 HM8 HG8 HS8 ⊢
        clear hw8 hgs wr
        have d0 : w8.cell? ⟨gb, 0, none⟩ = some (.int .i64 a0_0) := cell_in HX8.out 0 rfl
        have d1 : w8.cell? ⟨gb, 1, none⟩ = some (.slice A0_1 l0_1.length c0_1) := cell_in HX8.out 1 rfl
        have d2 : w8.cell? ⟨w3.heap.size, 0, none⟩ = some (.map (some bm)) := cell_in HG8.out 0 rfl
        have d3 : w8.cell? ⟨gs, 0, none⟩ = some (.int .i64 s.f0) := cell_in HS8.out 0 rfl
        have d4 : w8.cell? ⟨gs, 1, none⟩ = some (.int .i64 s.f1) := cell_in HS8.out 1 rfl
        go_cut [59] (fun v59 wc => v59 = .bool (stepBadB a0_0 l0_1.length (litsTo l1 k) s) ∧ wc = w8)
        case first =>
          by_cases p1 : s.f0 = 0
          · have HQ := Aside0.mk (show stepBadB a0_0 l0_1.length (litsTo l1 k) s = true by simp [stepBadB, p1])
            have b1 : (s.f0 == 0) = true := by simp [p1]
            clear p1
            go_wp2
            go_meet
            case rel => exact ⟨by rw [HQ.out], rfl⟩
          · have b1 : (s.f0 == 0) = false := by simp [p1]
            by_cases p2 : a0_0 < s.f0
            · have HQ := Aside0.mk (show stepBadB a0_0 l0_1.length (litsTo l1 k) s = true by simp [stepBadB, p2])
              go_wp2
              go_meet
              case rel => exact ⟨by rw [HQ.out], rfl⟩
            · by_cases p3 : s.f0 < -a0_0
              · have HQ := Aside0.mk (show stepBadB a0_0 l0_1.length (litsTo l1 k) s = true by simp [stepBadB, p3])
                go_wp2
                go_meet
                case rel => exact ⟨by rw [HQ.out], rfl⟩
              · have hcall := truths_known bm k (dset (litsTo l1 k)) s.f0 w8 HM8.out (i64_of (by omega) (by omega))
                rw [dset_getD, dset_getD] at hcall
                cases hkn : ((litsTo l1 k).contains s.f0 || (litsTo l1 k).contains (wrap64 (-s.f0))) with
                | true =>
                  rw [hkn] at hcall
                  have HQ := Aside0.mk (show stepBadB a0_0 l0_1.length (litsTo l1 k) s = true by unfold stepBadB; rw [hkn]; simp)
                  clear hkn
                  go_wp2_with (go_at_call 104; refine hcall.mono ?_; rintro e w' ⟨rfl, rfl⟩)
                  go_meet
                  case rel => exact ⟨by rw [HQ.out], rfl⟩
                | false =>
                  rw [hkn] at hcall
                  by_cases p5 : s.f1 < -1
                  · have HQ := Aside0.mk (show stepBadB a0_0 l0_1.length (litsTo l1 k) s = true by unfold stepBadB; rw [hkn]; simp [p5])
                    clear hkn
                    go_wp2_with (go_at_call 104; refine hcall.mono ?_; rintro e w' ⟨rfl, rfl⟩)
                    go_meet
                    case rel => exact ⟨by rw [HQ.out], rfl⟩
                  · by_cases p6 : (l0_1.length : Int) ≤ s.f1
                    · have HQ := Aside0.mk (show stepBadB a0_0 l0_1.length (litsTo l1 k) s = true by unfold stepBadB; rw [hkn]; simp [p6])
                      clear hkn
                      go_wp2_with (go_at_call 104; refine hcall.mono ?_; rintro e w' ⟨rfl, rfl⟩)
                      go_meet
                      case rel => exact ⟨by rw [HQ.out], rfl⟩
                    · have HQ := Aside0.mk (show stepBadB a0_0 l0_1.length (litsTo l1 k) s = false by unfold stepBadB; rw [hkn]; simp [p1, p2, p3, p5, p6])
                      clear hkn
                      go_wp2_with (go_at_call 104; refine hcall.mono ?_; rintro e w' ⟨rfl, rfl⟩)
                      go_meet
                      case rel => exact ⟨by rw [HQ.out]; simp [p5, p6], rfl⟩
        case rest =>
          obtain ⟨rfl, rfl⟩ := hcut
          cases hbad : stepBadB a0_0 l0_1.length (litsTo l1 k) s with
          | true =>
            have HQ := Aside0.mk (show r = 1 by
              rw [← HV2.out, ← HT.out, HST.out, hbad]
              simp)
            clear hbad
            go_wp2
            go_ret
            exact ⟨ret_eq HQ.out.symm, HB8.out⟩
          | false =>
            have hf : -1 ≤ s.f1 ∧ s.f1 < l0_1.length := by
              unfold stepBadB at hbad
              simp only [Bool.or_eq_false_iff, decide_eq_false_iff_not] at hbad
              omega
            obtain ⟨hf1, hf2⟩ := hf
            have HBAD := Aside0.mk hbad
            clear hbad
            by_cases p7 : 0 ≤ s.f1
            · obtain ⟨ad2, A2, c2, e2, hL, hle, hC⟩ := at_L1 HRL.out s.f1 p7 hf2
              cases e2
              replace hL := (HB8.out.cell (World.block_lt_of_cell? w _ hL)).trans hL
              have hC2 := Kd.C_below hC HB8.out
              have hc1 := containsInt_same A2 c2 (rd_L1 l0_1 s.f1) s.f0 wc hC2
              have hc2 := containsFunc_same (fun x => decide (x ≠ s.f0) && !(litsTo l1 k).contains (wrap64 (-x))) 105 #[.pointer (some ⟨gs, 0, none⟩), .pointer (some ⟨w3.heap.size, 0, none⟩)] eg A2 c2 (rd_L1 l0_1 s.f1) wc hC2
                (fun x => by have h := propCheck1 bm k (dset (litsTo l1 k)) x s.f0 ⟨gs, 0, none⟩ ⟨w3.heap.size, 0, none⟩ wc HM8.out d3 d2; rw [dset_getD] at h; exact h)
              have HWY := Aside0.mk (show stepWhyB l0_1 (litsTo l1 k) s = ((rd_L1 l0_1 s.f1).contains s.f0 && !((rd_L1 l0_1 s.f1).any fun x => decide (x ≠ s.f0) && !(litsTo l1 k).contains (wrap64 (-x)))) by
                unfold stepWhyB; rw [decide_eq_false (by omega)]; simp)
              clear hC hC2 hle
              generalize (rd_L1 l0_1 s.f1).contains s.f0 = b1 at hc1 HWY
              generalize ((rd_L1 l0_1 s.f1).any fun x => decide (x ≠ s.f0) && !(litsTo l1 k).contains (wrap64 (-x))) = b2 at hc2 HWY
              by_cases hgood : b1 = true ∧ b2 = false
              · obtain ⟨rfl, rfl⟩ := hgood
                have HTT := Aside0.mk (show trailOkB a0_0 l0_1 (litsTo l1 (k + 1)) (l1.drop (k + 1)) = trailOkB a0_0 l0_1 [] l1 by
                  rw [← HT.out, HST.out, HWY.out, trail_good _ _ HBAD.out])
                have hl := bad_lit HBAD.out
                have hwf : I64 s.f0 := i64_of (by omega) (by omega)
                have hkm : k < maxLen := by unfold maxLen; omega
                have HWF := Aside0.mk hwf
                have HKM := Aside0.mk hkm
                clear hl hwf hkm
                go_wp2_with (first
                  | (go_at_call 106; refine hc1.mono ?_; rintro e w' ⟨rfl, rfl⟩)
                  | (go_at_call 100; refine hc2.mono ?_; rintro e w' ⟨rfl, rfl⟩)
                  | (go_at_call 107; refine (truths_step bm k (dset (litsTo l1 k)) s.f0 _ HM8.out HKM.out HWF.out).mono ?_; rintro e w9 ⟨rfl, hM9, ht9⟩; have HM9 := Aside0.mk hM9; have HT9 := Aside0.mk ht9.grown; clear hM9 ht9))
                go_roundg (l1.length - (k + 1))
                case measure => omega
                case rel => exact ⟨k + 1, by omega, by omega, by go_num, ⟨HTT.out⟩, ⟨by rw [litsTo_succ l1 k hlt, HSS.out, ← dset_snoc]; exact HM9.out⟩, ⟨blk_grown HX8.out HT9.out (fun e => blk_map HX8.out HM8.out (Option.some.inj e))⟩, ⟨blk_grown HG8.out HT9.out (fun e => blk_map HG8.out HM8.out (Option.some.inj e))⟩, ⟨pw_below_grown HB8.out _ HB8.out.size HT9.out (fun j e => by cases e; exact HBM.out)⟩⟩
              · have HQ := Aside0.mk (show r = 1 by
                  rw [← HV2.out, ← HT.out, HST.out, HWY.out]
                  exact trail_bad _ _ _ _ hgood)
                cases b1 with
                | false =>
                  clear hgood
                  go_wp2_with (go_at_call 106; refine hc1.mono ?_; rintro e w' ⟨rfl, rfl⟩)
                  go_ret
                  exact ⟨ret_eq HQ.out.symm, HB8.out⟩
                | true =>
                  obtain rfl : b2 = true := by cases b2 with
                    | true => rfl
                    | false => exact absurd ⟨rfl, rfl⟩ hgood
                  clear hgood
                  go_wp2_with (first | (go_at_call 106; refine hc1.mono ?_; rintro e w' ⟨rfl, rfl⟩) | (go_at_call 100; refine hc2.mono ?_; rintro e w' ⟨rfl, rfl⟩))
                  go_ret
                  exact ⟨ret_eq HQ.out.symm, HB8.out⟩
            · have HTT := Aside0.mk (show trailOkB a0_0 l0_1 (litsTo l1 (k + 1)) (l1.drop (k + 1)) = trailOkB a0_0 l0_1 [] l1 by
                rw [← HT.out, HST.out, show stepWhyB l0_1 (litsTo l1 k) s = (true && !false) by unfold stepWhyB; rw [decide_eq_true (by omega)]; rfl, trail_good _ _ HBAD.out])
              have hl := bad_lit HBAD.out
              have hwf : I64 s.f0 := i64_of (by omega) (by omega)
              have hkm : k < maxLen := by unfold maxLen; omega
              have HWF := Aside0.mk hwf
              have HKM := Aside0.mk hkm
              clear hl hwf hkm
              go_wp2_with (go_at_call 107; refine (truths_step bm k (dset (litsTo l1 k)) s.f0 _ HM8.out HKM.out HWF.out).mono ?_; rintro e w9 ⟨rfl, hM9, ht9⟩; have HM9 := Aside0.mk hM9; have HT9 := Aside0.mk ht9.grown; clear hM9 ht9)
              go_roundg (l1.length - (k + 1))
              case measure => omega
              case rel => exact ⟨k + 1, by omega, by omega, by go_num, ⟨HTT.out⟩, ⟨by rw [litsTo_succ l1 k hlt, HSS.out, ← dset_snoc]; exact HM9.out⟩, ⟨blk_grown HX8.out HT9.out (fun e => blk_map HX8.out HM8.out (Option.some.inj e))⟩, ⟨blk_grown HG8.out HT9.out (fun e => blk_map HG8.out HM8.out (Option.some.inj e))⟩, ⟨pw_below_grown HB8.out _ HB8.out.size HT9.out (fun j e => by cases e; exact HBM.out)⟩⟩
      · have hltz : ¬ (k : Int) < (l1.length : Int) := by omega
        obtain rfl : k = l1.length := by omega
        have HQ := Aside0.mk (show r = 0 by
          rw [← HV2.out, ← HT.out, List.drop_length]
          simp [trailOkB])
        go_wp2
        go_ret
        exact ⟨ret_eq HQ.out.symm, HB.out⟩
  · have HV2 := Aside0.mk (show cnfCheckV a0_0 l0_1 = r by rw [← HV.out, propCheckV, if_neg hc])
    have hb : (cnfCheckV a0_0 l0_1 != 0) = true := by simp [hc]
    have HCQ := Aside0.mk (show cnf_Check.f a0_0 l0_1 = some (cnfCheckV a0_0 l0_1) from rfl)
    clear hc HV
    generalize cnfCheckV a0_0 l0_1 = q at hb HV2 HCQ
    go_enter Try.func35, Try.ntmps35
    go_wp2_with (first
      | ((with_reducible refine gate_dst (N := 2) rfl ?_); refine box_event ?hg (N := 2) ?hd (cs := #[.int .i64 a0_0, .slice A0_1 l0_1.length c0_1]) (t := 24) ?hr ?_; (case hd => rfl); (case hg => rfl); (case hr => first | (go_simp; done) | (go_simp; rfl)); intro gb hgb w1 hbox hb1; have c0 := cell_in hbox 0 rfl; have c1 := cell_in hbox 1 rfl; have HB := Aside0.mk hb1; clear hbox hb1 hgb)
      | (go_at_call 55; refine (cnf_Check.calls a0_0 A0_1 c0_1 l0_1 q _ (Kd.C_below HRL.out HB.out) HCL.out HCQ.out).mono ?_; rintro e w2 ⟨rfl, hb2⟩; have HB2 := Aside0.mk (below_step HB.out hb2); clear hb2))
    go_ret
    exact ⟨ret_eq HV2.out, HB2.out⟩

end Go.Proofs.Ytobadajeekdakaa.Print
