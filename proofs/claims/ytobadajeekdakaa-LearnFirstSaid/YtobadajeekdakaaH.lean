/- learn.First: its contract. -/
import Derived.Test.YtobadajeekdakaaH2
import Derived.WalkMore
import Derived.Test.YtobadajeekdakaaR
import Derived.Maps.OwnIn
import Derived.Deep.DeepBigQuietO
namespace Go.Proofs.Ytobadajeekdakaa.Print
open Go.RowKit Go.Proofs.YtobadajeekdakaaW.PrintWords Go.Proofs.YtobadajeekdakaaW.PrintLast Go.Proofs.YtobadajeekdakaaW.PrintMore
open Go.Shelf
set_option linter.unusedVariables false
set_option linter.unusedSimpArgs false
attribute [local go_sem] Oper.semAt_some

theorem run_store_func (a : Addr) (m : Mode) (w : World) (f : Fn) (ts cs : Array Value) : (store a (.func f ts cs) m).run Try.prog w = stored Try.prog w a (.func f ts cs) m := run_store Try.prog w a _ m rfl
theorem defer_map {w : World} {g bm n : Nat} {f : Int → Option Bool} {x : Option (List Deferred)} (h : w.heap[g]? = some (.deferred x)) (hM : MapOf boolE w bm n f) : g ≠ bm := by
  obtain ⟨D, ⟨es, clock, hh, _⟩, _⟩ := hM
  rintro rfl
  rw [h] at hh
  cases hh
theorem leave_ret {F : Fence} {n : Nat} {P : Program} {fn : Func} {R : Ending → World → Prop} {a : Act} {w : World} {v : Value} (hres : (results fn a.tmps).run P w = .ok v w) (ha : a.defers = []) (h : R (.returned v) w) : Exit.noGoto (bodyPostM F n P fn R) .ret a w := by
  show LeavesInM F n P fn a.tmps R a.defers .returning w
  rw [ha]
  exact ⟨v, hres, h⟩
theorem leave_ret1 {F : Fence} {n : Nat} {P : Program} {fn : Func} {R : Ending → World → Prop} {a : Act} {w : World} {v : Value} {D : Nat} (ha : a.defers = [{ target := .collected D, args := #[] }]) (hD : w.heap[D]? = some (.deferred (some []))) (hres : ∀ w, (results fn a.tmps).run P w = .ok v w) (h : R (.returned v) (w.putObj D (.deferred none))) : Exit.noGoto (bodyPostM F n P fn R) .ret a w := by
  show LeavesInM F n P fn a.tmps R a.defers .returning w
  rw [ha]
  exact ⟨by simp, .inl ⟨_, _, rfl, run_takeDeferred hD, ⟨v, hres _, h⟩⟩⟩

set_option maxHeartbeats 8000000 in
set_option maxRecDepth 100000 in
theorem learn_First.calls (a0_0 : Int) (A0_1 : Option Addr) (c0_1 : Nat) (l0_1 : List (List Int)) (A1 : Option Addr) (c1 : Nat) (l1 : List S41) (a2 : Int) (r1 : List Int) (r2 r3 : Int) (w : World)
    (hr0_1 : Kd.C (Kd.slice 3 (Kd.int .i64)) w A0_1 l0_1.length l0_1) (hc0_1 : l0_1.length ≤ c0_1) (hr1 : Kd.C k41 w A1 l1.length l1) (hc1 : l1.length ≤ c1) (h : learn_First.f a0_0 l0_1 l1 a2 = some (r1, r2, r3)) :
    Calls Try.prog 28 #[.agg #[.int .i64 a0_0, .slice A0_1 l0_1.length c0_1], .slice A1 l1.length c1, .int .i64 a2] w fun e w' => ∃ v0_ : Value, e = .returned (.tuple #[v0_, .int .i64 r2, .int .i64 r3]) ∧ Kd.R (Kd.int .i64) 3 w' w.heap.size (fun _ => True) v0_ r1 ∧ Below w.heap.size w w' := by
  have HRL := Aside0.mk hr0_1
  have HCL := Aside0.mk hc0_1
  have HRT := Aside0.mk hr1
  have HCT := Aside0.mk hc1
  have hm : l1.length ≤ 9223372036854775807 := hr1.2.1
  have hmL : l0_1.length ≤ 9223372036854775807 := hr0_1.2.1
  clear hr0_1 hr1 hc1 hc0_1
  obtain ⟨ec, hec⟩ : ∃ ec, propCheckV a0_0 l0_1 l1 = ec := ⟨_, rfl⟩
  have HPC := Aside0.mk (show prop_Check.f a0_0 l0_1 l1 = some ec from congrArg some hec)
  refine (callsIn_wide (n := 3)).1 ?_
  refine callsIn_of_wp_marks Try.func28 rfl trivial ?_ rfl
  simp only [Try.ntmps28, List.size_toArray, List.length_cons, List.length_nil, Nat.reduceAdd, Nat.reduceSub, Array.replicate_succ, Array.replicate_zero, List.push_toArray, List.append_toArray, List.nil_append, List.cons_append]
  refine wpIn_wide.2 ?_
  unfold learn_First.f at h
  rw [hec] at h
  by_cases he : ec = 0
  · subst he
    rw [if_neg (by simp)] at h
    by_cases hfit : fitB l0_1 l1 = false
    · rw [if_pos hfit] at h; cases h
    · rw [if_neg hfit] at h
      clear hec
      go_wp2_with ((with_reducible refine gate_dst (N := 3) rfl ?_); refine box_event ?hg (N := 3) ?hd (cs := #[.int .i64 a0_0, .slice A0_1 l0_1.length c0_1]) (t := 24) ?hr ?_; (case hd => rfl); (case hg => rfl); (case hr => first | (go_simp; done) | (go_simp; rfl)); intro gb hgb w1 hbox hb1; have cc0 := cell_in hbox 0 rfl; have cc1 := cell_in hbox 1 rfl; have HBX := Aside0.mk hbox; have HB := Aside0.mk hb1; have HGB := Aside0.mk hgb; clear hbox hb1 hgb)
      go_step3
      go_upto_region 4 with (go_at_call 35; refine (prop_Check.calls a0_0 A0_1 c0_1 l0_1 A1 c1 l1 _ _ (Kd.C_below HRL.out HB.out) HCL.out (Kd.C_below HRT.out HB.out) HCT.out HPC.out).mono ?_; rintro e w2 ⟨rfl, hb2⟩; have HBX2 := Aside0.mk (blk_below HBX.out hb2); have HB2 := Aside0.mk (below_step HB.out hb2); clear hb2 cc0 cc1 HB HBX)
      have HS := Aside0.mk (sane_of (Option.some.inj HPC.out))
      have HFIT := Aside0.mk (show l1.length ≤ 5000 ∧ ∀ r ∈ l0_1, r.length ≤ 100 by simp only [fitB, Bool.not_eq_false, Bool.and_eq_true, decide_eq_true_eq, List.all_eq_true] at hfit; exact hfit)
      clear hfit
      have e0 : w2.cell? ⟨gb, 0, none⟩ = some (.int .i64 a0_0) := cell_in HBX2.out 0 rfl
      have e1 : w2.cell? ⟨gb, 1, none⟩ = some (.slice A0_1 l0_1.length c0_1) := cell_in HBX2.out 1 rfl
      go_upto_region 5 with (go_at_call 82; refine (looked_any a0_0 A0_1 l0_1.length c0_1 A1 c1 l1 _ (Kd.C_below HRT.out HB2.out) HCT.out (by have := HFIT.out.1; omega) HS.out.wf).mono ?_; rintro e w3 ⟨Av, cv, bm, rfl, hR3, hM3, hbm3, hb3⟩; have HR3 := Aside0.mk hR3; have HM3 := Aside0.mk hM3; have HBM3 := Aside0.mk hbm3; have HB3 := Aside0.mk hb3; clear hR3 hM3 hbm3 hb3 e0 e1)
      have HGX := Aside0.mk (blk_new w3 (.cells #[.int .i64 a0_0, .slice A0_1 l0_1.length c0_1, .slice A1 l1.length c1, .slice Av l1.length cv, .map (some bm)] 90 (0, 0)))
      have HMA := Aside0.mk (HM3.out.alloc (.cells #[.int .i64 a0_0, .slice A0_1 l0_1.length c0_1, .slice A1 l1.length c1, .slice Av l1.length cv, .map (some bm)] 90 (0, 0)))
      have HLV := Aside0.mk (Kd.R_below HR3.out (below_alloc (Below.refl _ w3) (.cells #[.int .i64 a0_0, .slice A0_1 l0_1.length c0_1, .slice A1 l1.length c1, .slice Av l1.length cv, .map (some bm)] 90 (0, 0))))
      have HB4 := Aside0.mk (below_alloc (below_step HB2.out HB3.out) (.cells #[.int .i64 a0_0, .slice A0_1 l0_1.length c0_1, .slice A1 l1.length c1, .slice Av l1.length cv, .map (some bm)] 90 (0, 0)))
      have HBX4 := Aside0.mk (blk_alloc (blk_below HBX2.out HB3.out) (.cells #[.int .i64 a0_0, .slice A0_1 l0_1.length c0_1, .slice A1 l1.length c1, .slice Av l1.length cv, .map (some bm)] 90 (0, 0)))
      have HGN := Aside0.mk (Nat.le_trans HB2.out.size HB3.out.size)
      have HBMN := Aside0.mk (Nat.le_trans HB2.out.size HBM3.out)
      have HLC := Aside0.mk (Kd.R_reads' HLV.out).2.2
      rw [levelsFrom_length] at HLC
      clear HB2 HB3 HBX2 HR3 HM3 HBM3 HLV
      generalize w3.alloc (.cells #[.int .i64 a0_0, .slice A0_1 l0_1.length c0_1, .slice A1 l1.length c1, .slice Av l1.length cv, .map (some bm)] 90 (0, 0)) = w4 at HGX HMA HLC HB4 HBX4 ⊢
      generalize w3.heap.size = gx at HGX HGN ⊢
      obtain ⟨bad, hbad⟩ : ∃ bad, bad = decide (a2 < 0 ∨ (l0_1.length : Int) ≤ a2 ∨ (rd_L1 l0_1 a2).all (knownB l1) = false) := ⟨_, rfl⟩
      have HBAD := Aside0.mk hbad
      clear hbad
      have c0 : w4.cell? ⟨gb, 0, none⟩ = some (.int .i64 a0_0) := cell_in HBX4.out 0 rfl
      have c1' : w4.cell? ⟨gb, 1, none⟩ = some (.slice A0_1 l0_1.length c0_1) := cell_in HBX4.out 1 rfl
      have d0 : w4.cell? ⟨gx, 0, none⟩ = some (.int .i64 a0_0) := cell_in HGX.out 0 rfl
      have d1 : w4.cell? ⟨gx, 1, none⟩ = some (.slice A0_1 l0_1.length c0_1) := cell_in HGX.out 1 rfl
      have d2 : w4.cell? ⟨gx, 2, none⟩ = some (.slice A1 l1.length c1) := cell_in HGX.out 2 rfl
      have d3 : w4.cell? ⟨gx, 3, none⟩ = some (.slice Av l1.length cv) := cell_in HGX.out 3 rfl
      have d4 : w4.cell? ⟨gx, 4, none⟩ = some (.map (some bm)) := cell_in HGX.out 4 rfl
      have hmix : Try.prog.follows Departure.mixedOrders = true := by kernel_rfl
      go_cut [46] from 28 to 46 (fun v46 wc => v46 = .bool bad ∧ Aside0 (Below w4.heap.size w4 wc))
      case first =>
        by_cases ha0 : a2 < 0
        · have ebad : bad = true := by rw [HBAD.out]; exact decide_eq_true (Or.inl ha0)
          subst ebad
          go_big_quiet_o (fail)
          go_wp2
          go_meet
          case rel => exact ⟨rfl, ⟨by repeat (first | exact Below.refl _ _ | apply pw_below_drewN | apply below_drew1)⟩⟩
        · by_cases ha1 : (l0_1.length : Int) ≤ a2
          · have ebad : bad = true := by rw [HBAD.out]; exact decide_eq_true (Or.inr (Or.inl ha1))
            subst ebad
            go_big_quiet_o (fail)
            go_wp2
            go_meet
            case rel => exact ⟨rfl, ⟨by repeat (first | exact Below.refl _ _ | apply pw_below_drewN | apply below_drew1)⟩⟩
          · obtain ⟨ad, Ar, cr, e1, hcell, hcr, hrow⟩ := at_L1 (Kd.C_below HRL.out HB4.out) a2 (by omega) (by omega)
            cases e1
            have ebad : (rd_L1 l0_1 a2).all (knownB l1) = !bad := by
              rw [HBAD.out]
              cases (rd_L1 l0_1 a2).all (knownB l1) <;> simp [ha0, ha1] <;> omega
            have HROW := Aside0.mk hrow
            have HCR := Aside0.mk hcr
            clear hrow hcr
            have hcall := fun W (hb : Below w4.heap.size w4 W) => look_dead a0_0 (some ad) A1 Av l0_1.length c0_1 l1.length c1 l1.length cv bm l1.length (atT l1) Ar cr (rd_L1 l0_1 a2) W (HMA.out.below hb) (Kd.C_below HROW.out hb)
            replace hcall : ∀ W, Below w4.heap.size w4 W → Calls Try.prog 83 #[.agg #[.int .i64 a0_0, .slice (some ad) l0_1.length c0_1, .slice A1 l1.length c1, .slice Av l1.length cv, .map (some bm)], .slice Ar (rd_L1 l0_1 a2).length cr] W fun e w' => e = .returned (.bool (!bad)) ∧ Below W.heap.size W w' := fun W hb => by
              have := hcall W hb
              rwa [show ((rd_L1 l0_1 a2).all fun x => (atT l1 (wrap64 (-x))).isSome) = !bad from ebad] at this
            clear ebad
            have ha0' : (0 : Int) ≤ a2 := by omega
            have ha1' : a2 < (l0_1.length : Int) := by omega
            generalize (rd_L1 l0_1 a2).length = nr at hcell hcall
            go_region_held3 (fun w' => w'.cell? ⟨gb, 1, none⟩ = some (.slice (some ad) l0_1.length c0_1) ∧ w'.cell? ⟨gx, 0, none⟩ = some (.int .i64 a0_0) ∧ w'.cell? ⟨gx, 1, none⟩ = some (.slice (some ad) l0_1.length c0_1) ∧ w'.cell? ⟨gx, 2, none⟩ = some (.slice A1 l1.length c1) ∧ w'.cell? ⟨gx, 3, none⟩ = some (.slice Av l1.length cv) ∧ w'.cell? ⟨gx, 4, none⟩ = some (.map (some bm)) ∧ w'.cell? (ad.add a2.toNat) = some (.slice Ar nr cr)) (first | go_keep | (refine ⟨?_, ?_, ?_, ?_, ?_, ?_, ?_⟩ <;> assumption)) (first | (go_at_call 83; refine (hcall _ (by repeat (first | exact Below.refl _ _ | apply pw_below_drewN | apply below_drew1))).mono ?_; rintro e w5 ⟨rfl, hb5⟩; have HB5 : Aside0 (Below w4.heap.size w4 w5) := ⟨below_step (by repeat (first | exact Below.refl _ _ | apply pw_below_drewN | apply below_drew1)) hb5⟩; have f0 : w5.cell? ⟨gb, 1, none⟩ = some (.slice (some ad) l0_1.length c0_1) := cell_in (blk_below HBX4.out HB5.out) 1 rfl; have f1 : w5.cell? ⟨gx, 0, none⟩ = some (.int .i64 a0_0) := cell_in (blk_below HGX.out HB5.out) 0 rfl; have f2 : w5.cell? ⟨gx, 1, none⟩ = some (.slice (some ad) l0_1.length c0_1) := cell_in (blk_below HGX.out HB5.out) 1 rfl; have f3 : w5.cell? ⟨gx, 2, none⟩ = some (.slice A1 l1.length c1) := cell_in (blk_below HGX.out HB5.out) 2 rfl; have f4 : w5.cell? ⟨gx, 3, none⟩ = some (.slice Av l1.length cv) := cell_in (blk_below HGX.out HB5.out) 3 rfl; have f5 : w5.cell? ⟨gx, 4, none⟩ = some (.map (some bm)) := cell_in (blk_below HGX.out HB5.out) 4 rfl; have f6 : w5.cell? (ad.add a2.toNat) = some (.slice Ar nr cr) := (HB5.out.cell (World.block_lt_of_cell? w4 _ hcell)).trans hcell; clear hb5))
            all_goals
              go_wp2_with fail
              go_meet
              exact ⟨by simp, ⟨by repeat (first | exact HB5.out | apply pw_below_drewN | apply below_drew1)⟩⟩
      case rest =>
        obtain ⟨rfl, HB5⟩ := hcut
        clear c0 c1' d0 d1 d2 d3 d4
        by_cases hb : bad = true
        · have HBD := Aside0.mk (of_decide_eq_true (HBAD.out.symm.trans hb))
          rw [if_pos HBD.out] at h
          injection h with h
          injection h with h1 h
          injection h with h2 h3
          subst h1 h2 h3
          subst hb
          go_wp2_with fail
          refine leave_ret (results_tmp3 rfl _ _ _) rfl ?_
          exact ⟨_, rfl, Kd.R_nil _ _ _ _ _, HB4.out.trans (HB5.out.mono HB4.out.size)⟩
        · have hb' : bad = false := by simpa using hb
          subst hb'
          have HGOOD := Aside0.mk (of_decide_eq_false HBAD.out.symm)
          rw [if_neg HGOOD.out] at h
          clear hb HBAD
          go_upto_region 8 with (fail)
          have HGL := Aside0.mk (blk_new wc (.cells #[.int .i64 0] 3 (0, 0)))
          have HB6 := Aside0.mk (below_alloc HB5.out (.cells #[.int .i64 0] 3 (0, 0)))
          generalize wc.alloc (.cells #[.int .i64 0] 3 (0, 0)) = w6 at HGL HB6 ⊢
          have HGLN := Aside0.mk HB5.out.size
          generalize wc.heap.size = gl at HGL HGLN ⊢
          clear HB5 wc
          obtain ⟨last, hlast⟩ : ∃ last, last = lastOf l1 := ⟨_, rfl⟩
          have HLAST := Aside0.mk hlast
          rw [← hlast] at h
          clear hlast
          go_upto_if 49 with (fail)
          go_cut [47] from 47 to 56 (fun v47 wc => Aside0 (wc.heap[gl]? = some (.cells #[.int .i64 last] 3 (0, 0))) ∧ Aside0 (Below w4.heap.size w4 wc))
          case first =>
            by_cases hpos : 0 < l1.length
            · have e3 : w6.cell? ⟨gx, 3, none⟩ = some (.slice Av l1.length cv) := cell_in (blk_below HGX.out HB6.out) 3 rfl
              have e6 : w6.cell? ⟨gl, 0, none⟩ = some (.int .i64 0) := cell_in HGL.out 0 rfl
              have e7 : w6.frozen? ⟨gl, 0, none⟩ = false := blk_frozen HGL.out 0
              have hpos1 : (0 : Int) < (l1.length : Int) := by omega
              obtain ⟨ad, e1, hcell⟩ := Kd.at_int (Kd.C_below HLC.out HB6.out) ((l1.length : Int) - 1) (by omega) (by omega)
              cases e1
              have hi0 : (0 : Int) ≤ (l1.length : Int) - 1 := by omega
              have hi1 : (l1.length : Int) - 1 < (l1.length : Int) := by omega
              have hlv : rd (levelsFrom 0 l1) ((l1.length : Int) - 1) = last := by rw [HLAST.out, lastOf, if_pos hpos]; rfl
              rw [hlv, show ((l1.length : Int) - 1).toNat = l1.length - 1 by omega] at hcell
              clear hlv
              have hd : decide (0 < l1.length) = true := decide_eq_true hpos
              have hd2 : decide ((0 : Int) < (l1.length : Int)) = true := decide_eq_true (by omega)
              have hd3 : decide ((l1.length : Int) > 0) = true := decide_eq_true (by omega)
              first | rw [hd] | rw [hd2] | rw [hd3]
              clear hpos hd hd2 hd3
              go_wp2
              go_meet
              exact ⟨⟨blk_put HGL.out 0 _ rfl⟩, ⟨HB6.out.setCell (p := ⟨gl, 0, none⟩) HGLN.out _⟩⟩
            · have hz : last = 0 := by rw [HLAST.out, lastOf, if_neg hpos]
              subst hz
              have hd : decide (0 < l1.length) = false := decide_eq_false hpos
              have hd2 : decide ((0 : Int) < (l1.length : Int)) = false := decide_eq_false (by omega)
              have hd3 : decide ((l1.length : Int) > 0) = false := decide_eq_false (by omega)
              first | rw [hd] | rw [hd2] | rw [hd3]
              clear hpos hd hd2 hd3
              go_wp2
              go_meet
              exact ⟨HGL, HB6⟩
          case rest =>
            clear HGL HB6 w6
            obtain ⟨HGL, HB7⟩ := hcut
            have hsf := fun (a : Addr) (m : Mode) (W : World) (f : Fn) (ts cs : Array Value) => run_store_func a m W f ts cs
            go_upto_region 12 with ((with_reducible refine gate_dst (N := 57) rfl ?_); refine map_made_event boolE rfl (t := 93) rfl ?_; intro bin hbin w8 hM8 hb8; have HGL8 := Aside0.mk (blk_below HGL.out hb8); have HB8 := Aside0.mk (below_step HB7.out hb8); have HM8 := Aside0.mk hM8; have HBIN := Aside0.mk (show w4.heap.size ≤ bin by rw [hbin]; exact HB7.out.size); clear hbin hM8 hb8)
            have HD : FHead w4 a0_0 A0_1 l0_1.length c0_1 A1 c1 l1 Av cv bm gx := ⟨HGX.out, HMA.out, HLC.out⟩
            have HHD := Aside0.mk HD
            clear HD HGX HMA HLC hsf
            have hF : FSt w4 gx gl w8.heap.size (w8.heap.size + 1) (w8.heap.size + 1 + 1) bin last 0 ([], 0) (((w8.alloc (.cells #[.map (some bin)] 93 (0, 0))).alloc (.cells #[.int .i64 0] 3 (0, 0))).alloc (.cells #[.func (.func 84) #[] #[.pointer (some ⟨w8.heap.size, 0, none⟩), .pointer (some ⟨gx, 0, none⟩), .pointer (some ⟨gl, 0, none⟩), .pointer (some ⟨w8.heap.size + 1, 0, none⟩)]] 94 (0, 0))) := by
              have hgl : gl < w8.heap.size := blk_lt HGL8.out
              have h48 := HB8.out.size
              have b1 := blk_new w8 (.cells #[.map (some bin)] 93 (0, 0))
              have b2 := blk_new (w8.alloc (.cells #[.map (some bin)] 93 (0, 0))) (.cells #[.int .i64 0] 3 (0, 0))
              have b3 := blk_new ((w8.alloc (.cells #[.map (some bin)] 93 (0, 0))).alloc (.cells #[.int .i64 0] 3 (0, 0))) (.cells #[.func (.func 84) #[] #[.pointer (some ⟨w8.heap.size, 0, none⟩), .pointer (some ⟨gx, 0, none⟩), .pointer (some ⟨gl, 0, none⟩), .pointer (some ⟨w8.heap.size + 1, 0, none⟩)]] 94 (0, 0))
              rw [World.size_alloc] at b2
              rw [World.size_alloc, World.size_alloc] at b3
              exact ⟨below_alloc (below_alloc (below_alloc HB8.out _) _) _, blk_alloc (blk_alloc (blk_alloc HGL8.out _) _) _, blk_alloc (blk_alloc b1 _) _, blk_alloc b2 _, b3, by rw [dset_nil]; exact ((HM8.out.alloc _).alloc _).alloc _, by omega, by omega, HBIN.out⟩
            have HF := Aside0.mk hF
            clear hF HM8 HGL8 HB8 HGL HBIN
            generalize (((w8.alloc (.cells #[.map (some bin)] 93 (0, 0))).alloc (.cells #[.int .i64 0] 3 (0, 0))).alloc (.cells #[.func (.func 84) #[] #[.pointer (some ⟨w8.heap.size, 0, none⟩), .pointer (some ⟨gx, 0, none⟩), .pointer (some ⟨gl, 0, none⟩), .pointer (some ⟨w8.heap.size + 1, 0, none⟩)]] 94 (0, 0))) = w9 at HF ⊢
            generalize w8.heap.size + 1 + 1 = gf at HF ⊢
            generalize w8.heap.size + 1 = gh at HF ⊢
            generalize w8.heap.size = gi at HF ⊢
            have ha0 : (0 : Int) ≤ a2 := by have := HGOOD.out; omega
            have ha1 : a2 < (l0_1.length : Int) := by have := HGOOD.out; omega
            have hkn : (rd_L1 l0_1 a2).all (knownB l1) = true := by have := HGOOD.out; simp only [not_or, Bool.not_eq_false] at this; exact this.2.2
            obtain ⟨ad, Ar, cr, e1, hcell, hcr, hrow⟩ := at_L1 (Kd.C_below HRL.out HB4.out) a2 ha0 ha1
            have HROW := Aside0.mk hrow
            have hmem := rd_L1_mem ha0 ha1
            have HML := Aside0.mk (HFIT.out.2 _ hmem)
            have hcall := fun (m : Nat) => (HF.out.below (pw_below_drewN (Below.refl w9.heap.size w9) m)).call HHD.out 0 Ar cr (rd_L1 l0_1 a2) hrow (fun x hx => by have h1 := HS.out.row _ hmem x hx; have h2 := HS.out.n1; exact i64_of (by omega) (by omega)) (fun x hx _ => (List.all_eq_true.1 hkn) x hx) (by simp) (by have := HML.out; simp; omega) (by have := HML.out; omega)
            obtain ⟨s0, hs0⟩ : ∃ s0, s0 = putL l1 last 0 (rd_L1 l0_1 a2) ([], 0) := ⟨_, rfl⟩
            rw [← hs0] at hcall h
            have HS0 := Aside0.mk hs0
            clear hs0 hkn hmem hrow hcr
            have c1' : w9.cell? ⟨gb, 1, none⟩ = some (.slice A0_1 l0_1.length c0_1) := cell_in (blk_below HBX4.out HF.out.b) 1 rfl
            have c2' : w9.cell? ⟨gf, 0, none⟩ = some (.func (.func 84) #[] #[.pointer (some ⟨gi, 0, none⟩), .pointer (some ⟨gx, 0, none⟩), .pointer (some ⟨gl, 0, none⟩), .pointer (some ⟨gh, 0, none⟩)]) := cell_in HF.out.hgf 0 rfl
            have HCE4 := Aside0.mk hcell
            replace hcell := (HF.out.b.cell (World.block_lt_of_cell? w4 _ hcell)).trans hcell
            rw [e1] at c1'
            have HBX5 := Aside0.mk HBX4.out
            rw [e1] at HBX5
            generalize hnr : (rd_L1 l0_1 a2).length = nr at hcell hcall HCE4
            have HNR := Aside0.mk hnr
            clear hnr
            have hcallD : ∀ m, Calls Try.prog 84 #[.slice Ar nr cr, .int .i64 0, .pointer (some ⟨gi, 0, none⟩), .pointer (some ⟨gx, 0, none⟩), .pointer (some ⟨gl, 0, none⟩), .pointer (some ⟨gh, 0, none⟩)] (w9.drewN m) fun e W' => e = .returned (.tuple #[]) ∧ FSt w4 gx gl gi gh gf bin last (0 + nr) s0 W' := fun m => (hcall m).mono fun _ _ hq => ⟨hq.1, hq.2.1⟩
            clear hcall
            rw [e1]
            go_cut [65] from 59 to 65 (fun v65 wc => Aside0 (FSt w4 gx gl gi gh gf bin last (0 + nr) s0 wc))
            case first =>
              go_region_held3 (fun w' => w'.cell? ⟨gb, 1, none⟩ = some (.slice (some ad) l0_1.length c0_1) ∧ w'.cell? ⟨gf, 0, none⟩ = some (.func (.func 84) #[] #[.pointer (some ⟨gi, 0, none⟩), .pointer (some ⟨gx, 0, none⟩), .pointer (some ⟨gl, 0, none⟩), .pointer (some ⟨gh, 0, none⟩)]) ∧ w'.cell? (ad.add a2.toNat) = some (.slice Ar nr cr)) (first | go_keep | (refine ⟨?_, ?_, ?_⟩ <;> assumption)) (first | (go_at_call 84; refine (hcallD _).mono ?_; rintro e w10 ⟨rfl, hF10⟩; have HF10 := Aside0.mk hF10; have f0 : w10.cell? ⟨gb, 1, none⟩ = some (.slice (some ad) l0_1.length c0_1) := cell_in (blk_below HBX5.out HF10.out.b) 1 rfl; have f1 : w10.cell? ⟨gf, 0, none⟩ = some (.func (.func 84) #[] #[.pointer (some ⟨gi, 0, none⟩), .pointer (some ⟨gx, 0, none⟩), .pointer (some ⟨gl, 0, none⟩), .pointer (some ⟨gh, 0, none⟩)]) := cell_in HF10.out.hgf 0 rfl; have f2 : w10.cell? (ad.add a2.toNat) = some (.slice Ar nr cr) := (HF10.out.b.cell (World.block_lt_of_cell? w4 _ HCE4.out)).trans HCE4.out; clear hF10))
              all_goals
                go_wp2_with fail
                go_meet
                exact HF10
            case rest =>
              have HFH := Aside0.mk (show (w9.heap.size ≤ wc.heap.size ∨ True) from Or.inr trivial)
              clear hcallD hcell c1' c2' HF HFH
              have HF := hcut
              have e0 : wc.cell? ⟨gl, 0, none⟩ = some (.int .i64 last) := cell_in HF.out.hgl 0 rfl
              have e2 : wc.cell? ⟨gh, 0, none⟩ = some (.int .i64 s0.2) := cell_in HF.out.hgh 0 rfl
              by_cases hz : last = 0 ∨ s0.2 = 0
              · rw [if_pos hz] at h
                injection h with h
                injection h with h1 h
                injection h with h2 h3
                subst h1 h2 h3
                have HBF := Aside0.mk (HB4.out.trans (HF.out.b.mono HB4.out.size))
                by_cases hl0 : last = 0
                · have b1 : (last == 0) = true := by simp [hl0]
                  clear hz hl0
                  go_wp2
                  refine leave_ret (results_tmp3 rfl _ _ _) rfl ?_
                  exact ⟨_, rfl, Kd.R_nil _ _ _ _ _, HBF.out⟩
                · have hs00 : s0.2 = 0 := by omega
                  rw [hs00] at e2
                  have b1 : (last == 0) = false := by simp [hl0]
                  clear hz hs00
                  go_wp2
                  show Exit.noGoto (bodyPostM Fence.wide 3 Try.prog Try.f28 _) _ _ _
                  refine leave_ret (results_tmp3 rfl _ _ _) rfl ?_
                  exact ⟨_, rfl, Kd.R_nil _ _ _ _ _, HBF.out⟩
              · rw [if_neg hz] at h
                have hl0 : last ≠ 0 := fun hq => hz (Or.inl hq)
                have hs00 : s0.2 ≠ 0 := fun hq => hz (Or.inr hq)
                have b1 : (last == 0) = false := by simp [hl0]
                have b2 : (s0.2 == 0) = false := by simp [hs00]
                obtain ⟨hi0, hhi0⟩ : ∃ hi0, hi0 = s0.2 := ⟨_, rfl⟩
                rw [← hhi0] at e2 b2
                have HHI := Aside0.mk hhi0
                clear hz hl0 hs00 hhi0
                go_upto_region 16 with (fail)
                have hF2 := HF.out.below (below_alloc (Below.refl _ wc) (.cells #[.int .i64 0] 3 (0, 0)))
                have HFI := Aside0.mk (blk_new wc (.cells #[.int .i64 0] 3 (0, 0)))
                have HFIN := Aside0.mk (show w4.heap.size ≤ wc.heap.size ∧ gh < wc.heap.size ∧ bin < wc.heap.size ∧ gl < wc.heap.size ∧ gi < wc.heap.size ∧ gf < wc.heap.size from ⟨HF.out.b.size, blk_lt HF.out.hgh, HF.out.m.lt, blk_lt HF.out.hgl, blk_lt HF.out.hgi, blk_lt HF.out.hgf⟩)
                clear HF e0 e2 hcut
                have HF := Aside0.mk hF2
                clear hF2
                generalize wc.alloc (.cells #[.int .i64 0] 3 (0, 0)) = wd at HF HFI ⊢
                generalize wc.heap.size = gs at HFI HFIN ⊢
                go_step3
                go_wp2_with (go_at_call 86; refine (back_any _ _ _ _).mono ?_; rintro e w' ⟨rfl, rfl⟩)
                have HBS := Aside0.mk (blk_new wd (.cells #[.slice A1 l1.length c1] 25 (0, 0)))
                have HFI2 := Aside0.mk (blk_alloc HFI.out (.cells #[.slice A1 l1.length c1] 25 (0, 0)))
                have HF2 := Aside0.mk (HF.out.below (below_alloc (Below.refl _ wd) (.cells #[.slice A1 l1.length c1] 25 (0, 0))))
                have HBSN := Aside0.mk (show gs < wd.heap.size ∧ wd.heap.size < (wd.alloc (.cells #[.slice A1 l1.length c1] 25 (0, 0))).heap.size from ⟨blk_lt HFI.out, by simp⟩)
                clear HF HFI
                generalize wd.alloc (.cells #[.slice A1 l1.length c1] 25 (0, 0)) = wg at HBS HFI2 HF2 HBSN ⊢
                generalize wd.heap.size = Bs at HBS HBSN ⊢
                obtain ⟨B, hB⟩ : ∃ B, B = wg.heap.size := ⟨_, rfl⟩
                have HB0 := Aside0.mk hB
                rw [← hB] at HBSN
                have hR0 : RSt w4 gx gl gi gh gf bin last B gs Bs A1 l1.length c1 0 100 s0 wg := by
                  have h1 := HFIN.out
                  have h2 := HBSN.out
                  refine RSt.mono ⟨HF2.out, HFI2.out, HBS.out, ?_, by omega⟩ (show 0 + nr ≤ 100 by have := HML.out; have := HNR.out; omega)
                  omega
                have HR0 := Aside0.mk hR0
                have HSEEN : Aside0 (Seen l1 s0) := ⟨by
                  intro y hy
                  rw [HS0.out] at hy
                  rcases putL_mem l1 last 0 _ _ y hy with h1 | h1
                  · cases h1
                  · have hg := HGOOD.out
                    have h2 := HS.out.row _ (rd_L1_mem ha0 ha1) y h1.1
                    have h3 := HS.out.n1
                    have h4 : (rd_L1 l0_1 a2).all (knownB l1) = true := by simp only [not_or, Bool.not_eq_false] at hg; exact hg.2.2
                    exact ⟨(List.all_eq_true.1 h4) y h1.1, i64_of (by omega) (by omega)⟩⟩
                have HHB : Aside0 (0 ≤ s0.2 ∧ s0.2 ≤ 100) := ⟨by
                  have h1 := putL_hi l1 last 0 (rd_L1 l0_1 a2) ([], 0)
                  rw [← HS0.out] at h1
                  have := HML.out
                  dsimp only at h1
                  omega⟩
                clear hR0 hB HBS HFI2 HF2 HS0 b1 b2 ha0 ha1
                refine range_then (fun D W => WkX w4 gx gl gi gh gf bin last B gs Bs A1 c1 l0_1 l1 s0 W ∧ W.heap[D]? = some (.deferred (some [])) ∧ B ≤ D) ?walk ?behind
                case walk =>
                  refine (wpIn_wide (n := 3)).1 ?_
                  refine wpIn_rangeFunc_box (gf := 153) (lb := #[.pointer (some ⟨Bs, 0, none⟩)]) rfl (by omega) rfl trivial (enters_of Try.func153 (by kernel_rfl) rfl)
                    (back_next Fence.wide (3 - 1) trivial rfl (by omega) w4 wg A1 c1 Bs l1 (Kd.C_below HRT.out HB4.out) HR0.out.f.b HR0.out.hbs (by have := HFIT.out.1; omega))
                    KpB.trans ?kb ?ka (fun _ => rfl)
                    (WkI w4 gx gl gi gh gf bin last B gs Bs A1 c1 l0_1 l1 s0) (fun c _ W => c = .exit 0 ∧ WkX w4 gx gl gi gh gf bin last B gs Bs A1 c1 l0_1 l1 s0 W)
                    (by rw [← HB0.out]; exact wkI_own) (fun c => by rw [← HB0.out]; exact wkX_own c) ?start putB putB_eq 16 41 (fun x => #[.int .i64 x.2.f0, .int .i64 x.2.f1]) ?assign ?body ?done ?stop
                  case kb =>
                    intro W l o o' hl h1 h2 h3
                    have h4 := HBSN.out.2
                    have h5 := HB0.out
                    have h6 := HR0.out.lt.2.2.2.2.2.1
                    exact ⟨belowK_b (by omega) W l o o' hl h1 h2 h3, World.putObj_heap_other (by omega)⟩
                  case ka =>
                    intro W o hW
                    have h4 := HBSN.out.2
                    have h5 := HB0.out
                    have h6 := HR0.out.lt.2.2.2.2.2.1
                    exact ⟨(Below.refl _ W).alloc (by omega) o, Below.heap_alloc W o Bs (by omega)⟩
                  case start => exact ⟨s0, HR0.out, rfl, by have := HHB.out.1; simpa using this, by have := HHB.out.2; simpa using this, HSEEN.out⟩
                  case assign =>
                    intro l x W K hK
                    unfold putB at hK ⊢
                    gi_wp2
                    exact hK
                  case body =>
                    intro l pre x Bx W hsz hBx hI hcell hpre
                    obtain ⟨s, hR, hw, hlo, hhi, hseen⟩ := hI
                    obtain ⟨hp1, hp2, hx⟩ := backs_prefix l1 pre x hpre
                    rw [backs_drop l1 pre.length hp1, ← hx] at hw
                    have hlit := HS.out.lit (l1.length - 1 - pre.length) (by omega)
                    have hx2 : x.2 = rd_T41 l1 ((l1.length - 1 - pre.length : Nat) : Int) := by rw [hx]; rfl
                    rw [← hx2] at hlit
                    have HLIT := Aside0.mk hlit
                    have HX2 := Aside0.mk hx2
                    clear hlit hx2
                    have HR := Aside0.mk hR
                    have HW := Aside0.mk hw
                    have HLO := Aside0.mk hlo
                    have HHI := Aside0.mk hhi
                    have HSN := Aside0.mk hseen
                    have HX := Aside0.mk hcell
                    have HPL := Aside0.mk hp1
                    have hlen : (pre ++ [x]).length = pre.length + 1 := by simp
                    have i0 : W.cell? ⟨gi, 0, none⟩ = some (.map (some bin)) := cell_in HR.out.f.hgi 0 rfl
                    have i1 : W.cell? ⟨Bx, 0, none⟩ = some (.int .i64 x.2.f0) := cell_in HX.out 0 rfl
                    have i2 : W.cell? ⟨Bx, 1, none⟩ = some (.int .i64 x.2.f1) := cell_in HX.out 1 rfl
                    have i3 : W.cell? ⟨gh, 0, none⟩ = some (.int .i64 s.2) := cell_in HR.out.f.hgh 0 rfl
                    clear hR hw hlo hhi hseen hcell hpre hp2 hx hp1
                    unfold putB
                    by_cases hin : s.1.contains (wrap64 (-x.2.f0)) = false
                    · gi_wp2_with ((with_reducible refine gateIn_dst (N := 81) rfl ?_); refine mapIn_look_event rfl (.tmp 77) (.tmp 80) (t := 93) rfl Try.underlying93 rfl HR.out.f.m rfl (i64_wrap _) (v := false) ((dset_getD _ _).trans hin) ?_)
                      refine ⟨KeepsFrom.refl _ _, ⟨Below.refl _ _, rfl⟩, ?_⟩
                      unfold WkI
                      rw [hlen]
                      exact ⟨s, HR.out.mono (by omega), HW.out.trans (walk_skip hin), by have := HLO.out; omega, by have := HHI.out; omega, HSN.out⟩
                    · have hin2 : s.1.contains (wrap64 (-x.2.f0)) = true := by simpa using hin
                      by_cases hone : s.2 = 1
                      · rw [hone] at i3
                        have i4 : W.cell? ⟨gs, 0, none⟩ = some (.int .i64 0) := cell_in HR.out.hgs 0 rfl
                        have i5 : W.frozen? ⟨gs, 0, none⟩ = false := blk_frozen HR.out.hgs 0
                        gi_wp2_with ((with_reducible refine gateIn_dst (N := 81) rfl ?_); refine mapIn_look_event rfl (.tmp 77) (.tmp 80) (t := 93) rfl Try.underlying93 rfl HR.out.f.m rfl (i64_wrap _) (v := true) ((dset_getD _ _).trans hin2) ?_)
                        refine ⟨(KeepsOthers.setCell _ _ _).from _, rfl, s, _, (HR.out.first HFIN.out.1 (by have := HFIN.out; omega) _).mono (by have := HPL.out; omega), HW.out.trans (walk_stop hin hone), HSN.out⟩
                      · obtain ⟨z, hz⟩ : ∃ z, walkL l1 l0_1 last (x :: (backs l1).drop (pre.length + 1)) s = some z := by
                          rw [← HW.out]
                          cases hq : walkL l1 l0_1 last (backs l1) s0 with
                          | none => rw [hq] at h; cases h
                          | some z => exact ⟨z, rfl⟩
                        obtain ⟨hok, hgo⟩ := walkGo hin hone hz
                        have HGO := Aside0.mk hgo
                        simp only [okStep, Bool.and_eq_true, decide_eq_true_eq, List.all_eq_true, Bool.or_eq_true] at hok
                        obtain ⟨⟨hw0, hw1⟩, hrk⟩ := hok
                        have HRK := Aside0.mk hrk
                        obtain ⟨ad2, Ar2, cr2, e2, hcell2, hcr2, hrow2⟩ := at_L1 (Kd.C_below HRL.out HB4.out) x.2.f1 hw0 hw1
                        obtain rfl : ad2 = ad := Option.some.inj (e2.symm.trans e1)
                        have HROW2 := Aside0.mk hrow2
                        have HC2 := Aside0.mk hcell2
                        have hmem2 := rd_L1_mem hw0 hw1
                        have HML2 := Aside0.mk (HFIT.out.2 _ hmem2)
                        have HMEM2 := Aside0.mk hmem2
                        have b3 : (s.2 == 1) = false := by simp [hone]
                        have h52 : s.2 ≤ 600000 := by have := HHI.out; have := HPL.out; have := HFIT.out.1; omega
                        have h51 : -600000 ≤ s.2 := by have := HLO.out; have := HPL.out; have := HFIT.out.1; omega
                        have HLT := Aside0.mk HR.out.lt
                        clear hz hgo hrk hcell2 hcr2 hrow2 hmem2 e2
                        obtain ⟨d1, hd1⟩ : ∃ d1, d1 = s.1.filter fun y => decide (y ≠ wrap64 (-x.2.f0)) := ⟨_, rfl⟩
                        have HD1 := Aside0.mk hd1
                        rw [← hd1] at HGO
                        clear hd1
                        obtain ⟨nr2, hnr2⟩ : ∃ nr2, nr2 = (rd_L1 l0_1 x.2.f1).length := ⟨_, rfl⟩
                        rw [← hnr2] at HC2
                        have HNR2 := Aside0.mk hnr2
                        clear hnr2
                        gi_wp2_with (first
                          | ((with_reducible refine gateIn_dst (N := 81) rfl ?_); refine mapIn_look_event rfl (.tmp 77) (.tmp 80) (t := 93) rfl Try.underlying93 rfl HR.out.f.m rfl (i64_wrap _) (v := true) ((dset_getD _ _).trans hin2) ?_)
                          | ((with_reducible refine gateIn_del (m := .tmp 89) (x := .tmp 92) (ts := #[93, 3]) rfl ?_); refine mapIn_drop_event rfl (.tmp 89) (.tmp 92) (t := 93) rfl Try.underlying93 rfl HR.out.f.m rfl (i64_wrap _) ?_; intro w11 hM11 hg11; have HM11 := Aside0.mk hM11; have HG11 := Aside0.mk hg11; clear hM11 hg11; have j3 : w11.cell? ⟨gh, 0, none⟩ = some (.int .i64 s.2) := cell_in (blk_grown HR.out.f.hgh HG11.out (by intro e; exact HR.out.f.nes.2.2.2 (Option.some.inj e))) 0 rfl; have j4 : w11.frozen? ⟨gh, 0, none⟩ = false := blk_frozen (blk_grown HR.out.f.hgh HG11.out (by intro e; exact HR.out.f.nes.2.2.2 (Option.some.inj e))) 0; obtain ⟨HT2, HF2⟩ := round_mid HR.out HM11.out HG11.out HD1.out; have k0 : (w11.setCell ⟨gh, 0, none⟩ (.int .i64 (s.2 - 1))).cell? ⟨gf, 0, none⟩ = some (.func (.func 84) #[] #[.pointer (some ⟨gi, 0, none⟩), .pointer (some ⟨gx, 0, none⟩), .pointer (some ⟨gl, 0, none⟩), .pointer (some ⟨gh, 0, none⟩)]) := cell_in HF2.out.hgf 0 rfl; have k1 : (w11.setCell ⟨gh, 0, none⟩ (.int .i64 (s.2 - 1))).cell? ⟨gb, 1, none⟩ = some (.slice (some ad2) l0_1.length c0_1) := cell_in (blk_below HBX5.out HF2.out.b) 1 rfl; have k2 : (w11.setCell ⟨gh, 0, none⟩ (.int .i64 (s.2 - 1))).cell? ⟨Bx, 0, none⟩ = some (.int .i64 x.2.f0) := cell_in (HT2.out.cells HX.out (by have := HLT.out; have := HB0.out; unfold PutS; omega)) 0 rfl; have k3 : (w11.setCell ⟨gh, 0, none⟩ (.int .i64 (s.2 - 1))).cell? ⟨Bx, 1, none⟩ = some (.int .i64 x.2.f1) := cell_in (HT2.out.cells HX.out (by have := HLT.out; have := HB0.out; unfold PutS; omega)) 1 rfl; have k4 : (w11.setCell ⟨gh, 0, none⟩ (.int .i64 (s.2 - 1))).cell? (ad2.add x.2.f1.toNat) = some (.slice Ar2 nr2 cr2) := (HF2.out.b.cell (World.block_lt_of_cell? w4 _ HC2.out)).trans HC2.out))
                        refine regionIn_held (fun w' => w'.cell? ⟨gf, 0, none⟩ = some (.func (.func 84) #[] #[.pointer (some ⟨gi, 0, none⟩), .pointer (some ⟨gx, 0, none⟩), .pointer (some ⟨gl, 0, none⟩), .pointer (some ⟨gh, 0, none⟩)]) ∧ w'.cell? ⟨gb, 1, none⟩ = some (.slice (some ad2) l0_1.length c0_1) ∧ w'.cell? ⟨Bx, 0, none⟩ = some (.int .i64 x.2.f0) ∧ w'.cell? ⟨Bx, 1, none⟩ = some (.int .i64 x.2.f1) ∧ w'.cell? (ad2.add x.2.f1.toNat) = some (.slice Ar2 nr2 cr2)) (by kernel_rfl) (by rintro ⟨_, _, hq⟩; exact hq) (noDefer_spec (by kernel_rfl)) ?_
                        have hS0 := And.intro k0 (And.intro k1 (And.intro k2 (And.intro k3 k4)))
                        refine wpAnyH_take (i := 0) (v := .func (.func 84) #[] #[.pointer (some ⟨gi, 0, none⟩), .pointer (some ⟨gx, 0, none⟩), .pointer (some ⟨gl, 0, none⟩), .pointer (some ⟨gh, 0, none⟩)]) rfl (by kernel_rfl) (by kernel_rfl) (by kernel_rfl) (fun _ _ _ h => h) (Or.inl ⟨rfl, fun W' hS' => by obtain ⟨s0, s1, s2, s3, s4⟩ := hS'; go_simp⟩) hS0 ?_
                        (try simp only [Act.put, List.setIfInBounds_toArray, List.set_cons_zero, List.set_cons_succ])
                        refine wpAnyH_take (i := 1) (v := .pointer (some ⟨gb, 1, none⟩)) rfl (by kernel_rfl) (by kernel_rfl) (by kernel_rfl) (fun _ _ _ h => h) (Or.inl ⟨rfl, fun W' hS' => by obtain ⟨s0, s1, s2, s3, s4⟩ := hS'; go_simp⟩) hS0 ?_
                        (try simp only [Act.put, List.setIfInBounds_toArray, List.set_cons_zero, List.set_cons_succ])
                        refine wpAnyH_take (i := 2) (v := .slice (some ad2) l0_1.length c0_1) rfl (by kernel_rfl) (by kernel_rfl) (by kernel_rfl) (fun _ _ _ h => h) (Or.inl ⟨rfl, fun W' hS' => by obtain ⟨s0, s1, s2, s3, s4⟩ := hS'; go_simp⟩) hS0 ?_
                        (try simp only [Act.put, List.setIfInBounds_toArray, List.set_cons_zero, List.set_cons_succ])
                        refine wpAnyH_take (i := 3) (v := .pointer (some ⟨Bx, 1, none⟩)) rfl (by kernel_rfl) (by kernel_rfl) (by kernel_rfl) (fun _ _ _ h => h) (Or.inl ⟨rfl, fun W' hS' => by obtain ⟨s0, s1, s2, s3, s4⟩ := hS'; go_simp⟩) hS0 ?_
                        (try simp only [Act.put, List.setIfInBounds_toArray, List.set_cons_zero, List.set_cons_succ])
                        refine wpAnyH_take (i := 4) (v := .int .i64 x.2.f1) rfl (by kernel_rfl) (by kernel_rfl) (by kernel_rfl) (fun _ _ _ h => h) (Or.inl ⟨rfl, fun W' hS' => by obtain ⟨s0, s1, s2, s3, s4⟩ := hS'; go_simp⟩) hS0 ?_
                        (try simp only [Act.put, List.setIfInBounds_toArray, List.set_cons_zero, List.set_cons_succ])
                        refine wpAnyH_take (i := 5) (v := .pointer (some (ad2.add x.2.f1.toNat))) rfl (by kernel_rfl) (by kernel_rfl) (by kernel_rfl) (fun _ _ _ h => h) (Or.inl ⟨rfl, fun W' hS' => by obtain ⟨s0, s1, s2, s3, s4⟩ := hS'; go_simp⟩) hS0 ?_
                        (try simp only [Act.put, List.setIfInBounds_toArray, List.set_cons_zero, List.set_cons_succ])
                        refine wpAnyH_take (i := 6) (v := .slice Ar2 nr2 cr2) rfl (by kernel_rfl) (by kernel_rfl) (by kernel_rfl) (fun _ _ _ h => h) (Or.inl ⟨rfl, fun W' hS' => by obtain ⟨s0, s1, s2, s3, s4⟩ := hS'; go_simp⟩) hS0 ?_
                        (try simp only [Act.put, List.setIfInBounds_toArray, List.set_cons_zero, List.set_cons_succ])
                        refine wpAnyH_take (i := 7) (v := .pointer (some ⟨Bx, 0, none⟩)) rfl (by kernel_rfl) (by kernel_rfl) (by kernel_rfl) (fun _ _ _ h => h) (Or.inl ⟨rfl, fun W' hS' => by obtain ⟨s0, s1, s2, s3, s4⟩ := hS'; go_simp⟩) hS0 ?_
                        (try simp only [Act.put, List.setIfInBounds_toArray, List.set_cons_zero, List.set_cons_succ])
                        refine wpAnyH_take (i := 8) (v := .int .i64 x.2.f0) rfl (by kernel_rfl) (by kernel_rfl) (by kernel_rfl) (fun _ _ _ h => h) (Or.inl ⟨rfl, fun W' hS' => by obtain ⟨s0, s1, s2, s3, s4⟩ := hS'; go_simp⟩) hS0 ?_
                        (try simp only [Act.put, List.setIfInBounds_toArray, List.set_cons_zero, List.set_cons_succ])
                        refine wpAnyH_all (rs := [9]) (by kernel_rfl) (by simp) (fun i hi => ?_)
                        obtain rfl : i = 9 := by simpa using hi
                        have hF3 := HF2.out.below (W' := { w11.setCell ⟨gh, 0, none⟩ (.int .i64 (s.2 - 1)) with drawn := (w11.setCell ⟨gh, 0, none⟩ (.int .i64 (s.2 - 1))).drawn + 1 }) ⟨rfl, rfl, rfl, Nat.le_refl _, fun _ _ => rfl⟩
                        have hcall := hF3.call HHD.out x.2.f0 Ar2 cr2 (rd_L1 l0_1 x.2.f1) HROW2.out (fun y hy => by have q1 := HS.out.row _ HMEM2.out y hy; have q2 := HS.out.n1; exact i64_of (by omega) (by omega)) (fun y hy hne => (HRK.out y hy).resolve_left hne) (by dsimp only; omega) (by have := HML2.out; dsimp only; omega) (by have := HML2.out; have := HPL.out; have := HFIT.out.1; omega)
                        rw [← HNR2.out] at hcall
                        have eg84 : ∀ args w, (callFunc 84 args).run Try.prog w = .ok (.enter 84 args) w := enters_of Try.func84 (by kernel_rfl) rfl
                        refine wpOp_calls (f := 84) (args := #[.slice Ar2 nr2 cr2, .int .i64 x.2.f0, .pointer (some ⟨gi, 0, none⟩), .pointer (some ⟨gx, 0, none⟩), .pointer (some ⟨gl, 0, none⟩), .pointer (some ⟨gh, 0, none⟩)]) rfl rfl (by go_simp) hcall ?_
                        rintro e w12 ⟨rfl, hF4, ht4⟩
                        have HT4 : Aside0 (Twice W w12 (PutS bin gh)) := ⟨HT2.out.trans ⟨ht4.os, ht4.tape, ht4.output, ht4.size, ht4.block⟩⟩
                        have HF4 := Aside0.mk hF4
                        clear hF4 ht4 hcall hF3
                        have hBxB : wg.heap.size ≤ Bx := hBx
                        refine ⟨_, rfl, ⟨cell_in HF4.out.hgf 0 rfl, cell_in (blk_below HBX5.out HF4.out.b) 1 rfl, cell_in (HT4.out.cells HX.out (by have := HLT.out; have := HB0.out; unfold PutS; omega)) 0 rfl, cell_in (HT4.out.cells HX.out (by have := HLT.out; have := HB0.out; unfold PutS; omega)) 1 rfl, (HF4.out.b.cell (World.block_lt_of_cell? w4 _ HC2.out)).trans HC2.out⟩, wpAnyH_done (by kernel_rfl) ?_ _⟩
                        have hk := HR.out.keeps HT4.out
                        rw [HB0.out] at hk
                        have hph := putL_hi l1 last x.2.f0 (rd_L1 l0_1 x.2.f1) (d1, s.2 - 1)
                        have q3 := HML2.out
                        have q4 := HLO.out
                        have q5 := HHI.out
                        dsimp only at hph
                        refine ⟨hk.1, hk.2, ?_⟩
                        unfold WkI
                        rw [hlen]
                        refine ⟨_, (HR.out.twice HT4.out HF4.out).mono (by have := HNR2.out; omega), HW.out.trans HGO.out, by push_cast; omega, by push_cast; omega, ?_⟩
                        intro y hy
                        rcases putL_mem l1 last x.2.f0 _ _ y hy with hy1 | hy1
                        · have hy2 : y ∈ d1 := hy1
                          rw [HD1.out] at hy2
                          exact HSN.out y (List.mem_filter.1 hy2).1
                        · have q1 := HS.out.row _ HMEM2.out y hy1.1
                          have q2 := HS.out.n1
                          exact ⟨(HRK.out y hy1.1).resolve_left hy1.2, i64_of (by omega) (by omega)⟩
                  case done =>
                    rintro D W hD ⟨s, h1, h2, h3, h4, h5⟩ hk
                    have hX : WkX w4 gx gl gi gh gf bin last B gs Bs A1 c1 l0_1 l1 s0 W := ⟨s, 0, h1.mono (by rw [backs_length]; omega), by rw [h2, List.drop_length]; rfl, h5⟩
                    exact ⟨Or.inl rfl, D, rfl, hX, hk, by rw [HB0.out]; exact hD⟩
                  case stop =>
                    rintro D c pre W hD hp ⟨rfl, hx⟩ hk
                    refine wpIn_wide.2 (wp_exit ?_)
                    exact ⟨Or.inr rfl, D, rfl, hx, hk, by rw [HB0.out]; exact hD⟩
                case behind =>
                  rintro D W ⟨⟨s, first, hR, hwk, hseen⟩, hD, hDB⟩
                  rw [hwk] at h
                  replace h : (if ((outOf l1 s.1).map varOf).Nodup then some (sortV (outOf l1 s.1), backOf l1 first (outOf l1 s.1), 0) else none) = some (r1, r2, r3) := h
                  by_cases hnd : ((outOf l1 s.1).map varOf).Nodup
                  · rw [if_pos hnd] at h
                    injection h with h
                    injection h with h1 h
                    injection h with h2 h3
                    subst h3
                    have HR1 := Aside0.mk h1
                    have HRBK := Aside0.mk h2
                    have HND := Aside0.mk hnd
                    have HR := Aside0.mk hR
                    have HSN := Aside0.mk hseen
                    have HD := Aside0.mk hD
                    have HDB := Aside0.mk hDB
                    have i0 : W.cell? ⟨gi, 0, none⟩ = some (.map (some bin)) := cell_in HR.out.f.hgi 0 rfl
                    have HBSZ := Aside0.mk HR0.out.lt
                    clear h1 h2 hnd hR hwk hseen hD hDB HR0 HHB HSEEN HML HROW HCE4 HNR HBSN HFIN
                    dsimp only
                    go_wp2_with ((with_reducible refine gate_dst (N := 106) rfl ?_); refine map_range_event rfl (.tmp 105) (t := 93) rfl Try.underlying93 rfl HR.out.f.m ?_; intro ri hri wr1 cnt hcn hRg hb1; have HRG := Aside0.mk hRg; have HBW := Aside0.mk hb1; have HRI := Aside0.mk (show W.heap.size ≤ ri by rw [hri]; exact Nat.le_refl _); have HCN := Aside0.mk hcn; clear hri hRg hb1 hcn)
                    have HGI := Aside0.mk (blk_below HR.out.f.hgi HBW.out)
                    have HGS := Aside0.mk (blk_below HR.out.hgs HBW.out)
                    have HDD := Aside0.mk (blk_below HD.out HBW.out)
                    have HBB := Aside0.mk (below_step HR.out.f.b HBW.out)
                    have HWS := Aside0.mk (show gi < ri ∧ gs < ri ∧ D < ri ∧ w4.heap.size ≤ ri from by have q1 := blk_lt HR.out.f.hgi; have q2 := blk_lt HR.out.hgs; have q3 := blk_lt HD.out; have q4 := HRI.out; have q5 := HR.out.f.b.size; omega)
                    have HBIN := Aside0.mk HR.out.f.far.2.2
                    clear HR HD i0 HBW
                    go_frame
                    go_loopg [7] cnt (fun gg v7 wr => ∃ (left : Int → Bool) (fm : Int → Option Bool) (c : Nat) (b : Int), v7 = .int .i64 b ∧ Aside0 (c ≤ gg) ∧ Aside0 (Sweep l1 first s.1 left fm b) ∧ Aside0 (MapRange wr bin ri (100 * (l1.length + 1)) fm left c) ∧ Aside0 (Below w4.heap.size w4 wr) ∧ Aside0 (wr.heap[gi]? = some (.cells #[.map (some bin)] 93 (0, 0))) ∧ Aside0 (wr.heap[gs]? = some (.cells #[.int .i64 first] 3 (0, 0))) ∧ Aside0 (wr.heap[D]? = some (.deferred (some []))))
                    case atStart => exact ⟨_, _, cnt, 0, rfl, ⟨Nat.le_refl _⟩, ⟨Sweep.start⟩, HRG, HBB, HGI, HGS, HDD⟩
                    case round =>
                      obtain ⟨left, fm, c, b, rfl, HC, HSW, HR2, HB2, HI2, HS2, HD2⟩ := hrel
                      clear HRG HBB HGI HGS HDD
                      go_upto_region 27 with (first
                        | ((with_reducible refine gate_dst (N := 107) rfl ?_); refine map_next_event rfl (.tmp 106) rfl rfl HR2.out ?_ ?_; all_goals first | (intro x cc w3' cnt3 hx hlx hfx hlt hR3 hg3 hs3 hent; have HX := Aside0.mk hx; have HLX := Aside0.mk hlx; have HLT := Aside0.mk hlt; have HR3 := Aside0.mk hR3; have HB3 := Aside0.mk (pw_below_grown HB2.out _ HB2.out.size hg3 (fun k e => by cases e; exact HWS.out.2.2.2)); have HI3 := Aside0.mk (blk_grown HI2.out hg3 (fun e => by cases e; have := HWS.out; omega)); have HS3 := Aside0.mk (blk_grown HS2.out hg3 (fun e => by cases e; have := HWS.out; omega)); have HD3 := Aside0.mk (blk_grown HD2.out hg3 (fun e => by cases e; have := HWS.out; omega)); have HKN := Aside0.mk (HSN.out x (HSW.out.lf x hx hlx)).1; have d0 : w3'.cell? ⟨gx, 0, none⟩ = some (.int .i64 a0_0) := cell_in (blk_below HHD.out.hgx HB3.out) 0 rfl; have d1 : w3'.cell? ⟨gx, 1, none⟩ = some (.slice A0_1 l0_1.length c0_1) := cell_in (blk_below HHD.out.hgx HB3.out) 1 rfl; have d2 : w3'.cell? ⟨gx, 2, none⟩ = some (.slice A1 l1.length c1) := cell_in (blk_below HHD.out.hgx HB3.out) 2 rfl; have d3 : w3'.cell? ⟨gx, 3, none⟩ = some (.slice Av l1.length cv) := cell_in (blk_below HHD.out.hgx HB3.out) 3 rfl; have d4 : w3'.cell? ⟨gx, 4, none⟩ = some (.map (some bm)) := cell_in (blk_below HHD.out.hgx HB3.out) 4 rfl; clear hx hlx hfx hlt hR3 hg3 hs3) | (intro hd; have HDN := Aside0.mk hd; have i0 : wr.cell? ⟨gi, 0, none⟩ = some (.map (some bin)) := cell_in HI2.out 0 rfl; clear hd)))
                      · have hto := told_any sortLaw bin (100 * (l1.length + 1)) fm wr HR2.out.map (by have := HFIT.out.1; omega)
                        have HTO := Aside0.mk hto
                        clear hto
                        refine HTO.out.mono ?_
                        rintro e w16 ⟨v16, ys, rfl, q1, q2, q3⟩
                        have HQ1 := Aside0.mk q1
                        have HQ2 := Aside0.mk q2
                        have HQ3 := Aside0.mk q3
                        clear q1 q2 q3
                        go_wp2
                        have HDW := Aside0.mk (show D < wr.heap.size from blk_lt HD2.out)
                        have HDL := Aside0.mk (show w4.heap.size ≤ D from by have q1 := HDB.out; have q2 := HB0.out; have q3 := HBSZ.out; omega)
                        refine leave_ret1 rfl (blk_below HD2.out HQ3.out) (fun w => results_tmp3 rfl _ _ _) ?_
                        have hwf : ∀ y ∈ s.1, I64 y := fun y hy => (HSN.out y hy).2
                        have hb := HSW.out.back HDN.out hwf
                        have hs := HSW.out.sorted HDN.out hwf HQ1.out HND.out
                        rw [HRBK.out] at hb
                        rw [HR1.out] at hs
                        subst hb hs
                        refine ⟨_, rfl, ?_, HB4.out.trans ((HB2.out.trans ((HQ3.out.mono HB2.out.size).trans ((Below.refl _ _).grown (grownBy_putObj' _ _ _) (Nat.le_trans HB2.out.size HQ3.out.size) (fun k e => by cases e; exact HDL.out)))).mono HB4.out.size)⟩
                        refine Kd.R_lower (base := wr.heap.size) ?_ (Nat.le_trans HB4.out.size HB2.out.size)
                        refine Kd.R_mono (ok := fun k => wr.heap.size ≤ k) ?_ (fun _ _ => trivial)
                        exact Kd.R_move (Kd.R_mono (Kd.R_bound HQ2.out) (fun k hk => hk.2.1)) (fun k hk => World.putObj_heap_other (by have := HDW.out; omega))
                      · obtain ⟨n, hn⟩ : ∃ n, n = lvlOf l1 x := ⟨_, rfl⟩
                        have HNV := Aside0.mk hn
                        have hlev := level_at HHD.out HB3.out HKN.out
                        rw [← hn, e1] at hlev
                        have HLEV := Aside0.mk hlev
                        clear hlev hn
                        go_upto_region 28 with (go_at_call 85; refine HLEV.out.mono ?_; rintro e w5 ⟨rfl, hb5⟩; have HR5 := Aside0.mk (HR3.out.kept (grown_of_below hb5 none) (by simp) (by simp)); have HB5 := Aside0.mk (below_step HB3.out hb5); have HI5 := Aside0.mk (blk_below HI3.out hb5); have HS5 := Aside0.mk (blk_below HS3.out hb5); have HD5 := Aside0.mk (blk_below HD3.out hb5); clear hb5 d0 d1 d2 d3 d4)
                        have i0 : w5.cell? ⟨gi, 0, none⟩ = some (.map (some bin)) := cell_in HI5.out 0 rfl
                        have i1 : w5.cell? ⟨gs, 0, none⟩ = some (.int .i64 first) := cell_in HS5.out 0 rfl
                        by_cases hn0 : n = 0
                        · have b1 : (n == 0) = true := by simp [hn0]
                          have HN0 := Aside0.mk (show lvlOf l1 x = 0 from HNV.out.symm.trans hn0)
                          clear hn0
                          go_wp2_with ((with_reducible refine gate_builtin (b := .delete) (xs := #[.tmp 117, .tmp 118]) rfl ?_); refine map_drop_range_event rfl (.tmp 117) (.tmp 118) (t := 93) rfl Try.underlying93 rfl HR5.out rfl HX.out ?_; intro w6 cnt6 hle hR6 hg6; have HR6 := Aside0.mk hR6; have HLE := Aside0.mk hle; have HB6 := Aside0.mk (pw_below_grown HB5.out _ HB5.out.size hg6 (fun k e => by cases e; exact HBIN.out)); have HI6 := Aside0.mk (blk_grown HI5.out hg6 (fun e => blk_map HI5.out HR5.out.map (Option.some.inj e))); have HS6 := Aside0.mk (blk_grown HS5.out hg6 (fun e => blk_map HS5.out HR5.out.map (Option.some.inj e))); have HD6 := Aside0.mk (blk_grown HD5.out hg6 (fun e => defer_map HD5.out HR5.out.map (Option.some.inj e))); clear hle hR6 hg6)
                          go_roundg cnt6
                          case measure => have := HLT.out; have := HC.out; have := HLE.out; omega
                          case rel => exact ⟨_, _, cnt6, b, rfl, ⟨Nat.le_refl _⟩, ⟨HSW.out.drop HX.out HLX.out HN0.out⟩, HR6, HB6, HI6, HS6, HD6⟩
                        · have b1 : (n == 0) = false := by simp [hn0]
                          have HN0 := Aside0.mk (show lvlOf l1 x ≠ 0 from fun e => hn0 (HNV.out.trans e))
                          clear hn0
                          have hk := HSW.out.keep HX.out HLX.out HN0.out
                          rw [← HNV.out] at hk
                          by_cases hxf : x = first
                          · rw [if_pos hxf] at hk
                            have HK := Aside0.mk hk
                            have b2 : (x != first) = false := by simp [hxf]
                            clear hk hxf
                            go_wp2
                            go_roundg cnt3
                            case measure => have := HLT.out; have := HC.out; omega
                            case rel => exact ⟨_, _, cnt3, b, rfl, ⟨Nat.le_refl _⟩, HK, HR5, HB5, HI5, HS5, HD5⟩
                          · rw [if_neg hxf] at hk
                            have HK := Aside0.mk hk
                            have b2 : (x != first) = true := by simp [hxf]
                            clear hk hxf
                            go_wp2
                            all_goals
                              go_roundg cnt3
                              case measure => have := HLT.out; have := HC.out; omega
                              case rel => exact ⟨_, _, cnt3, mx b n, by rw [show max b n = mx b n from by unfold mx; split <;> omega], ⟨Nat.le_refl _⟩, HK, HR5, HB5, HI5, HS5, HD5⟩
                  · rw [if_neg hnd] at h; cases h
  · rw [if_pos he] at h
    injection h with h
    injection h with h1 h
    injection h with h2 h3
    subst h1 h2 h3
    clear hec
    go_wp2_with ((with_reducible refine gate_dst (N := 3) rfl ?_); refine box_event ?hg (N := 3) ?hd (cs := #[.int .i64 a0_0, .slice A0_1 l0_1.length c0_1]) (t := 24) ?hr ?_; (case hd => rfl); (case hg => rfl); (case hr => first | (go_simp; done) | (go_simp; rfl)); intro gb hgb w1 hbox hb1; have cc0 := cell_in hbox 0 rfl; have cc1 := cell_in hbox 1 rfl; have HB := Aside0.mk hb1; clear hbox hb1 hgb)
    go_step3
    go_wp2_with (go_at_call 35; refine (prop_Check.calls a0_0 A0_1 c0_1 l0_1 A1 c1 l1 _ _ (Kd.C_below HRL.out HB.out) HCL.out (Kd.C_below HRT.out HB.out) HCT.out HPC.out).mono ?_; rintro e w2 ⟨rfl, hb2⟩; have HB2 := Aside0.mk (below_step HB.out hb2); clear hb2 cc0 cc1 HB)
    refine leave_ret (results_tmp3 rfl _ _ _) rfl ?_
    exact ⟨_, rfl, Kd.R_nil _ _ _ _ _, HB2.out⟩
end Go.Proofs.Ytobadajeekdakaa.Print
