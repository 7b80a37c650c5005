/- heap.Bump, heap.Decay: their contracts, under a law of the sort. -/
import Derived.Test.YtobadajeekdakaaHM
namespace Go.Proofs.Ytobadajeekdakaa.Print
open Go.RowKit Go.Proofs.YtobadajeekdakaaW.PrintWords Go.Proofs.YtobadajeekdakaaW.PrintLast Go.Proofs.YtobadajeekdakaaW.PrintMore
open Go.Sort (grow alloc_eq_grow)
open Go.Shelf
attribute [local go_sem] max2_int min2_int max_two min_two
set_option linter.unusedVariables false
set_option linter.unusedSimpArgs false

def smallN (N : Nat) (act l : List Int) : Bool := decide (act.length ≤ 100000 ∧ l.length ≤ N ∧ l.length ≤ 100000)
def bumpV (act l : List Int) (by_ v : Int) : List Int × List Int × Int × Int :=
  if hpCheckV act l by_ ≠ 0 then ([], [], 0, hpCheckV act l by_)
  else if knownB' act v = false then ([], [], 0, 1)
  else ((scaledV (act.set v.toNat (rd act v + by_)) l by_).1, (scaledV (act.set v.toNat (rd act v + by_)) l by_).2.1, (scaledV (act.set v.toNat (rd act v + by_)) l by_).2.2, 0)
def decayV (act l : List Int) (by_ : Int) : List Int × List Int × Int × Int :=
  if hpCheckV act l by_ ≠ 0 then ([], [], 0, hpCheckV act l by_)
  else ((scaledV act l (by_ + (by_ / 20 + 1))).1, (scaledV act l (by_ + (by_ / 20 + 1))).2.1, (scaledV act l (by_ + (by_ / 20 + 1))).2.2, 0)
/-- What a heap that is in order tells of its numbers. -/
structure Valid (act l : List Int) (by_ : Int) : Prop where
  pos : 0 < act.length
  le : act.length ≤ 65537
  odd : ∀ x ∈ act, 0 ≤ x ∧ x ≤ 1099511627776
  by1 : 1 ≤ by_
  by2 : by_ ≤ 1099511627776
  row : rowOkB act l = true
  zero : rd act 0 = 0
theorem valid_of {act l : List Int} {by_ : Int} (h : hpCheckV act l by_ = 0) : Valid act l by_ := by
  have hrow := check_rowOk h
  unfold hpCheckV at h
  split at h
  · omega
  · rename_i h1
    split at h
    · omega
    · rename_i h2
      have h3 : act.any oddB = false := by
        cases hh : act.any oddB with
        | false => rfl
        | true => exact absurd (.inr (.inr (.inr hh))) h1
      rw [List.any_eq_false] at h3
      have h4 : ¬ (oddB by_ = true) := fun hh => h2 (.inr hh)
      have h5 : by_ ≠ 0 := fun hh => h2 (.inl hh)
      have h6 : act.length ≠ 0 := fun hh => h1 (.inl hh)
      have h7 : ¬ 65537 < act.length := fun hh => h1 (.inr (.inl hh))
      have h8 : rd act 0 = 0 := Classical.byContradiction fun hh => h1 (.inr (.inr (.inl hh)))
      simp only [oddB, decide_eq_true_eq] at h3 h4
      exact ⟨by omega, by omega, fun x hx => by have := h3 x hx; omega, by omega, by omega, hrow, h8⟩
theorem Valid.inR {act l : List Int} {by_ : Int} (h : Valid act l by_) : InR act l := by
  intro x hx
  obtain ⟨i, hi, rfl⟩ := List.getElem_of_mem hx
  have := (rowOk_at h.row i hi).1
  rw [rd_get hi] at this
  simp only [knownB', decide_eq_true_eq] at this
  omega
theorem Valid.fair {act l : List Int} {by_ : Int} (h : Valid act l by_) : Fair act (by_ + (by_ / 20 + 1)) := by
  have h1 := h.by1
  have h2 := h.by2
  exact ⟨fun x hx => by have := h.odd x hx; omega, by omega, by omega⟩
theorem Valid.at_ {act l : List Int} {by_ : Int} (h : Valid act l by_) {i : Nat} (hi : i < act.length) : 0 ≤ rd act (i : Int) ∧ rd act (i : Int) ≤ 1099511627776 := h.odd _ (by rw [rd_get hi]; exact List.getElem_mem _)
theorem Valid.fair_set {act l : List Int} {by_ : Int} (h : Valid act l by_) {i : Nat} (hi : i < act.length) : Fair (act.set i (rd act (i : Int) + by_)) by_ := by
  have h1 := h.by1
  have h2 := h.by2
  refine ⟨fun x hx => ?_, by omega, by omega⟩
  rcases List.mem_or_eq_of_mem_set hx with h3 | rfl
  · have := h.odd x h3; omega
  · have := h.at_ hi; omega

set_option maxHeartbeats 8000000 in
set_option maxRecDepth 100000 in
theorem heap_Bump_any {N : Nat} (hsort : HSort N) (A0_0 : Option Addr) (c0_0 : Nat) (l0_0 : List Int) (A0_1 : Option Addr) (c0_1 : Nat) (l0_1 : List Int) (a0_2 a1 : Int) (r1 r2 : List Int) (r3 r4 : Int) (w : World) (hr0_0 : Kd.C (Kd.int .i64) w A0_0 l0_0.length l0_0) (_hc0_0 : l0_0.length ≤ c0_0) (hr0_1 : Kd.C (Kd.int .i64) w A0_1 l0_1.length l0_1) (_hc0_1 : l0_1.length ≤ c0_1) (hs : smallN N l0_0 l0_1 = true) (h : bumpV l0_0 l0_1 a0_2 a1 = (r1, r2, r3, r4)) :
    Calls Try.prog 70 #[.agg #[.slice A0_0 l0_0.length c0_0, .slice A0_1 l0_1.length c0_1, .int .i64 a0_2], .int .i64 a1] w fun e w' => ∃ v0_ v1_ : Value, e = .returned (.tuple #[.agg #[v0_, v1_, .int .i64 r3], .int .i64 r4]) ∧ Kd.R (Kd.int .i64) 3 w' w.heap.size (fun k_ => some k_ ≠ (v1_ : Value).ownBlock) v0_ r1 ∧ Kd.R (Kd.int .i64) 3 w' w.heap.size (fun k_ => some k_ ≠ (v0_ : Value).ownBlock) v1_ r2 ∧ Below w.heap.size w w' := by
  have HA := Aside0.mk hr0_0
  have HB := Aside0.mk hr0_1
  have HSORT := Aside0.mk hsort
  have hu74 := Try.underlying74
  have HS := Aside0.mk (show l0_0.length ≤ 100000 ∧ l0_1.length ≤ N ∧ l0_1.length ≤ 100000 by simpa [smallN] using hs)
  have HV := Aside0.mk h
  clear h hs hr0_0 hr0_1 hsort
  obtain ⟨r, hr⟩ : ∃ r, hpCheckV l0_0 l0_1 a0_2 = r := ⟨_, rfl⟩
  by_cases h0 : r = 0
  · subst h0
    have HR := Aside0.mk hr
    have HVA := Aside0.mk (valid_of hr)
    clear hr
    cases hk : knownB' l0_0 a1 with
    | false =>
      have HK := Aside0.mk hk
      clear hk
      go_enter Try.func70, Try.ntmps70
      go_upto_region 1 with (fail)
      have HX := Aside0.mk (blk_alloc (blk_new w (.cells #[.slice A0_0 l0_0.length c0_0, .slice A0_1 l0_1.length c0_1, .int .i64 a0_2] 74 (0, 0))) Z74)
      have HZ := Aside0.mk (blk_new (w.alloc (.cells #[.slice A0_0 l0_0.length c0_0, .slice A0_1 l0_1.length c0_1, .int .i64 a0_2] 74 (0, 0))) Z74)
      have HBL := Aside0.mk (below_alloc (below_alloc (Below.refl _ w) (.cells #[.slice A0_0 l0_0.length c0_0, .slice A0_1 l0_1.length c0_1, .int .i64 a0_2] 74 (0, 0))) Z74)
      rw [World.size_alloc] at HZ
      have HGE := Aside0.mk (show w.heap.size ≤ w.heap.size + 1 by omega)
      generalize (w.alloc (.cells #[.slice A0_0 l0_0.length c0_0, .slice A0_1 l0_1.length c0_1, .int .i64 a0_2] 74 (0, 0))).alloc Z74 = w1 at HX HZ HBL ⊢
      generalize w.heap.size + 1 = gz at HZ HGE ⊢
      have e0 : w1.cell? ⟨w.heap.size, 0, none⟩ = some (.slice A0_0 l0_0.length c0_0) := cell_in HX.out 0 rfl
      have e1 : w1.cell? ⟨w.heap.size, 1, none⟩ = some (.slice A0_1 l0_1.length c0_1) := cell_in HX.out 1 rfl
      have e2 : w1.cell? ⟨w.heap.size, 2, none⟩ = some (.int .i64 a0_2) := cell_in HX.out 2 rfl
      have hcall := begun_yes (c0 := c0_0) (c1 := c0_1) (Kd.C_below HA.out HBL.out) (Kd.C_below HB.out HBL.out) HS.out.1 HS.out.2.2 HR.out
      go_upto_region 4 with (go_at_call 143; refine hcall.mono ?_; rintro e w2 ⟨gw, rfl, hw2, hb2⟩; have HW := Aside0.mk hw2; have HZ2 := Aside0.mk (blk_below HZ.out hb2); have HBL2 := Aside0.mk (below_step HBL.out hb2); have HBASE := Aside0.mk HBL.out.size; have HZL := Aside0.mk (blk_lt HZ.out); clear hw2 hb2 e0 e1 e2)
      obtain ⟨vA, vL, hgw, hbg, hRA, hRL⟩ := HW.out
      obtain ⟨AA, ca, rfl⟩ := Kd.R_slice hRA
      obtain ⟨AL, cl, rfl⟩ := Kd.R_slice hRL
      have HGW := Aside0.mk hgw
      have HBG := Aside0.mk hbg
      have HRA := Aside0.mk hRA
      have HRL := Aside0.mk hRL
      clear hgw hbg hRA hRL HW hcall
      have hkn := known_any gw AA AL l0_0.length ca l0_1.length cl l0_0 a0_2 a1 w2 rfl HGW.out
      rw [HK.out] at hkn
      have z0 : w2.cell? ⟨gz, 0, none⟩ = some (.slice none 0 0) := cell_in HZ2.out 0 rfl
      have z1 : w2.cell? ⟨gz, 1, none⟩ = some (.slice none 0 0) := cell_in HZ2.out 1 rfl
      have z2 : w2.cell? ⟨gz, 2, none⟩ = some (.int .i64 0) := cell_in HZ2.out 2 rfl
      have zf0 : w2.frozen? ⟨gz, 0, none⟩ = false := blk_frozen HZ2.out 0
      have zf1 : w2.frozen? ⟨gz, 1, none⟩ = false := blk_frozen HZ2.out 1
      have zf2 : w2.frozen? ⟨gz, 2, none⟩ = false := blk_frozen HZ2.out 2
      go_wp2_with (go_at_call 144; refine hkn.mono ?_; rintro e w3 ⟨rfl, rfl⟩)
      have hv : (([] : List Int), ([] : List Int), (0 : Int), (1 : Int)) = (r1, r2, r3, r4) := by
        rw [← HV.out, bumpV, HR.out, if_neg (by simp), if_pos HK.out]
      simp only [Prod.mk.injEq] at hv
      obtain ⟨rfl, rfl, rfl, rfl⟩ := hv
      refine bodyPost_ret (results_ct rfl _ _ gz 74 #[.slice none 0 0, .slice none 0 0, .int .i64 0] (0, 0) _ rfl (zero_put HZ2.out) Try.underlying74 rfl (by kernel_rfl)) rfl ?_
      exact ⟨_, _, rfl, Kd.R_nil _ _ _ _ _, Kd.R_nil _ _ _ _ _, below_set (below_set (below_set HBL2.out HGE.out) HGE.out) HGE.out⟩
    | true =>
      have hk2 : 0 < a1 ∧ a1 < l0_0.length := by simpa [knownB'] using hk
      have HK := Aside0.mk hk
      clear hk
      obtain ⟨vn, rfl⟩ : ∃ vn : Nat, a1 = (vn : Int) := ⟨a1.toNat, by omega⟩
      have hvn : vn < l0_0.length := by omega
      have HVN := Aside0.mk hvn
      clear hk2
      go_enter Try.func70, Try.ntmps70
      go_upto_region 1 with (fail)
      have HX := Aside0.mk (blk_alloc (blk_new w (.cells #[.slice A0_0 l0_0.length c0_0, .slice A0_1 l0_1.length c0_1, .int .i64 a0_2] 74 (0, 0))) Z74)
      have HZ := Aside0.mk (blk_new (w.alloc (.cells #[.slice A0_0 l0_0.length c0_0, .slice A0_1 l0_1.length c0_1, .int .i64 a0_2] 74 (0, 0))) Z74)
      have HBL := Aside0.mk (below_alloc (below_alloc (Below.refl _ w) (.cells #[.slice A0_0 l0_0.length c0_0, .slice A0_1 l0_1.length c0_1, .int .i64 a0_2] 74 (0, 0))) Z74)
      rw [World.size_alloc] at HZ
      have HGE := Aside0.mk (show w.heap.size ≤ w.heap.size + 1 by omega)
      generalize (w.alloc (.cells #[.slice A0_0 l0_0.length c0_0, .slice A0_1 l0_1.length c0_1, .int .i64 a0_2] 74 (0, 0))).alloc Z74 = w1 at HX HZ HBL ⊢
      generalize w.heap.size + 1 = gz at HZ HGE ⊢
      have e0 : w1.cell? ⟨w.heap.size, 0, none⟩ = some (.slice A0_0 l0_0.length c0_0) := cell_in HX.out 0 rfl
      have e1 : w1.cell? ⟨w.heap.size, 1, none⟩ = some (.slice A0_1 l0_1.length c0_1) := cell_in HX.out 1 rfl
      have e2 : w1.cell? ⟨w.heap.size, 2, none⟩ = some (.int .i64 a0_2) := cell_in HX.out 2 rfl
      have hcall := begun_yes (c0 := c0_0) (c1 := c0_1) (Kd.C_below HA.out HBL.out) (Kd.C_below HB.out HBL.out) HS.out.1 HS.out.2.2 HR.out
      go_upto_region 4 with (go_at_call 143; refine hcall.mono ?_; rintro e w2 ⟨gw, rfl, hw2, hb2⟩; have HW := Aside0.mk hw2; have HZ2 := Aside0.mk (blk_below HZ.out hb2); have HBL2 := Aside0.mk (below_step HBL.out hb2); have HBASE := Aside0.mk HBL.out.size; have HZL := Aside0.mk (blk_lt HZ.out); clear hw2 hb2 e0 e1 e2)
      obtain ⟨vA, vL, hgw, hbg, hRA, hRL⟩ := HW.out
      obtain ⟨AA, ca, rfl⟩ := Kd.R_slice hRA
      obtain ⟨AL, cl, rfl⟩ := Kd.R_slice hRL
      have HGW := Aside0.mk hgw
      have HBG := Aside0.mk hbg
      have HRA := Aside0.mk hRA
      have HRL := Aside0.mk hRL
      clear hgw hbg hRA hRL HW hcall
      have hkn := known_any gw AA AL l0_0.length ca l0_1.length cl l0_0 a0_2 vn w2 rfl HGW.out
      rw [HK.out] at hkn
      obtain ⟨ga, rfl⟩ : ∃ ga, AA = some ⟨ga, 0, none⟩ := by
        obtain ⟨_, h2 | ⟨g, cap, cur, e1, _⟩⟩ := Kd.own_of_R HRA.out
        · have := HVA.out.pos; omega
        · injection e1 with e1 _ _
          exact ⟨g, e1⟩
      have g0 : w2.cell? ⟨gw, 0, none⟩ = some (.slice (some ⟨ga, 0, none⟩) l0_0.length ca) := cell_in HGW.out 0 rfl
      have g2 : w2.cell? ⟨gw, 2, none⟩ = some (.int .i64 a0_2) := cell_in HGW.out 2 rfl
      obtain ⟨hce, hfe⟩ := Kd.R_cell (d := (0 : Int)) HRA.out (vn : Int) (by omega) (by omega)
      rw [Int.toNat_natCast] at hce hfe
      replace hce : w2.cell? ⟨ga, vn, none⟩ = some (.int .i64 (rd l0_0 (vn : Int))) := hce
      have hx1 := (HVA.out.at_ hvn).1
      have hx2 := (HVA.out.at_ hvn).2
      have hy1 := HVA.out.by1
      have hy2 := HVA.out.by2
      obtain ⟨hp1, hp2⟩ := Kd.R_putg HRA.out (vn : Int) (rd l0_0 (vn : Int) + a0_2)
      rw [Int.toNat_natCast] at hp1 hp2
      have HP1 := Aside0.mk (Kd.R_drew hp1)
      have HP2 := Aside0.mk (Kd.R_drew (Kd.R_grown HRL.out hp2 (fun k hk => hk)))
      have hgne : gw ≠ ga := fun e => by
        have := Kd.R_ne HRA.out HGW.out (by decide)
        rw [e] at this
        exact this rfl
      have hzne : gz ≠ ga := fun e => by
        have := Kd.R_ne HRA.out HZ2.out (by decide)
        rw [e] at this
        exact this rfl
      have HGW3 := Aside0.mk (blk_drew (blk_far HGW.out (p := ⟨ga, vn, none⟩) hgne (.int .i64 (rd l0_0 (vn : Int) + a0_2))))
      have HZ3 := Aside0.mk (blk_drew (blk_far HZ2.out (p := ⟨ga, vn, none⟩) hzne (.int .i64 (rd l0_0 (vn : Int) + a0_2))))
      have HBL3 := Aside0.mk (below_drew1 (below_set (j := vn) (v := .int .i64 (rd l0_0 (vn : Int) + a0_2)) HBL2.out (Nat.le_trans HBASE.out (Kd.R_base HRA.out ga rfl))))
      obtain ⟨x, hx⟩ : ∃ x, x = rd l0_0 (vn : Int) := ⟨_, rfl⟩
      rw [← hx] at hce hx1 hx2 HP1 HP2 HGW3 HZ3 HBL3
      have HX := Aside0.mk hx
      have hvz : (vn : Int) < (l0_0.length : Int) := by omega
      have hw1 : IntKind.i64.wrap (x + a0_2) = x + a0_2 := by rw [IntKind.wrap_i64]; omega
      clear hx hp1 hp2 hgne hzne
      go_upto_region 6 with (go_at_call 144; refine hkn.mono ?_; rintro e w3 ⟨rfl, rfl⟩)
      go_region
      generalize (w2.setCell ⟨ga, vn, none⟩ (.int .i64 (x + a0_2))).drew = w3 at HP1 HP2 HGW3 HZ3 HBL3 ⊢
      have hsc := scaled_any HSORT.out w1.heap.size gw ga l0_0.length ca (.slice AL l0_1.length cl) (l0_0.set vn (x + a0_2)) l0_1 a0_2 w3 HGW3.out HBG.out HP1.out HP2.out (by rw [HX.out]; exact HVA.out.fair_set HVN.out) HVA.out.pos HS.out.1 (fun y hy => by rw [List.length_set]; exact HVA.out.inR y hy) HS.out.2.1
      clear hw1 hx1 hx2 hy1 hy2 hce hfe g0 g2 hkn
      go_wp2_with (go_at_call 145; refine hsc.mono ?_; rintro e w4 ⟨vA4, vL4, rfl, hRA4, hRL4, hb4⟩; obtain ⟨AA4, ca4, rfl⟩ := Kd.R_slice hRA4; obtain ⟨AL4, cl4, rfl⟩ := Kd.R_slice hRL4; have HRA4 := Aside0.mk hRA4; have HRL4 := Aside0.mk hRL4; have HZ4 := Aside0.mk ((hb4.block _ HZL.out).trans HZ3.out); have HBL4 := Aside0.mk (HBL3.out.trans (hb4.mono HBASE.out)); clear hRA4 hRL4 hb4; have z0 : w4.cell? ⟨gz, 0, none⟩ = some (.slice none 0 0) := cell_in HZ4.out 0 rfl; have z1 : w4.cell? ⟨gz, 1, none⟩ = some (.slice none 0 0) := cell_in HZ4.out 1 rfl; have z2 : w4.cell? ⟨gz, 2, none⟩ = some (.int .i64 0) := cell_in HZ4.out 2 rfl; have zf0 : w4.frozen? ⟨gz, 0, none⟩ = false := blk_frozen HZ4.out 0; have zf1 : w4.frozen? ⟨gz, 1, none⟩ = false := blk_frozen HZ4.out 1; have zf2 : w4.frozen? ⟨gz, 2, none⟩ = false := blk_frozen HZ4.out 2)
      have hv : ((scaledV (l0_0.set vn (x + a0_2)) l0_1 a0_2).1, (scaledV (l0_0.set vn (x + a0_2)) l0_1 a0_2).2.1, (scaledV (l0_0.set vn (x + a0_2)) l0_1 a0_2).2.2, (0 : Int)) = (r1, r2, r3, r4) := by
        rw [← HV.out, bumpV, HR.out, if_neg (by simp), if_neg (by rw [HK.out]; simp), Int.toNat_natCast, ← HX.out]
      simp only [Prod.mk.injEq] at hv
      obtain ⟨rfl, rfl, rfl, rfl⟩ := hv
      refine bodyPost_ret (results_ct rfl _ _ gz 74 #[.slice AA4 (scaledV (l0_0.set vn (x + a0_2)) l0_1 a0_2).1.length ca4, .slice AL4 (scaledV (l0_0.set vn (x + a0_2)) l0_1 a0_2).2.1.length cl4, .int .i64 (scaledV (l0_0.set vn (x + a0_2)) l0_1 a0_2).2.2] (0, 0) _ rfl (heap_put HZ4.out) Try.underlying74 rfl (by kernel_rfl)) rfl ?_
      exact ⟨_, _, rfl, set3_R (Kd.R_lower HRA4.out HBASE.out) HZ4.out, set3_R (Kd.R_lower HRL4.out HBASE.out) HZ4.out, below_set (below_set (below_set HBL4.out HGE.out) HGE.out) HGE.out⟩
  · have H0 := Aside0.mk h0
    have h0z : (r != 0) = true := by simp [h0]
    have HR := Aside0.mk hr
    go_enter Try.func70, Try.ntmps70
    go_upto_region 1 with (fail)
    have HX := Aside0.mk (blk_alloc (blk_new w (.cells #[.slice A0_0 l0_0.length c0_0, .slice A0_1 l0_1.length c0_1, .int .i64 a0_2] 74 (0, 0))) Z74)
    have HZ := Aside0.mk (blk_new (w.alloc (.cells #[.slice A0_0 l0_0.length c0_0, .slice A0_1 l0_1.length c0_1, .int .i64 a0_2] 74 (0, 0))) Z74)
    have HBL := Aside0.mk (below_alloc (below_alloc (Below.refl _ w) (.cells #[.slice A0_0 l0_0.length c0_0, .slice A0_1 l0_1.length c0_1, .int .i64 a0_2] 74 (0, 0))) Z74)
    rw [World.size_alloc] at HZ
    have HGE := Aside0.mk (show w.heap.size ≤ w.heap.size + 1 by omega)
    generalize (w.alloc (.cells #[.slice A0_0 l0_0.length c0_0, .slice A0_1 l0_1.length c0_1, .int .i64 a0_2] 74 (0, 0))).alloc Z74 = w1 at HX HZ HBL ⊢
    generalize w.heap.size + 1 = gz at HZ HGE ⊢
    have e0 : w1.cell? ⟨w.heap.size, 0, none⟩ = some (.slice A0_0 l0_0.length c0_0) := cell_in HX.out 0 rfl
    have e1 : w1.cell? ⟨w.heap.size, 1, none⟩ = some (.slice A0_1 l0_1.length c0_1) := cell_in HX.out 1 rfl
    have e2 : w1.cell? ⟨w.heap.size, 2, none⟩ = some (.int .i64 a0_2) := cell_in HX.out 2 rfl
    have hcall := begun_no (c0 := c0_0) (c1 := c0_1) (Kd.C_below HA.out HBL.out) (Kd.C_below HB.out HBL.out) HS.out.1 HS.out.2.2 HR.out H0.out
    clear h0 hr
    go_upto_region 3 with (go_at_call 143; refine hcall.mono ?_; rintro e w2 ⟨rfl, hb2⟩; have HZ2 := Aside0.mk (blk_below HZ.out hb2); have HBL2 := Aside0.mk (below_step HBL.out hb2); clear hb2 e0 e1 e2)
    have z0 : w2.cell? ⟨gz, 0, none⟩ = some (.slice none 0 0) := cell_in HZ2.out 0 rfl
    have z1 : w2.cell? ⟨gz, 1, none⟩ = some (.slice none 0 0) := cell_in HZ2.out 1 rfl
    have z2 : w2.cell? ⟨gz, 2, none⟩ = some (.int .i64 0) := cell_in HZ2.out 2 rfl
    have zf0 : w2.frozen? ⟨gz, 0, none⟩ = false := blk_frozen HZ2.out 0
    have zf1 : w2.frozen? ⟨gz, 1, none⟩ = false := blk_frozen HZ2.out 1
    have zf2 : w2.frozen? ⟨gz, 2, none⟩ = false := blk_frozen HZ2.out 2
    go_wp2
    have hv : (([] : List Int), ([] : List Int), (0 : Int), (r : Int)) = (r1, r2, r3, r4) := by
      rw [← HV.out, bumpV, HR.out, if_pos H0.out]
    simp only [Prod.mk.injEq] at hv
    obtain ⟨rfl, rfl, rfl, rfl⟩ := hv
    refine bodyPost_ret (results_ct rfl _ _ gz 74 #[.slice none 0 0, .slice none 0 0, .int .i64 0] (0, 0) _ rfl (zero_put HZ2.out) Try.underlying74 rfl (by kernel_rfl)) rfl ?_
    exact ⟨_, _, rfl, Kd.R_nil _ _ _ _ _, Kd.R_nil _ _ _ _ _, below_set (below_set (below_set HBL2.out HGE.out) HGE.out) HGE.out⟩

set_option maxHeartbeats 8000000 in
set_option maxRecDepth 100000 in
theorem heap_Decay_any {N : Nat} (hsort : HSort N) (A0_0 : Option Addr) (c0_0 : Nat) (l0_0 : List Int) (A0_1 : Option Addr) (c0_1 : Nat) (l0_1 : List Int) (a0_2 : Int) (r1 r2 : List Int) (r3 r4 : Int) (w : World) (hr0_0 : Kd.C (Kd.int .i64) w A0_0 l0_0.length l0_0) (_hc0_0 : l0_0.length ≤ c0_0) (hr0_1 : Kd.C (Kd.int .i64) w A0_1 l0_1.length l0_1) (_hc0_1 : l0_1.length ≤ c0_1) (hs : smallN N l0_0 l0_1 = true) (h : decayV l0_0 l0_1 a0_2 = (r1, r2, r3, r4)) :
    Calls Try.prog 72 #[.agg #[.slice A0_0 l0_0.length c0_0, .slice A0_1 l0_1.length c0_1, .int .i64 a0_2]] w fun e w' => ∃ v0_ v1_ : Value, e = .returned (.tuple #[.agg #[v0_, v1_, .int .i64 r3], .int .i64 r4]) ∧ Kd.R (Kd.int .i64) 3 w' w.heap.size (fun k_ => some k_ ≠ (v1_ : Value).ownBlock) v0_ r1 ∧ Kd.R (Kd.int .i64) 3 w' w.heap.size (fun k_ => some k_ ≠ (v0_ : Value).ownBlock) v1_ r2 ∧ Below w.heap.size w w' := by
  have HA := Aside0.mk hr0_0
  have HB := Aside0.mk hr0_1
  have HSORT := Aside0.mk hsort
  have hu74 := Try.underlying74
  have HS := Aside0.mk (show l0_0.length ≤ 100000 ∧ l0_1.length ≤ N ∧ l0_1.length ≤ 100000 by simpa [smallN] using hs)
  have HV := Aside0.mk h
  clear h hs hr0_0 hr0_1 hsort
  obtain ⟨r, hr⟩ : ∃ r, hpCheckV l0_0 l0_1 a0_2 = r := ⟨_, rfl⟩
  by_cases h0 : r = 0
  · subst h0
    have HR := Aside0.mk hr
    have HVA := Aside0.mk (valid_of hr)
    clear hr
    go_enter Try.func72, Try.ntmps72
    go_upto_region 1 with (fail)
    have HX := Aside0.mk (blk_alloc (blk_new w (.cells #[.slice A0_0 l0_0.length c0_0, .slice A0_1 l0_1.length c0_1, .int .i64 a0_2] 74 (0, 0))) Z74)
    have HZ := Aside0.mk (blk_new (w.alloc (.cells #[.slice A0_0 l0_0.length c0_0, .slice A0_1 l0_1.length c0_1, .int .i64 a0_2] 74 (0, 0))) Z74)
    have HBL := Aside0.mk (below_alloc (below_alloc (Below.refl _ w) (.cells #[.slice A0_0 l0_0.length c0_0, .slice A0_1 l0_1.length c0_1, .int .i64 a0_2] 74 (0, 0))) Z74)
    rw [World.size_alloc] at HZ
    have HGE := Aside0.mk (show w.heap.size ≤ w.heap.size + 1 by omega)
    generalize (w.alloc (.cells #[.slice A0_0 l0_0.length c0_0, .slice A0_1 l0_1.length c0_1, .int .i64 a0_2] 74 (0, 0))).alloc Z74 = w1 at HX HZ HBL ⊢
    generalize w.heap.size + 1 = gz at HZ HGE ⊢
    have e0 : w1.cell? ⟨w.heap.size, 0, none⟩ = some (.slice A0_0 l0_0.length c0_0) := cell_in HX.out 0 rfl
    have e1 : w1.cell? ⟨w.heap.size, 1, none⟩ = some (.slice A0_1 l0_1.length c0_1) := cell_in HX.out 1 rfl
    have e2 : w1.cell? ⟨w.heap.size, 2, none⟩ = some (.int .i64 a0_2) := cell_in HX.out 2 rfl
    have hcall := begun_yes (c0 := c0_0) (c1 := c0_1) (Kd.C_below HA.out HBL.out) (Kd.C_below HB.out HBL.out) HS.out.1 HS.out.2.2 HR.out
    go_upto_region 4 with (go_at_call 143; refine hcall.mono ?_; rintro e w2 ⟨gw, rfl, hw2, hb2⟩; have HW := Aside0.mk hw2; have HZ2 := Aside0.mk (blk_below HZ.out hb2); have HBL2 := Aside0.mk (below_step HBL.out hb2); have HBASE := Aside0.mk HBL.out.size; have HZL := Aside0.mk (blk_lt HZ.out); clear hw2 hb2 e0 e1 e2)
    obtain ⟨vA, vL, hgw, hbg, hRA, hRL⟩ := HW.out
    obtain ⟨AA, ca, rfl⟩ := Kd.R_slice hRA
    obtain ⟨AL, cl, rfl⟩ := Kd.R_slice hRL
    have HGW := Aside0.mk hgw
    have HBG := Aside0.mk hbg
    have HRA := Aside0.mk hRA
    have HRL := Aside0.mk hRL
    clear hgw hbg hRA hRL HW hcall
    obtain ⟨ga, rfl⟩ : ∃ ga, AA = some ⟨ga, 0, none⟩ := by
      obtain ⟨_, h2 | ⟨g, cap, cur, e1, _⟩⟩ := Kd.own_of_R HRA.out
      · have := HVA.out.pos; omega
      · injection e1 with e1 _ _
        exact ⟨g, e1⟩
    have g2 : w2.cell? ⟨gw, 2, none⟩ = some (.int .i64 a0_2) := cell_in HGW.out 2 rfl
    have gf2 : w2.frozen? ⟨gw, 2, none⟩ = false := blk_frozen HGW.out 2
    have hy1 := HVA.out.by1
    have hy2 := HVA.out.by2
    have hzw : gz ≠ gw := by
      rintro rfl
      have := HZ2.out.symm.trans HGW.out
      simp at this
    have HGW3 := Aside0.mk (blk_drew (blk_put HGW.out 2 (.int .i64 (a0_2 + (a0_2 / 20 + 1))) rfl))
    have HZ3 := Aside0.mk (blk_drew (blk_far HZ2.out (p := ⟨gw, 2, none⟩) hzw (.int .i64 (a0_2 + (a0_2 / 20 + 1)))))
    have HP1 := Aside0.mk (Kd.R_drew (Kd.R_set HRA.out HGW.out ne136 2 (.int .i64 (a0_2 + (a0_2 / 20 + 1)))))
    have HP2 := Aside0.mk (Kd.R_drew (Kd.R_set HRL.out HGW.out ne136 2 (.int .i64 (a0_2 + (a0_2 / 20 + 1)))))
    have HBL3 := Aside0.mk (below_drew1 (below_set (j := 2) (v := .int .i64 (a0_2 + (a0_2 / 20 + 1))) HBL2.out (Nat.le_trans HBASE.out HBG.out)))
    have hd : IntKind.i64.wrap (Int.tdiv a0_2 20) = a0_2 / 20 := by rw [Int.tdiv_eq_ediv_of_nonneg (by omega), IntKind.wrap_i64]; omega
    have hw1 : IntKind.i64.wrap (a0_2 / 20 + 1) = a0_2 / 20 + 1 := by rw [IntKind.wrap_i64]; omega
    have hw2 : IntKind.i64.wrap (a0_2 + (a0_2 / 20 + 1)) = a0_2 + (a0_2 / 20 + 1) := by rw [IntKind.wrap_i64]; omega
    clear hzw
    go_wp2_with fail
    go_region
    generalize (w2.setCell ⟨gw, 2, none⟩ (.int .i64 (a0_2 + (a0_2 / 20 + 1)))).drew = w3 at HP1 HP2 HGW3 HZ3 HBL3 ⊢
    have hsc := scaled_any HSORT.out w1.heap.size gw ga l0_0.length ca (.slice AL l0_1.length cl) l0_0 l0_1 (a0_2 + (a0_2 / 20 + 1)) w3 HGW3.out HBG.out HP1.out HP2.out HVA.out.fair HVA.out.pos HS.out.1 HVA.out.inR HS.out.2.1
    clear hw1 hw2 hd hy1 hy2 g2 gf2
    go_wp2_with (go_at_call 145; refine hsc.mono ?_; rintro e w4 ⟨vA4, vL4, rfl, hRA4, hRL4, hb4⟩; obtain ⟨AA4, ca4, rfl⟩ := Kd.R_slice hRA4; obtain ⟨AL4, cl4, rfl⟩ := Kd.R_slice hRL4; have HRA4 := Aside0.mk hRA4; have HRL4 := Aside0.mk hRL4; have HZ4 := Aside0.mk ((hb4.block _ HZL.out).trans HZ3.out); have HBL4 := Aside0.mk (HBL3.out.trans (hb4.mono HBASE.out)); clear hRA4 hRL4 hb4; have z0 : w4.cell? ⟨gz, 0, none⟩ = some (.slice none 0 0) := cell_in HZ4.out 0 rfl; have z1 : w4.cell? ⟨gz, 1, none⟩ = some (.slice none 0 0) := cell_in HZ4.out 1 rfl; have z2 : w4.cell? ⟨gz, 2, none⟩ = some (.int .i64 0) := cell_in HZ4.out 2 rfl; have zf0 : w4.frozen? ⟨gz, 0, none⟩ = false := blk_frozen HZ4.out 0; have zf1 : w4.frozen? ⟨gz, 1, none⟩ = false := blk_frozen HZ4.out 1; have zf2 : w4.frozen? ⟨gz, 2, none⟩ = false := blk_frozen HZ4.out 2)
    have hv : ((scaledV l0_0 l0_1 (a0_2 + (a0_2 / 20 + 1))).1, (scaledV l0_0 l0_1 (a0_2 + (a0_2 / 20 + 1))).2.1, (scaledV l0_0 l0_1 (a0_2 + (a0_2 / 20 + 1))).2.2, (0 : Int)) = (r1, r2, r3, r4) := by
      rw [← HV.out, decayV, HR.out, if_neg (by simp)]
    simp only [Prod.mk.injEq] at hv
    obtain ⟨rfl, rfl, rfl, rfl⟩ := hv
    refine bodyPost_ret (results_ct rfl _ _ gz 74 #[.slice AA4 (scaledV l0_0 l0_1 (a0_2 + (a0_2 / 20 + 1))).1.length ca4, .slice AL4 (scaledV l0_0 l0_1 (a0_2 + (a0_2 / 20 + 1))).2.1.length cl4, .int .i64 (scaledV l0_0 l0_1 (a0_2 + (a0_2 / 20 + 1))).2.2] (0, 0) _ rfl (heap_put HZ4.out) Try.underlying74 rfl (by kernel_rfl)) rfl ?_
    exact ⟨_, _, rfl, set3_R (Kd.R_lower HRA4.out HBASE.out) HZ4.out, set3_R (Kd.R_lower HRL4.out HBASE.out) HZ4.out, below_set (below_set (below_set HBL4.out HGE.out) HGE.out) HGE.out⟩
  · have H0 := Aside0.mk h0
    have h0z : (r != 0) = true := by simp [h0]
    have HR := Aside0.mk hr
    go_enter Try.func72, Try.ntmps72
    go_upto_region 1 with (fail)
    have HX := Aside0.mk (blk_alloc (blk_new w (.cells #[.slice A0_0 l0_0.length c0_0, .slice A0_1 l0_1.length c0_1, .int .i64 a0_2] 74 (0, 0))) Z74)
    have HZ := Aside0.mk (blk_new (w.alloc (.cells #[.slice A0_0 l0_0.length c0_0, .slice A0_1 l0_1.length c0_1, .int .i64 a0_2] 74 (0, 0))) Z74)
    have HBL := Aside0.mk (below_alloc (below_alloc (Below.refl _ w) (.cells #[.slice A0_0 l0_0.length c0_0, .slice A0_1 l0_1.length c0_1, .int .i64 a0_2] 74 (0, 0))) Z74)
    rw [World.size_alloc] at HZ
    have HGE := Aside0.mk (show w.heap.size ≤ w.heap.size + 1 by omega)
    generalize (w.alloc (.cells #[.slice A0_0 l0_0.length c0_0, .slice A0_1 l0_1.length c0_1, .int .i64 a0_2] 74 (0, 0))).alloc Z74 = w1 at HX HZ HBL ⊢
    generalize w.heap.size + 1 = gz at HZ HGE ⊢
    have e0 : w1.cell? ⟨w.heap.size, 0, none⟩ = some (.slice A0_0 l0_0.length c0_0) := cell_in HX.out 0 rfl
    have e1 : w1.cell? ⟨w.heap.size, 1, none⟩ = some (.slice A0_1 l0_1.length c0_1) := cell_in HX.out 1 rfl
    have e2 : w1.cell? ⟨w.heap.size, 2, none⟩ = some (.int .i64 a0_2) := cell_in HX.out 2 rfl
    have hcall := begun_no (c0 := c0_0) (c1 := c0_1) (Kd.C_below HA.out HBL.out) (Kd.C_below HB.out HBL.out) HS.out.1 HS.out.2.2 HR.out H0.out
    clear h0 hr
    go_upto_region 3 with (go_at_call 143; refine hcall.mono ?_; rintro e w2 ⟨rfl, hb2⟩; have HZ2 := Aside0.mk (blk_below HZ.out hb2); have HBL2 := Aside0.mk (below_step HBL.out hb2); clear hb2 e0 e1 e2)
    have z0 : w2.cell? ⟨gz, 0, none⟩ = some (.slice none 0 0) := cell_in HZ2.out 0 rfl
    have z1 : w2.cell? ⟨gz, 1, none⟩ = some (.slice none 0 0) := cell_in HZ2.out 1 rfl
    have z2 : w2.cell? ⟨gz, 2, none⟩ = some (.int .i64 0) := cell_in HZ2.out 2 rfl
    have zf0 : w2.frozen? ⟨gz, 0, none⟩ = false := blk_frozen HZ2.out 0
    have zf1 : w2.frozen? ⟨gz, 1, none⟩ = false := blk_frozen HZ2.out 1
    have zf2 : w2.frozen? ⟨gz, 2, none⟩ = false := blk_frozen HZ2.out 2
    go_wp2
    have hv : (([] : List Int), ([] : List Int), (0 : Int), (r : Int)) = (r1, r2, r3, r4) := by
      rw [← HV.out, decayV, HR.out, if_pos H0.out]
    simp only [Prod.mk.injEq] at hv
    obtain ⟨rfl, rfl, rfl, rfl⟩ := hv
    refine bodyPost_ret (results_ct rfl _ _ gz 74 #[.slice none 0 0, .slice none 0 0, .int .i64 0] (0, 0) _ rfl (zero_put HZ2.out) Try.underlying74 rfl (by kernel_rfl)) rfl ?_
    exact ⟨_, _, rfl, Kd.R_nil _ _ _ _ _, Kd.R_nil _ _ _ _ _, below_set (below_set (below_set HBL2.out HGE.out) HGE.out) HGE.out⟩
end Go.Proofs.Ytobadajeekdakaa.Print
