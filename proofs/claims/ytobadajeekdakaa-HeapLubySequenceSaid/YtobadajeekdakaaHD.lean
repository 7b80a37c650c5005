/- heap.Pop: its contract. -/
import Derived.Test.YtobadajeekdakaaHC
import Derived.RegionTactic
import Derived.BigRegion
namespace Go.Proofs.Ytobadajeekdakaa.Print
open Go.RowKit Go.Proofs.YtobadajeekdakaaW.PrintWords Go.Proofs.YtobadajeekdakaaW.PrintLast Go.Proofs.YtobadajeekdakaaW.PrintMore
open Go.Sort (grow alloc_eq_grow)
set_option linter.unusedVariables false
set_option linter.unusedSimpArgs false

theorem begun_no {A0 : Option Addr} {c0 : Nat} {act : List Int} {A1 : Option Addr} {c1 : Nat} {l : List Int} {by_ r : Int} {w : World} (hA : Kd.C (Kd.int .i64) w A0 act.length act) (hB : Kd.C (Kd.int .i64) w A1 l.length l)
    (hla : act.length ≤ 100000) (hlb : l.length ≤ 100000) (hr : hpCheckV act l by_ = r) (h0 : r ≠ 0) :
    Calls Try.prog 143 #[.agg #[.slice A0 act.length c0, .slice A1 l.length c1, .int .i64 by_]] w fun e w' => e = .returned (.tuple #[.pointer none, .int .i64 r]) ∧ Below w.heap.size w w' := by
  refine (begun_any A0 c0 act A1 c1 l by_ w hA hB hla hlb).mono ?_
  rw [hr]
  rintro e w' ⟨hb, h | h⟩
  · exact ⟨h.2, hb⟩
  · exact absurd h.1 h0
theorem begun_yes {A0 : Option Addr} {c0 : Nat} {act : List Int} {A1 : Option Addr} {c1 : Nat} {l : List Int} {by_ : Int} {w : World} (hA : Kd.C (Kd.int .i64) w A0 act.length act) (hB : Kd.C (Kd.int .i64) w A1 l.length l)
    (hla : act.length ≤ 100000) (hlb : l.length ≤ 100000) (hr : hpCheckV act l by_ = 0) :
    Calls Try.prog 143 #[.agg #[.slice A0 act.length c0, .slice A1 l.length c1, .int .i64 by_]] w fun e w' => ∃ gw, e = .returned (.tuple #[.pointer (some ⟨gw, 0, none⟩), .int .i64 0]) ∧ Work w' w.heap.size gw act l by_ ∧ Below w.heap.size w w' := by
  refine (begun_any A0 c0 act A1 c1 l by_ w hA hB hla hlb).mono ?_
  rw [hr]
  rintro e w' ⟨hb, h | h⟩
  · exact absurd rfl h.1
  · obtain ⟨_, gw, he, hw⟩ := h
    exact ⟨gw, he, hw, hb⟩

abbrev Z74 : Obj := .cells #[.slice none 0 0, .slice none 0 0, .int .i64 0] 74 (0, 0)
theorem zero_put {w : World} {g : Nat} (h : w.heap[g]? = some Z74) : (((w.setCell ⟨g, 0, none⟩ (.slice none 0 0)).setCell ⟨g, 1, none⟩ (.slice none 0 0)).setCell ⟨g, 2, none⟩ (.int .i64 0)).heap[g]? = some Z74 :=
  blk_put (blk_put (blk_put h 0 _ rfl) 1 _ rfl) 2 _ rfl
theorem heap_put {w : World} {g : Nat} {u1 u2 u3 : Value} (h : w.heap[g]? = some Z74) : (((w.setCell ⟨g, 0, none⟩ u1).setCell ⟨g, 1, none⟩ u2).setCell ⟨g, 2, none⟩ u3).heap[g]? = some (.cells #[u1, u2, u3] 74 (0, 0)) :=
  blk_put (blk_put (blk_put h 0 _ rfl) 1 _ rfl) 2 _ rfl
theorem ne74 : ∀ q, q ∈ 3 :: (Kd.int .i64).E → q ≠ 74 := fun q hq => by
  have : q = 3 := by simpa [Kd.int, Kd.scalar] using hq
  omega
theorem set3_R {w : World} {g base : Nat} {ok : Nat → Prop} {v u1 u2 u3 : Value} {xs : List Int} (h : Kd.R (Kd.int .i64) 3 w base ok v xs) (hz : w.heap[g]? = some Z74) :
    Kd.R (Kd.int .i64) 3 (((w.setCell ⟨g, 0, none⟩ u1).setCell ⟨g, 1, none⟩ u2).setCell ⟨g, 2, none⟩ u3) base ok v xs := by
  have h1 := blk_put hz 0 u1 rfl
  have h2 := blk_put h1 1 u2 rfl
  exact Kd.R_set (Kd.R_set (Kd.R_set h hz ne74 0 u1) h1 ne74 1 u2) h2 ne74 2 u3
theorem set3_Q {w : World} {g base : Nat} {ok : Nat → Prop} {v u1 u2 u3 : Value} {xs : List Int} (h : Kd.Q (Kd.int .i64) 3 w base ok v xs) (hz : w.heap[g]? = some Z74) :
    Kd.Q (Kd.int .i64) 3 (((w.setCell ⟨g, 0, none⟩ u1).setCell ⟨g, 1, none⟩ u2).setCell ⟨g, 2, none⟩ u3) base ok v xs := by
  have h1 := blk_put hz 0 u1 rfl
  have h2 := blk_put h1 1 u2 rfl
  exact Kd.Q_set (Kd.Q_set (Kd.Q_set h hz ne74 0 u1) h1 ne74 1 u2) h2 ne74 2 u3
def smallB (act l : List Int) : Bool := decide (act.length ≤ 100000 ∧ l.length ≤ 100000)
def popV (act l : List Int) (by_ : Int) : List Int × List Int × Int × Int × Int :=
  if hpCheckV act l by_ ≠ 0 then ([], [], 0, 0, hpCheckV act l by_)
  else if l.length = 0 then ([], [], 0, 0, 270) else (act, l.drop 1, by_, rd l 0, 0)
def heap_Pop.f (l0_0 l0_1 : List Int) (a0_2 : Int) : Option (List Int × List Int × Int × Int × Int) := if smallB l0_0 l0_1 = true then some (popV l0_0 l0_1 a0_2) else none

set_option maxHeartbeats 8000000 in
set_option maxRecDepth 100000 in
theorem heap_Pop.calls (A0_0 : Option Addr) (c0_0 : Nat) (l0_0 : List Int) (A0_1 : Option Addr) (c0_1 : Nat) (l0_1 : List Int) (a0_2 : Int) (r1 r2 : List Int) (r3 r4 r5 : Int) (w : World) (hr0_0 : Kd.C (Kd.int .i64) w A0_0 l0_0.length l0_0) (_hc0_0 : l0_0.length ≤ c0_0) (hr0_1 : Kd.C (Kd.int .i64) w A0_1 l0_1.length l0_1) (_hc0_1 : l0_1.length ≤ c0_1) (h : heap_Pop.f l0_0 l0_1 a0_2 = some (r1, r2, r3, r4, r5)) :
    Calls Try.prog 74 #[.agg #[.slice A0_0 l0_0.length c0_0, .slice A0_1 l0_1.length c0_1, .int .i64 a0_2]] w fun e w' => ∃ v0_ v1_ : Value, e = .returned (.tuple #[.agg #[v0_, v1_, .int .i64 r3], .int .i64 r4, .int .i64 r5]) ∧ Kd.R (Kd.int .i64) 3 w' w.heap.size (fun k_ => some k_ ≠ (v1_ : Value).ownBlock) v0_ r1 ∧ Kd.Q (Kd.int .i64) 3 w' w.heap.size (fun k_ => some k_ ≠ (v0_ : Value).ownBlock) v1_ r2 ∧ Below w.heap.size w w' := by
  have HA := Aside0.mk hr0_0
  have HB := Aside0.mk hr0_1
  have hu74 := Try.underlying74
  unfold heap_Pop.f at h
  by_cases hs : smallB l0_0 l0_1 = true
  · rw [if_pos hs] at h
    have HS := Aside0.mk (show l0_0.length ≤ 100000 ∧ l0_1.length ≤ 100000 by simpa [smallB] using hs)
    have HV := Aside0.mk (Option.some.inj h)
    clear h hs hr0_0 hr0_1
    go_enter Try.func74, Try.ntmps74
    go_upto_region 1 with (fail)
    have HX := Aside0.mk (blk_alloc (blk_new w (.cells #[.slice A0_0 l0_0.length c0_0, .slice A0_1 l0_1.length c0_1, .int .i64 a0_2] 74 (0, 0))) Z74)
    have HZ := Aside0.mk (blk_new (w.alloc (.cells #[.slice A0_0 l0_0.length c0_0, .slice A0_1 l0_1.length c0_1, .int .i64 a0_2] 74 (0, 0))) Z74)
    have HBL := Aside0.mk (below_alloc (below_alloc (Below.refl _ w) (.cells #[.slice A0_0 l0_0.length c0_0, .slice A0_1 l0_1.length c0_1, .int .i64 a0_2] 74 (0, 0))) Z74)
    rw [World.size_alloc] at HZ
    have HGE := Aside0.mk (show w.heap.size ≤ w.heap.size + 1 by omega)
    generalize (w.alloc (.cells #[.slice A0_0 l0_0.length c0_0, .slice A0_1 l0_1.length c0_1, .int .i64 a0_2] 74 (0, 0))).alloc Z74 = w1 at HX HZ HBL ⊢
    generalize w.heap.size + 1 = gz at HZ HGE ⊢
    have e0 : w1.cell? ⟨w.heap.size, 0, none⟩ = some (.slice A0_0 l0_0.length c0_0) := cell_in HX.out 0 rfl
    have e1 : w1.cell? ⟨w.heap.size, 1, none⟩ = some (.slice A0_1 l0_1.length c0_1) := cell_in HX.out 1 rfl
    have e2 : w1.cell? ⟨w.heap.size, 2, none⟩ = some (.int .i64 a0_2) := cell_in HX.out 2 rfl
    obtain ⟨r, hr⟩ : ∃ r, hpCheckV l0_0 l0_1 a0_2 = r := ⟨_, rfl⟩
    by_cases h0 : r = 0
    · subst h0
      have hcall := begun_yes (c0 := c0_0) (c1 := c0_1) (Kd.C_below HA.out HBL.out) (Kd.C_below HB.out HBL.out) HS.out.1 HS.out.2 hr
      have HR := Aside0.mk hr
      clear hr
      go_upto_region 4 with (go_at_call 143; refine hcall.mono ?_; rintro e w2 ⟨gw, rfl, hw2, hb2⟩; have HW := Aside0.mk hw2; have HZ2 := Aside0.mk (blk_below HZ.out hb2); have HBL2 := Aside0.mk (below_step HBL.out hb2); have HBASE := Aside0.mk HBL.out.size; clear hw2 hb2 e0 e1 e2)
      obtain ⟨vA, vL, hgw, hbg, hRA, hRL⟩ := HW.out
      obtain ⟨AA, ca, rfl⟩ := Kd.R_slice hRA
      obtain ⟨AL, cl, rfl⟩ := Kd.R_slice hRL
      have HGW := Aside0.mk hgw
      have HBG := Aside0.mk hbg
      have HRA := Aside0.mk hRA
      have HRL := Aside0.mk hRL
      clear hgw hbg hRA hRL HW
      have g1 : w2.cell? ⟨gw, 1, none⟩ = some (.slice AL l0_1.length cl) := cell_in HGW.out 1 rfl
      have hm63 : l0_1.length ≤ 9223372036854775807 := by have := HS.out.2; omega
      by_cases hl : l0_1.length = 0
      · have hlz : ((l0_1.length : Int) == 0) = true := by simp [hl]
        have HL := Aside0.mk hl
        have z0 : w2.cell? ⟨gz, 0, none⟩ = some (.slice none 0 0) := cell_in HZ2.out 0 rfl
        have z1 : w2.cell? ⟨gz, 1, none⟩ = some (.slice none 0 0) := cell_in HZ2.out 1 rfl
        have z2 : w2.cell? ⟨gz, 2, none⟩ = some (.int .i64 0) := cell_in HZ2.out 2 rfl
        have zf0 : w2.frozen? ⟨gz, 0, none⟩ = false := blk_frozen HZ2.out 0
        have zf1 : w2.frozen? ⟨gz, 1, none⟩ = false := blk_frozen HZ2.out 1
        have zf2 : w2.frozen? ⟨gz, 2, none⟩ = false := blk_frozen HZ2.out 2
        rw [hl] at g1
        clear hl hlz
        go_wp2
        have hv : (([] : List Int), ([] : List Int), (0 : Int), (0 : Int), (270 : Int)) = (r1, r2, r3, r4, r5) := by
          rw [← HV.out, popV, HR.out, if_neg (by simp), if_pos HL.out]
        simp only [Prod.mk.injEq] at hv
        obtain ⟨rfl, rfl, rfl, rfl, rfl⟩ := hv
        refine bodyPost_ret (results_ctt rfl _ _ gz 74 #[.slice none 0 0, .slice none 0 0, .int .i64 0] (0, 0) _ rfl (zero_put HZ2.out) Try.underlying74 rfl (by kernel_rfl)) rfl ?_
        exact ⟨_, _, rfl, Kd.R_nil _ _ _ _ _, Kd.Q_nil _ _ _ _ _, below_set (below_set (below_set HBL2.out HGE.out) HGE.out) HGE.out⟩
      · have hlz : ((l0_1.length : Int) == 0) = false := by simp [hl]
        have HL := Aside0.mk hl
        obtain ⟨_, hlc, hCL⟩ := Kd.R_reads' HRL.out
        obtain ⟨ad, e1, hcell⟩ := Kd.at_int hCL (0 : Int) (by omega) (by omega)
        subst e1
        replace hcell : w2.cell? ad = some (.int .i64 (rd l0_1 0)) := by
          have h := hcell
          rwa [show ad.add (0 : Int).toNat = ad from rfl] at h
        obtain ⟨i0, hi0, _, hsz0, _⟩ := info_parts info3
        have hcut := cut_from (P := Try.prog) 28 3 .i64 Try.underlying28 hi0 1 hsz0 (some ad) l0_1.length cl 1 (by omega) (by omega)
        have HQ := Aside0.mk (Kd.Q_drop (Kd.Q_of_R HRL.out) (show 1 ≤ l0_1.length by omega))
        obtain ⟨A2, hA2⟩ : ∃ A2, A2 = (if cl = 1 then some ad else (some ad).map (·.add 1)) := ⟨_, rfl⟩
        obtain ⟨n1, hn1⟩ : ∃ n1, n1 = l0_1.length - 1 := ⟨_, rfl⟩
        obtain ⟨c1, hc1⟩ : ∃ c1, c1 = cl - 1 := ⟨_, rfl⟩
        have hcut2 : ∀ W, (Instr.slice 28 (.slice (some ad) l0_1.length cl) (some (.int .i64 1)) none none).run Try.prog W = .ok (.slice A2 n1 c1) W := fun W => by
          rw [hA2, hn1, hc1]
          exact hcut W
        have HQ2 : Aside0 (Kd.Q (Kd.int .i64) 3 w2 w1.heap.size (fun k_ => some k_ ≠ (Value.slice AA l0_0.length ca).ownBlock) (.slice A2 n1 c1) (l0_1.drop 1)) := ⟨by
          rw [hA2, hn1, hc1]
          exact HQ.out⟩
        have HOB : Aside0 ((Value.slice A2 n1 c1).ownBlock = (Value.slice (some ad) l0_1.length cl).ownBlock) := ⟨by
          rw [hA2]
          by_cases hcc : cl = 1
          · rw [if_pos hcc]; rfl
          · rw [if_neg hcc]; rfl⟩
        clear hcut hA2 hn1 hc1 HQ hi0 hsz0
        obtain ⟨x0, hx0⟩ : ∃ x0, x0 = rd l0_1 0 := ⟨_, rfl⟩
        rw [← hx0] at hcell
        have HX0 := Aside0.mk hx0
        have gf1 : w2.frozen? ⟨gw, 1, none⟩ = false := blk_frozen HGW.out 1
        have hpos : (0 : Int) < (l0_1.length : Int) := by omega
        clear hx0 hl
        go_upto_region 6 with (fail)
        go_region
        have hne3 : ∀ q, q ∈ 3 :: (Kd.int .i64).E → q ≠ 136 := fun q hq => by
          have : q = 3 := by simpa [Kd.int, Kd.scalar] using hq
          omega
        have hzw : gz ≠ gw := by
          rintro rfl
          have := HZ2.out.symm.trans HGW.out
          simp at this
        have HGW3 := Aside0.mk (blk_drew (blk_put HGW.out 1 (.slice A2 n1 c1) rfl))
        have HZ3 := Aside0.mk (blk_drew (blk_far HZ2.out (p := ⟨gw, 1, none⟩) hzw (.slice A2 n1 c1)))
        have HRA3 := Aside0.mk (Kd.R_mono (Kd.R_lower (Kd.R_drew (Kd.R_set HRA.out HGW.out hne3 1 (.slice A2 n1 c1))) (Nat.le_trans HBASE.out (Nat.le_refl _))) (ok' := fun k_ => some k_ ≠ (Value.slice A2 n1 c1).ownBlock) (fun k hk => by rw [HOB.out]; exact hk))
        have HQ3 := Aside0.mk (Kd.Q_lower (Kd.Q_drew (Kd.Q_set HQ2.out HGW.out hne3 1 (.slice A2 n1 c1))) HBASE.out)
        have HBL3 := Aside0.mk (below_drew1 (below_set (j := 1) (v := .slice A2 n1 c1) HBL2.out (Nat.le_trans HBASE.out HBG.out)))
        clear g1 hcell hcut2 gf1 hne3 hzw HGW HZ2 HBL2 HRA HRL HQ2 hlc hCL
        generalize (w2.setCell ⟨gw, 1, none⟩ (.slice A2 n1 c1)).drew = w3 at HGW3 HZ3 HRA3 HQ3 HBL3 ⊢
        have g0 : w3.cell? ⟨gw, 0, none⟩ = some (.slice AA l0_0.length ca) := cell_in HGW3.out 0 rfl
        have g1 : w3.cell? ⟨gw, 1, none⟩ = some (.slice A2 n1 c1) := cell_in HGW3.out 1 rfl
        have g2 : w3.cell? ⟨gw, 2, none⟩ = some (.int .i64 a0_2) := cell_in HGW3.out 2 rfl
        have z0 : w3.cell? ⟨gz, 0, none⟩ = some (.slice none 0 0) := cell_in HZ3.out 0 rfl
        have z1 : w3.cell? ⟨gz, 1, none⟩ = some (.slice none 0 0) := cell_in HZ3.out 1 rfl
        have z2 : w3.cell? ⟨gz, 2, none⟩ = some (.int .i64 0) := cell_in HZ3.out 2 rfl
        have zf0 : w3.frozen? ⟨gz, 0, none⟩ = false := blk_frozen HZ3.out 0
        have zf1 : w3.frozen? ⟨gz, 1, none⟩ = false := blk_frozen HZ3.out 1
        have zf2 : w3.frozen? ⟨gz, 2, none⟩ = false := blk_frozen HZ3.out 2
        go_wp2
        have hv : (l0_0, l0_1.drop 1, a0_2, x0, (0 : Int)) = (r1, r2, r3, r4, r5) := by
          rw [← HV.out, popV, HR.out, if_neg (by simp), if_neg HL.out, HX0.out]
        simp only [Prod.mk.injEq] at hv
        obtain ⟨rfl, rfl, rfl, rfl, rfl⟩ := hv
        refine bodyPost_ret (results_ctt rfl _ _ gz 74 #[.slice AA l0_0.length ca, .slice A2 n1 c1, .int .i64 a0_2] (0, 0) _ rfl (heap_put HZ3.out) Try.underlying74 rfl (by kernel_rfl)) rfl ?_
        exact ⟨_, _, rfl, set3_R HRA3.out HZ3.out, set3_Q HQ3.out HZ3.out, below_set (below_set (below_set HBL3.out HGE.out) HGE.out) HGE.out⟩
    · have hcall := begun_no (c0 := c0_0) (c1 := c0_1) (Kd.C_below HA.out HBL.out) (Kd.C_below HB.out HBL.out) HS.out.1 HS.out.2 hr h0
      have h0z : (r != 0) = true := by simp [h0]
      have H0 := Aside0.mk h0
      have HR := Aside0.mk hr
      clear h0 hr
      go_upto_region 3 with (go_at_call 143; refine hcall.mono ?_; rintro e w2 ⟨rfl, hb2⟩; have HZ2 := Aside0.mk (blk_below HZ.out hb2); have HBL2 := Aside0.mk (below_step HBL.out hb2); clear hb2 e0 e1 e2)
      have z0 : w2.cell? ⟨gz, 0, none⟩ = some (.slice none 0 0) := cell_in HZ2.out 0 rfl
      have z1 : w2.cell? ⟨gz, 1, none⟩ = some (.slice none 0 0) := cell_in HZ2.out 1 rfl
      have z2 : w2.cell? ⟨gz, 2, none⟩ = some (.int .i64 0) := cell_in HZ2.out 2 rfl
      have zf0 : w2.frozen? ⟨gz, 0, none⟩ = false := blk_frozen HZ2.out 0
      have zf1 : w2.frozen? ⟨gz, 1, none⟩ = false := blk_frozen HZ2.out 1
      have zf2 : w2.frozen? ⟨gz, 2, none⟩ = false := blk_frozen HZ2.out 2
      go_wp2
      have hv : (([] : List Int), ([] : List Int), (0 : Int), (0 : Int), r) = (r1, r2, r3, r4, r5) := by
        rw [← HV.out, popV, HR.out, if_pos H0.out]
      simp only [Prod.mk.injEq] at hv
      obtain ⟨rfl, rfl, rfl, rfl, rfl⟩ := hv
      refine bodyPost_ret (results_ctt rfl _ _ gz 74 #[.slice none 0 0, .slice none 0 0, .int .i64 0] (0, 0) _ rfl (zero_put HZ2.out) Try.underlying74 rfl (by kernel_rfl)) rfl ?_
      exact ⟨_, _, rfl, Kd.R_nil _ _ _ _ _, Kd.Q_nil _ _ _ _ _, below_set (below_set (below_set HBL2.out HGE.out) HGE.out) HGE.out⟩
  · rw [if_neg hs] at h
    cases h
end Go.Proofs.Ytobadajeekdakaa.Print
