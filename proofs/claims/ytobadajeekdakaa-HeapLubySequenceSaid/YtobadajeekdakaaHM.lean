/- (*heap.work).scaled: its contract, under a law of the sort: the walk. -/
import Derived.Test.YtobadajeekdakaaHL
namespace Go.Proofs.Ytobadajeekdakaa.Print
open Go.RowKit Go.Proofs.YtobadajeekdakaaW.PrintWords Go.Proofs.YtobadajeekdakaaW.PrintLast Go.Proofs.YtobadajeekdakaaW.PrintMore
open Go.Sort (grow alloc_eq_grow)
open Go.Shelf
attribute [local go_sem] max2_int min2_int max_two min_two
set_option linter.unusedVariables false
set_option linter.unusedSimpArgs false

abbrev HM : Int := 1099511627776
def greatB (act : List Int) (by_ : Int) : Bool := decide (1099511627776 < by_) || act.any (fun x => decide (1099511627776 < x))
def downV (act : List Int) : List Int := act.map (· / 1024)
def byDown (by_ : Int) : Int := if by_ / 1024 < 1 then 1 else by_ / 1024
/-- The heap behind k scalings (k: 0 or 1). -/
def scAct (act : List Int) : Nat → List Int
  | 0 => act
  | _ + 1 => downV act
def scBy (by_ : Int) : Nat → Int
  | 0 => by_
  | _ + 1 => byDown by_
/-- The first i numbers divided. -/
def downTo (act : List Int) (i : Nat) : List Int := (act.take i).map (· / 1024) ++ act.drop i
theorem downTo_zero (act : List Int) : downTo act 0 = act := by simp [downTo]
theorem downTo_all (act : List Int) : downTo act act.length = downV act := by simp [downTo, downV]
theorem downTo_length (act : List Int) (i : Nat) : (downTo act i).length = act.length := by simp [downTo]; omega
theorem downTo_rd {act : List Int} {i : Nat} (hi : i < act.length) : rd (downTo act i) (i : Int) = rd act (i : Int) := by
  unfold downTo rd
  rw [Int.toNat_natCast, List.getD_eq_getElem?_getD, List.getD_eq_getElem?_getD, List.getElem?_append_right (by simp; omega)]
  simp [Nat.min_eq_left (Nat.le_of_lt hi)]
theorem downTo_next {act : List Int} {i : Nat} (hi : i < act.length) : (downTo act i).set i (rd act (i : Int) / 1024) = downTo act (i + 1) := by
  have hl : (List.map (· / 1024) (act.take i)).length = i := by simp; omega
  unfold downTo
  rw [List.set_append_right _ _ (by omega), hl, Nat.sub_self, List.drop_eq_getElem_cons hi, List.set_cons_zero, List.take_succ_eq_append_getElem hi, List.map_append, List.append_assoc]
  simp [rd_get hi]
structure Fair (act : List Int) (by_ : Int) : Prop where
  act_ : ∀ x ∈ act, 0 ≤ x ∧ x ≤ 2199023255552
  by1 : 0 ≤ by_
  by2 : by_ ≤ 2199023255552
theorem Fair.at_ {act : List Int} {by_ : Int} (h : Fair act by_) {i : Nat} (hi : i < act.length) : 0 ≤ rd act (i : Int) ∧ rd act (i : Int) ≤ 2199023255552 := h.act_ _ (by rw [rd_get hi]; exact List.getElem_mem _)
theorem Fair.notgreat {act : List Int} {by_ : Int} (h : Fair act by_) : greatB (downV act) (byDown by_) = false := by
  unfold greatB downV byDown
  have h1 := h.by1
  have h2 := h.by2
  rw [Bool.or_eq_false_iff]
  refine ⟨decide_eq_false (by split <;> omega), ?_⟩
  rw [List.any_eq_false]
  intro x hx
  obtain ⟨y, hy, rfl⟩ := List.mem_map.1 hx
  have := h.act_ y hy
  simp only [decide_eq_true_eq]
  omega
def scaledV (act l : List Int) (by_ : Int) : List Int × List Int × Int := if greatB act by_ = true then (downV act, sortA (downV act) l, byDown by_) else (act, sortA act l, by_)

def ScPost (w : World) (base gw : Nat) (act l : List Int) (by_ : Int) (e : Ending) (w' : World) : Prop :=
  ∃ vA vL : Value, e = .returned (.agg #[vA, vL, .int .i64 (scaledV act l by_).2.2]) ∧ Kd.R (Kd.int .i64) 3 w' base (fun k => some k ≠ vL.ownBlock) vA (scaledV act l by_).1 ∧ Kd.R (Kd.int .i64) 3 w' base (fun k => some k ≠ vA.ownBlock) vL (scaledV act l by_).2.1 ∧ Below base w w'

set_option maxHeartbeats 8000000 in
set_option maxRecDepth 100000 in
theorem scaled_any {N : Nat} (hs : HSort N) (base gw ga n ca : Nat) (vL : Value) (act l : List Int) (by_ : Int) (w : World)
    (hgw : w.heap[gw]? = some (.cells #[.slice (some ⟨ga, 0, none⟩) n ca, vL, .int .i64 by_] 136 (0, 0))) (hge : base ≤ gw)
    (hA : Kd.R (Kd.int .i64) 3 w base (fun k => some k ≠ vL.ownBlock) (.slice (some ⟨ga, 0, none⟩) n ca) act) (hL : Kd.R (Kd.int .i64) 3 w base (fun k => some k ≠ some ga) vL l)
    (hf : Fair act by_) (hn0 : 0 < n) (hn : n ≤ 100000) (hl : InR act l) (hN : l.length ≤ N) :
    Calls Try.prog 145 #[.pointer (some ⟨gw, 0, none⟩)] w (ScPost w base gw act l by_) := by
  have HS0 : Aside0 (ScSt w base gw w.heap.size ga n ca vL act l by_ (w.alloc Z74)) := ⟨⟨blk_alloc hgw _, blk_new w _, Kd.R_alloc hA _, Kd.R_alloc hL _, (Below.refl base w).alloc (Nat.le_trans hge (Nat.le_of_lt (blk_lt hgw))) _, hge⟩⟩
  have HF := Aside0.mk hf
  have HL := Aside0.mk hl
  have HN := Aside0.mk hN
  have HSORT := Aside0.mk hs
  have HLA := Aside0.mk HS0.out.lenA
  have HGR0 : Aside0 (base ≤ w.heap.size) := ⟨Nat.le_trans hge (Nat.le_of_lt (blk_lt hgw))⟩
  clear hgw hA hL hf hl hN hs hge
  go_enter Try.func145, Try.ntmps145
  go_upto_region 1 with (fail)
  generalize w.heap.size = gr at HS0 HGR0 ⊢
  generalize w.alloc Z74 = w1 at HS0 ⊢
  go_loopg [3] 1 (fun gg s3 wr => ∃ k : Nat, k ≤ 1 ∧ 1 - k ≤ gg ∧ Aside0 (k = 1 → greatB act by_ = true) ∧ Aside0 (ScSt w base gw gr ga n ca vL (scAct act k) l (scBy by_ k) wr))
  case atStart => exact ⟨0, by omega, by omega, ⟨fun h => absurd h (by omega)⟩, HS0⟩
  case round =>
    clear HS0
    obtain ⟨k, hk1, hgg, HK1, HST⟩ := hrel
    obtain ⟨a', ha'⟩ : ∃ a', a' = scAct act k := ⟨_, rfl⟩
    obtain ⟨b', hb'⟩ : ∃ b', b' = scBy by_ k := ⟨_, rfl⟩
    rw [← ha', ← hb'] at HST
    have HLA' := Aside0.mk HST.out.lenA
    have hc0 : wr.cell? ⟨gw, 0, none⟩ = some (.slice (some ⟨ga, 0, none⟩) n ca) := cell_in HST.out.blk 0 rfl
    have hc1 : wr.cell? ⟨gw, 1, none⟩ = some vL := cell_in HST.out.blk 1 rfl
    have hc2 : wr.cell? ⟨gw, 2, none⟩ = some (.int .i64 b') := cell_in HST.out.blk 2 rfl
    have hmax := hp_max (some ⟨ga, 0, none⟩) ca a' wr (Kd.R_reads' HST.out.rA).2.2 (by rw [HLA'.out]; exact hn0) (by rw [HLA'.out]; exact hn)
    rw [HLA'.out] at hmax
    have HMX := Aside0.mk (maxV_gt a' 1099511627776 (by rw [HLA'.out]; exact hn0))
    obtain ⟨mm, hmm⟩ : ∃ mm, mm = maxV a' := ⟨_, rfl⟩
    rw [← hmm] at hmax HMX
    clear hmm
    by_cases hgr : greatB a' b' = true
    · have hk0 : k = 0 := by
        rcases Nat.lt_or_ge k 1 with h | h
        · omega
        · exfalso
          obtain rfl : k = 1 := by omega
          rw [ha', hb'] at hgr
          have := HF.out.notgreat
          rw [show greatB (scAct act 1) (scBy by_ 1) = false from this] at hgr
          cases hgr
      subst hk0
      have HGR := Aside0.mk hgr
      have hgr2 : 1099511627776 < b' ∨ (¬ 1099511627776 < b' ∧ 1099511627776 < mm) := by
        by_cases h : 1099511627776 < b'
        · exact .inl h
        · refine .inr ⟨h, HMX.out.2 ?_⟩
          unfold greatB at hgr
          simpa [h] using hgr
      clear hgr
      have HA0 := Aside0.mk (show a' = act from ha')
      have HB0 := Aside0.mk (show b' = by_ from hb')
      have hb0 : 0 ≤ b' := by rw [HB0.out]; exact HF.out.by1
      have hb9 : b' ≤ 2199023255552 := by rw [HB0.out]; exact HF.out.by2
      clear ha' hb'
      rcases hgr2 with h1 | ⟨h1, h2⟩
      · go_upto_region 3 with (go_at_call 175; refine hmax.mono ?_; rintro e w3 ⟨rfl, rfl⟩)
        clear hmax hc0 hc1 hc2 h1 HMX
        go_loopg [3, 25] n (fun gg s3 s25 wr => ∃ i : Nat, i ≤ n ∧ n - i ≤ gg ∧ s25 = .int .i64 i ∧ Aside0 (ScSt w base gw gr ga n ca vL (downTo a' i) l b' wr))
        case atStart => exact ⟨0, Nat.zero_le _, by omega, rfl, ⟨by rw [downTo_zero]; exact HST.out⟩⟩
        case round =>
          clear HST
          obtain ⟨i, hi, hg2, rfl, HST⟩ := hrel
          have hc0 : wr.cell? ⟨gw, 0, none⟩ = some (.slice (some ⟨ga, 0, none⟩) n ca) := cell_in HST.out.blk 0 rfl
          have hc2 : wr.cell? ⟨gw, 2, none⟩ = some (.int .i64 b') := cell_in HST.out.blk 2 rfl
          by_cases hlt : i < n
          · have hltz : (i : Int) < (n : Int) := by omega
            have hrow := HST.out.rA
            rw [show n = (downTo a' i).length by rw [downTo_length, HLA'.out]] at hrow
            obtain ⟨hce, hfe⟩ := Kd.R_cell (d := (0 : Int)) hrow (i : Int) (by omega) (by rw [downTo_length, HLA'.out]; omega)
            rw [Int.toNat_natCast, show rdOf (0 : Int) (downTo a' i) (i : Int) = rd a' (i : Int) from downTo_rd (by rw [HLA'.out]; exact hlt)] at hce
            rw [Int.toNat_natCast] at hfe
            clear hrow
            have hx0 : 0 ≤ rd a' (i : Int) := by rw [HA0.out]; exact (HF.out.at_ (by rw [HLA.out]; exact hlt)).1
            have hx9 : rd a' (i : Int) ≤ 2199023255552 := by rw [HA0.out]; exact (HF.out.at_ (by rw [HLA.out]; exact hlt)).2
            have HNX := Aside0.mk (HST.out.putA i (rd a' (i : Int) / 1024))
            rw [downTo_next (by rw [HLA'.out]; exact hlt)] at HNX
            obtain ⟨x, hx⟩ : ∃ x, x = rd a' (i : Int) := ⟨_, rfl⟩
            rw [← hx] at hce hx0 hx9 HNX
            clear hx
            go_wp2
            go_roundg (n - (i + 1))
            case measure => omega
            case rel => exact ⟨i + 1, by omega, by omega, by go_num, HNX⟩
          · have hltz : ¬ (i : Int) < (n : Int) := by omega
            obtain rfl : i = n := by omega
            have hf2 : wr.frozen? ⟨gw, 2, none⟩ = false := blk_frozen HST.out.blk 2
            have HNX := Aside0.mk (HST.out.putBy (byDown b'))
            rw [show downTo a' i = scAct act 1 by rw [← HLA'.out, downTo_all, HA0.out]; rfl, show byDown b' = scBy by_ 1 by rw [HB0.out]; rfl] at HNX
            have HBD := Aside0.mk (show scBy by_ 1 = if b' / 1024 < 1 then 1 else b' / 1024 by rw [HB0.out]; rfl)
            by_cases hb1 : b' / 1024 < 1
            · have hb2 : b' < 1024 := by omega
              rw [HBD.out, if_pos hb1] at HNX
              have HNX2 : Aside0 (ScSt w base gw gr ga i ca vL (scAct act 1) l (scBy by_ 1) (wr.setCell ⟨gw, 2, none⟩ (.int .i64 1))) := ⟨by rw [HBD.out, if_pos hb1]; exact HNX.out⟩
              clear HBD
              go_wp2
              go_roundg 0
              case measure => omega
              case rel => exact ⟨1, by omega, by omega, ⟨fun _ => by have := HGR.out; rwa [HA0.out, HB0.out] at this⟩, HNX2⟩
            · have hb2 : ¬ b' < 1024 := by omega
              have HNX2 : Aside0 (ScSt w base gw gr ga i ca vL (scAct act 1) l (scBy by_ 1) (wr.setCell ⟨gw, 2, none⟩ (.int .i64 (b' / 1024)))) := ⟨by
                have h := HNX.out
                have e : scBy by_ 1 = b' / 1024 := by rw [HBD.out, if_neg hb1]
                rw [e] at h ⊢
                exact h⟩
              clear HBD
              go_wp2
              go_roundg 0
              case measure => omega
              case rel => exact ⟨1, by omega, by omega, ⟨fun _ => by have := HGR.out; rwa [HA0.out, HB0.out] at this⟩, HNX2⟩
      · go_upto_region 3 with (go_at_call 175; refine hmax.mono ?_; rintro e w3 ⟨rfl, rfl⟩)
        clear hmax hc0 hc1 hc2 h1 HMX
        go_loopg [3, 25] n (fun gg s3 s25 wr => ∃ i : Nat, i ≤ n ∧ n - i ≤ gg ∧ s25 = .int .i64 i ∧ Aside0 (ScSt w base gw gr ga n ca vL (downTo a' i) l b' wr))
        case atStart => exact ⟨0, Nat.zero_le _, by omega, rfl, ⟨by rw [downTo_zero]; exact HST.out⟩⟩
        case round =>
          clear HST
          obtain ⟨i, hi, hg2, rfl, HST⟩ := hrel
          have hc0 : wr.cell? ⟨gw, 0, none⟩ = some (.slice (some ⟨ga, 0, none⟩) n ca) := cell_in HST.out.blk 0 rfl
          have hc2 : wr.cell? ⟨gw, 2, none⟩ = some (.int .i64 b') := cell_in HST.out.blk 2 rfl
          by_cases hlt : i < n
          · have hltz : (i : Int) < (n : Int) := by omega
            have hrow := HST.out.rA
            rw [show n = (downTo a' i).length by rw [downTo_length, HLA'.out]] at hrow
            obtain ⟨hce, hfe⟩ := Kd.R_cell (d := (0 : Int)) hrow (i : Int) (by omega) (by rw [downTo_length, HLA'.out]; omega)
            rw [Int.toNat_natCast, show rdOf (0 : Int) (downTo a' i) (i : Int) = rd a' (i : Int) from downTo_rd (by rw [HLA'.out]; exact hlt)] at hce
            rw [Int.toNat_natCast] at hfe
            clear hrow
            have hx0 : 0 ≤ rd a' (i : Int) := by rw [HA0.out]; exact (HF.out.at_ (by rw [HLA.out]; exact hlt)).1
            have hx9 : rd a' (i : Int) ≤ 2199023255552 := by rw [HA0.out]; exact (HF.out.at_ (by rw [HLA.out]; exact hlt)).2
            have HNX := Aside0.mk (HST.out.putA i (rd a' (i : Int) / 1024))
            rw [downTo_next (by rw [HLA'.out]; exact hlt)] at HNX
            obtain ⟨x, hx⟩ : ∃ x, x = rd a' (i : Int) := ⟨_, rfl⟩
            rw [← hx] at hce hx0 hx9 HNX
            clear hx
            go_wp2
            go_roundg (n - (i + 1))
            case measure => omega
            case rel => exact ⟨i + 1, by omega, by omega, by go_num, HNX⟩
          · have hltz : ¬ (i : Int) < (n : Int) := by omega
            obtain rfl : i = n := by omega
            have hf2 : wr.frozen? ⟨gw, 2, none⟩ = false := blk_frozen HST.out.blk 2
            have HNX := Aside0.mk (HST.out.putBy (byDown b'))
            rw [show downTo a' i = scAct act 1 by rw [← HLA'.out, downTo_all, HA0.out]; rfl, show byDown b' = scBy by_ 1 by rw [HB0.out]; rfl] at HNX
            have HBD := Aside0.mk (show scBy by_ 1 = if b' / 1024 < 1 then 1 else b' / 1024 by rw [HB0.out]; rfl)
            by_cases hb1 : b' / 1024 < 1
            · have hb2 : b' < 1024 := by omega
              rw [HBD.out, if_pos hb1] at HNX
              have HNX2 : Aside0 (ScSt w base gw gr ga i ca vL (scAct act 1) l (scBy by_ 1) (wr.setCell ⟨gw, 2, none⟩ (.int .i64 1))) := ⟨by rw [HBD.out, if_pos hb1]; exact HNX.out⟩
              clear HBD
              go_wp2
              go_roundg 0
              case measure => omega
              case rel => exact ⟨1, by omega, by omega, ⟨fun _ => by have := HGR.out; rwa [HA0.out, HB0.out] at this⟩, HNX2⟩
            · have hb2 : ¬ b' < 1024 := by omega
              have HNX2 : Aside0 (ScSt w base gw gr ga i ca vL (scAct act 1) l (scBy by_ 1) (wr.setCell ⟨gw, 2, none⟩ (.int .i64 (b' / 1024)))) := ⟨by
                have h := HNX.out
                have e : scBy by_ 1 = b' / 1024 := by rw [HBD.out, if_neg hb1]
                rw [e] at h ⊢
                exact h⟩
              clear HBD
              go_wp2
              go_roundg 0
              case measure => omega
              case rel => exact ⟨1, by omega, by omega, ⟨fun _ => by have := HGR.out; rwa [HA0.out, HB0.out] at this⟩, HNX2⟩
    · rw [Bool.not_eq_true] at hgr
      have h1 : ¬ 1099511627776 < b' := by
        intro h
        unfold greatB at hgr
        simp [h] at hgr
      have h2 : ¬ 1099511627776 < mm := by
        intro h
        have := HMX.out.1 h
        unfold greatB at hgr
        rw [this] at hgr
        simp at hgr
      have HGR := Aside0.mk hgr
      have HAB := Aside0.mk (show a' = scAct act k ∧ b' = scBy by_ k from ⟨ha', hb'⟩)
      have hsort := HST.out.sort HSORT.out (fun x hx => by rw [HLA'.out]; have := HL.out x hx; rwa [HLA.out] at this) HN.out
      clear hgr ha' hb'
      go_upto_region 9 with (first | (go_at_call 175; refine hmax.mono ?_; rintro e w3 ⟨rfl, rfl⟩) | (go_at_call 109; refine hsort.mono ?_; rintro e w4 ⟨rfl, hS4⟩; have HST4 := Aside0.mk hS4; clear hS4))
      clear hmax hc0 hc1 hc2 hsort h1 h2 HST HMX
      have HV := Aside0.mk (show scaledV act l by_ = (a', sortA a' l, b') by
        rw [HAB.out.1, HAB.out.2]
        have hg := HGR.out
        rw [HAB.out.1, HAB.out.2] at hg
        rcases Nat.lt_or_ge k 1 with h | h
        · obtain rfl : k = 0 := by omega
          rw [scaledV, if_neg (by rw [show greatB act by_ = false from hg]; simp)]
          rfl
        · obtain rfl : k = 1 := by omega
          rw [scaledV, if_pos (HK1.out rfl)]
          rfl)
      have g0 : w4.cell? ⟨gw, 0, none⟩ = some (.slice (some ⟨ga, 0, none⟩) n ca) := cell_in HST4.out.blk 0 rfl
      have g1 : w4.cell? ⟨gw, 1, none⟩ = some vL := cell_in HST4.out.blk 1 rfl
      have g2 : w4.cell? ⟨gw, 2, none⟩ = some (.int .i64 b') := cell_in HST4.out.blk 2 rfl
      have z0 : w4.cell? ⟨gr, 0, none⟩ = some (.slice none 0 0) := cell_in HST4.out.res 0 rfl
      have z1 : w4.cell? ⟨gr, 1, none⟩ = some (.slice none 0 0) := cell_in HST4.out.res 1 rfl
      have z2 : w4.cell? ⟨gr, 2, none⟩ = some (.int .i64 0) := cell_in HST4.out.res 2 rfl
      have zf0 : w4.frozen? ⟨gr, 0, none⟩ = false := blk_frozen HST4.out.res 0
      have zf1 : w4.frozen? ⟨gr, 1, none⟩ = false := blk_frozen HST4.out.res 1
      have zf2 : w4.frozen? ⟨gr, 2, none⟩ = false := blk_frozen HST4.out.res 2
      obtain ⟨AL, cl, evL⟩ := Kd.R_slice HST4.out.rL
      subst evL
      go_wp2
      refine bodyPost_ret (results_single rfl (Vals.cell gr 74 #[.slice (some ⟨ga, 0, none⟩) n ca, .slice AL (sortA a' l).length cl, .int .i64 b'] (0, 0) _ rfl (heap_put HST4.out.res) Try.underlying74 rfl (by kernel_rfl) Vals.nil)) rfl ?_
      unfold ScPost
      rw [HV.out]
      exact ⟨_, _, rfl, set3_R HST4.out.rA HST4.out.res, set3_R (Kd.R_mono HST4.out.rL (fun k hk => hk)) HST4.out.res, ((HST4.out.below.setCell HGR0.out _).setCell HGR0.out _).setCell HGR0.out _⟩
end Go.Proofs.Ytobadajeekdakaa.Print
