/- heap.Push: its contract. -/
import Derived.Test.YtobadajeekdakaaHF
namespace Go.Proofs.Ytobadajeekdakaa.Print
open Go.RowKit Go.Proofs.YtobadajeekdakaaW.PrintWords Go.Proofs.YtobadajeekdakaaW.PrintLast Go.Proofs.YtobadajeekdakaaW.PrintMore
open Go.Sort (grow alloc_eq_grow)
set_option linter.unusedVariables false
set_option linter.unusedSimpArgs false

theorem insert_any (base c : Nat) (A : Option Addr) (xs : List Int) (i : Nat) (x : Int) (w : World) (gx : Nat) (hR : Kd.R (Kd.int .i64) 3 w base (fun _ => True) (.slice A xs.length c) xs) (hbase : base ≤ w.heap.size) (hi : i ≤ xs.length) (hl : xs.length ≤ 100000) (hx : w.heap[gx]? = some (.cells #[.int .i64 x] 3 (0, 0)))
    (hne : (Value.slice A xs.length c).ownBlock ≠ some gx) :
    Calls Try.prog 152 #[.slice A xs.length c, .int .i64 i, .slice (some ⟨gx, 0, none⟩) 1 1] w (InsPost w base (.slice A xs.length c) xs i x) := by
  rcases Nat.lt_or_eq_of_le hi with h | rfl
  · obtain ⟨_, h2 | ⟨g, cap, cur, e1, _⟩⟩ := Kd.own_of_R hR
    · omega
    · injection e1 with e1 _ e3
      subst e1
      exact insert_mid base g c xs i x w gx hR hbase h hl hx (fun e => hne (by rw [e]; rfl))
  · exact insert_end base c A xs x w gx hR hbase hl hx

/-- v put into the sorted queue l, at its place. -/
def putV (act l : List Int) (v : Int) : List Int := l.takeWhile (fun x => decide (ordV act x v < 0)) ++ v :: l.dropWhile (fun x => decide (ordV act x v < 0))
theorem take_while_at {p : Int → Bool} : ∀ (l : List Int) (i : Nat), i ≤ l.length → (∀ t, t < i → p (rd l (t : Int)) = true) → (i < l.length → p (rd l (i : Int)) = false) → l.take i = l.takeWhile p ∧ l.drop i = l.dropWhile p
  | [], i, h, _, _ => by simp
  | x :: l, 0, _, _, h => by
    have : p x = false := h (Nat.succ_pos _)
    simp [List.takeWhile_cons, List.dropWhile_cons, this]
  | x :: l, i + 1, hi, h1, h2 => by
    have hx : p x = true := h1 0 (Nat.succ_pos _)
    have e : ∀ j : Nat, rd (x :: l) ((j + 1 : Nat) : Int) = rd l (j : Int) := fun j => by simp [rd]
    obtain ⟨h3, h4⟩ := take_while_at l i (by simpa using hi) (fun t ht => by rw [← e]; exact h1 (t + 1) (Nat.succ_lt_succ ht)) (fun hlt => by rw [← e]; exact h2 (by simpa using hlt))
    simp [List.takeWhile_cons, List.dropWhile_cons, hx, h3, h4]
theorem Spot.put {act l : List Int} {v : Int} {i : Nat} (h : Spot act l v i) : insV l i v = putV act l v := by
  obtain ⟨h1, h2⟩ := take_while_at (p := fun x => decide (ordV act x v < 0)) l i h.le (fun t ht => decide_eq_true (h.lo t ht)) (fun hi => decide_eq_false (h.hi i (Nat.le_refl _) hi))
  rw [insV, putV, h1, h2]
theorem Spot.mem {act l : List Int} {v : Int} {i : Nat} (h : Spot act l v i) (hok : rowOkB act l = true) : decide (i < l.length ∧ rd l (i : Int) = v) = l.contains v := by
  have hrd : ∀ j (hj : j < l.length), rd l (j : Int) = l[j] := fun j hj => by simp [rd, List.getElem?_eq_getElem hj]
  by_cases hc : l.contains v = true
  · rw [hc]
    obtain ⟨j, hj, e⟩ := List.getElem_of_mem (List.contains_iff_mem.1 hc)
    rw [← hrd j hj] at e
    have h1 : ¬ j < i := fun hlt => by
      have := h.lo j hlt
      rw [e] at this
      have := (ordV_zero (act := act) (a := v) (b := v)).2 rfl
      omega
    have h2 : ¬ i < j := fun hlt => by
      have := h.hi i (Nat.le_refl _) (by omega)
      exact this (by rw [← e]; exact rowOk_sorted hok i j hlt hj)
    obtain rfl : i = j := by omega
    exact decide_eq_true ⟨hj, e⟩
  · rw [Bool.not_eq_true] at hc
    rw [hc]
    refine decide_eq_false fun ⟨h1, h2⟩ => ?_
    rw [hrd i h1] at h2
    have : l.contains v = true := List.contains_iff_mem.2 (by rw [← h2]; exact List.getElem_mem _)
    rw [hc] at this
    cases this

theorem bsearch_two {g : Nat} {A B : Option Addr} {c d : Nat} {act l : List Int} {by_ v : Int} {w : World} {bb : Bool} (hg : w.heap[g]? = some (.cells #[.slice A act.length c, .slice B l.length d, .int .i64 by_] 136 (0, 0)))
    (hA : Kd.C (Kd.int .i64) w A act.length act) (hB : Kd.C (Kd.int .i64) w B l.length l) (hok : rowOkB act l = true) (hv : knownB' act v = true) (hl : l.length ≤ 100000) (hb : l.contains v = bb) :
    Calls Try.prog 150 #[.slice B l.length d, .int .i64 v, .func (.func 151) #[.pointer (some ⟨g, 0, none⟩)] #[]] w fun e w' => ∃ i : Nat, e = .returned (.tuple #[.int .i64 i, .bool bb]) ∧ Spot act l v i ∧ Below w.heap.size w w' := by
  refine (bsearch_any g A B c d act l by_ v w hg hA hB hok hv hl).mono ?_
  rintro e w' ⟨i, he, hs, hw⟩
  exact ⟨i, by rw [he, hs.mem hok, hb], hs, hw⟩
theorem ne136 : ∀ q, q ∈ 3 :: (Kd.int .i64).E → q ≠ 136 := fun q hq => by
  have : q = 3 := by simpa [Kd.int, Kd.scalar] using hq
  omega
def pushV (act l : List Int) (by_ v : Int) : List Int × List Int × Int × Int :=
  if hpCheckV act l by_ ≠ 0 then ([], [], 0, hpCheckV act l by_)
  else if knownB' act v = false then ([], [], 0, 1)
  else if l.contains v = true then ([], [], 0, 270) else (act, putV act l v, by_, 0)
def heap_Push.f (l0_0 l0_1 : List Int) (a0_2 a1 : Int) : Option (List Int × List Int × Int × Int) := if smallB l0_0 l0_1 = true then some (pushV l0_0 l0_1 a0_2 a1) else none
theorem check_rowOk {act l : List Int} {by_ : Int} (h : hpCheckV act l by_ = 0) : rowOkB act l = true := by
  unfold hpCheckV at h
  split at h
  · omega
  · split at h
    · omega
    · split at h
      · assumption
      · omega

set_option maxHeartbeats 8000000 in
set_option maxRecDepth 100000 in
theorem heap_Push.calls (A0_0 : Option Addr) (c0_0 : Nat) (l0_0 : List Int) (A0_1 : Option Addr) (c0_1 : Nat) (l0_1 : List Int) (a0_2 a1 : Int) (r1 r2 : List Int) (r3 r4 : Int) (w : World) (hr0_0 : Kd.C (Kd.int .i64) w A0_0 l0_0.length l0_0) (_hc0_0 : l0_0.length ≤ c0_0) (hr0_1 : Kd.C (Kd.int .i64) w A0_1 l0_1.length l0_1) (_hc0_1 : l0_1.length ≤ c0_1) (h : heap_Push.f l0_0 l0_1 a0_2 a1 = some (r1, r2, r3, r4)) :
    Calls Try.prog 76 #[.agg #[.slice A0_0 l0_0.length c0_0, .slice A0_1 l0_1.length c0_1, .int .i64 a0_2], .int .i64 a1] w fun e w' => ∃ v0_ v1_ : Value, e = .returned (.tuple #[.agg #[v0_, v1_, .int .i64 r3], .int .i64 r4]) ∧ Kd.R (Kd.int .i64) 3 w' w.heap.size (fun k_ => some k_ ≠ (v1_ : Value).ownBlock) v0_ r1 ∧ Kd.R (Kd.int .i64) 3 w' w.heap.size (fun k_ => some k_ ≠ (v0_ : Value).ownBlock) v1_ r2 ∧ Below w.heap.size w w' := by
  have HA := Aside0.mk hr0_0
  have HB := Aside0.mk hr0_1
  have hu74 := Try.underlying74
  unfold heap_Push.f at h
  by_cases hs : smallB l0_0 l0_1 = true
  · rw [if_pos hs] at h
    have HS := Aside0.mk (show l0_0.length ≤ 100000 ∧ l0_1.length ≤ 100000 by simpa [smallB] using hs)
    have HV := Aside0.mk (Option.some.inj h)
    clear h hs hr0_0 hr0_1
    go_enter Try.func76, Try.ntmps76
    go_upto_region 1 with (fail)
    have HX := Aside0.mk (blk_alloc (blk_new w (.cells #[.slice A0_0 l0_0.length c0_0, .slice A0_1 l0_1.length c0_1, .int .i64 a0_2] 74 (0, 0))) Z74)
    have HZ := Aside0.mk (blk_new (w.alloc (.cells #[.slice A0_0 l0_0.length c0_0, .slice A0_1 l0_1.length c0_1, .int .i64 a0_2] 74 (0, 0))) Z74)
    have HBL := Aside0.mk (below_alloc (below_alloc (Below.refl _ w) (.cells #[.slice A0_0 l0_0.length c0_0, .slice A0_1 l0_1.length c0_1, .int .i64 a0_2] 74 (0, 0))) Z74)
    rw [World.size_alloc] at HZ
    have HGE := Aside0.mk (show w.heap.size ≤ w.heap.size + 1 by omega)
    generalize (w.alloc (.cells #[.slice A0_0 l0_0.length c0_0, .slice A0_1 l0_1.length c0_1, .int .i64 a0_2] 74 (0, 0))).alloc Z74 = w1 at HX HZ HBL ⊢
    generalize w.heap.size + 1 = gz at HZ HGE ⊢
    have e0 : w1.cell? ⟨w.heap.size, 0, none⟩ = some (.slice A0_0 l0_0.length c0_0) := cell_in HX.out 0 rfl
    have e1 : w1.cell? ⟨w.heap.size, 1, none⟩ = some (.slice A0_1 l0_1.length c0_1) := cell_in HX.out 1 rfl
    have e2 : w1.cell? ⟨w.heap.size, 2, none⟩ = some (.int .i64 a0_2) := cell_in HX.out 2 rfl
    obtain ⟨r, hr⟩ : ∃ r, hpCheckV l0_0 l0_1 a0_2 = r := ⟨_, rfl⟩
    by_cases h0 : r = 0
    · subst h0
      have hcall := begun_yes (c0 := c0_0) (c1 := c0_1) (Kd.C_below HA.out HBL.out) (Kd.C_below HB.out HBL.out) HS.out.1 HS.out.2 hr
      have HR := Aside0.mk hr
      clear hr
      go_upto_region 4 with (go_at_call 143; refine hcall.mono ?_; rintro e w2 ⟨gw, rfl, hw2, hb2⟩; have HW := Aside0.mk hw2; have HZ2 := Aside0.mk (blk_below HZ.out hb2); have HBL2 := Aside0.mk (below_step HBL.out hb2); have HBASE := Aside0.mk HBL.out.size; clear hw2 hb2 e0 e1 e2)
      have HB12 := Aside0.mk (show w1.heap.size ≤ w2.heap.size by
        obtain ⟨_, _, hgw, hbg, _⟩ := HW.out
        have := blk_lt hgw
        omega)
      obtain ⟨vA, vL, hgw, hbg, hRA, hRL⟩ := HW.out
      obtain ⟨AA, ca, rfl⟩ := Kd.R_slice hRA
      obtain ⟨AL, cl, rfl⟩ := Kd.R_slice hRL
      have HGW := Aside0.mk hgw
      have HBG := Aside0.mk hbg
      have HRA := Aside0.mk hRA
      have HRL := Aside0.mk hRL
      clear hgw hbg hRA hRL HW
      have hkn := known_any gw AA AL l0_0.length ca l0_1.length cl l0_0 a0_2 a1 w2 rfl HGW.out
      cases hk : knownB' l0_0 a1 with
      | false =>
        have HK := Aside0.mk hk
        rw [hk] at hkn
        clear hk
        have z0 : w2.cell? ⟨gz, 0, none⟩ = some (.slice none 0 0) := cell_in HZ2.out 0 rfl
        have z1 : w2.cell? ⟨gz, 1, none⟩ = some (.slice none 0 0) := cell_in HZ2.out 1 rfl
        have z2 : w2.cell? ⟨gz, 2, none⟩ = some (.int .i64 0) := cell_in HZ2.out 2 rfl
        have zf0 : w2.frozen? ⟨gz, 0, none⟩ = false := blk_frozen HZ2.out 0
        have zf1 : w2.frozen? ⟨gz, 1, none⟩ = false := blk_frozen HZ2.out 1
        have zf2 : w2.frozen? ⟨gz, 2, none⟩ = false := blk_frozen HZ2.out 2
        go_wp2_with (go_at_call 144; refine hkn.mono ?_; rintro e w3 ⟨rfl, rfl⟩)
        have hv : (([] : List Int), ([] : List Int), (0 : Int), (1 : Int)) = (r1, r2, r3, r4) := by
          rw [← HV.out, pushV, HR.out, if_neg (by simp), if_pos HK.out]
        simp only [Prod.mk.injEq] at hv
        obtain ⟨rfl, rfl, rfl, rfl⟩ := hv
        refine bodyPost_ret (results_ct rfl _ _ gz 74 #[.slice none 0 0, .slice none 0 0, .int .i64 0] (0, 0) _ rfl (zero_put HZ2.out) Try.underlying74 rfl (by kernel_rfl)) rfl ?_
        exact ⟨_, _, rfl, Kd.R_nil _ _ _ _ _, Kd.R_nil _ _ _ _ _, below_set (below_set (below_set HBL2.out HGE.out) HGE.out) HGE.out⟩
      | true =>
        have HK := Aside0.mk hk
        rw [hk] at hkn
        clear hk
        have g1 : w2.cell? ⟨gw, 1, none⟩ = some (.slice AL l0_1.length cl) := cell_in HGW.out 1 rfl
        have hbs := fun bb hb => bsearch_two (bb := bb) (c := ca) (d := cl) HGW.out (Kd.R_reads' HRA.out).2.2 (Kd.R_reads' HRL.out).2.2 (check_rowOk HR.out) HK.out HS.out.2 hb
        cases hc : l0_1.contains a1 with
        | true =>
          have HC := Aside0.mk hc
          have hbs := hbs true hc
          clear hc
          go_upto_region 7 with (first | (go_at_call 144; refine hkn.mono ?_; rintro e w3 ⟨rfl, rfl⟩) | (go_at_call 150; refine hbs.mono ?_; rintro e w3 ⟨i, rfl, hsp, hb3⟩; have HSP := Aside0.mk hsp; have HZ3 := Aside0.mk (blk_below HZ2.out hb3); have HBL3 := Aside0.mk (below_step HBL2.out hb3); have HGW3 := Aside0.mk (blk_below HGW.out hb3); have HRA3 := Aside0.mk (Kd.R_below HRA.out hb3); have HRL3 := Aside0.mk (Kd.R_below HRL.out hb3); have HB13 := Aside0.mk (Nat.le_trans HB12.out hb3.size); clear hsp hb3 g1))
          have z0 : w3.cell? ⟨gz, 0, none⟩ = some (.slice none 0 0) := cell_in HZ3.out 0 rfl
          have z1 : w3.cell? ⟨gz, 1, none⟩ = some (.slice none 0 0) := cell_in HZ3.out 1 rfl
          have z2 : w3.cell? ⟨gz, 2, none⟩ = some (.int .i64 0) := cell_in HZ3.out 2 rfl
          have zf0 : w3.frozen? ⟨gz, 0, none⟩ = false := blk_frozen HZ3.out 0
          have zf1 : w3.frozen? ⟨gz, 1, none⟩ = false := blk_frozen HZ3.out 1
          have zf2 : w3.frozen? ⟨gz, 2, none⟩ = false := blk_frozen HZ3.out 2
          go_wp2
          have hv : (([] : List Int), ([] : List Int), (0 : Int), (270 : Int)) = (r1, r2, r3, r4) := by
            rw [← HV.out, pushV, HR.out, if_neg (by simp), if_neg (by rw [HK.out]; simp), if_pos HC.out]
          simp only [Prod.mk.injEq] at hv
          obtain ⟨rfl, rfl, rfl, rfl⟩ := hv
          refine bodyPost_ret (results_ct rfl _ _ gz 74 #[.slice none 0 0, .slice none 0 0, .int .i64 0] (0, 0) _ rfl (zero_put HZ3.out) Try.underlying74 rfl (by kernel_rfl)) rfl ?_
          exact ⟨_, _, rfl, Kd.R_nil _ _ _ _ _, Kd.R_nil _ _ _ _ _, below_set (below_set (below_set HBL3.out HGE.out) HGE.out) HGE.out⟩
        | false =>
          have HC := Aside0.mk hc
          have hbs := hbs false hc
          clear hc
          go_upto_region 7 with (first | (go_at_call 144; refine hkn.mono ?_; rintro e w3 ⟨rfl, rfl⟩) | (go_at_call 150; refine hbs.mono ?_; rintro e w3 ⟨i, rfl, hsp, hb3⟩; have HSP := Aside0.mk hsp; have HZ3 := Aside0.mk (blk_below HZ2.out hb3); have HBL3 := Aside0.mk (below_step HBL2.out hb3); have HGW3 := Aside0.mk (blk_below HGW.out hb3); have HRA3 := Aside0.mk (Kd.R_below HRA.out hb3); have HRL3 := Aside0.mk (Kd.R_below HRL.out hb3); have HB13 := Aside0.mk (Nat.le_trans HB12.out hb3.size); clear hsp hb3 g1))
          have g1 : w3.cell? ⟨gw, 1, none⟩ = some (.slice AL l0_1.length cl) := cell_in HGW3.out 1 rfl
          have hx := blk_new w3 (.cells #[.int .i64 a1] 3 (0, 0))
          have hins := insert_any w1.heap.size cl AL l0_1 i a1 _ _ (Kd.R_alloc (Kd.R_mono HRL3.out (fun _ _ => trivial)) (.cells #[.int .i64 a1] 3 (0, 0))) (by have := HB13.out; simp; omega) HSP.out.le HS.out.2 hx (by
            intro e
            have := Kd.R_lt HRL3.out _ e
            omega)
          have HRA4 := Aside0.mk (Kd.R_alloc HRA3.out (.cells #[.int .i64 a1] 3 (0, 0)))
          have HZ4 := Aside0.mk (blk_alloc HZ3.out (.cells #[.int .i64 a1] 3 (0, 0)))
          have HGW4 := Aside0.mk (blk_alloc HGW3.out (.cells #[.int .i64 a1] 3 (0, 0)))
          have HBL4 := Aside0.mk (below_alloc HBL3.out (.cells #[.int .i64 a1] 3 (0, 0)))
          have HRL4 := Aside0.mk (Kd.R_alloc HRL3.out (.cells #[.int .i64 a1] 3 (0, 0)))
          have HINS := Aside0.mk hins
          have HSZ := Aside0.mk (show w3.heap.size ≤ (w3.alloc (.cells #[.int .i64 a1] 3 (0, 0))).heap.size by simp)
          clear hx hins
          go_upto_region 10 with (go_at_call 152; refine HINS.out.mono ?_; rintro e w5 ⟨v', rfl, hR5, hg5, hat5⟩; have HR5 := Aside0.mk hR5; have HAT5 := Aside0.mk hat5; have HG5 := Aside0.mk hg5; have HGW5 := Aside0.mk (blk_grown HGW4.out hg5 (Kd.R_ne HRL4.out HGW4.out (by decide))); have HZ5 := Aside0.mk (blk_grown HZ4.out hg5 (Kd.R_ne HRL4.out HZ4.out (by decide))); have HRA5 := Aside0.mk (Kd.R_after (ok := fun _ => True) (Kd.R_mono HRA4.out (fun k hk => ⟨trivial, hk⟩)) hg5 hat5); have HBL5 := Aside0.mk (pw_below_grown HBL4.out _ HBL4.out.size hg5 (fun k hk => Nat.le_trans HBASE.out (Kd.R_base HRL4.out k hk))); obtain ⟨A5, c5, rfl⟩ := Kd.R_slice hR5; have g1 : w5.cell? ⟨gw, 1, none⟩ = some (.slice AL l0_1.length cl) := cell_in HGW5.out 1 rfl; have gf1 : w5.frozen? ⟨gw, 1, none⟩ = false := blk_frozen HGW5.out 1; clear hR5 hg5 hat5)
          have hzw : gz ≠ gw := by
            rintro rfl
            have := HZ5.out.symm.trans HGW5.out
            simp at this
          have hgwb : w.heap.size ≤ gw := Nat.le_trans HBASE.out HBG.out
          have HGW6 := Aside0.mk (blk_put HGW5.out 1 (.slice A5 (insV l0_1 i a1).length c5) rfl)
          have HZ6 := Aside0.mk (blk_far HZ5.out (p := ⟨gw, 1, none⟩) hzw (.slice A5 (insV l0_1 i a1).length c5))
          have HRA6 := Aside0.mk (Kd.R_lower (Kd.R_set (Kd.R_mono HRA5.out (ok' := fun k_ => some k_ ≠ (Value.slice A5 (insV l0_1 i a1).length c5).ownBlock) (fun k hk => hk.2)) HGW5.out ne136 1 (.slice A5 (insV l0_1 i a1).length c5)) HBASE.out)
          have HR6 := Aside0.mk (Kd.R_lower (Kd.R_set (Kd.R_reok (ok := fun k_ => some k_ ≠ (Value.slice AA l0_0.length ca).ownBlock) rfl HR5.out (fun k hk he => by
            rcases HAT5.out with h | ⟨b, hb, hle⟩
            · exact HRL4.out.1 k (by rw [← h, hk]) he
            · have h1 := Kd.R_lt HRA3.out k he.symm
              rw [hb] at hk
              injection hk with hk
              have := HSZ.out
              omega)) HGW5.out ne136 1 (.slice A5 (insV l0_1 i a1).length c5)) HBASE.out)
          have HBL6 := Aside0.mk (below_set (j := 1) (v := .slice A5 (insV l0_1 i a1).length c5) HBL5.out hgwb)
          have HPUT := Aside0.mk HSP.out.put
          clear g1 gf1 hzw hgwb HGW5 HZ5 HRA5 HR5 HBL5 HAT5 HG5 HINS HBL4 HGW4 HZ4 HRA4 HRL4 HSZ
          generalize w5.setCell ⟨gw, 1, none⟩ (.slice A5 (insV l0_1 i a1).length c5) = w6 at HGW6 HZ6 HRA6 HR6 HBL6 ⊢
          rw [HPUT.out] at HGW6 HRA6 HR6
          generalize hlen : (insV l0_1 i a1).length = n5
          rw [HPUT.out] at hlen
          subst hlen
          have g0 : w6.cell? ⟨gw, 0, none⟩ = some (.slice AA l0_0.length ca) := cell_in HGW6.out 0 rfl
          have g1 : w6.cell? ⟨gw, 1, none⟩ = some (.slice A5 (putV l0_0 l0_1 a1).length c5) := cell_in HGW6.out 1 rfl
          have g2 : w6.cell? ⟨gw, 2, none⟩ = some (.int .i64 a0_2) := cell_in HGW6.out 2 rfl
          have z0 : w6.cell? ⟨gz, 0, none⟩ = some (.slice none 0 0) := cell_in HZ6.out 0 rfl
          have z1 : w6.cell? ⟨gz, 1, none⟩ = some (.slice none 0 0) := cell_in HZ6.out 1 rfl
          have z2 : w6.cell? ⟨gz, 2, none⟩ = some (.int .i64 0) := cell_in HZ6.out 2 rfl
          have zf0 : w6.frozen? ⟨gz, 0, none⟩ = false := blk_frozen HZ6.out 0
          have zf1 : w6.frozen? ⟨gz, 1, none⟩ = false := blk_frozen HZ6.out 1
          have zf2 : w6.frozen? ⟨gz, 2, none⟩ = false := blk_frozen HZ6.out 2
          go_wp2
          have hv : (l0_0, putV l0_0 l0_1 a1, a0_2, (0 : Int)) = (r1, r2, r3, r4) := by
            rw [← HV.out, pushV, HR.out, if_neg (by simp), if_neg (by rw [HK.out]; simp), if_neg (by rw [HC.out]; simp)]
          simp only [Prod.mk.injEq] at hv
          obtain ⟨rfl, rfl, rfl, rfl⟩ := hv
          refine bodyPost_ret (results_ct rfl _ _ gz 74 #[.slice AA l0_0.length ca, .slice A5 (putV l0_0 l0_1 a1).length c5, .int .i64 a0_2] (0, 0) _ rfl (heap_put HZ6.out) Try.underlying74 rfl (by kernel_rfl)) rfl ?_
          exact ⟨_, _, rfl, set3_R HRA6.out HZ6.out, set3_R HR6.out HZ6.out, below_set (below_set (below_set HBL6.out HGE.out) HGE.out) HGE.out⟩
    · have hcall := begun_no (c0 := c0_0) (c1 := c0_1) (Kd.C_below HA.out HBL.out) (Kd.C_below HB.out HBL.out) HS.out.1 HS.out.2 hr h0
      have h0z : (r != 0) = true := by simp [h0]
      have H0 := Aside0.mk h0
      have HR := Aside0.mk hr
      clear h0 hr
      go_upto_region 3 with (go_at_call 143; refine hcall.mono ?_; rintro e w2 ⟨rfl, hb2⟩; have HZ2 := Aside0.mk (blk_below HZ.out hb2); have HBL2 := Aside0.mk (below_step HBL.out hb2); clear hb2 e0 e1 e2)
      have z0 : w2.cell? ⟨gz, 0, none⟩ = some (.slice none 0 0) := cell_in HZ2.out 0 rfl
      have z1 : w2.cell? ⟨gz, 1, none⟩ = some (.slice none 0 0) := cell_in HZ2.out 1 rfl
      have z2 : w2.cell? ⟨gz, 2, none⟩ = some (.int .i64 0) := cell_in HZ2.out 2 rfl
      have zf0 : w2.frozen? ⟨gz, 0, none⟩ = false := blk_frozen HZ2.out 0
      have zf1 : w2.frozen? ⟨gz, 1, none⟩ = false := blk_frozen HZ2.out 1
      have zf2 : w2.frozen? ⟨gz, 2, none⟩ = false := blk_frozen HZ2.out 2
      go_wp2
      have hv : (([] : List Int), ([] : List Int), (0 : Int), r) = (r1, r2, r3, r4) := by
        rw [← HV.out, pushV, HR.out, if_pos H0.out]
      simp only [Prod.mk.injEq] at hv
      obtain ⟨rfl, rfl, rfl, rfl⟩ := hv
      refine bodyPost_ret (results_ct rfl _ _ gz 74 #[.slice none 0 0, .slice none 0 0, .int .i64 0] (0, 0) _ rfl (zero_put HZ2.out) Try.underlying74 rfl (by kernel_rfl)) rfl ?_
      exact ⟨_, _, rfl, Kd.R_nil _ _ _ _ _, Kd.R_nil _ _ _ _ _, below_set (below_set (below_set HBL2.out HGE.out) HGE.out) HGE.out⟩
  · rw [if_neg hs] at h
    cases h
end Go.Proofs.Ytobadajeekdakaa.Print
