/- slices.ContainsFunc over rows; cnf.Holds and cnf.Value: their contracts. -/
import Derived.Test.YtobadajeekdakaaL
namespace Go.Proofs.Ytobadajeekdakaa.Print
open Go.RowKit Go.Proofs.YtobadajeekdakaaW.PrintWords Go.Proofs.YtobadajeekdakaaW.PrintLast Go.Proofs.YtobadajeekdakaaW.PrintMore
attribute [local go_sem] max2_int min2_int max_two min_two
set_option linter.unusedVariables false
set_option linter.unusedSimpArgs false

def RowHit (J I : Nat → World → Prop) (n : Nat) (e : Ending) (w' : World) : Prop :=
  (∃ k, k < n ∧ e = .returned (.int .i64 (k : Int)) ∧ J k w') ∨ (e = .returned (.int .i64 (-1)) ∧ I n w')
set_option maxHeartbeats 1000000 in
theorem indexRows_any (g : Nat) (lb : Array Value) (eg : ∀ args w, (callFunc g args).run Try.prog w = .ok (.enter g args) w)
    (A : Option Addr) (c : Nat) (xs : List (List Int)) (J I : Nat → World → Prop) (w : World)
    (hC : ∀ k W, I k W → Kd.C (Kd.slice 3 (Kd.int .i64)) W A xs.length xs)
    (hs : ∀ k W, k < xs.length → I k W → ∀ Ar cr, (rd_L1 xs k).length ≤ cr → Kd.C (Kd.int .i64) W Ar (rd_L1 xs k).length (rd_L1 xs k) → Calls Try.prog g (#[.slice Ar (rd_L1 xs k).length cr] ++ lb) W (PredPost (J k) (I (k + 1))))
    (h0 : I 0 w) :
    Calls Try.prog 172 #[.slice A xs.length c, .func (.func g) #[] lb] w (RowHit J I xs.length) := by
  have HC := Aside0.mk hC
  have HS := Aside0.mk hs
  have H0 := Aside0.mk h0
  clear hC hs h0
  go_enter Try.func172, Try.ntmps172
  go_wp2
  go_loopg [5, 8] xs.length (fun gg _ s8 wr => ∃ kk : Nat, kk ≤ xs.length ∧ xs.length - kk ≤ gg ∧ s8 = .int .i64 kk ∧ Aside0 (I kk wr))
  case atStart => exact ⟨0, Nat.zero_le _, by omega, rfl, H0⟩
  case round =>
    obtain ⟨kk, hkk, hg, rfl, HI⟩ := hrel
    by_cases hlt : kk < xs.length
    · have hltz : (kk : Int) < (xs.length : Int) := by omega
      have hm : xs.length ≤ 9223372036854775807 := (HC.out kk wr HI.out).2.1
      obtain ⟨ad, Ar, cr, e1, hcell, hcr, hrow⟩ := at_L1 (HC.out kk wr HI.out) (kk : Int) (by omega) hltz
      cases e1
      rw [Int.toNat_natCast] at hcell
      have hcall := HS.out kk wr hlt HI.out Ar cr hcr hrow
      clear hcr hrow
      generalize (rd_L1 xs (kk : Int)).length = nr at hcell hcall
      go_wp2_with (go_at_fn g; refine hcall.mono ?_; rintro e w' (⟨rfl, hJ⟩ | ⟨rfl, hI⟩))
      · have HJ := Aside0.mk hJ
        clear hJ
        go_wp2
        go_ret
        exact .inl ⟨kk, hlt, rfl, HJ.out⟩
      · have HI2 := Aside0.mk hI
        clear hI
        go_wp2
        go_roundg (xs.length - (kk + 1))
        case measure => omega
        case rel => exact ⟨kk + 1, by omega, by omega, by go_num, HI2⟩
    · have hltz : ¬ (kk : Int) < (xs.length : Int) := by omega
      have : kk = xs.length := by omega
      subst this
      go_wp2
      go_ret
      exact .inr ⟨rfl, HI.out⟩
set_option maxHeartbeats 1000000 in
theorem containsRows_any (g : Nat) (lb : Array Value) (eg : ∀ args w, (callFunc g args).run Try.prog w = .ok (.enter g args) w)
    (A : Option Addr) (c : Nat) (xs : List (List Int)) (J I : Nat → World → Prop) (w : World)
    (hC : ∀ k W, I k W → Kd.C (Kd.slice 3 (Kd.int .i64)) W A xs.length xs)
    (hs : ∀ k W, k < xs.length → I k W → ∀ Ar cr, (rd_L1 xs k).length ≤ cr → Kd.C (Kd.int .i64) W Ar (rd_L1 xs k).length (rd_L1 xs k) → Calls Try.prog g (#[.slice Ar (rd_L1 xs k).length cr] ++ lb) W (PredPost (J k) (I (k + 1))))
    (h0 : I 0 w) :
    Calls Try.prog 123 #[.slice A xs.length c, .func (.func g) #[] lb] w (AnyPost J I xs.length) := by
  have hcall := indexRows_any g lb eg A c xs J I w hC hs h0
  clear hC hs h0
  go_enter Try.func123, Try.ntmps123
  go_wp2_with (go_at_call 172; refine hcall.mono ?_; rintro e w' (⟨k, hk, rfl, hJ⟩ | ⟨rfl, hI⟩))
  · have HJ := Aside0.mk hJ
    clear hJ
    go_wp2
    go_ret
    exact .inl ⟨k, hk, by simp, HJ.out⟩
  · have HI := Aside0.mk hI
    clear hI
    go_wp2
    go_ret
    exact .inr ⟨by simp, HI.out⟩
theorem rd_L1_nat {xs : List (List Int)} {k : Nat} (hk : k < xs.length) : rd_L1 xs (k : Int) = xs[k] := by
  unfold rd_L1; rw [Int.toNat_natCast, List.getD_eq_getElem?_getD, List.getElem?_eq_getElem hk]; rfl
theorem any_rows_hit (p : List Int → Bool) (xs : List (List Int)) (k : Nat) (hk : k < xs.length) (hp : p (rd_L1 xs k) = true) : xs.any p = true :=
  List.any_eq_true.2 ⟨rd_L1 xs k, by rw [rd_L1_nat hk]; exact List.getElem_mem _, hp⟩
theorem any_rows_none (p : List Int → Bool) (xs : List (List Int)) (h : ∀ k, k < xs.length → p (rd_L1 xs (k : Nat)) = false) : xs.any p = false := by
  rw [List.any_eq_false]
  intro x hx
  obtain ⟨k, hk, rfl⟩ := List.getElem_of_mem hx
  have := h k hk
  rw [rd_L1_nat hk] at this
  simp [this]
/-- A literal under an assignment. -/
def atB (a : List Bool) (v : Nat) : Bool := decide (v < a.length) && a.getD v false
def litB (a : List Bool) (x : Int) : Bool := mayB 65536 x && (atB a x.natAbs == decide (0 < x))
def holdsV (l : List Int) (a : List Bool) : Bool := l.any (litB a)
def valueV (n : Int) (L : List (List Int)) (a : List Bool) : Bool := decide (cnfCheckV n L = 0) && !(L.any fun l => !holdsV l a)
theorem lit_of (x : Int) (h0 : -65536 ≤ x) (h1 : x ≤ 65536) (w : World) : Calls Try.prog 131 #[.int .i64 x] w fun e w' => e = .returned (.int .i64 x.natAbs) ∧ w = w' := by
  have HM := Aside0.mk (show mx x (-x) = (x.natAbs : Int) by unfold mx; split <;> omega)
  go_enter Try.func131, Try.ntmps131
  go_wp2
  all_goals (go_ret; exact ⟨ret_eq (by first | exact HM.out | (rw [← HM.out]; unfold mx; split <;> omega) | omega), rfl⟩)
theorem C_bool {w : World} {A : Option Addr} {a : List Bool} (h : Kd.C Kd.bool w A a.length a) (k : Nat) (hk : k < a.length) : ∃ ad, A = some ad ∧ w.cell? (ad.add k) = some (.bool (a.getD k false)) := by
  obtain ⟨ad, c, e, _, hK, hc0⟩ := Kd.C_get h false (k : Int) (by omega) (by omega)
  have hK' : c = [Value.bool (a.getD (k : Int).toNat false)] := hK
  subst hK'
  have hq := hc0 0 _ rfl
  have hs : Kd.bool.sz = 1 := rfl
  rw [hs, Nat.mul_one, Nat.add_zero, Int.toNat_natCast] at hq
  exact ⟨ad, e, hq⟩
set_option maxHeartbeats 1000000 in
theorem lit_true (x : Int) (A : Option Addr) (c : Nat) (a : List Bool) (w : World) (hC : Kd.C Kd.bool w A a.length a) :
    Calls Try.prog 136 #[.int .i64 x, .slice A a.length c] w fun e w' => e = .returned (.bool (litB a x)) ∧ w = w' := by
  have hmay := lit_may x 65536 (by omega) (by omega)
  have hm : a.length ≤ 9223372036854775807 := hC.2.1
  by_cases hb : mayB 65536 x = true
  · rw [hb] at hmay
    have hx : x ≠ 0 ∧ -65536 ≤ x ∧ x ≤ 65536 := of_decide_eq_true hb
    have hof := lit_of x hx.2.1 hx.2.2
    have HV := Aside0.mk (show litB a x = (atB a x.natAbs == decide (0 < x)) by unfold litB; rw [hb, Bool.true_and])
    obtain ⟨v, hv⟩ : ∃ v : Nat, v = x.natAbs := ⟨_, rfl⟩
    rw [← hv] at hof HV
    have hvl : v ≤ 65536 := by omega
    clear hb hv
    by_cases hlt : v < a.length
    · obtain ⟨ad, e1, hcell⟩ := C_bool hC v hlt
      cases e1
      have HV2 := Aside0.mk (show litB a x = (a.getD v false == decide (0 < x)) by rw [HV.out]; unfold atB; rw [decide_eq_true hlt, Bool.true_and])
      have hltz : (v : Int) < (a.length : Int) := by omega
      generalize a.getD v false = bv at hcell HV2
      clear hC
      go_enter Try.func136, Try.ntmps136
      go_wp2_with (first
        | (go_at_call 129; refine (hmay _).mono ?_; rintro e w' ⟨rfl, rfl⟩)
        | (go_at_call 131; refine (hof _).mono ?_; rintro e w' ⟨rfl, rfl⟩))
      all_goals
        go_ret
        exact ⟨ret_b (by rw [HV2.out]), rfl⟩
    · have HV2 := Aside0.mk (show litB a x = (false == decide (0 < x)) by rw [HV.out]; unfold atB; rw [decide_eq_false hlt, Bool.false_and])
      have hltz : ¬ (v : Int) < (a.length : Int) := by omega
      have hd : decide ((v : Int) < (a.length : Int)) = false := decide_eq_false hltz
      have hd2 : decide (v < a.length) = false := decide_eq_false hlt
      clear hC
      go_enter Try.func136, Try.ntmps136
      go_wp2_with (first
        | (go_at_call 129; refine (hmay _).mono ?_; rintro e w' ⟨rfl, rfl⟩)
        | (go_at_call 131; refine (hof _).mono ?_; rintro e w' ⟨rfl, rfl⟩))
      all_goals
        go_ret
        exact ⟨ret_b (by rw [HV2.out]; cases decide ((0 : Int) < x) <;> rfl), rfl⟩
  · have hb' : mayB 65536 x = false := by simpa using hb
    rw [hb'] at hmay
    have HV := Aside0.mk (show litB a x = false by unfold litB; rw [hb', Bool.false_and])
    clear hb hb' hC
    go_enter Try.func136, Try.ntmps136
    go_wp2_with (go_at_call 129; refine (hmay _).mono ?_; rintro e w' ⟨rfl, rfl⟩)
    go_ret
    exact ⟨ret_b (by rw [HV.out]), rfl⟩
theorem holds1 (x : Int) (A : Option Addr) (c : Nat) (a : List Bool) (gb : Nat) (w : World) (hC : Kd.C Kd.bool w A a.length a) (hb : w.heap[gb]? = some (.cells #[.slice A a.length c] 62 (0, 0))) :
    Calls Try.prog 135 #[.int .i64 x, .pointer (some ⟨gb, 0, none⟩)] w fun e w' => e = .returned (.bool (litB a x)) ∧ w = w' := by
  have hcall := lit_true x A c a w hC
  have d0 : w.cell? ⟨gb, 0, none⟩ = some (.slice A a.length c) := cell_in hb 0 rfl
  generalize litB a x = b at hcall ⊢
  clear hC hb
  go_enter Try.func135, Try.ntmps135
  go_wp2_with (go_at_call 136; refine hcall.mono ?_; rintro e w' ⟨rfl, rfl⟩)
  go_ret
  exact ⟨rfl, rfl⟩
def cnf_Holds.f (l0 : List Int) (l1 : List Bool) : Option Bool := some (holdsV l0 l1)
theorem cnf_Holds.calls (A0 : Option Addr) (c0 : Nat) (l0 : List Int) (A1 : Option Addr) (c1 : Nat) (l1 : List Bool) (r : Bool) (w : World) (hr0 : Kd.C (Kd.int .i64) w A0 l0.length l0) (hc0 : l0.length ≤ c0) (hr1 : Kd.C Kd.bool w A1 l1.length l1) (hc1 : l1.length ≤ c1) (h : cnf_Holds.f l0 l1 = some r) :
    Calls Try.prog 54 #[.slice A0 l0.length c0, .slice A1 l1.length c1] w fun e w' => e = .returned (.bool r) ∧ Below w.heap.size w w' := by
  obtain rfl : holdsV l0 l1 = r := Option.some.inj h
  have eg : ∀ args w, (callFunc 135 args).run Try.prog w = .ok (.enter 135 args) w := enters_of Try.func135 (by kernel_rfl) rfl
  have hcall := containsFunc_same (litB l1) 135 #[.pointer (some ⟨w.heap.size, 0, none⟩)] eg A0 c0 l0 (w.alloc (.cells #[.slice A1 l1.length c1] 62 (0, 0))) (Kd.C_alloc hr0 _) (fun x => holds1 x A1 c1 l1 w.heap.size _ (Kd.C_alloc hr1 _) (blk_new w _))
  have HR := Aside0.mk (show l0.any (litB l1) = holdsV l0 l1 from rfl)
  generalize l0.any (litB l1) = b at hcall HR
  clear hr0 hr1 h hc0 hc1
  go_enter Try.func54, Try.ntmps54
  go_wp2_with (go_at_call 100; refine hcall.mono ?_; rintro e w' ⟨rfl, rfl⟩)
  go_ret
  exact ⟨ret_b HR.out, (Below.refl _ _).alloc (Nat.le_refl _) _⟩
theorem value1 (A0 : Option Addr) (c0 : Nat) (l0 : List Int) (A : Option Addr) (c : Nat) (a : List Bool) (gb : Nat) (w : World) (hr0 : Kd.C (Kd.int .i64) w A0 l0.length l0) (hc0 : l0.length ≤ c0) (hC : Kd.C Kd.bool w A a.length a) (hca : a.length ≤ c) (hb : w.heap[gb]? = some (.cells #[.slice A a.length c] 62 (0, 0))) :
    Calls Try.prog 134 #[.slice A0 l0.length c0, .pointer (some ⟨gb, 0, none⟩)] w fun e w' => e = .returned (.bool (!holdsV l0 a)) ∧ Below w.heap.size w w' := by
  have hcall := cnf_Holds.calls A0 c0 l0 A c a _ w hr0 hc0 hC hca rfl
  have d0 : w.cell? ⟨gb, 0, none⟩ = some (.slice A a.length c) := cell_in hb 0 rfl
  generalize holdsV l0 a = b at hcall ⊢
  clear hC hb hr0 hc0
  go_enter Try.func134, Try.ntmps134
  go_wp2_with (go_at_call 54; refine hcall.mono ?_; rintro e w' ⟨rfl, hb⟩; have HB := Aside0.mk hb; clear hb)
  go_ret
  exact ⟨rfl, HB.out⟩
def cnf_Value.f (a0_0 : Int) (l0_1 : List (List Int)) (l1 : List Bool) : Option Bool := some (valueV a0_0 l0_1 l1)
set_option maxHeartbeats 1000000 in
theorem cnf_Value.calls (a0_0 : Int) (A0_1 : Option Addr) (c0_1 : Nat) (l0_1 : List (List Int)) (A1 : Option Addr) (c1 : Nat) (l1 : List Bool) (r : Bool) (w : World) (hr0_1 : Kd.C (Kd.slice 3 (Kd.int .i64)) w A0_1 l0_1.length l0_1) (hc0_1 : l0_1.length ≤ c0_1) (hr1 : Kd.C Kd.bool w A1 l1.length l1) (hc1 : l1.length ≤ c1) (h : cnf_Value.f a0_0 l0_1 l1 = some r) :
    Calls Try.prog 53 #[.agg #[.int .i64 a0_0, .slice A0_1 l0_1.length c0_1], .slice A1 l1.length c1] w fun e w' => e = .returned (.bool r) ∧ Below w.heap.size w w' := by
  obtain rfl : valueV a0_0 l0_1 l1 = r := Option.some.inj h
  clear h
  have HRL := Aside0.mk hr0_1
  have HCL := Aside0.mk hc0_1
  have HRA := Aside0.mk hr1
  have HCA := Aside0.mk hc1
  clear hr0_1 hc0_1 hr1 hc1
  have eg : ∀ args w, (callFunc 134 args).run Try.prog w = .ok (.enter 134 args) w := enters_of Try.func134 (by kernel_rfl) rfl
  obtain ⟨ec, hec⟩ : ∃ ec, cnfCheckV a0_0 l0_1 = ec := ⟨_, rfl⟩
  have HPC := Aside0.mk (show cnf_Check.f a0_0 l0_1 = some ec from congrArg some hec)
  have HV := Aside0.mk (show valueV a0_0 l0_1 l1 = (decide (ec = 0) && !(l0_1.any fun l => !holdsV l l1)) by unfold valueV; rw [hec])
  clear hec
  generalize valueV a0_0 l0_1 l1 = rv at HV ⊢
  have hbox1 := blk_new w (.cells #[.int .i64 a0_0, .slice A0_1 l0_1.length c0_1] 24 (0, 0))
  have hrows : ∀ W gb, W.heap[gb]? = some (.cells #[.slice A1 l1.length c1] 62 (0, 0)) → Below w.heap.size w W → Calls Try.prog 123 #[.slice A0_1 l0_1.length c0_1, .func (.func 134) #[] #[.pointer (some ⟨gb, 0, none⟩)]] W fun e W' => e = .returned (.bool (l0_1.any fun l => !holdsV l l1)) ∧ Below W.heap.size W W' := fun W gb hbx hB => by
    refine (containsRows_any 134 #[.pointer (some ⟨gb, 0, none⟩)] eg A0_1 c0_1 l0_1 (fun k W' => Below W.heap.size W W' ∧ (!holdsV (rd_L1 l0_1 k) l1) = true) (fun k W' => Below W.heap.size W W' ∧ ∀ j, j < k → (!holdsV (rd_L1 l0_1 (j : Nat)) l1) = false) W
      (fun k W' hI => Kd.C_below (Kd.C_below HRL.out hB) hI.1) (fun k W' hk hI Ar cr hcr hrow => ?_) ⟨Below.refl _ _, fun j hj => absurd hj (Nat.not_lt_zero _)⟩).mono ?_
    · refine (value1 Ar cr (rd_L1 l0_1 k) A1 c1 l1 gb W' hrow hcr (Kd.C_below (Kd.C_below HRA.out hB) hI.1) HCA.out (blk_below hbx hI.1)).mono ?_
      rintro e W2 ⟨rfl, hb2⟩
      have hb3 := below_step hI.1 hb2
      cases hq : (!holdsV (rd_L1 l0_1 (k : Int)) l1) with
      | true => exact Or.inl ⟨rfl, hb3, by first | rfl | exact hq⟩
      | false =>
        refine Or.inr ⟨rfl, hb3, fun j hj => ?_⟩
        rcases Nat.lt_succ_iff_lt_or_eq.mp hj with hj | rfl
        · exact hI.2 j hj
        · exact hq
    · rintro e W' (⟨k, hk, rfl, hb, hq⟩ | ⟨rfl, hb, hq⟩)
      · exact ⟨ret_b (any_rows_hit (fun l => !holdsV l l1) _ k hk hq).symm, hb⟩
      · exact ⟨ret_b (any_rows_none (fun l => !holdsV l l1) _ hq).symm, hb⟩
  have HROWS := Aside0.mk hrows
  clear hrows hbox1
  by_cases he : ec = 0
  · subst he
    have hd : ((0 : Int) == 0) = true := by simp
    have HV2 := Aside0.mk (show rv = !(l0_1.any fun l => !holdsV l l1) by rw [HV.out]; simp)
    generalize (l0_1.any fun l => !holdsV l l1) = ab at HROWS HV2
    go_enter Try.func53, Try.ntmps53
    go_wp2_with (first
      | ((with_reducible refine gate_dst (N := 2) rfl ?_); refine box_event ?hg (N := 2) ?hd (cs := #[.int .i64 a0_0, .slice A0_1 l0_1.length c0_1]) (t := 24) ?hr ?_; (case hd => rfl); (case hg => rfl); (case hr => first | (go_simp; done) | (go_simp; rfl)); intro gb hgb w1 hbox hb1; have HBX := Aside0.mk hbox; have HB := Aside0.mk hb1; clear hbox hb1 hgb)
      | ((with_reducible refine gate_dst (N := 3) rfl ?_); refine box_event ?hg (N := 3) ?hd (cs := #[.slice A1 l1.length c1]) (t := 62) ?hr ?_; (case hd => rfl); (case hg => rfl); (case hr => first | (go_simp; done) | (go_simp; rfl)); intro ga hga w2 hbox hb2; have HBX2 := Aside0.mk (blk_below HBX.out hb2); have HBA2 := Aside0.mk hbox; have HB2 := Aside0.mk (below_step HB.out hb2); have cc0 := cell_in HBX2.out 0 rfl; have cc1 := cell_in HBX2.out 1 rfl; clear hbox hb2 hga HBX HB)
      | (go_at_call 55; refine (cnf_Check.calls a0_0 A0_1 c0_1 l0_1 0 _ (Kd.C_below HRL.out HB2.out) HCL.out HPC.out).mono ?_; rintro e w3 ⟨rfl, hb3⟩; have HBX3 := Aside0.mk (blk_below HBX2.out hb3); have HBA3 := Aside0.mk (blk_below HBA2.out hb3); have HB3 := Aside0.mk (below_step HB2.out hb3); have dd1 : w3.cell? ⟨gb, 1, none⟩ = some (.slice A0_1 l0_1.length c0_1) := cell_in HBX3.out 1 rfl; clear hb3 cc0 cc1 HBX2 HBA2 HB2)
      | (go_at_call 123; refine (HROWS.out _ ga HBA3.out HB3.out).mono ?_; rintro e w4 ⟨rfl, hb4⟩; have HB4 := Aside0.mk (below_step HB3.out hb4); clear hb4))
    all_goals
      go_ret
      exact ⟨ret_b HV2.out.symm, HB4.out⟩
  · have hd : (ec == 0) = false := by simp [he]
    have HV2 := Aside0.mk (show rv = false by rw [HV.out]; simp [he])
    clear he
    go_enter Try.func53, Try.ntmps53
    go_wp2_with (first
      | ((with_reducible refine gate_dst (N := 2) rfl ?_); refine box_event ?hg (N := 2) ?hd (cs := #[.int .i64 a0_0, .slice A0_1 l0_1.length c0_1]) (t := 24) ?hr ?_; (case hd => rfl); (case hg => rfl); (case hr => first | (go_simp; done) | (go_simp; rfl)); intro gb hgb w1 hbox hb1; have HBX := Aside0.mk hbox; have HB := Aside0.mk hb1; clear hbox hb1 hgb)
      | ((with_reducible refine gate_dst (N := 3) rfl ?_); refine box_event ?hg (N := 3) ?hd (cs := #[.slice A1 l1.length c1]) (t := 62) ?hr ?_; (case hd => rfl); (case hg => rfl); (case hr => first | (go_simp; done) | (go_simp; rfl)); intro ga hga w2 hbox hb2; have HBX2 := Aside0.mk (blk_below HBX.out hb2); have HB2 := Aside0.mk (below_step HB.out hb2); have cc0 := cell_in HBX2.out 0 rfl; have cc1 := cell_in HBX2.out 1 rfl; clear hbox hb2 hga HBX HB)
      | (go_at_call 55; refine (cnf_Check.calls a0_0 A0_1 c0_1 l0_1 ec _ (Kd.C_below HRL.out HB2.out) HCL.out HPC.out).mono ?_; rintro e w3 ⟨rfl, hb3⟩; have HB3 := Aside0.mk (below_step HB2.out hb3); clear hb3 cc0 cc1))
    go_ret
    exact ⟨ret_b HV2.out.symm, HB3.out⟩
end Go.Proofs.Ytobadajeekdakaa.Print
