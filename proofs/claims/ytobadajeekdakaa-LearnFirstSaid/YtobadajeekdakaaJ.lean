/- learn.Less: its contract. -/
import Derived.Test.YtobadajeekdakaaI
import Derived.Test.YtobadajeekdakaaH2
import Derived.Test.YtobadajeekdakaaR
import Derived.OrdersHeld
import Derived.Deep.RegionHeld3
namespace Go.Proofs.Ytobadajeekdakaa.Print
open Go.RowKit Go.Proofs.YtobadajeekdakaaW.PrintWords Go.Proofs.YtobadajeekdakaaW.PrintLast Go.Proofs.YtobadajeekdakaaW.PrintMore
attribute [local go_sem] max2_int min2_int max_two min_two
attribute [local go_sem] Oper.semAt_some
set_option linter.unusedVariables false
set_option linter.unusedSimpArgs false

theorem run_storeFunc (a : Addr) (m : Mode) (w : World) (f : Fn) (ts cs : Array Value) : (store a (.func f ts cs) m).run Try.prog w = stored Try.prog w a (.func f ts cs) m := run_store Try.prog w a _ m rfl
theorem built_one (W : World) (x : Int) (t : TypeId) : Kd.C (Kd.int .i64) (W.alloc (.cells #[.int .i64 x] t (0, 0))) (some ⟨W.heap.size, 0, none⟩) [x].length [x] := by
  refine ⟨rfl, by simp, fun _ => ⟨_, rfl, fun j p hj => ?_⟩⟩
  cases j with
  | zero =>
    refine ⟨[.int .i64 x], rfl, by rw [show p = x from by simpa using hj.symm]; rfl, fun i u hu => ?_⟩
    cases i with
    | zero => exact (cell_in (blk_new W (.cells #[.int .i64 x] t (0, 0))) 0 rfl).trans hu
    | succ i => simp at hu
  | succ j => simp at hj
section
variable {P : Program} {ops : Array Oper} {Q : Exit → Act → World → Prop}
theorem wpOp_skips {i : Nat} {o : Oper} {w w' : World} {K : Act → World → Prop} {a : Act} (hi : ops[i]? = some o) (hw : Region.wanted o (yielded ops a.tmps) = true)
    (hd : o.dst = none) (hrun : (execOp a.eval o).run P w = .ok .skip w') (hK : K a w') : wpOp P ops Q i K a w := by
  unfold wpOp
  rw [hi]
  dsimp only
  rw [if_pos hw]
  refine Or.inl ?_
  unfold Oper.wp
  rw [hrun, Oper.upon_skip, hd]
  exact hK
theorem wpOp_callsD {i : Nat} {o : Oper} {f : FuncId} {args : Array Value} {w : World} {K : Act → World → Prop} {a : Act} {R : Ending → World → Prop} (N : Tmp) (hi : ops[i]? = some o) (hw : Region.wanted o (yielded ops a.tmps) = true) (hd : o.dst = some N)
    (hrun : (execOp a.eval o).run P w = .ok (.enter f args) w) (hc : Calls P f args w R) (hR : ∀ e w', R e w' → ∃ v, e = .returned v ∧ K (a.put (some N) v) w') : wpOp P ops Q i K a w :=
  wpOp_calls hi hw hrun hc (fun e w' h => by rw [hd]; exact hR e w' h)
theorem wpAnyH_takeD {md : Region.Mode} {S : World → Prop} {i : Nat} {oi : Oper} {v : Value} {fuel : Nat} {listed : Array Bool} {a : Act} {w : World} (N : Tmp) (hi : ops[i]? = some oi) (hd : oi.dst = some N)
    (hs : Region.noSelect ops = true) (hf : Region.free md ops listed i = true) (hr : (Region.ready md ops listed).contains i = true)
    (hQ : ∀ c a w, Q (.panic c) (a.put (some N) v) w → Q (.panic c) a w) (hy : YieldsIf P ops S oi v a) (hS : S w)
    (h : wpAnyH P md ops Q S fuel (listed.setIfInBounds i true) (a.put (some N) v) w) : wpAnyH P md ops Q S (fuel + 1) listed a w :=
  wpAnyH_take hi hs hf hr (by rw [hd]; exact hQ) hy hS (by rw [hd]; exact h)
end
theorem gate_upd {P : Program} {ops : Array Oper} {rest : List Oper} {o : Oper} {a : Act} {Q : Exit → Act → World → Prop} {W : World} {t : TypeId} {m x v : Operand} (_ho : o.op = .mapUpdate t m x v) (h : wpList P ops Q (o :: rest) a W) : wpList P ops Q (o :: rest) a W := h
/-- The first loop of Less: its blocks. -/
structure L1St (w4 : World) (gin bin bvs : Nat) (l : List Int) (k : Nat) (W : World) : Prop where
  b : Below w4.heap.size w4 W
  hin : W.heap[gin]? = some (.cells #[.map (some bin)] 93 (0, 0))
  min : MapOf boolE W bin k (dset (l.take k))
  mvs : MapOf boolE W bvs k (dset ((l.take k).map varOf))
  far : bin ≠ bvs ∧ w4.heap.size ≤ bin ∧ w4.heap.size ≤ bvs
section
variable {w4 W W' : World} {gin bin bvs : Nat} {l : List Int} {k : Nat}
theorem L1St.below (h : L1St w4 gin bin bvs l k W) (hb : Below W.heap.size W W') : L1St w4 gin bin bvs l k W' :=
  ⟨below_step h.b hb, blk_below h.hin hb, h.min.below hb, h.mvs.below hb, h.far⟩
theorem take_next {l : List Int} {k : Nat} (hk : k < l.length) : l.take (k + 1) = l.take k ++ [rd l (k : Int)] := by
  rw [List.take_succ_eq_append_getElem hk]; simp [rd, List.getElem?_eq_getElem hk]
/-- Both stores done, in either order. -/
theorem L1St.next (h : L1St w4 gin bin bvs l k W) (hk : k < l.length) {x : Int} (hx : rd l (k : Int) = x) (hm : MapOf boolE W' bin (k + 1) (upd (dset (l.take k)) x (some true)))
    (hv : MapOf boolE W' bvs (k + 1) (upd (dset ((l.take k).map varOf)) (varOf x) (some true))) (ht : Twice W W' (fun q => q = bin ∨ q = bvs)) : L1St w4 gin bin bvs l (k + 1) W' := by
  refine ⟨h.b.trans (ht.base ?_ h.b.size), ht.cells h.hin ?_, ?_, ?_, h.far⟩
  · rintro q (rfl | rfl)
    · exact h.far.2.1
    · exact h.far.2.2
  · rintro (e | e)
    · exact blk_map h.hin h.min e
    · exact blk_map h.hin h.mvs e
  · rw [take_next hk, hx, ← dset_snoc]; exact hm
  · rw [take_next hk, hx, List.map_append, List.map_cons, List.map_nil, ← dset_snoc]; exact hv
end
theorem lessOk_step {t : List S41} {l : List Int} {k : Nat} (hk : k < l.length) :
    lessOkB t ((l.take k).map varOf) (l.drop k) = ((!(decide (rd l (k : Int) = 0) || (((l.take k).map varOf).contains (varOf (rd l (k : Int))) || !knownB t (rd l (k : Int))))) && lessOkB t ((l.take (k + 1)).map varOf) (l.drop (k + 1))) := by
  rw [List.drop_eq_getElem_cons hk, lessOkB, take_next hk, List.map_append, List.map_cons, List.map_nil]
  simp only [rd, Int.toNat_natCast, List.getD_eq_getElem?_getD, List.getElem?_eq_getElem hk, Option.getD_some]
theorem lessOk_all {t : List S41} : ∀ {l vs : List Int}, lessOkB t vs l = true → (∀ x ∈ l, x ≠ 0 ∧ varOf x ∉ vs ∧ knownB t x = true) ∧ (l.map varOf).Nodup
  | [], vs, _ => ⟨by simp, List.nodup_nil⟩
  | x :: l, vs, h => by
    rw [lessOkB, Bool.and_eq_true, Bool.not_eq_true', Bool.or_eq_false_iff, Bool.or_eq_false_iff] at h
    obtain ⟨⟨h1, h2, h3⟩, h4⟩ := h
    obtain ⟨i1, i2⟩ := lessOk_all h4
    have h2' : varOf x ∉ vs := by simpa using h2
    have h3' : knownB t x = true := by simpa using h3
    refine ⟨fun y hy => ?_, ?_⟩
    · rcases List.mem_cons.1 hy with rfl | hy
      · exact ⟨by simpa using h1, h2', h3'⟩
      · obtain ⟨q1, q2, q3⟩ := i1 y hy
        exact ⟨q1, fun hm => q2 (List.mem_append_left _ hm), q3⟩
    · rw [List.map_cons, List.nodup_cons]
      refine ⟨fun hm => ?_, i2⟩
      obtain ⟨y, hy, e⟩ := List.mem_map.1 hm
      exact (i1 y hy).2.1 (List.mem_append_right _ (by rw [e]; simp))
theorem topOf_next (t : List S41) {l : List Int} {k : Nat} (hk : k < l.length) : topOf t (l.take (k + 1)) = mx (topOf t (l.take k)) (lvlOf t (rd l (k : Int))) := by
  unfold topOf; rw [take_next hk, List.foldl_append]; rfl
theorem told_sorted {out ys : List Int} (hT : Told (dset out) ys) (hn : (out.map varOf).Nodup) (hwf : ∀ y ∈ out, I64 y) : ys = sortV out := by
  refine sortV_only hn ?_ hT.asc
  have hno : out.Nodup := by
    rw [List.nodup_iff_pairwise_ne] at hn ⊢
    rw [List.pairwise_map] at hn
    exact hn.imp (fun hne e => hne (congrArg varOf e))
  refine (List.perm_ext_iff_of_nodup hT.nd hno).2 fun y => ?_
  constructor
  · intro hy
    have := (hT.mem y (hT.wf y hy)).1 hy
    rw [dset_isSome] at this
    simpa using this
  · intro hy
    refine (hT.mem y (hwf y hy)).2 ?_
    rw [dset_isSome]
    simpa using hy
theorem cntK_none (t : List S41) : ∀ k, cntK t (fun _ => none) k = 0
  | 0 => rfl
  | k + 1 => by unfold cntK; rw [cntK_none t k]; simp

set_option maxHeartbeats 8000000 in
set_option maxRecDepth 100000 in
theorem learn_Less.calls (a0_0 : Int) (A0_1 : Option Addr) (c0_1 : Nat) (l0_1 : List (List Int)) (A1 : Option Addr) (c1 : Nat) (l1 : List S41) (A2 : Option Addr) (c2 : Nat) (l2 : List Int) (r1 : List Int) (r2 : Int) (w : World)
    (hr0_1 : Kd.C (Kd.slice 3 (Kd.int .i64)) w A0_1 l0_1.length l0_1) (hc0_1 : l0_1.length ≤ c0_1) (hr1 : Kd.C k41 w A1 l1.length l1) (hc1 : l1.length ≤ c1) (hr2 : Kd.C (Kd.int .i64) w A2 l2.length l2) (hc2 : l2.length ≤ c2) (h : learn_Less.f a0_0 l0_1 l1 l2 = some (r1, r2)) :
    Calls Try.prog 31 #[.agg #[.int .i64 a0_0, .slice A0_1 l0_1.length c0_1], .slice A1 l1.length c1, .slice A2 l2.length c2] w fun e w' => ∃ v0_ : Value, e = .returned (.tuple #[v0_, .int .i64 r2]) ∧ Kd.R (Kd.int .i64) 3 w' w.heap.size (fun _ => True) v0_ r1 ∧ Below w.heap.size w w' := by
  have HRL := Aside0.mk hr0_1
  have HCL := Aside0.mk hc0_1
  have HRT := Aside0.mk hr1
  have HCT := Aside0.mk hc1
  have HR2 := Aside0.mk hr2
  have hm : l1.length ≤ 9223372036854775807 := hr1.2.1
  have hmL : l0_1.length ≤ 9223372036854775807 := hr0_1.2.1
  have hm2 : l2.length ≤ 9223372036854775807 := hr2.2.1
  clear hr0_1 hr1 hc1 hc0_1 hr2 hc2
  obtain ⟨ec, hec⟩ : ∃ ec, propCheckV a0_0 l0_1 l1 = ec := ⟨_, rfl⟩
  have HPC := Aside0.mk (show prop_Check.f a0_0 l0_1 l1 = some ec from congrArg some hec)
  unfold learn_Less.f at h
  rw [hec] at h
  by_cases he : ec = 0
  · subst he
    rw [if_neg (by simp)] at h
    by_cases hfit : (fitB l0_1 l1 && (decide (l2.length ≤ 5000) && l2.all fun x => (Lit.int .i64 x).wf)) = false
    · rw [if_pos hfit] at h; cases h
    · rw [if_neg hfit] at h
      clear hec
      have HW2 : Aside0 (∀ x ∈ l2, I64 x) := ⟨by simp only [Bool.not_eq_false, Bool.and_eq_true, List.all_eq_true] at hfit; exact hfit.2.2⟩
      have HH := Aside0.mk h
      clear h
      go_enter Try.func31, Try.ntmps31
      go_upto_region 4 with (first
        | ((with_reducible refine gate_dst (N := 3) rfl ?_); refine box_event ?hg (N := 3) ?hd (cs := #[.int .i64 a0_0, .slice A0_1 l0_1.length c0_1]) (t := 24) ?hr ?_; (case hd => rfl); (case hg => rfl); (case hr => first | (go_simp; done) | (go_simp; rfl)); intro gb hgb w1 hbox hb1; have HBX := Aside0.mk hbox; have HB := Aside0.mk hb1; have HGB := Aside0.mk (show w.heap.size ≤ gb by rw [hgb]; exact Nat.le_refl _); clear hbox hb1 hgb)
        | ((with_reducible refine gate_dst (N := 4) rfl ?_); refine box_event ?hg (N := 4) ?hd (cs := #[.slice A1 l1.length c1]) (t := 25) ?hr ?_; (case hd => rfl); (case hg => rfl); (case hr => first | (go_simp; done) | (go_simp; rfl)); intro gt hgt w2 hbox hb2; have HBX2 := Aside0.mk (blk_below HBX.out hb2); have HBT2 := Aside0.mk hbox; have HB2 := Aside0.mk (below_step HB.out hb2); have cc0 := cell_in HBX2.out 0 rfl; have cc1 := cell_in HBX2.out 1 rfl; have cc2 := cell_in HBT2.out 0 rfl; clear hbox hb2 hgt HBX HB)
        | (go_at_call 35; refine (prop_Check.calls a0_0 A0_1 c0_1 l0_1 A1 c1 l1 _ _ (Kd.C_below HRL.out HB2.out) HCL.out (Kd.C_below HRT.out HB2.out) HCT.out HPC.out).mono ?_; rintro e w3 ⟨rfl, hb3⟩; have HBX3 := Aside0.mk (blk_below HBX2.out hb3); have HBT3 := Aside0.mk (blk_below HBT2.out hb3); have HB3 := Aside0.mk (below_step HB2.out hb3); clear hb3 cc0 cc1 cc2 HBX2 HBT2 HB2))
      have HS := Aside0.mk (sane_of (Option.some.inj HPC.out))
      have HFIT := Aside0.mk (show l1.length ≤ 5000 ∧ l2.length ≤ 5000 by simp only [fitB, Bool.not_eq_false, Bool.and_eq_true, decide_eq_true_eq, List.all_eq_true] at hfit; exact ⟨hfit.1.1, hfit.2.1⟩)
      clear hfit
      have e0 : w3.cell? ⟨gb, 0, none⟩ = some (.int .i64 a0_0) := cell_in HBX3.out 0 rfl
      have e1 : w3.cell? ⟨gb, 1, none⟩ = some (.slice A0_1 l0_1.length c0_1) := cell_in HBX3.out 1 rfl
      have e2 : w3.cell? ⟨gt, 0, none⟩ = some (.slice A1 l1.length c1) := cell_in HBT3.out 0 rfl
      go_upto_region 5 with (go_at_call 82; refine (looked_any a0_0 A0_1 l0_1.length c0_1 A1 c1 l1 _ (Kd.C_below HRT.out HB3.out) HCT.out (by have := HFIT.out.1; omega) HS.out.wf).mono ?_; rintro e w3' ⟨Av, cv, bm, rfl, hR3, hM3, hbm3, hb3⟩; have HR3 := Aside0.mk hR3; have HM3 := Aside0.mk hM3; have HBM3 := Aside0.mk hbm3; have HB3' := Aside0.mk hb3; clear hR3 hM3 hbm3 hb3 e0 e1 e2)
      have HGX := Aside0.mk (blk_new w3' (.cells #[.int .i64 a0_0, .slice A0_1 l0_1.length c0_1, .slice A1 l1.length c1, .slice Av l1.length cv, .map (some bm)] 90 (0, 0)))
      have HMA := Aside0.mk (HM3.out.alloc (.cells #[.int .i64 a0_0, .slice A0_1 l0_1.length c0_1, .slice A1 l1.length c1, .slice Av l1.length cv, .map (some bm)] 90 (0, 0)))
      have HLV := Aside0.mk (Kd.R_below HR3.out (below_alloc (Below.refl _ w3') (.cells #[.int .i64 a0_0, .slice A0_1 l0_1.length c0_1, .slice A1 l1.length c1, .slice Av l1.length cv, .map (some bm)] 90 (0, 0))))
      have HB4 := Aside0.mk (below_alloc (below_step HB3.out HB3'.out) (.cells #[.int .i64 a0_0, .slice A0_1 l0_1.length c0_1, .slice A1 l1.length c1, .slice Av l1.length cv, .map (some bm)] 90 (0, 0)))
      have HBX4 := Aside0.mk (blk_alloc (blk_below HBX3.out HB3'.out) (.cells #[.int .i64 a0_0, .slice A0_1 l0_1.length c0_1, .slice A1 l1.length c1, .slice Av l1.length cv, .map (some bm)] 90 (0, 0)))
      have HBT4 := Aside0.mk (blk_alloc (blk_below HBT3.out HB3'.out) (.cells #[.int .i64 a0_0, .slice A0_1 l0_1.length c0_1, .slice A1 l1.length c1, .slice Av l1.length cv, .map (some bm)] 90 (0, 0)))
      have HLC := Aside0.mk (Kd.R_reads' HLV.out).2.2
      rw [levelsFrom_length] at HLC
      clear HB3 HB3' HBX3 HBT3 HR3 HM3 HBM3 HLV
      generalize w3'.alloc (.cells #[.int .i64 a0_0, .slice A0_1 l0_1.length c0_1, .slice A1 l1.length c1, .slice Av l1.length cv, .map (some bm)] 90 (0, 0)) = w4 at HGX HMA HLC HB4 HBX4 HBT4 ⊢
      generalize w3'.heap.size = gx at HGX ⊢
      have HI : Aside0 (IHead w4 a0_0 A0_1 c0_1 l0_1 A1 c1 l1 Av cv bm gx gt gb) := ⟨⟨HGX.out, HMA.out, HLC.out⟩, HBT4.out, HBX4.out, Kd.C_below HRT.out HB4.out, Kd.C_below HRL.out HB4.out⟩
      clear HGX HMA HLC HBX4 HBT4 HGB
      go_upto_region 6 with (first
        | ((with_reducible refine gate_dst (N := 29) rfl ?_); refine map_made_event boolE rfl (t := 93) rfl ?_; intro bin hbin w5 hM5 hb5; have HM5 := Aside0.mk hM5; have HB5 := Aside0.mk hb5; have HBIN := Aside0.mk hbin; clear hM5 hb5 hbin)
        | ((with_reducible refine gate_dst (N := 30) rfl ?_); refine map_made_event boolE rfl (t := 93) rfl ?_; intro bvs hbvs w6 hM6 hb6; have HM6 := Aside0.mk hM6; have HB6 := Aside0.mk (below_step HB5.out hb6); have HM56 := Aside0.mk (HM5.out.below hb6); have HVS := Aside0.mk (show bvs ≠ bin ∧ w4.heap.size ≤ bin ∧ w4.heap.size ≤ bvs from by have q1 := HM5.out.lt; have q2 := HB5.out.size; have q3 := HBIN.out; omega); clear hM6 hb6 hbvs))
      have HL1 : Aside0 (L1St w4 w6.heap.size bin bvs l2 0 (w6.alloc (.cells #[.map (some bin)] 93 (0, 0)))) := ⟨below_alloc HB6.out _, blk_new _ _, by rw [show l2.take 0 = [] from rfl, dset_nil]; exact HM56.out.alloc _, by rw [show (l2.take 0).map varOf = [] from rfl, dset_nil]; exact HM6.out.alloc _, fun e => HVS.out.1 e.symm, HVS.out.2⟩
      have HGIN := Aside0.mk (show w4.heap.size ≤ w6.heap.size from HB6.out.size)
      clear HM5 HB5 HBIN HM6 HB6 HM56 HVS
      generalize w6.alloc (.cells #[.map (some bin)] 93 (0, 0)) = w7 at HL1 ⊢
      generalize w6.heap.size = gin at HL1 HGIN ⊢
      go_upto_region 8 with (fail)
      have HLEN2 := Aside0.mk (show (l2.length : Int) ≤ 5000 by have := HFIT.out.2; omega)
      obtain ⟨ok, hok⟩ : ∃ ok, ok = lessOkB l1 [] l2 := ⟨_, rfl⟩
      have HOK := Aside0.mk hok
      clear hok
      go_loopg [12, 33] l2.length (fun gg v12 v33 wr => ∃ k : Nat, k ≤ l2.length ∧ l2.length - k ≤ gg ∧ v33 = .int .i64 k ∧ v12 = .int .i64 (topOf l1 (l2.take k)) ∧ Aside0 (lessOkB l1 ((l2.take k).map varOf) (l2.drop k) = lessOkB l1 [] l2) ∧ Aside0 (∀ x ∈ l2.take k, knownB l1 x = true) ∧ Aside0 (L1St w4 gin bin bvs l2 k wr))
      case atStart => exact ⟨0, Nat.zero_le _, by omega, rfl, rfl, ⟨rfl⟩, ⟨by simp⟩, HL1⟩
      case round =>
        obtain ⟨k, hk, hg, rfl, rfl, HLO, HKN, HL⟩ := hrel
        clear HL1
        by_cases hlt : k < l2.length
        · have hltz : (k : Int) < (l2.length : Int) := by omega
          obtain ⟨ad, e1, hcell⟩ := Kd.at_int HR2.out (k : Int) (by omega) hltz
          cases e1
          rw [Int.toNat_natCast] at hcell
          replace hcell := ((HB4.out.trans (HL.out.b.mono HB4.out.size)).cell (World.block_lt_of_cell? w _ hcell)).trans hcell
          have HSTEP := Aside0.mk ((lessOk_step (t := l1) hlt).symm.trans HLO.out)
          have HTOP := Aside0.mk (topOf_next l1 hlt)
          have HTK := Aside0.mk (take_next hlt)
          have HXI : Aside0 (I64 (rd l2 (k : Int))) := ⟨HW2.out _ (by rw [show rd l2 (k : Int) = l2[k] by simp [rd, List.getElem?_eq_getElem hlt]]; exact List.getElem_mem _)⟩
          have HLT := Aside0.mk hlt
          obtain ⟨x, hx⟩ : ∃ x, x = rd l2 (k : Int) := ⟨_, rfl⟩
          rw [← hx] at hcell HSTEP HTOP HTK HXI
          have HXE := Aside0.mk hx
          clear hx
          obtain ⟨vt, hvt⟩ : ∃ vt, vt = topOf l1 (l2.take k) := ⟨_, rfl⟩
          rw [← hvt] at HTOP ⊢
          have HVT := Aside0.mk hvt
          clear hvt
          have hin : ((dset ((l2.take k).map varOf)) (varOf x)).getD false = ((l2.take k).map varOf).contains (varOf x) := dset_getD _ _
          have hd0 : w4.heap.size ≤ wr.heap.size := HL.out.b.size
          have g0 : wr.cell? ⟨gx, 0, none⟩ = some (.int .i64 a0_0) := cell_in (blk_below HI.out.h.hgx HL.out.b) 0 rfl
          have g1 : wr.cell? ⟨gx, 1, none⟩ = some (.slice A0_1 l0_1.length c0_1) := cell_in (blk_below HI.out.h.hgx HL.out.b) 1 rfl
          have g2 : wr.cell? ⟨gx, 2, none⟩ = some (.slice A1 l1.length c1) := cell_in (blk_below HI.out.h.hgx HL.out.b) 2 rfl
          have g3 : wr.cell? ⟨gx, 3, none⟩ = some (.slice Av l1.length cv) := cell_in (blk_below HI.out.h.hgx HL.out.b) 3 rfl
          have g4 : wr.cell? ⟨gx, 4, none⟩ = some (.map (some bm)) := cell_in (blk_below HI.out.h.hgx HL.out.b) 4 rfl
          have hret : ∀ W, Below w4.heap.size w4 W → ok = false → ∃ v0_ : Value, Ending.returned (.tuple #[.slice none 0 0, .int .i64 1]) = .returned (.tuple #[v0_, .int .i64 r2]) ∧ Kd.R (Kd.int .i64) 3 W w.heap.size (fun _ => True) v0_ r1 ∧ Below w.heap.size w W := fun W hb he => by
            have h := HH.out
            rw [if_pos (HOK.out.symm.trans he)] at h
            injection h with h
            injection h with h1 h2
            subst h1 h2
            exact ⟨_, rfl, Kd.R_nil _ _ _ _ _, HB4.out.trans (hb.mono HB4.out.size)⟩
          have HRET := Aside0.mk hret
          clear hret
          by_cases hx0 : x = 0
          · have HBAD : Aside0 (ok = false) := ⟨by rw [HOK.out, ← HSTEP.out]; simp [hx0]⟩
            have b1 : (x == 0) = true := by simp [hx0]
            clear hx0 hin
            go_wp2
            go_ret2
            exact HRET.out _ HL.out.b HBAD.out
          · have b1 : (x == 0) = false := by simp [hx0]
            have hvk : I64 (varOf x) := by unfold varOf mx; have := HXI.out; split <;> first | exact this | exact i64_wrap _
            have hlook := HL.out.mvs.look Try.underlying93 hvk
            replace hlook : (Instr.lookup 93 (.map (some bvs)) (.int .i64 (varOf x)) false).run Try.prog wr = .ok (.bool ((dset ((l2.take k).map varOf) (varOf x)).getD false)) wr := hlook
            have HVK := Aside0.mk hvk
            clear hvk
            cases hc : ((l2.take k).map varOf).contains (varOf x) with
            | true =>
              rw [hc] at hin
              have HBAD : Aside0 (ok = false) := ⟨by rw [HOK.out, ← HSTEP.out]; rw [hc]; simp⟩
              clear hx0 hc
              rw [hin] at hlook
              go_wp2_with (go_at_call 97; refine (learn_variable_any _ _).mono ?_; rintro e w2 ⟨rfl, rfl⟩)
              go_ret2
              exact HRET.out _ HL.out.b HBAD.out
            | false =>
              rw [hc] at hin
              rw [hin] at hlook
              have hdead := look_dead a0_0 A0_1 A1 Av l0_1.length c0_1 l1.length c1 l1.length cv bm l1.length (atT l1) (some ⟨wr.heap.size, 0, none⟩) 1 [x] (wr.alloc (.cells #[.int .i64 x] 3 (0, 0))) ((HI.out.h.ma.below HL.out.b).alloc _) (built_one wr x 3)
              replace hdead : Calls Try.prog 83 #[.agg #[.int .i64 a0_0, .slice A0_1 l0_1.length c0_1, .slice A1 l1.length c1, .slice Av l1.length cv, .map (some bm)], .slice (some ⟨wr.heap.size, 0, none⟩) 1 1] (wr.alloc (.cells #[.int .i64 x] 3 (0, 0))) fun e w' => e = .returned (.bool (knownB l1 x)) ∧ Below (wr.alloc (.cells #[.int .i64 x] 3 (0, 0))).heap.size (wr.alloc (.cells #[.int .i64 x] 3 (0, 0))) w' := by
                refine hdead.mono ?_
                rintro e w' ⟨rfl, hb⟩
                exact ⟨ret_b (by simp [knownB]), hb⟩
              have HDEAD := Aside0.mk hdead
              have HL8 : ∀ W, Below (wr.alloc (.cells #[.int .i64 x] 3 (0, 0))).heap.size (wr.alloc (.cells #[.int .i64 x] 3 (0, 0))) W → L1St w4 gin bin bvs l2 k W := fun W hb => (HL.out.below (below_alloc (Below.refl _ _) _)).below hb
              have HL8 := Aside0.mk HL8
              clear hdead
              cases hkn : knownB l1 x with
              | false =>
                have HBAD : Aside0 (ok = false) := ⟨by rw [HOK.out, ← HSTEP.out]; rw [hkn]; simp⟩
                rw [hkn] at HDEAD
                clear hkn hx0 hc
                go_wp2_with (first
                  | (go_at_call 97; refine (learn_variable_any _ _).mono ?_; rintro e w2 ⟨rfl, rfl⟩)
                  | (go_at_call 83; refine HDEAD.out.mono ?_; rintro e w8 ⟨rfl, hb8⟩; have HL9 := Aside0.mk (HL8.out _ hb8); clear hb8))
                go_ret2
                exact HRET.out _ HL9.out.b HBAD.out
              | true =>
                have HGO : Aside0 (lessOkB l1 ((l2.take (k + 1)).map varOf) (l2.drop (k + 1)) = lessOkB l1 [] l2) := ⟨by rw [← HSTEP.out, hkn, hc]; simp [hx0]⟩
                rw [hkn] at HDEAD
                have HKX := Aside0.mk hkn
                clear hkn hx0 hc
                go_upto_region 12 with (first
                  | (go_at_call 97; refine (learn_variable_any _ _).mono ?_; rintro e w2 ⟨rfl, rfl⟩)
                  | (go_at_call 83; refine HDEAD.out.mono ?_; rintro e w8 ⟨rfl, hb8⟩; have HL9 := Aside0.mk (HL8.out _ hb8); clear hb8))
                clear hlook g0 g1 g2 g3 g4 hcell hin
                have HL9d : L1St w4 gin bin bvs l2 k { w8 with drawn := w8.drawn + 1 } := HL9.out.below ⟨rfl, rfl, rfl, Nat.le_refl _, fun _ _ => rfl⟩
                have HLD := Aside0.mk HL9d
                obtain ⟨w9, hrun9, hM9, ht9⟩ := HL9d.min.store (x := x) Try.underlying93 (by unfold maxLen; omega) HXI.out true trivial
                replace hrun9 : (Instr.mapUpdate 93 (.map (some bin)) (.int .i64 x) (.bool true)).run Try.prog w8.drew = .ok () w9 := hrun9
                obtain ⟨w10, hrun10, hM10, ht10⟩ := (HL9d.mvs.kept ht9.grown (fun e => HL9d.far.1 (Option.some.inj e).symm)).store (x := varOf x) Try.underlying93 (by unfold maxLen; omega) HVK.out true trivial
                replace hrun10 : (Instr.mapUpdate 93 (.map (some bvs)) (.int .i64 (varOf x)) (.bool true)).run Try.prog w9 = .ok () w10 := hrun10
                have HL10 : Aside0 (L1St w4 gin bin bvs l2 (k + 1) w10) := ⟨HL9d.next HLT.out HXE.out.symm (hM9.kept ht10.grown (fun e => HL9d.far.1 (Option.some.inj e))) hM10 (((Twice.refl _ _).grown ht9.grown (by intro q hq; cases hq; exact Or.inl rfl)).grown ht10.grown (by intro q hq; cases hq; exact Or.inr rfl))⟩
                have hS0 : ({ w8 with drawn := w8.drawn + 1 } : World).cell? ⟨gin, 0, none⟩ = some (.map (some bin)) := cell_in HL9d.hin 0 rfl
                have hS9 : w9.cell? ⟨gin, 0, none⟩ = some (.map (some bin)) := cell_in (blk_grown HL9d.hin ht9.grown (fun e => blk_map HL9d.hin HL9d.min (Option.some.inj e))) 0 rfl
                have hS10 : w10.cell? ⟨gin, 0, none⟩ = some (.map (some bin)) := cell_in HL10.out.hin 0 rfl
                clear HL9d hM9 ht9 hM10 ht10
                go_cut [56] (fun v56 wc => Aside0 (L1St w4 gin bin bvs l2 (k + 1) wc))
                case first =>
                  refine wp_region_held (S := fun w' => w'.cell? ⟨gin, 0, none⟩ = some (.map (some bin))) (by kernel_rfl) ?_
                  refine wpAnyH_takeD (i := 0) (v := .map (some bin)) 52 rfl rfl (by kernel_rfl) (by kernel_rfl) (by kernel_rfl) (fun _ _ _ h => h) (Or.inl ⟨rfl, fun W' hS' => by go_simp⟩) hS0 ?_
                  (try simp only [Act.put, List.setIfInBounds_toArray, List.set_cons_zero, List.set_cons_succ])
                  refine wpAnyH_takeD (i := 1) (v := .int .i64 x) 53 rfl rfl (by kernel_rfl) (by kernel_rfl) (by kernel_rfl) (fun _ _ _ h => h) (Or.inl ⟨rfl, fun W' hS' => by go_simp⟩) hS0 ?_
                  (try simp only [Act.put, List.setIfInBounds_toArray, List.set_cons_zero, List.set_cons_succ])
                  refine wpAnyH_takeD (i := 2) (v := .map (some bvs)) 54 rfl rfl (by kernel_rfl) (by kernel_rfl) (by kernel_rfl) (fun _ _ _ h => h) (Or.inl ⟨rfl, fun W' hS' => by go_simp⟩) hS0 ?_
                  (try simp only [Act.put, List.setIfInBounds_toArray, List.set_cons_zero, List.set_cons_succ])
                  refine wpAnyH_takeD (i := 3) (v := .int .i64 x) 55 rfl rfl (by kernel_rfl) (by kernel_rfl) (by kernel_rfl) (fun _ _ _ h => h) (Or.inl ⟨rfl, fun W' hS' => by go_simp⟩) hS0 ?_
                  (try simp only [Act.put, List.setIfInBounds_toArray, List.set_cons_zero, List.set_cons_succ])
                  refine wpAnyH_all (rs := [4]) (by kernel_rfl) (by simp) (fun i hi => ?_)
                  obtain rfl : i = 4 := by simpa using hi
                  have eg97 : ∀ args w, (callFunc 97 args).run Try.prog w = .ok (.enter 97 args) w := enters_of Try.func97 (by kernel_rfl) rfl
                  refine wpOp_callsD (f := 97) (args := #[.int .i64 x]) 56 rfl rfl rfl (by go_simp) (learn_variable_any x _) ?_
                  rintro e w8' ⟨rfl, rfl⟩
                  refine ⟨_, rfl, hS0, ?_⟩
                  (try simp only [Act.put, List.setIfInBounds_toArray, List.set_cons_zero, List.set_cons_succ])
                  refine wpAnyH_all (rs := [5]) (by kernel_rfl) (by simp) (fun i hi => ?_)
                  obtain rfl : i = 5 := by simpa using hi
                  refine wpOp_skips rfl rfl rfl (by go_simp) ⟨hS9, ?_⟩
                  (try simp only [Act.put, List.setIfInBounds_toArray, List.set_cons_zero, List.set_cons_succ])
                  refine wpAnyH_all (rs := [6]) (by kernel_rfl) (by simp) (fun i hi => ?_)
                  obtain rfl : i = 6 := by simpa using hi
                  refine wpOp_skips rfl rfl rfl (by go_simp) ⟨hS10, wpAnyH_done (by kernel_rfl) ?_ _⟩
                  go_wp2_with fail
                  go_meet
                  exact HL10
                case rest =>
                  have HL11 := hcut
                  clear HL10 hcut hrun9 hrun10 hS0 hS9 hS10 HL9 HLD
                  have g0 : wc.cell? ⟨gx, 0, none⟩ = some (.int .i64 a0_0) := cell_in (blk_below HI.out.h.hgx HL11.out.b) 0 rfl
                  have g1 : wc.cell? ⟨gx, 1, none⟩ = some (.slice A0_1 l0_1.length c0_1) := cell_in (blk_below HI.out.h.hgx HL11.out.b) 1 rfl
                  have g2 : wc.cell? ⟨gx, 2, none⟩ = some (.slice A1 l1.length c1) := cell_in (blk_below HI.out.h.hgx HL11.out.b) 2 rfl
                  have g3 : wc.cell? ⟨gx, 3, none⟩ = some (.slice Av l1.length cv) := cell_in (blk_below HI.out.h.hgx HL11.out.b) 3 rfl
                  have g4 : wc.cell? ⟨gx, 4, none⟩ = some (.map (some bm)) := cell_in (blk_below HI.out.h.hgx HL11.out.b) 4 rfl
                  go_wp2_with (go_at_call 85; refine (level_at HI.out.h HL11.out.b HKX.out).mono ?_; rintro e w13 ⟨rfl, hb13⟩; have HL13 := Aside0.mk (HL11.out.below hb13); clear hb13)
                  all_goals
                    go_roundg (l2.length - (k + 1))
                    case measure => omega
                    case rel => exact ⟨k + 1, by omega, by omega, by go_num, by rw [HTOP.out]; unfold mx; first | rfl | (split <;> first | rfl | (exfalso; omega)), HGO, ⟨fun y hy => by rw [HTK.out] at hy; rcases List.mem_append.1 hy with hy | hy; exact HKN.out y hy; rw [List.mem_singleton.1 hy]; exact HKX.out⟩, HL13⟩
        · have hltz : ¬ (k : Int) < (l2.length : Int) := by omega
          obtain rfl : k = l2.length := by omega
          have hsf := fun (a : Addr) (m : Mode) (W : World) (f : Fn) (ts cs : Array Value) => run_storeFunc a m W f ts cs
          have HMIN := Aside0.mk (show MapOf boolE wr bin l2.length (dset l2) by have := HL.out.min; rwa [List.take_length] at this)
          rw [List.take_length] at HKN ⊢
          have HOKT : Aside0 (ok = true) := ⟨by rw [HOK.out, ← HLO.out, List.drop_length]; rfl⟩
          obtain ⟨vt, hvt⟩ : ∃ vt, vt = topOf l1 l2 := ⟨_, rfl⟩
          rw [← hvt]
          have HVT := Aside0.mk hvt
          clear hvt hlt hltz
          go_upto_region 20 with (first
            | ((with_reducible refine gate_dst (N := 63) rfl ?_); refine map_made_event boolE rfl (t := 93) rfl ?_; intro bk hbk w8 hM8 hb8; have HM8 := Aside0.mk hM8; have HB8 := Aside0.mk hb8; have HBK := Aside0.mk hbk; clear hM8 hb8 hbk)
            | ((with_reducible refine gate_dst (N := 65) rfl ?_); refine map_made_event boolE rfl (t := 93) rfl ?_; intro bo hbo w9 hM9 hb9; have HM9 := Aside0.mk hM9; have HB9 := Aside0.mk hb9; have HBO := Aside0.mk hbo; clear hM9 hb9 hbo))
          have HIS : Aside0 (ISt w4 w8.heap.size gx gt gb gin (w8.heap.size + 1) bk bin l2.length l0_1 l1 l2 (fun _ => none) w9) := ⟨by
            refine ISt.below (W := (w8.alloc (.cells #[.map (some bk)] 93 (0, 0))).alloc (.cells #[.func (.func 98) #[] #[.pointer (some ⟨w8.heap.size, 0, none⟩), .pointer (some ⟨gx, 0, none⟩), .pointer (some ⟨gt, 0, none⟩), .pointer (some ⟨gb, 0, none⟩), .pointer (some ⟨gin, 0, none⟩), .pointer (some ⟨w8.heap.size + 1, 0, none⟩)]] 106 (0, 0))) ?_ HB9.out
            have q1 := HL.out.b.size
            have q2 := HL.out.min.lt
            have q3 := HBK.out
            have q4 := blk_new (w8.alloc (.cells #[.map (some bk)] 93 (0, 0))) (.cells #[.func (.func 98) #[] #[.pointer (some ⟨w8.heap.size, 0, none⟩), .pointer (some ⟨gx, 0, none⟩), .pointer (some ⟨gt, 0, none⟩), .pointer (some ⟨gb, 0, none⟩), .pointer (some ⟨gin, 0, none⟩), .pointer (some ⟨w8.heap.size + 1, 0, none⟩)]] 106 (0, 0))
            rw [World.size_alloc] at q4
            exact ⟨below_alloc (below_alloc (below_step HL.out.b HB8.out) _) _, blk_alloc (blk_alloc (blk_below HL.out.hin HB8.out) _) _, ((HMIN.out.below HB8.out).alloc _).alloc _, blk_alloc (blk_new w8 _) _, by rw [cntK_none]; exact (HM8.out.alloc _).alloc _, q4, fun _ _ _ hq => (by cases hq), by omega, by omega⟩⟩
          have HFB : Aside0 (bo ≠ bin ∧ bo ≠ bk ∧ w4.heap.size ≤ bo) := ⟨by
            have q1 := HBO.out
            rw [World.size_alloc, World.size_alloc] at q1
            have q2 := HB8.out.size
            have q3 := HL.out.min.lt
            have q4 := HM8.out.lt
            have q5 := HL.out.b.size
            omega⟩
          have HMO : Aside0 (MapOf boolE w9 bo 0 (dset ((l2.take 0).filter fun x => keepB l0_1 l1 l2 x))) := ⟨by rw [show (l2.take 0).filter (fun x => keepB l0_1 l1 l2 x) = [] from rfl, dset_nil]; exact HM9.out⟩
          clear HM8 HB8 HBK HM9 HB9 HBO HL HLO HMIN hsf
          generalize w8.heap.size = gkn at HIS ⊢
          obtain ⟨gf, hgf⟩ : ∃ gf, gf = gkn + 1 := ⟨_, rfl⟩
          rw [← hgf] at HIS ⊢
          clear hgf
          go_loopg [68] l2.length (fun gg v68 wr => ∃ (k : Nat) (f : Int → Option Bool), k ≤ l2.length ∧ l2.length - k ≤ gg ∧ v68 = .int .i64 k ∧ Aside0 (ISt w4 gkn gx gt gb gin gf bk bin l2.length l0_1 l1 l2 f wr) ∧ Aside0 (MapOf boolE wr bo k (dset ((l2.take k).filter fun x => keepB l0_1 l1 l2 x))))
          case atStart => exact ⟨0, _, Nat.zero_le _, by omega, rfl, HIS, HMO⟩
          case round =>
            clear HIS HMO
            obtain ⟨k, f, hk, hg, rfl, HI2, HM2⟩ := hrel
            by_cases hlt : k < l2.length
            · have hltz : (k : Int) < (l2.length : Int) := by omega
              obtain ⟨ad, e1, hcell⟩ := Kd.at_int HR2.out (k : Int) (by omega) hltz
              cases e1
              rw [Int.toNat_natCast] at hcell
              replace hcell := ((HB4.out.trans (HI2.out.b.mono HB4.out.size)).cell (World.block_lt_of_cell? w _ hcell)).trans hcell
              have hmemx : rd l2 (k : Int) ∈ l2 := by rw [show rd l2 (k : Int) = l2[k] by simp [rd, List.getElem?_eq_getElem hlt]]; exact List.getElem_mem _
              have HXI : Aside0 (I64 (rd l2 (k : Int))) := ⟨HW2.out _ hmemx⟩
              have HKX : Aside0 (knownB l1 (rd l2 (k : Int)) = true) := ⟨HKN.out _ hmemx⟩
              have HTK : Aside0 (keepB l0_1 l1 l2 (rd l2 (k : Int)) = true → (l2.take (k + 1)).filter (fun x => keepB l0_1 l1 l2 x) = (l2.take k).filter (fun x => keepB l0_1 l1 l2 x) ++ [rd l2 (k : Int)]) := ⟨fun hq => by rw [take_next hlt, List.filter_append, List.filter_cons, if_pos hq]; rfl⟩
              have HTN : Aside0 (keepB l0_1 l1 l2 (rd l2 (k : Int)) = false → (l2.take (k + 1)).filter (fun x => keepB l0_1 l1 l2 x) = (l2.take k).filter (fun x => keepB l0_1 l1 l2 x)) := ⟨fun hq => by rw [take_next hlt, List.filter_append, List.filter_cons, if_neg (by rw [hq]; simp)]; simp⟩
              have HNM : Aside0 (k < maxLen) := ⟨by have := HFIT.out.2; unfold maxLen; omega⟩
              obtain ⟨x, hx⟩ : ∃ x, x = rd l2 (k : Int) := ⟨_, rfl⟩
              rw [← hx] at hcell HXI HKX HTK HTN
              clear hmemx hx
              obtain ⟨j, hj, hxj⟩ := (HS.out.known_iff HXI.out).1 HKX.out
              have himp : ∀ W f, ISt w4 gkn gx gt gb gin gf bk bin l2.length l0_1 l1 l2 f W → Calls Try.prog 98 #[.int .i64 x, .pointer (some ⟨gkn, 0, none⟩), .pointer (some ⟨gx, 0, none⟩), .pointer (some ⟨gt, 0, none⟩), .pointer (some ⟨gb, 0, none⟩), .pointer (some ⟨gin, 0, none⟩), .pointer (some ⟨gf, 0, none⟩)] W (IPost w4 gkn gx gt gb gin gf bk bin l2.length l0_1 l1 l2 W f (j + 1) (implB l0_1 l1 l2 x)) := fun W f hI => by
                have := implied_any HS.out HFIT.out.1 HI.out j hj W f hI
                rwa [← hxj] at this
              have HIMP := Aside0.mk himp
              clear himp hxj hj
              have HKB : Aside0 (keepB l0_1 l1 l2 x = ((decide (0 < vt) && decide (lvlOf l1 x = vt)) || !implB l0_1 l1 l2 x)) := ⟨by unfold keepB; rw [← HVT.out]⟩
              have hlev : ∀ W, Below w4.heap.size w4 W → Calls Try.prog 85 #[.agg #[.int .i64 a0_0, .slice A0_1 l0_1.length c0_1, .slice A1 l1.length c1, .slice Av l1.length cv, .map (some bm)], .int .i64 x] W fun e w' => e = .returned (.int .i64 (lvlOf l1 x)) ∧ Below W.heap.size W w' := fun W hb => level_at HI.out.h hb HKX.out
              have HLEV := Aside0.mk hlev
              clear hlev
              obtain ⟨lv, hlv⟩ : ∃ lv, lv = lvlOf l1 x := ⟨_, rfl⟩
              rw [← hlv] at HKB HLEV
              clear hlv
              obtain ⟨bi, hbi⟩ : ∃ bi, bi = implB l0_1 l1 l2 x := ⟨_, rfl⟩
              rw [← hbi] at HKB HIMP
              clear hbi
              have eg98 : ∀ args w, (callFunc 98 args).run Try.prog w = .ok (.enter 98 args) w := enters_of Try.func98 (by kernel_rfl) rfl
              have g0 : wr.cell? ⟨gx, 0, none⟩ = some (.int .i64 a0_0) := cell_in (blk_below HI.out.h.hgx HI2.out.b) 0 rfl
              have g1 : wr.cell? ⟨gx, 1, none⟩ = some (.slice A0_1 l0_1.length c0_1) := cell_in (blk_below HI.out.h.hgx HI2.out.b) 1 rfl
              have g2 : wr.cell? ⟨gx, 2, none⟩ = some (.slice A1 l1.length c1) := cell_in (blk_below HI.out.h.hgx HI2.out.b) 2 rfl
              have g3 : wr.cell? ⟨gx, 3, none⟩ = some (.slice Av l1.length cv) := cell_in (blk_below HI.out.h.hgx HI2.out.b) 3 rfl
              have g4 : wr.cell? ⟨gx, 4, none⟩ = some (.map (some bm)) := cell_in (blk_below HI.out.h.hgx HI2.out.b) 4 rfl
              by_cases hv : 0 < vt
              · have hvd : decide (vt > 0) = true := decide_eq_true hv
                by_cases hlq : lv = vt
                · have b1 : (lv == vt) = true := by simp [hlq]
                  have HKEEP : Aside0 (keepB l0_1 l1 l2 x = true) := ⟨by rw [HKB.out]; simp [hv, hlq]⟩
                  clear hlq hv
                  go_upto_region 23 with (go_at_call 85; refine (HLEV.out _ HI2.out.b).mono ?_; rintro e w13 ⟨rfl, hb13⟩; have HI13 := Aside0.mk (HI2.out.below hb13); have HM13 := Aside0.mk (HM2.out.below hb13); clear hb13)
                  go_wp2_with ((with_reducible refine gate_upd (t := 93) (m := .tmp 87) (x := .tmp 88) (v := .const (.bool true)) rfl ?_); refine map_store_event rfl (.tmp 87) (.tmp 88) (.const (.bool true)) (t := 93) rfl Try.underlying93 rfl HM13.out HNM.out rfl HXI.out (val := true) rfl trivial ?_; intro w15 hM15 hg15; have HM15 := Aside0.mk hM15; have HI15 := Aside0.mk (HI13.out.other HM13.out hg15 HFB.out.1 HFB.out.2.1 HFB.out.2.2); clear hM15 hg15)
                  go_roundg (l2.length - (k + 1))
                  case measure => omega
                  case rel => exact ⟨k + 1, _, by omega, by omega, by go_num, HI15, ⟨by rw [HTK.out HKEEP.out, ← dset_snoc]; exact HM15.out⟩⟩
                · have b1 : (lv == vt) = false := by simp [hlq]
                  have HKE2 : Aside0 (keepB l0_1 l1 l2 x = !bi) := ⟨by rw [HKB.out]; simp [hlq]⟩
                  clear hlq hv
                  cases hbi : bi with
                  | true =>
                    rw [hbi] at HIMP HKE2
                    clear hbi
                    go_wp2_with (first | (go_at_call 85; refine (HLEV.out _ HI2.out.b).mono ?_; rintro e w13 ⟨rfl, hb13⟩; have HI13 := Aside0.mk (HI2.out.below hb13); have HM13 := Aside0.mk (HM2.out.below hb13); have f0 : w13.cell? ⟨gf, 0, none⟩ = some (.func (.func 98) #[] #[.pointer (some ⟨gkn, 0, none⟩), .pointer (some ⟨gx, 0, none⟩), .pointer (some ⟨gt, 0, none⟩), .pointer (some ⟨gb, 0, none⟩), .pointer (some ⟨gin, 0, none⟩), .pointer (some ⟨gf, 0, none⟩)]) := cell_in HI13.out.hf 0 rfl; clear hb13) | (go_at_fn 98; refine (HIMP.out _ _ HI13.out).mono ?_; rintro e w14 ⟨rfl, ⟨f14, q1, q2⟩, q3⟩; have HI14 := Aside0.mk q1; have HM14 := Aside0.mk (q3.map HM13.out HFB.out.2.1); clear q1 q2 q3))
                    go_roundg (l2.length - (k + 1))
                    case measure => omega
                    case rel => exact ⟨k + 1, _, by omega, by omega, by go_num, HI14, ⟨by rw [HTN.out HKE2.out]; exact HM14.out.mono (Nat.le_succ _)⟩⟩
                  | false =>
                    rw [hbi] at HIMP HKE2
                    clear hbi
                    have HKEEP := HKE2
                    go_upto_region 23 with (first | (go_at_call 85; refine (HLEV.out _ HI2.out.b).mono ?_; rintro e w13 ⟨rfl, hb13⟩; have HI13 := Aside0.mk (HI2.out.below hb13); have HM13 := Aside0.mk (HM2.out.below hb13); have f0 : w13.cell? ⟨gf, 0, none⟩ = some (.func (.func 98) #[] #[.pointer (some ⟨gkn, 0, none⟩), .pointer (some ⟨gx, 0, none⟩), .pointer (some ⟨gt, 0, none⟩), .pointer (some ⟨gb, 0, none⟩), .pointer (some ⟨gin, 0, none⟩), .pointer (some ⟨gf, 0, none⟩)]) := cell_in HI13.out.hf 0 rfl; clear hb13) | (go_at_fn 98; refine (HIMP.out _ _ HI13.out).mono ?_; rintro e w14 ⟨rfl, ⟨f14, q1, q2⟩, q3⟩; have HI14 := Aside0.mk q1; have HM14 := Aside0.mk (q3.map HM13.out HFB.out.2.1); clear q1 q2 q3))
                    go_wp2_with ((with_reducible refine gate_upd (t := 93) (m := .tmp 87) (x := .tmp 88) (v := .const (.bool true)) rfl ?_); refine map_store_event rfl (.tmp 87) (.tmp 88) (.const (.bool true)) (t := 93) rfl Try.underlying93 rfl HM14.out HNM.out rfl HXI.out (val := true) rfl trivial ?_; intro w15 hM15 hg15; have HM15 := Aside0.mk hM15; have HI15 := Aside0.mk (HI14.out.other HM14.out hg15 HFB.out.1 HFB.out.2.1 HFB.out.2.2); clear hM15 hg15)
                    go_roundg (l2.length - (k + 1))
                    case measure => omega
                    case rel => exact ⟨k + 1, _, by omega, by omega, by go_num, HI15, ⟨by rw [HTK.out HKEEP.out, ← dset_snoc]; exact HM15.out⟩⟩
              · have hvd : decide (vt > 0) = false := decide_eq_false hv
                have HKE2 : Aside0 (keepB l0_1 l1 l2 x = !bi) := ⟨by rw [HKB.out]; simp [hv]⟩
                have f0 : wr.cell? ⟨gf, 0, none⟩ = some (.func (.func 98) #[] #[.pointer (some ⟨gkn, 0, none⟩), .pointer (some ⟨gx, 0, none⟩), .pointer (some ⟨gt, 0, none⟩), .pointer (some ⟨gb, 0, none⟩), .pointer (some ⟨gin, 0, none⟩), .pointer (some ⟨gf, 0, none⟩)]) := cell_in HI2.out.hf 0 rfl
                clear hv
                cases hbi : bi with
                | true =>
                  rw [hbi] at HIMP HKE2
                  clear hbi
                  go_wp2_with (go_at_fn 98; refine (HIMP.out _ _ HI2.out).mono ?_; rintro e w14 ⟨rfl, ⟨f14, q1, q2⟩, q3⟩; have HI14 := Aside0.mk q1; have HM14 := Aside0.mk (q3.map HM2.out HFB.out.2.1); clear q1 q2 q3)
                  go_roundg (l2.length - (k + 1))
                  case measure => omega
                  case rel => exact ⟨k + 1, _, by omega, by omega, by go_num, HI14, ⟨by rw [HTN.out HKE2.out]; exact HM14.out.mono (Nat.le_succ _)⟩⟩
                | false =>
                  rw [hbi] at HIMP HKE2
                  clear hbi
                  have HKEEP := HKE2
                  go_upto_region 23 with (go_at_fn 98; refine (HIMP.out _ _ HI2.out).mono ?_; rintro e w14 ⟨rfl, ⟨f14, q1, q2⟩, q3⟩; have HI14 := Aside0.mk q1; have HM14 := Aside0.mk (q3.map HM2.out HFB.out.2.1); clear q1 q2 q3)
                  go_wp2_with ((with_reducible refine gate_upd (t := 93) (m := .tmp 87) (x := .tmp 88) (v := .const (.bool true)) rfl ?_); refine map_store_event rfl (.tmp 87) (.tmp 88) (.const (.bool true)) (t := 93) rfl Try.underlying93 rfl HM14.out HNM.out rfl HXI.out (val := true) rfl trivial ?_; intro w15 hM15 hg15; have HM15 := Aside0.mk hM15; have HI15 := Aside0.mk (HI14.out.other HM14.out hg15 HFB.out.1 HFB.out.2.1 HFB.out.2.2); clear hM15 hg15)
                  go_roundg (l2.length - (k + 1))
                  case measure => omega
                  case rel => exact ⟨k + 1, _, by omega, by omega, by go_num, HI15, ⟨by rw [HTK.out HKEEP.out, ← dset_snoc]; exact HM15.out⟩⟩
            · have hltz : ¬ (k : Int) < (l2.length : Int) := by omega
              obtain rfl : k = l2.length := by omega
              have HMF : Aside0 (MapOf boolE wr bo l2.length (dset (l2.filter fun x => keepB l0_1 l1 l2 x))) := ⟨by have := HM2.out; rwa [List.take_length] at this⟩
              have HRES : Aside0 (r1 = sortV (l2.filter fun x => keepB l0_1 l1 l2 x) ∧ r2 = 0) := ⟨by
                have h := HH.out
                have h1 : lessOkB l1 [] l2 = true := HOK.out.symm.trans HOKT.out
                rw [if_neg (by rw [h1]; simp)] at h
                injection h with h
                injection h with h2 h3
                exact ⟨h2.symm, h3.symm⟩⟩
              have HND : Aside0 (((l2.filter fun x => keepB l0_1 l1 l2 x).map varOf).Nodup) := ⟨((List.filter_sublist (l := l2)).map varOf).nodup (lessOk_all (HOK.out.symm.trans HOKT.out)).2⟩
              clear hlt
              go_wp2_with (go_at_call 87; refine (told_any sortLaw bo l2.length _ wr HMF.out (by have := HFIT.out.2; omega)).mono ?_; rintro e w16 ⟨v16, ys, rfl, q1, q2, q3⟩; have HQ1 := Aside0.mk q1; have HQ2 := Aside0.mk q2; have HQ3 := Aside0.mk q3; clear q1 q2 q3)
              go_ret2
              obtain ⟨e1, e2⟩ := HRES.out
              subst e2
              have hys := told_sorted HQ1.out HND.out (fun y hy => HW2.out y (List.mem_filter.1 hy).1)
              refine ⟨_, rfl, ?_, HB4.out.trans ((HI2.out.b.trans (HQ3.out.mono HI2.out.b.size)).mono HB4.out.size)⟩
              rw [e1, ← hys]
              exact Kd.R_lower HQ2.out (Nat.le_trans HB4.out.size HI2.out.b.size)
  · rw [if_pos he] at h
    injection h with h
    injection h with h1 h2
    subst h1 h2
    clear hec
    go_enter Try.func31, Try.ntmps31
    go_wp2_with (first
      | ((with_reducible refine gate_dst (N := 3) rfl ?_); refine box_event ?hg (N := 3) ?hd (cs := #[.int .i64 a0_0, .slice A0_1 l0_1.length c0_1]) (t := 24) ?hr ?_; (case hd => rfl); (case hg => rfl); (case hr => first | (go_simp; done) | (go_simp; rfl)); intro gb hgb w1 hbox hb1; have HBX := Aside0.mk hbox; have HB := Aside0.mk hb1; clear hbox hb1 hgb)
      | ((with_reducible refine gate_dst (N := 4) rfl ?_); refine box_event ?hg (N := 4) ?hd (cs := #[.slice A1 l1.length c1]) (t := 25) ?hr ?_; (case hd => rfl); (case hg => rfl); (case hr => first | (go_simp; done) | (go_simp; rfl)); intro gt hgt w2 hbox hb2; have HBX2 := Aside0.mk (blk_below HBX.out hb2); have HBT2 := Aside0.mk hbox; have HB2 := Aside0.mk (below_step HB.out hb2); have cc0 := cell_in HBX2.out 0 rfl; have cc1 := cell_in HBX2.out 1 rfl; have cc2 := cell_in HBT2.out 0 rfl; clear hbox hb2 hgt HBX HB)
      | (go_at_call 35; refine (prop_Check.calls a0_0 A0_1 c0_1 l0_1 A1 c1 l1 _ _ (Kd.C_below HRL.out HB2.out) HCL.out (Kd.C_below HRT.out HB2.out) HCT.out HPC.out).mono ?_; rintro e w3 ⟨rfl, hb3⟩; have HB3 := Aside0.mk (below_step HB2.out hb3); clear hb3 cc0 cc1 cc2))
    go_ret2
    exact ⟨_, rfl, Kd.R_nil _ _ _ _ _, HB3.out⟩
end Go.Proofs.Ytobadajeekdakaa.Print
