/- slices.Clone at []int; heap.begun: their contracts. -/
import Derived.Test.YtobadajeekdakaaHB
import Derived.WalkSpells
namespace Go.Proofs.Ytobadajeekdakaa.Print
open Go.RowKit Go.Proofs.YtobadajeekdakaaW.PrintWords Go.Proofs.YtobadajeekdakaaW.PrintLast Go.Proofs.YtobadajeekdakaaW.PrintMore
open Go.Sort (grow alloc_eq_grow)
set_option linter.unusedVariables false
set_option linter.unusedSimpArgs false

theorem hp_far {w : World} {g g' i j : Nat} {u : Value} (h : g ≠ g') : (w.setCell ⟨g', j, none⟩ u).cell? ⟨g, i, none⟩ = w.cell? ⟨g, i, none⟩ := by
  simp [World.cell?, Below.heap_setCell w ⟨g', j, none⟩ u g h]
def ClonePost (w : World) (xs : List Int) (e : Ending) (w' : World) : Prop := ∃ v : Value, e = .returned v ∧ Kd.R (Kd.int .i64) 3 w' w.heap.size (fun _ => True) v xs ∧ Below w.heap.size w w'
set_option maxHeartbeats 1000000 in
theorem clone_any (A : Option Addr) (c : Nat) (xs : List Int) (w : World) (hC : Kd.C (Kd.int .i64) w A xs.length xs) (hl : xs.length * 8 ≤ 140737488355328) :
    Calls Try.prog 125 #[.slice A xs.length c] w (ClonePost w xs) := by
  have q28 : ∀ (w : World) (a : Option Addr) (n c n' c' : Nat), (binOp .eql 28 (.slice a n c) (.slice none n' c')).run Try.prog w = .ok (.bool a.isNone) w := fun w a n c n' c' => Lib.run_eql_slice_nil w _ _ a n c n' c' Try.underlying28
  have HC := Aside0.mk hC
  have HL := Aside0.mk hl
  clear hC hl
  cases A with
  | none =>
    have HX := Aside0.mk (show xs = [] by
      rcases Nat.eq_zero_or_pos xs.length with h | h
      · exact List.eq_nil_of_length_eq_zero h
      · obtain ⟨ad, e, _⟩ := HC.out.2.2 h; cases e)
    go_enter Try.func125, Try.ntmps125
    go_wp2
    go_ret
    exact ⟨_, rfl, by rw [HX.out]; exact Kd.R_nil _ _ _ _ _, Below.refl _ _⟩
  | some ad =>
    go_enter Try.func125, Try.ntmps125
    go_wp2_with (at_builtin; refine Kd.R_append_rows (Kd.int .i64) (w0 := w) w.heap.size rfl (.tmp 5) (.tmp 6) 28 3 (.int .i64 0) 8 rfl Try.underlying28 info3 rfl (by decide) (by omega) _ [] xs _ _ _ (fun _ => True) (fun _ => False) rfl rfl (Kd.R_of_own (World.ownsRow_made w #[] 0 (Nat.le_refl _) (Nat.zero_le _) rfl) (fun _ _ => trivial)) (Kd.C_alloc HC.out _) (fun _ _ h => h) (fun _ h => h.elim) (fun _ _ => trivial) (below_alloc (Below.refl _ w) _) (by simp) (by have := HL.out; simpa using this) ?_; intro v1 w1 hR hB hg hat; have HR := Aside0.mk hR; have HB := Aside0.mk hB; clear hR hB hg hat)
    go_ret
    exact ⟨_, rfl, by have := HR.out; rwa [List.nil_append] at this, HB.out⟩

/-- A working copy of one's own: its block, and its two rows. -/
def Work (W : World) (base gw : Nat) (act l : List Int) (by_ : Int) : Prop :=
  ∃ vA vL : Value, W.heap[gw]? = some (.cells #[vA, vL, .int .i64 by_] 136 (0, 0)) ∧ base ≤ gw ∧ Kd.R (Kd.int .i64) 3 W base (fun k_ => some k_ ≠ vL.ownBlock) vA act ∧ Kd.R (Kd.int .i64) 3 W base (fun k_ => some k_ ≠ vA.ownBlock) vL l
def BegunPost (w : World) (act l : List Int) (by_ r : Int) (e : Ending) (w' : World) : Prop :=
  Below w.heap.size w w' ∧ ((r ≠ 0 ∧ e = .returned (.tuple #[.pointer none, .int .i64 r])) ∨
    (r = 0 ∧ ∃ gw, e = .returned (.tuple #[.pointer (some ⟨gw, 0, none⟩), .int .i64 0]) ∧ Work w' w.heap.size gw act l by_))

set_option maxHeartbeats 4000000 in
set_option maxRecDepth 100000 in
theorem begun_any (A0 : Option Addr) (c0 : Nat) (act : List Int) (A1 : Option Addr) (c1 : Nat) (l : List Int) (by_ : Int) (w : World) (hA : Kd.C (Kd.int .i64) w A0 act.length act) (hB : Kd.C (Kd.int .i64) w A1 l.length l)
    (hla : act.length ≤ 100000) (hlb : l.length ≤ 100000) :
    Calls Try.prog 143 #[.agg #[.slice A0 act.length c0, .slice A1 l.length c1, .int .i64 by_]] w (BegunPost w act l by_ (hpCheckV act l by_)) := by
  have HA := Aside0.mk hA
  have HB := Aside0.mk hB
  have HLA := Aside0.mk hla
  have HLB := Aside0.mk hlb
  clear hA hB hla hlb
  obtain ⟨r, hr⟩ : ∃ r, r = hpCheckV act l by_ := ⟨_, rfl⟩
  have HR := Aside0.mk hr
  rw [← hr]
  clear hr
  go_enter Try.func143, Try.ntmps143
  go_upto_region 2 with (fail)
  have HX := Aside0.mk (blk_alloc (blk_new w (.cells #[.slice A0 act.length c0, .slice A1 l.length c1, .int .i64 by_] 74 (0, 0))) (.cells #[.slice A0 act.length c0, .slice A1 l.length c1, .int .i64 by_] 136 (0, 0)))
  have HG := Aside0.mk (blk_new (w.alloc (.cells #[.slice A0 act.length c0, .slice A1 l.length c1, .int .i64 by_] 74 (0, 0))) (.cells #[.slice A0 act.length c0, .slice A1 l.length c1, .int .i64 by_] 136 (0, 0)))
  have HBL := Aside0.mk (below_alloc (below_alloc (Below.refl _ w) (.cells #[.slice A0 act.length c0, .slice A1 l.length c1, .int .i64 by_] 74 (0, 0))) (.cells #[.slice A0 act.length c0, .slice A1 l.length c1, .int .i64 by_] 136 (0, 0)))
  rw [World.size_alloc] at HG
  generalize (w.alloc (.cells #[.slice A0 act.length c0, .slice A1 l.length c1, .int .i64 by_] 74 (0, 0))).alloc (.cells #[.slice A0 act.length c0, .slice A1 l.length c1, .int .i64 by_] 136 (0, 0)) = w1 at HX HG HBL ⊢
  have hne : w.heap.size ≠ w.heap.size + 1 := by omega
  have HGE := Aside0.mk (show w.heap.size ≤ w.heap.size + 1 ∧ w.heap.size ≤ w.heap.size from ⟨by omega, by omega⟩)
  generalize w.heap.size + 1 = gw at HG HGE hne ⊢
  have hcall := check_any gw A0 A1 _ c0 _ c1 act l by_ w1 HG.out (Kd.C_below HA.out HBL.out) (Kd.C_below HB.out HBL.out)
  rw [← HR.out] at hcall
  by_cases h0 : r = 0
  · subst h0
    go_upto_region 5 with (go_at_call 140; refine hcall.mono ?_; rintro e w2 ⟨rfl, hb2⟩; have HB2 := Aside0.mk hb2; clear hb2)
    have HX2 := Aside0.mk (blk_below HX.out HB2.out)
    have HG2 := Aside0.mk (blk_below HG.out HB2.out)
    have HBL2 := Aside0.mk (below_step HBL.out HB2.out)
    clear hcall HX HG HBL HB2 w1
    have e0 : w2.cell? ⟨w.heap.size, 0, none⟩ = some (.slice A0 act.length c0) := cell_in HX2.out 0 rfl
    have e1 : w2.cell? ⟨w.heap.size, 1, none⟩ = some (.slice A1 l.length c1) := cell_in HX2.out 1 rfl
    go_region_held3 (fun w' => w'.cell? ⟨w.heap.size, 0, none⟩ = some (.slice A0 act.length c0) ∧ w'.cell? ⟨w.heap.size, 1, none⟩ = some (.slice A1 l.length c1)) (first | go_keep | (refine ⟨?_, ?_⟩ <;> (repeat (rw [hp_far (by assumption)])) <;> assumption))
      (first
        | (go_at_call 125; refine (clone_any A0 c0 act _ (Kd.C_drew (Kd.C_below HA.out HBL2.out)) (by have := HLA.out; omega)).mono ?_; rintro e w3 ⟨vA, rfl, hRA, hb3⟩; have HX3 := Aside0.mk (blk_below (blk_drew HX2.out) hb3); have HG3 := Aside0.mk (blk_below (blk_drew HG2.out) hb3); have e0 : w3.cell? ⟨w.heap.size, 0, none⟩ = some (.slice A0 act.length c0) := cell_in HX3.out 0 rfl; have e1 : w3.cell? ⟨w.heap.size, 1, none⟩ = some (.slice A1 l.length c1) := cell_in HX3.out 1 rfl; have HRA := Aside0.mk hRA; have HBL3 := Aside0.mk (below_step (below_drew1 HBL2.out) hb3); clear hRA hb3)
        | (go_at_call 125; refine (clone_any A1 c1 l _ (Kd.C_below HB.out HBL3.out) (by have := HLB.out; omega)).mono ?_; rintro e w4 ⟨vL, rfl, hRL, hb4⟩; have HX4 := Aside0.mk (blk_below HX3.out hb4); have HG4 := Aside0.mk (blk_below HG3.out hb4); have e0 : w4.cell? ⟨w.heap.size, 0, none⟩ = some (.slice A0 act.length c0) := cell_in HX4.out 0 rfl; have e1 : w4.cell? ⟨w.heap.size, 1, none⟩ = some (.slice A1 l.length c1) := cell_in HX4.out 1 rfl; have HRL := Aside0.mk hRL; have HB4 := Aside0.mk hb4; have HBL4 := Aside0.mk (below_step HBL3.out hb4); have g0 : w4.cell? ⟨gw, 0, none⟩ = some (.slice A0 act.length c0) := cell_in HG4.out 0 rfl; have g1 : w4.cell? ⟨gw, 1, none⟩ = some (.slice A1 l.length c1) := cell_in HG4.out 1 rfl; have f0 : w4.frozen? ⟨gw, 0, none⟩ = false := blk_frozen HG4.out 0; have f1 : w4.frozen? ⟨gw, 1, none⟩ = false := blk_frozen HG4.out 1; obtain ⟨AA, ca, rfl⟩ := Kd.R_slice HRA.out; obtain ⟨AL, cl, rfl⟩ := Kd.R_slice hRL; clear hRL hb4))
    have hRA2 := Kd.R_mono (Kd.R_lower (Kd.R_elder' HRA.out (Kd.R_base HRL.out) HB4.out) (show w.heap.size ≤ w2.drew.heap.size from HBL2.out.size)) (ok' := fun k_ => some k_ ≠ (Value.slice AL l.length cl).ownBlock) (fun k hk => hk.2)
    have hRL2 := Kd.R_mono (Kd.R_lower (Kd.R_new' HRL.out (Kd.R_lt HRA.out)) (show w.heap.size ≤ w3.heap.size from HBL3.out.size)) (ok' := fun k_ => some k_ ≠ (Value.slice AA act.length ca).ownBlock) (fun k hk => hk.2)
    have hk1 := blk_put HG4.out 0 (.slice AA act.length ca) rfl
    have hk2 := blk_put hk1 1 (.slice AL l.length cl) rfl
    have hne3 : ∀ q, q ∈ 3 :: (Kd.int .i64).E → q ≠ 136 := fun q hq => by
      have : q = 3 := by simpa [Kd.int, Kd.scalar] using hq
      omega
    have HW := Aside0.mk (show Work ((w4.setCell ⟨gw, 0, none⟩ (.slice AA act.length ca)).setCell ⟨gw, 1, none⟩ (.slice AL l.length cl)) w.heap.size gw act l by_ from
      ⟨_, _, hk2, HGE.out.1, Kd.R_set (Kd.R_set hRA2 HG4.out hne3 0 _) hk1 hne3 1 _, Kd.R_set (Kd.R_set hRL2 HG4.out hne3 0 _) hk1 hne3 1 _⟩)
    have HBE := Aside0.mk (below_set (j := 1) (v := .slice AL l.length cl) (below_set (j := 0) (v := .slice AA act.length ca) HBL4.out HGE.out.1) HGE.out.1)
    clear hRA2 hRL2 hk1 hk2 hne3
    go_wp2
    go_ret2
    exact ⟨HBE.out, .inr ⟨rfl, gw, rfl, HW.out⟩⟩
  · have h0z : (r != 0) = true := by simp [h0]
    have h0y : (r == 0) = false := by simp [h0]
    have H0 := Aside0.mk h0
    clear h0
    go_wp2_with (go_at_call 140; refine hcall.mono ?_; rintro e w2 ⟨rfl, hb2⟩; have HB2 := Aside0.mk hb2; clear hb2)
    go_ret2
    exact ⟨below_step HBL.out HB2.out, .inl ⟨H0.out, rfl⟩⟩
end Go.Proofs.Ytobadajeekdakaa.Print
