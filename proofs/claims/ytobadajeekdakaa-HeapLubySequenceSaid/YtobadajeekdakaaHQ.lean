/- chalklinelaw21.live: its contract: it answers true. -/
import Derived.Test.YtobadajeekdakaaHZ
import Derived.Test.YtobadajeekdakaaF63
namespace Go.Proofs.Ytobadajeekdakaa.Print
open Go.RowKit Go.Proofs.YtobadajeekdakaaW.PrintWords Go.Proofs.YtobadajeekdakaaW.PrintLast Go.Proofs.YtobadajeekdakaaW.PrintMore
set_option linter.unusedVariables false
set_option linter.unusedSimpArgs false
theorem sortA_of {act l ys : List Int} (hp : ys.Perm l) (hs : rowOkB act ys = true) : sortA act l = ys :=
  (sortA_only hp (fun p q _ h2 h3 => ahead_asymm (rowOk_sorted hs p q h2 h3))).symm
theorem hl1 : heap_New.f 9 3 = some ([0, 0, 0, 0], [1, 2, 3], 1, 0) := by decide +kernel
theorem hl2 : heap_Bump.f [0, 0, 0, 0] [1, 2, 3] 1 2 = some ([0, 0, 1, 0], [2, 1, 3], 1, 0) := by
  have e : sortA [0, 0, 1, 0] [1, 2, 3] = [2, 1, 3] := sortA_of (by decide) (by decide)
  have e2 : scaledV [0, 0, 1, 0] [1, 2, 3] 1 = ([0, 0, 1, 0], [2, 1, 3], 1) := by rw [scaledV, if_neg (by decide), e]
  rw [heap_Bump.f, if_pos (by decide), bumpV, if_neg (by decide), if_neg (by decide), show ([0, 0, 0, 0] : List Int).set (2 : Int).toNat (rd [0, 0, 0, 0] 2 + 1) = [0, 0, 1, 0] from by decide, e2]
theorem hl3 : heap_Pop.f [0, 0, 1, 0] [2, 1, 3] 1 = some ([0, 0, 1, 0], [1, 3], 1, 2, 0) := by decide +kernel
theorem hl4 : heap_Pop.f [0, 0, 1, 0] [1, 3] 1 = some ([0, 0, 1, 0], [3], 1, 1, 0) := by decide +kernel
theorem hl5 : heap_Pop.f [0, 0, 1, 0] [3] 1 = some ([0, 0, 1, 0], [], 1, 3, 0) := by decide +kernel
theorem hl6 : heap_Pop.f [0, 0, 1, 0] [] 1 = some ([], [], 0, 0, 270) := by decide +kernel
theorem hl7 : heap_Push.f [0, 0, 1, 0] [] 1 3 = some ([0, 0, 1, 0], [3], 1, 0) := by decide +kernel
theorem hl8 : heap_Push.f [0, 0, 1, 0] [3] 1 3 = some ([], [], 0, 270) := by decide +kernel
theorem hl9 : heap_Decay.f [0, 0, 0, 0] [1, 2, 3] 1 = some ([0, 0, 0, 0], [1, 2, 3], 2, 0) := by
  have e : sortA [0, 0, 0, 0] [1, 2, 3] = [1, 2, 3] := sortA_of (by decide) (by decide)
  have e2 : scaledV [0, 0, 0, 0] [1, 2, 3] 2 = ([0, 0, 0, 0], [1, 2, 3], 2) := by rw [scaledV, if_neg (by decide), e]
  rw [heap_Decay.f, if_pos (by decide), decayV, if_neg (by decide), show ((1 : Int) + (1 / 20 + 1)) = 2 from by decide, e2]
theorem hl10 : heap_Check.f [0, 0, 1, 0] [2, 1, 3] 1 = some 0 := by decide +kernel
theorem hl11 : heap_Check.f [] [] 0 = some 1 := by decide +kernel
theorem hm1 : heap_Luby.f 20 1 = some 1 := by decide +kernel
theorem hm2 : heap_Luby.f 20 2 = some 1 := by decide +kernel
theorem hm3 : heap_Luby.f 20 3 = some 2 := by decide +kernel
theorem hm4 : heap_Luby.f 20 4 = some 1 := by decide +kernel
theorem hm5 : heap_Luby.f 20 7 = some 4 := by decide +kernel
theorem hm6 : heap_Luby.f 20 0 = some 0 := by decide +kernel

theorem hp_R_slice {W : World} {base : Nat} {ok : Nat → Prop} {v : Value} {xs : List Int} (h : Kd.R (Kd.int .i64) 3 W base ok v xs) : ∃ A c, v = .slice A xs.length c ∧ True := by
  obtain ⟨A, c, e⟩ := Kd.R_slice h
  exact ⟨A, c, e, trivial⟩
/-- A heap in a block of its own. -/
def HeapAt (W : World) (g : Nat) (A B : Option Addr) (c d : Nat) (act l : List Int) (by_ : Int) : Prop :=
  W.heap[g]? = some (.cells #[.slice A act.length c, .slice B l.length d, .int .i64 by_] 74 (0, 0)) ∧ Kd.C (Kd.int .i64) W A act.length act ∧ Kd.C (Kd.int .i64) W B l.length l ∧ act.length ≤ c ∧ l.length ≤ d
theorem HeapAt.below {W W1 : World} {g : Nat} {A B : Option Addr} {c d : Nat} {act l : List Int} {by_ : Int} (h : HeapAt W g A B c d act l by_) (hb : Below W.heap.size W W1) : HeapAt W1 g A B c d act l by_ :=
  ⟨blk_below h.1 hb, Kd.C_below h.2.1 hb, Kd.C_below h.2.2.1 hb, h.2.2.2⟩

def chalklinelaw21_live.f : Option Bool := some true
set_option maxHeartbeats 8000000 in
set_option maxRecDepth 100000 in
theorem chalklinelaw21_live.calls (r : Bool) (w : World) (h : chalklinelaw21_live.f = some r) : Calls Try.prog 61 #[] w fun e w' => e = .returned (.bool r) ∧ Below w.heap.size w w' := by
  obtain rfl : true = r := Option.some.inj h
  clear h
  go_enter Try.func61, Try.ntmps61
  go_upto_region 2 with (go_at_call 63; refine (heap_New.calls 9 3 [0, 0, 0, 0] [1, 2, 3] 1 0 _ hl1).mono ?_; rintro e v0 ⟨vA, vL, rfl, hA, hL, hb⟩; obtain ⟨A0, a0, rfl⟩ := Kd.R_slice hA; obtain ⟨B0, b0, rfl, _⟩ := hp_R_slice hL; have HA := Aside0.mk (Kd.R_reads' hA).2; have HL := Aside0.mk (Kd.R_reads' hL).2; have HB := Aside0.mk hb; clear hA hL hb)
  have Hh : Aside0 (HeapAt (v0.alloc (.cells #[.slice A0 4 a0, .slice B0 3 b0, .int .i64 1] 74 (0, 0))) v0.heap.size A0 B0 a0 b0 [0, 0, 0, 0] [1, 2, 3] 1) := ⟨⟨blk_new _ _, Kd.C_alloc HA.out.2 _, Kd.C_alloc HL.out.2 _, HA.out.1, HL.out.1⟩⟩
  have HBB := Aside0.mk (below_alloc HB.out (.cells #[.slice A0 4 a0, .slice B0 3 b0, .int .i64 1] 74 (0, 0)))
  have HT := HBB
  clear HA HL HB HBB
  generalize v0.alloc (.cells #[.slice A0 4 a0, .slice B0 3 b0, .int .i64 1] 74 (0, 0)) = W0 at Hh HT ⊢
  generalize v0.heap.size = g0 at Hh ⊢
  have c0 : W0.cell? ⟨g0, 0, none⟩ = some (.slice A0 4 a0) := cell_in Hh.out.1 0 rfl
  have c1 : W0.cell? ⟨g0, 1, none⟩ = some (.slice B0 3 b0) := cell_in Hh.out.1 1 rfl
  have c2 : W0.cell? ⟨g0, 2, none⟩ = some (.int .i64 1) := cell_in Hh.out.1 2 rfl
  go_upto_region 3 with (go_at_call 70; refine (heap_Bump.calls A0 a0 [0, 0, 0, 0] B0 b0 [1, 2, 3] 1 2 [0, 0, 1, 0] [2, 1, 3] 1 0 _ Hh.out.2.1 Hh.out.2.2.2.1 Hh.out.2.2.1 Hh.out.2.2.2.2 hl2).mono ?_; rintro e v1 ⟨vA, vL, rfl, hA, hL, hb⟩; obtain ⟨A1, a1, rfl⟩ := Kd.R_slice hA; obtain ⟨B1, b1, rfl, _⟩ := hp_R_slice hL; have HA := Aside0.mk (Kd.R_reads' hA).2; have HL := Aside0.mk (Kd.R_reads' hL).2; have HB := Aside0.mk hb; clear hA hL hb; clear c0 c1 c2)
  have Hx : Aside0 (HeapAt (v1.alloc (.cells #[.slice A1 4 a1, .slice B1 3 b1, .int .i64 1] 74 (0, 0))) v1.heap.size A1 B1 a1 b1 [0, 0, 1, 0] [2, 1, 3] 1) := ⟨⟨blk_new _ _, Kd.C_alloc HA.out.2 _, Kd.C_alloc HL.out.2 _, HA.out.1, HL.out.1⟩⟩
  have HBB := Aside0.mk (below_alloc HB.out (.cells #[.slice A1 4 a1, .slice B1 3 b1, .int .i64 1] 74 (0, 0)))
  replace Hh := Aside0.mk (Hh.out.below HBB.out)
  replace HT := Aside0.mk (below_step HT.out HBB.out)
  clear HA HL HB HBB
  generalize v1.alloc (.cells #[.slice A1 4 a1, .slice B1 3 b1, .int .i64 1] 74 (0, 0)) = W1 at Hh Hx HT ⊢
  generalize v1.heap.size = g1 at Hx ⊢
  have c0 : W1.cell? ⟨g1, 0, none⟩ = some (.slice A1 4 a1) := cell_in Hx.out.1 0 rfl
  have c1 : W1.cell? ⟨g1, 1, none⟩ = some (.slice B1 3 b1) := cell_in Hx.out.1 1 rfl
  have c2 : W1.cell? ⟨g1, 2, none⟩ = some (.int .i64 1) := cell_in Hx.out.1 2 rfl
  go_upto_region 4 with (go_at_call 74; refine (heap_Pop.calls A1 a1 [0, 0, 1, 0] B1 b1 [2, 1, 3] 1 [0, 0, 1, 0] [1, 3] 1 2 0 _ Hx.out.2.1 Hx.out.2.2.2.1 Hx.out.2.2.1 Hx.out.2.2.2.2 hl3).mono ?_; rintro e v2 ⟨vA, vL, rfl, hA, hL, hb⟩; obtain ⟨A2, a2, rfl⟩ := Kd.R_slice hA; obtain ⟨B2, b2, rfl, _⟩ := Kd.Q_slice hL; have HA := Aside0.mk (Kd.R_reads' hA).2; have HL := Aside0.mk (Kd.Q_reads' hL).2; have HB := Aside0.mk hb; clear hA hL hb; clear c0 c1 c2)
  have Ha : Aside0 (HeapAt (v2.alloc (.cells #[.slice A2 4 a2, .slice B2 2 b2, .int .i64 1] 74 (0, 0))) v2.heap.size A2 B2 a2 b2 [0, 0, 1, 0] [1, 3] 1) := ⟨⟨blk_new _ _, Kd.C_alloc HA.out.2 _, Kd.C_alloc HL.out.2 _, HA.out.1, HL.out.1⟩⟩
  have HBB := Aside0.mk (below_alloc HB.out (.cells #[.slice A2 4 a2, .slice B2 2 b2, .int .i64 1] 74 (0, 0)))
  replace Hh := Aside0.mk (Hh.out.below HBB.out)
  replace Hx := Aside0.mk (Hx.out.below HBB.out)
  replace HT := Aside0.mk (below_step HT.out HBB.out)
  clear HA HL HB HBB
  generalize v2.alloc (.cells #[.slice A2 4 a2, .slice B2 2 b2, .int .i64 1] 74 (0, 0)) = W2 at Hh Hx Ha HT ⊢
  generalize v2.heap.size = g2 at Ha ⊢
  have c0 : W2.cell? ⟨g2, 0, none⟩ = some (.slice A2 4 a2) := cell_in Ha.out.1 0 rfl
  have c1 : W2.cell? ⟨g2, 1, none⟩ = some (.slice B2 2 b2) := cell_in Ha.out.1 1 rfl
  have c2 : W2.cell? ⟨g2, 2, none⟩ = some (.int .i64 1) := cell_in Ha.out.1 2 rfl
  go_upto_region 5 with (go_at_call 74; refine (heap_Pop.calls A2 a2 [0, 0, 1, 0] B2 b2 [1, 3] 1 [0, 0, 1, 0] [3] 1 1 0 _ Ha.out.2.1 Ha.out.2.2.2.1 Ha.out.2.2.1 Ha.out.2.2.2.2 hl4).mono ?_; rintro e v3 ⟨vA, vL, rfl, hA, hL, hb⟩; obtain ⟨A3, a3, rfl⟩ := Kd.R_slice hA; obtain ⟨B3, b3, rfl, _⟩ := Kd.Q_slice hL; have HA := Aside0.mk (Kd.R_reads' hA).2; have HL := Aside0.mk (Kd.Q_reads' hL).2; have HB := Aside0.mk hb; clear hA hL hb; clear c0 c1 c2)
  have Hb : Aside0 (HeapAt (v3.alloc (.cells #[.slice A3 4 a3, .slice B3 1 b3, .int .i64 1] 74 (0, 0))) v3.heap.size A3 B3 a3 b3 [0, 0, 1, 0] [3] 1) := ⟨⟨blk_new _ _, Kd.C_alloc HA.out.2 _, Kd.C_alloc HL.out.2 _, HA.out.1, HL.out.1⟩⟩
  have HBB := Aside0.mk (below_alloc HB.out (.cells #[.slice A3 4 a3, .slice B3 1 b3, .int .i64 1] 74 (0, 0)))
  replace Hh := Aside0.mk (Hh.out.below HBB.out)
  replace Hx := Aside0.mk (Hx.out.below HBB.out)
  clear Ha
  replace HT := Aside0.mk (below_step HT.out HBB.out)
  clear HA HL HB HBB
  generalize v3.alloc (.cells #[.slice A3 4 a3, .slice B3 1 b3, .int .i64 1] 74 (0, 0)) = W3 at Hh Hx Hb HT ⊢
  generalize v3.heap.size = g3 at Hb ⊢
  have c0 : W3.cell? ⟨g3, 0, none⟩ = some (.slice A3 4 a3) := cell_in Hb.out.1 0 rfl
  have c1 : W3.cell? ⟨g3, 1, none⟩ = some (.slice B3 1 b3) := cell_in Hb.out.1 1 rfl
  have c2 : W3.cell? ⟨g3, 2, none⟩ = some (.int .i64 1) := cell_in Hb.out.1 2 rfl
  go_upto_region 6 with (go_at_call 74; refine (heap_Pop.calls A3 a3 [0, 0, 1, 0] B3 b3 [3] 1 [0, 0, 1, 0] [] 1 3 0 _ Hb.out.2.1 Hb.out.2.2.2.1 Hb.out.2.2.1 Hb.out.2.2.2.2 hl5).mono ?_; rintro e v4 ⟨vA, vL, rfl, hA, hL, hb⟩; obtain ⟨A4, a4, rfl⟩ := Kd.R_slice hA; obtain ⟨B4, b4, rfl, _⟩ := Kd.Q_slice hL; have HA := Aside0.mk (Kd.R_reads' hA).2; have HL := Aside0.mk (Kd.Q_reads' hL).2; have HB := Aside0.mk hb; clear hA hL hb; clear c0 c1 c2)
  have Hc : Aside0 (HeapAt (v4.alloc (.cells #[.slice A4 4 a4, .slice B4 0 b4, .int .i64 1] 74 (0, 0))) v4.heap.size A4 B4 a4 b4 [0, 0, 1, 0] [] 1) := ⟨⟨blk_new _ _, Kd.C_alloc HA.out.2 _, Kd.C_alloc HL.out.2 _, HA.out.1, HL.out.1⟩⟩
  have HBB := Aside0.mk (below_alloc HB.out (.cells #[.slice A4 4 a4, .slice B4 0 b4, .int .i64 1] 74 (0, 0)))
  replace Hh := Aside0.mk (Hh.out.below HBB.out)
  replace Hx := Aside0.mk (Hx.out.below HBB.out)
  clear Hb
  replace HT := Aside0.mk (below_step HT.out HBB.out)
  clear HA HL HB HBB
  generalize v4.alloc (.cells #[.slice A4 4 a4, .slice B4 0 b4, .int .i64 1] 74 (0, 0)) = W4 at Hh Hx Hc HT ⊢
  generalize v4.heap.size = g4 at Hc ⊢
  have c0 : W4.cell? ⟨g4, 0, none⟩ = some (.slice A4 4 a4) := cell_in Hc.out.1 0 rfl
  have c1 : W4.cell? ⟨g4, 1, none⟩ = some (.slice B4 0 b4) := cell_in Hc.out.1 1 rfl
  have c2 : W4.cell? ⟨g4, 2, none⟩ = some (.int .i64 1) := cell_in Hc.out.1 2 rfl
  go_upto_region 7 with (go_at_call 74; refine (heap_Pop.calls A4 a4 [0, 0, 1, 0] B4 b4 [] 1 [] [] 0 0 270 _ Hc.out.2.1 Hc.out.2.2.2.1 Hc.out.2.2.1 Hc.out.2.2.2.2 hl6).mono ?_; rintro e v5 ⟨vA, vL, rfl, hA, hL, hb⟩; obtain ⟨A5, a5, rfl⟩ := Kd.R_slice hA; obtain ⟨B5, b5, rfl, _⟩ := Kd.Q_slice hL; have HA := Aside0.mk (Kd.R_reads' hA).2; have HL := Aside0.mk (Kd.Q_reads' hL).2; have HB := Aside0.mk hb; clear hA hL hb; clear c0 c1 c2)
  have Hp : Aside0 (HeapAt (v5.alloc (.cells #[.slice A5 0 a5, .slice B5 0 b5, .int .i64 0] 74 (0, 0))) v5.heap.size A5 B5 a5 b5 [] [] 0) := ⟨⟨blk_new _ _, Kd.C_alloc HA.out.2 _, Kd.C_alloc HL.out.2 _, HA.out.1, HL.out.1⟩⟩
  have HBB := Aside0.mk (below_alloc HB.out (.cells #[.slice A5 0 a5, .slice B5 0 b5, .int .i64 0] 74 (0, 0)))
  replace Hh := Aside0.mk (Hh.out.below HBB.out)
  replace Hx := Aside0.mk (Hx.out.below HBB.out)
  replace Hc := Aside0.mk (Hc.out.below HBB.out)
  replace HT := Aside0.mk (below_step HT.out HBB.out)
  clear HA HL HB HBB
  generalize v5.alloc (.cells #[.slice A5 0 a5, .slice B5 0 b5, .int .i64 0] 74 (0, 0)) = W5 at Hh Hx Hc Hp HT ⊢
  generalize v5.heap.size = g5 at Hp ⊢
  clear Hp
  have c0 : W5.cell? ⟨g4, 0, none⟩ = some (.slice A4 4 a4) := cell_in Hc.out.1 0 rfl
  have c1 : W5.cell? ⟨g4, 1, none⟩ = some (.slice B4 0 b4) := cell_in Hc.out.1 1 rfl
  have c2 : W5.cell? ⟨g4, 2, none⟩ = some (.int .i64 1) := cell_in Hc.out.1 2 rfl
  go_upto_region 8 with (go_at_call 76; refine (heap_Push.calls A4 a4 [0, 0, 1, 0] B4 b4 [] 1 3 [0, 0, 1, 0] [3] 1 0 _ Hc.out.2.1 Hc.out.2.2.2.1 Hc.out.2.2.1 Hc.out.2.2.2.2 hl7).mono ?_; rintro e v6 ⟨vA, vL, rfl, hA, hL, hb⟩; obtain ⟨A6, a6, rfl⟩ := Kd.R_slice hA; obtain ⟨B6, b6, rfl, _⟩ := hp_R_slice hL; have HA := Aside0.mk (Kd.R_reads' hA).2; have HL := Aside0.mk (Kd.R_reads' hL).2; have HB := Aside0.mk hb; clear hA hL hb; clear c0 c1 c2)
  have Hy : Aside0 (HeapAt (v6.alloc (.cells #[.slice A6 4 a6, .slice B6 1 b6, .int .i64 1] 74 (0, 0))) v6.heap.size A6 B6 a6 b6 [0, 0, 1, 0] [3] 1) := ⟨⟨blk_new _ _, Kd.C_alloc HA.out.2 _, Kd.C_alloc HL.out.2 _, HA.out.1, HL.out.1⟩⟩
  have HBB := Aside0.mk (below_alloc HB.out (.cells #[.slice A6 4 a6, .slice B6 1 b6, .int .i64 1] 74 (0, 0)))
  replace Hh := Aside0.mk (Hh.out.below HBB.out)
  replace Hx := Aside0.mk (Hx.out.below HBB.out)
  clear Hc
  replace HT := Aside0.mk (below_step HT.out HBB.out)
  clear HA HL HB HBB
  generalize v6.alloc (.cells #[.slice A6 4 a6, .slice B6 1 b6, .int .i64 1] 74 (0, 0)) = W6 at Hh Hx Hy HT ⊢
  generalize v6.heap.size = g6 at Hy ⊢
  have c0 : W6.cell? ⟨g6, 0, none⟩ = some (.slice A6 4 a6) := cell_in Hy.out.1 0 rfl
  have c1 : W6.cell? ⟨g6, 1, none⟩ = some (.slice B6 1 b6) := cell_in Hy.out.1 1 rfl
  have c2 : W6.cell? ⟨g6, 2, none⟩ = some (.int .i64 1) := cell_in Hy.out.1 2 rfl
  go_upto_region 9 with (go_at_call 76; refine (heap_Push.calls A6 a6 [0, 0, 1, 0] B6 b6 [3] 1 3 [] [] 0 270 _ Hy.out.2.1 Hy.out.2.2.2.1 Hy.out.2.2.1 Hy.out.2.2.2.2 hl8).mono ?_; rintro e v7 ⟨vA, vL, rfl, hA, hL, hb⟩; obtain ⟨A7, a7, rfl⟩ := Kd.R_slice hA; obtain ⟨B7, b7, rfl, _⟩ := hp_R_slice hL; have HA := Aside0.mk (Kd.R_reads' hA).2; have HL := Aside0.mk (Kd.R_reads' hL).2; have HB := Aside0.mk hb; clear hA hL hb; clear c0 c1 c2)
  have Hq : Aside0 (HeapAt (v7.alloc (.cells #[.slice A7 0 a7, .slice B7 0 b7, .int .i64 0] 74 (0, 0))) v7.heap.size A7 B7 a7 b7 [] [] 0) := ⟨⟨blk_new _ _, Kd.C_alloc HA.out.2 _, Kd.C_alloc HL.out.2 _, HA.out.1, HL.out.1⟩⟩
  have HBB := Aside0.mk (below_alloc HB.out (.cells #[.slice A7 0 a7, .slice B7 0 b7, .int .i64 0] 74 (0, 0)))
  replace Hh := Aside0.mk (Hh.out.below HBB.out)
  replace Hx := Aside0.mk (Hx.out.below HBB.out)
  replace Hy := Aside0.mk (Hy.out.below HBB.out)
  replace HT := Aside0.mk (below_step HT.out HBB.out)
  clear HA HL HB HBB
  generalize v7.alloc (.cells #[.slice A7 0 a7, .slice B7 0 b7, .int .i64 0] 74 (0, 0)) = W7 at Hh Hx Hy Hq HT ⊢
  generalize v7.heap.size = g7 at Hq ⊢
  clear Hq
  have c0 : W7.cell? ⟨g0, 0, none⟩ = some (.slice A0 4 a0) := cell_in Hh.out.1 0 rfl
  have c1 : W7.cell? ⟨g0, 1, none⟩ = some (.slice B0 3 b0) := cell_in Hh.out.1 1 rfl
  have c2 : W7.cell? ⟨g0, 2, none⟩ = some (.int .i64 1) := cell_in Hh.out.1 2 rfl
  go_upto_region 10 with (go_at_call 72; refine (heap_Decay.calls A0 a0 [0, 0, 0, 0] B0 b0 [1, 2, 3] 1 [0, 0, 0, 0] [1, 2, 3] 2 0 _ Hh.out.2.1 Hh.out.2.2.2.1 Hh.out.2.2.1 Hh.out.2.2.2.2 hl9).mono ?_; rintro e v8 ⟨vA, vL, rfl, hA, hL, hb⟩; obtain ⟨A8, a8, rfl⟩ := Kd.R_slice hA; obtain ⟨B8, b8, rfl, _⟩ := hp_R_slice hL; have HA := Aside0.mk (Kd.R_reads' hA).2; have HL := Aside0.mk (Kd.R_reads' hL).2; have HB := Aside0.mk hb; clear hA hL hb; clear c0 c1 c2)
  have Hd : Aside0 (HeapAt (v8.alloc (.cells #[.slice A8 4 a8, .slice B8 3 b8, .int .i64 2] 74 (0, 0))) v8.heap.size A8 B8 a8 b8 [0, 0, 0, 0] [1, 2, 3] 2) := ⟨⟨blk_new _ _, Kd.C_alloc HA.out.2 _, Kd.C_alloc HL.out.2 _, HA.out.1, HL.out.1⟩⟩
  have HBB := Aside0.mk (below_alloc HB.out (.cells #[.slice A8 4 a8, .slice B8 3 b8, .int .i64 2] 74 (0, 0)))
  replace Hx := Aside0.mk (Hx.out.below HBB.out)
  replace Hy := Aside0.mk (Hy.out.below HBB.out)
  clear Hh
  replace HT := Aside0.mk (below_step HT.out HBB.out)
  clear HA HL HB HBB
  generalize v8.alloc (.cells #[.slice A8 4 a8, .slice B8 3 b8, .int .i64 2] 74 (0, 0)) = W8 at Hx Hy Hd HT ⊢
  generalize v8.heap.size = g8 at Hd ⊢
  go_upto_region 12 with (first | (go_at_call 68; (with_reducible refine (heap_Luby.calls 20 1 1 _ hm1).mono ?_); rintro e u1 ⟨rfl, hd⟩; replace Hx := Aside0.mk (Hx.out.below hd.below); replace Hy := Aside0.mk (Hy.out.below hd.below); replace Hd := Aside0.mk (Hd.out.below hd.below); replace HT := Aside0.mk (below_step HT.out hd.below); clear hd) | (go_at_call 68; (with_reducible refine (heap_Luby.calls 20 2 1 _ hm2).mono ?_); rintro e u2 ⟨rfl, hd⟩; replace Hx := Aside0.mk (Hx.out.below hd.below); replace Hy := Aside0.mk (Hy.out.below hd.below); replace Hd := Aside0.mk (Hd.out.below hd.below); replace HT := Aside0.mk (below_step HT.out hd.below); clear hd) | (go_at_call 68; (with_reducible refine (heap_Luby.calls 20 3 2 _ hm3).mono ?_); rintro e u3 ⟨rfl, hd⟩; replace Hx := Aside0.mk (Hx.out.below hd.below); replace Hy := Aside0.mk (Hy.out.below hd.below); replace Hd := Aside0.mk (Hd.out.below hd.below); replace HT := Aside0.mk (below_step HT.out hd.below); clear hd) | (go_at_call 68; (with_reducible refine (heap_Luby.calls 20 4 1 _ hm4).mono ?_); rintro e u4 ⟨rfl, hd⟩; replace Hx := Aside0.mk (Hx.out.below hd.below); replace Hy := Aside0.mk (Hy.out.below hd.below); replace Hd := Aside0.mk (Hd.out.below hd.below); replace HT := Aside0.mk (below_step HT.out hd.below); clear hd) | (go_at_call 68; (with_reducible refine (heap_Luby.calls 20 7 4 _ hm5).mono ?_); rintro e u5 ⟨rfl, hd⟩; replace Hx := Aside0.mk (Hx.out.below hd.below); replace Hy := Aside0.mk (Hy.out.below hd.below); replace Hd := Aside0.mk (Hd.out.below hd.below); replace HT := Aside0.mk (below_step HT.out hd.below); clear hd) | (go_at_call 68; (with_reducible refine (heap_Luby.calls 20 0 0 _ hm6).mono ?_); rintro e u6 ⟨rfl, hd⟩; replace Hx := Aside0.mk (Hx.out.below hd.below); replace Hy := Aside0.mk (Hy.out.below hd.below); replace Hd := Aside0.mk (Hd.out.below hd.below); replace HT := Aside0.mk (below_step HT.out hd.below); clear hd))
  have c0 : u6.cell? ⟨g1, 0, none⟩ = some (.slice A1 4 a1) := cell_in Hx.out.1 0 rfl
  have c1 : u6.cell? ⟨g1, 1, none⟩ = some (.slice B1 3 b1) := cell_in Hx.out.1 1 rfl
  have c2 : u6.cell? ⟨g1, 2, none⟩ = some (.int .i64 1) := cell_in Hx.out.1 2 rfl
  have c3 : u6.cell? ⟨g6, 1, none⟩ = some (.slice B6 1 b6) := cell_in Hy.out.1 1 rfl
  have c4 : u6.cell? ⟨g8, 2, none⟩ = some (.int .i64 2) := cell_in Hd.out.1 2 rfl
  have hk1 : Calls Try.prog 65 #[.agg #[.slice A1 4 a1, .slice B1 3 b1, .int .i64 1]] u6 fun e w' => e = .returned (.int .i64 0) ∧ Below u6.heap.size u6 w' := heap_Check.calls A1 a1 [0, 0, 1, 0] B1 b1 [2, 1, 3] 1 0 u6 Hx.out.2.1 Hx.out.2.2.2.1 Hx.out.2.2.1 Hx.out.2.2.2.2 hl10
  have hk2 : ∀ W, Calls Try.prog 65 #[.agg #[.slice none 0 0, .slice none 0 0, .int .i64 0]] W fun e w' => e = .returned (.int .i64 1) ∧ Below W.heap.size W w' := fun W => heap_Check.calls none 0 [] none 0 [] 0 1 W (Kd.C_nil _ _) (Nat.le_refl _) (Kd.C_nil _ _) (Nat.le_refl _) hl11
  have HK1 := Aside0.mk hk1
  have HK2 := Aside0.mk hk2
  clear hk1 hk2
  go_wp2_with (first | (go_at_call 65; (with_reducible refine HK1.out.mono ?_); rintro e x1 ⟨rfl, hb⟩; replace HT := Aside0.mk (below_step HT.out hb); clear hb) | (go_at_call 65; (with_reducible refine (HK2.out _).mono ?_); rintro e x2 ⟨rfl, hb⟩; replace HT := Aside0.mk (below_step HT.out hb); clear hb))
  go_ret
  exact ⟨rfl, HT.out⟩
end Go.Proofs.Ytobadajeekdakaa.Print
