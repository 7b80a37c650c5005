/- chalklinelaw20.live: its contract: it answers true. -/
import Derived.Test.YtobadajeekdakaaH
import Derived.Test.YtobadajeekdakaaJ
import Derived.Test.YtobadajeekdakaaE
namespace Go.Proofs.Ytobadajeekdakaa.Print
open Go.RowKit Go.Proofs.YtobadajeekdakaaW.PrintWords Go.Proofs.YtobadajeekdakaaW.PrintLast Go.Proofs.YtobadajeekdakaaW.PrintMore
set_option linter.unusedVariables false
set_option linter.unusedSimpArgs false
abbrev L1 : List (List Int) := [[-1, 2], [-1, 3], [-2, -3, -4]]
abbrev T1 : List S41 := [⟨4, -1⟩, ⟨1, -1⟩, ⟨2, 0⟩, ⟨3, 1⟩]
abbrev L2 : List (List Int) := [[1], [-1]]
abbrev T2 : List S41 := [⟨1, 0⟩]
abbrev L3 : List (List Int) := [[-1, 2]]
abbrev T3 : List S41 := [⟨1, -1⟩, ⟨2, 0⟩, ⟨3, -1⟩]
theorem live1 : learn_First.f 4 L1 T1 2 = some ([-1, -4], 1, 0) := by decide +kernel
theorem live2 : learn_First.f 4 L1 T1 0 = some ([], 0, 1) := by decide +kernel
theorem live3 : learn_First.f 1 L2 T2 1 = some ([], 0, 200) := by decide +kernel
theorem live4 : learn_Less.f 3 L3 T3 [-3, -2, -1] = some ([-1, -3], 0) := by decide +kernel
theorem live5 : learn_Less.f 3 L3 T3 [3] = some ([], 1) := by decide +kernel
theorem live6 : chalklineref15_Ints.f 3 [-1, -4] [-1, -4] = some true := by decide +kernel
theorem live7 : chalklineref15_Ints.f 3 [-1, -3] [-1, -3] = some true := by decide +kernel
theorem get_cons {α : Type} {p : Nat → α → Prop} {a : α} {l : List α} (h0 : p 0 a) (h1 : ∀ (j : Nat) (r : α), l[j]? = some r → p (j + 1) r) : ∀ (j : Nat) (r : α), (a :: l)[j]? = some r → p j r
  | 0, r, h => by have h : a = r := by simpa using h
                  subst h; exact h0
  | j + 1, r, h => h1 j r (by simpa using h)
theorem get_nil {α : Type} {p : Nat → α → Prop} : ∀ (j : Nat) (r : α), ([] : List α)[j]? = some r → p j r := fun j r h => by simp at h

def chalklinelaw20_live.f : Option Bool := some true
set_option maxHeartbeats 4000000 in
set_option maxRecDepth 100000 in
theorem chalklinelaw20_live.calls (r : Bool) (w : World) (h : chalklinelaw20_live.f = some r) : Calls Try.prog 26 #[] w fun e w' => e = .returned (.bool r) ∧ Below w.heap.size w w' := by
  obtain rfl : true = r := Option.some.inj h
  clear h
  go_enter Try.func26, Try.ntmps26
  go_upto_region 3 with (fail)
  have k0 := blk_list [.cells #[.int .i64 (-1), .int .i64 2] 3 (0, 0), .cells #[.int .i64 (-1), .int .i64 3] 3 (0, 0), .cells #[.int .i64 (-2), .int .i64 (-3), .int .i64 (-4)] 3 (0, 0), .cells #[.slice (some ⟨w.heap.size, 0, none⟩) 2 2, .slice (some ⟨w.heap.size + 1, 0, none⟩) 2 2, .slice (some ⟨w.heap.size + 1 + 1, 0, none⟩) 3 3] 28 (0, 0), .cells #[.int .i64 4, .slice (some ⟨w.heap.size + 1 + 1 + 1, 0, none⟩) 3 3] 24 (0, 0), .cells #[.int .i64 4, .int .i64 (-1), .int .i64 1, .int .i64 (-1), .int .i64 2, .int .i64 0, .int .i64 3, .int .i64 1] 41 (0, 0)] w
  have kb := below_list [.cells #[.int .i64 (-1), .int .i64 2] 3 (0, 0), .cells #[.int .i64 (-1), .int .i64 3] 3 (0, 0), .cells #[.int .i64 (-2), .int .i64 (-3), .int .i64 (-4)] 3 (0, 0), .cells #[.slice (some ⟨w.heap.size, 0, none⟩) 2 2, .slice (some ⟨w.heap.size + 1, 0, none⟩) 2 2, .slice (some ⟨w.heap.size + 1 + 1, 0, none⟩) 3 3] 28 (0, 0), .cells #[.int .i64 4, .slice (some ⟨w.heap.size + 1 + 1 + 1, 0, none⟩) 3 3] 24 (0, 0), .cells #[.int .i64 4, .int .i64 (-1), .int .i64 1, .int .i64 (-1), .int .i64 2, .int .i64 0, .int .i64 3, .int .i64 1] 41 (0, 0)] w.heap.size w w (Below.refl _ _) (Nat.le_refl _)
  simp only [List.foldl_cons, List.foldl_nil] at k0 kb
  generalize (((((w.alloc (.cells #[.int .i64 (-1), .int .i64 2] 3 (0, 0))).alloc (.cells #[.int .i64 (-1), .int .i64 3] 3 (0, 0))).alloc (.cells #[.int .i64 (-2), .int .i64 (-3), .int .i64 (-4)] 3 (0, 0))).alloc (.cells #[.slice (some ⟨w.heap.size, 0, none⟩) 2 2, .slice (some ⟨w.heap.size + 1, 0, none⟩) 2 2, .slice (some ⟨w.heap.size + 1 + 1, 0, none⟩) 3 3] 28 (0, 0))).alloc (.cells #[.int .i64 4, .slice (some ⟨w.heap.size + 1 + 1 + 1, 0, none⟩) 3 3] 24 (0, 0))).alloc (.cells #[.int .i64 4, .int .i64 (-1), .int .i64 1, .int .i64 (-1), .int .i64 2, .int .i64 0, .int .i64 3, .int .i64 1] 41 (0, 0)) = w3 at k0 kb ⊢
  have HB := Aside0.mk kb
  have HBX : Aside0 (w3.heap[w.heap.size + 1 + 1 + 1 + 1]? = some (.cells #[.int .i64 4, .slice (some ⟨w.heap.size + 1 + 1 + 1, 0, none⟩) 3 3] 24 (0, 0))) := ⟨k0 4 _ rfl⟩
  have HT : Aside0 (Kd.C k41 w3 (some ⟨w.heap.size + 1 + 1 + 1 + 1 + 1, 0, none⟩) T1.length T1) := ⟨C_steps T1 _ (by simp) (k0 5 _ rfl) (get_cons ⟨rfl, rfl⟩ (get_cons ⟨rfl, rfl⟩ (get_cons ⟨rfl, rfl⟩ (get_cons ⟨rfl, rfl⟩ get_nil))))⟩
  have HL : Aside0 (Kd.C (Kd.slice 3 (Kd.int .i64)) w3 (some ⟨w.heap.size + 1 + 1 + 1, 0, none⟩) L1.length L1) := ⟨C_rows L1 _ (by simp) (k0 3 _ rfl) (get_cons ⟨_, _, rfl, by simp, C_ints [-1, 2] (by simp) (k0 0 _ rfl)⟩ (get_cons ⟨_, _, rfl, by simp, C_ints [-1, 3] (by simp) (k0 1 _ rfl)⟩ (get_cons ⟨_, _, rfl, by simp, C_ints [-2, -3, -4] (by simp) (k0 2 _ rfl)⟩ get_nil)))⟩
  clear k0 kb
  generalize w.heap.size + 1 + 1 + 1 + 1 + 1 = gt at HT ⊢
  generalize w.heap.size + 1 + 1 + 1 + 1 = gb at HBX ⊢
  generalize w.heap.size + 1 + 1 + 1 = gr at HBX HL ⊢
  generalize w.heap.size + 1 + 1 = gq
  generalize w.heap.size + 1 = gp
  have c0 : w3.cell? ⟨gb, 0, none⟩ = some (.int .i64 4) := cell_in HBX.out 0 rfl
  have c1 : w3.cell? ⟨gb, 1, none⟩ = some (.slice (some ⟨gr, 0, none⟩) 3 3) := cell_in HBX.out 1 rfl
  go_upto_region 4 with (go_at_call 28; refine (learn_First.calls 4 (some ⟨gr, 0, none⟩) 3 L1 (some ⟨gt, 0, none⟩) 4 T1 2 [-1, -4] 1 0 _ HL.out (by simp) HT.out (by simp) live1).mono ?_; rintro e w4 ⟨v1, rfl, hR, hb⟩; obtain ⟨Ar1, cr1, rfl⟩ := Kd.R_slice hR; have HR1 := Aside0.mk (Kd.R_reads' hR).2; have HB4 := Aside0.mk (below_step HB.out hb); have HT4 := Aside0.mk (Kd.C_below HT.out hb); have HL4 := Aside0.mk (Kd.C_below HL.out hb); have HBX4 := Aside0.mk (blk_below HBX.out hb); clear hb hR c0 c1)
  clear HB HT HL HBX w3
  have c0 : w4.cell? ⟨gb, 0, none⟩ = some (.int .i64 4) := cell_in HBX4.out 0 rfl
  have c1 : w4.cell? ⟨gb, 1, none⟩ = some (.slice (some ⟨gr, 0, none⟩) 3 3) := cell_in HBX4.out 1 rfl
  go_upto_region 5 with (go_at_call 28; refine (learn_First.calls 4 (some ⟨gr, 0, none⟩) 3 L1 (some ⟨gt, 0, none⟩) 4 T1 0 [] 0 1 _ HL4.out (by simp) HT4.out (by simp) live2).mono ?_; rintro e w5 ⟨v2, rfl, hR, hb⟩; have HR1b := Aside0.mk (Kd.C_below HR1.out.2 hb); have HR1c := Aside0.mk HR1.out.1; have HB5 := Aside0.mk (below_step HB4.out hb); clear hb hR c0 c1)
  clear HB4 HT4 HL4 HBX4 HR1 w4
  have k0 := blk_list [.cells #[.int .i64 1] 3 (0, 0), .cells #[.int .i64 (-1)] 3 (0, 0), .cells #[.slice (some ⟨w5.heap.size, 0, none⟩) 1 1, .slice (some ⟨w5.heap.size + 1, 0, none⟩) 1 1] 28 (0, 0), .cells #[.int .i64 1, .int .i64 0] 41 (0, 0)] w5
  have kb := below_list [.cells #[.int .i64 1] 3 (0, 0), .cells #[.int .i64 (-1)] 3 (0, 0), .cells #[.slice (some ⟨w5.heap.size, 0, none⟩) 1 1, .slice (some ⟨w5.heap.size + 1, 0, none⟩) 1 1] 28 (0, 0), .cells #[.int .i64 1, .int .i64 0] 41 (0, 0)] w5.heap.size w5 w5 (Below.refl _ _) (Nat.le_refl _)
  simp only [List.foldl_cons, List.foldl_nil] at k0 kb
  have HT5 : Aside0 (Kd.C k41 ((((w5.alloc (.cells #[.int .i64 1] 3 (0, 0))).alloc (.cells #[.int .i64 (-1)] 3 (0, 0))).alloc (.cells #[.slice (some ⟨w5.heap.size, 0, none⟩) 1 1, .slice (some ⟨w5.heap.size + 1, 0, none⟩) 1 1] 28 (0, 0))).alloc (.cells #[.int .i64 1, .int .i64 0] 41 (0, 0))) (some ⟨w5.heap.size + 1 + 1 + 1, 0, none⟩) T2.length T2) := ⟨C_steps T2 _ (by simp) (k0 3 _ rfl) (get_cons ⟨rfl, rfl⟩ get_nil)⟩
  have HL5 : Aside0 (Kd.C (Kd.slice 3 (Kd.int .i64)) ((((w5.alloc (.cells #[.int .i64 1] 3 (0, 0))).alloc (.cells #[.int .i64 (-1)] 3 (0, 0))).alloc (.cells #[.slice (some ⟨w5.heap.size, 0, none⟩) 1 1, .slice (some ⟨w5.heap.size + 1, 0, none⟩) 1 1] 28 (0, 0))).alloc (.cells #[.int .i64 1, .int .i64 0] 41 (0, 0))) (some ⟨w5.heap.size + 1 + 1, 0, none⟩) L2.length L2) := ⟨C_rows L2 _ (by simp) (k0 2 _ rfl) (get_cons ⟨_, _, rfl, by simp, C_ints [1] (by simp) (k0 0 _ rfl)⟩ (get_cons ⟨_, _, rfl, by simp, C_ints [-1] (by simp) (k0 1 _ rfl)⟩ get_nil))⟩
  have HB5' := Aside0.mk kb
  clear k0 kb
  go_upto_region 6 with (go_at_call 28; refine (learn_First.calls 1 (some ⟨w5.heap.size + 1 + 1, 0, none⟩) 2 L2 (some ⟨w5.heap.size + 1 + 1 + 1, 0, none⟩) 1 T2 1 [] 0 200 _ HL5.out (by simp) HT5.out (by simp) live3).mono ?_; rintro e w6 ⟨v3, rfl, hR, hb⟩; have HR1d := Aside0.mk (Kd.C_below HR1b.out (HB5'.out.trans (hb.mono HB5'.out.size))); have HB6 := Aside0.mk (HB5.out.trans ((HB5'.out.trans (hb.mono HB5'.out.size)).mono HB5.out.size)); clear hb hR)
  clear HT5 HL5 HB5' HB5 HR1b
  go_upto_region 8 with (fail)
  have k0 := blk_list [.cells #[.int .i64 (-1), .int .i64 2] 3 (0, 0), .cells #[.slice (some ⟨w6.heap.size, 0, none⟩) 2 2] 28 (0, 0), .cells #[.int .i64 3, .slice (some ⟨w6.heap.size + 1, 0, none⟩) 1 1] 24 (0, 0), .cells #[.int .i64 1, .int .i64 (-1), .int .i64 2, .int .i64 0, .int .i64 3, .int .i64 (-1)] 41 (0, 0)] w6
  have kb := below_list [.cells #[.int .i64 (-1), .int .i64 2] 3 (0, 0), .cells #[.slice (some ⟨w6.heap.size, 0, none⟩) 2 2] 28 (0, 0), .cells #[.int .i64 3, .slice (some ⟨w6.heap.size + 1, 0, none⟩) 1 1] 24 (0, 0), .cells #[.int .i64 1, .int .i64 (-1), .int .i64 2, .int .i64 0, .int .i64 3, .int .i64 (-1)] 41 (0, 0)] w6.heap.size w6 w6 (Below.refl _ _) (Nat.le_refl _)
  simp only [List.foldl_cons, List.foldl_nil] at k0 kb
  generalize (((w6.alloc (.cells #[.int .i64 (-1), .int .i64 2] 3 (0, 0))).alloc (.cells #[.slice (some ⟨w6.heap.size, 0, none⟩) 2 2] 28 (0, 0))).alloc (.cells #[.int .i64 3, .slice (some ⟨w6.heap.size + 1, 0, none⟩) 1 1] 24 (0, 0))).alloc (.cells #[.int .i64 1, .int .i64 (-1), .int .i64 2, .int .i64 0, .int .i64 3, .int .i64 (-1)] 41 (0, 0)) = w7 at k0 kb ⊢
  have HB7 := Aside0.mk (HB6.out.trans (kb.mono HB6.out.size))
  have HR7 := Aside0.mk (Kd.C_below HR1d.out kb)
  have HBX7 : Aside0 (w7.heap[w6.heap.size + 1 + 1]? = some (.cells #[.int .i64 3, .slice (some ⟨w6.heap.size + 1, 0, none⟩) 1 1] 24 (0, 0))) := ⟨k0 2 _ rfl⟩
  have HT7 : Aside0 (Kd.C k41 w7 (some ⟨w6.heap.size + 1 + 1 + 1, 0, none⟩) T3.length T3) := ⟨C_steps T3 _ (by simp) (k0 3 _ rfl) (get_cons ⟨rfl, rfl⟩ (get_cons ⟨rfl, rfl⟩ (get_cons ⟨rfl, rfl⟩ get_nil)))⟩
  have HL7 : Aside0 (Kd.C (Kd.slice 3 (Kd.int .i64)) w7 (some ⟨w6.heap.size + 1, 0, none⟩) L3.length L3) := ⟨C_rows L3 _ (by simp) (k0 1 _ rfl) (get_cons ⟨_, _, rfl, by simp, C_ints [-1, 2] (by simp) (k0 0 _ rfl)⟩ get_nil)⟩
  clear k0 kb HB6 HR1d
  generalize w6.heap.size + 1 + 1 + 1 = gt3 at HT7 ⊢
  generalize w6.heap.size + 1 + 1 = gb3 at HBX7 ⊢
  generalize w6.heap.size + 1 = gr3 at HBX7 HL7 ⊢
  have c0 : w7.cell? ⟨gb3, 0, none⟩ = some (.int .i64 3) := cell_in HBX7.out 0 rfl
  have c1 : w7.cell? ⟨gb3, 1, none⟩ = some (.slice (some ⟨gr3, 0, none⟩) 1 1) := cell_in HBX7.out 1 rfl
  have k0 := blk_new w7 (.cells #[.int .i64 (-3), .int .i64 (-2), .int .i64 (-1)] 3 (0, 0))
  have kb := below_alloc (Below.refl _ w7) (.cells #[.int .i64 (-3), .int .i64 (-2), .int .i64 (-1)] 3 (0, 0))
  have HA8 := Aside0.mk (C_ints [-3, -2, -1] (by simp) k0)
  have HB8' := Aside0.mk kb
  clear k0 kb
  go_upto_region 9 with (go_at_call 31; refine (learn_Less.calls 3 (some ⟨gr3, 0, none⟩) 1 L3 (some ⟨gt3, 0, none⟩) 3 T3 (some ⟨w7.heap.size, 0, none⟩) 3 [-3, -2, -1] [-1, -3] 0 _ (Kd.C_below HL7.out HB8'.out) (by simp) (Kd.C_below HT7.out HB8'.out) (by simp) HA8.out (by simp) live4).mono ?_; rintro e w8 ⟨v4, rfl, hR, hb0⟩; have hb := HB8'.out.trans (hb0.mono HB8'.out.size); obtain ⟨Ar4, cr4, rfl⟩ := Kd.R_slice hR; have HR4 := Aside0.mk (Kd.R_reads' hR).2; have HR8 := Aside0.mk (Kd.C_below HR7.out hb); have HB8 := Aside0.mk (HB7.out.trans (hb.mono HB7.out.size)); have HL8 := Aside0.mk (Kd.C_below HL7.out hb); have HT8 := Aside0.mk (Kd.C_below HT7.out hb); have HBX8 := Aside0.mk (blk_below HBX7.out hb); clear hb hb0 hR c0 c1)
  clear HB7 HR7 HBX7 HT7 HL7 HA8 HB8'
  have c0 : w8.cell? ⟨gb3, 0, none⟩ = some (.int .i64 3) := cell_in HBX8.out 0 rfl
  have c1 : w8.cell? ⟨gb3, 1, none⟩ = some (.slice (some ⟨gr3, 0, none⟩) 1 1) := cell_in HBX8.out 1 rfl
  have k0 := blk_new w8 (.cells #[.int .i64 3] 3 (0, 0))
  have kb := below_alloc (Below.refl _ w8) (.cells #[.int .i64 3] 3 (0, 0))
  have HA9 := Aside0.mk (C_ints [3] (by simp) k0)
  have HB9' := Aside0.mk kb
  clear k0 kb
  go_upto_region 10 with (go_at_call 31; refine (learn_Less.calls 3 (some ⟨gr3, 0, none⟩) 1 L3 (some ⟨gt3, 0, none⟩) 3 T3 (some ⟨w8.heap.size, 0, none⟩) 1 [3] [] 1 _ (Kd.C_below HL8.out HB9'.out) (by simp) (Kd.C_below HT8.out HB9'.out) (by simp) HA9.out (by simp) live5).mono ?_; rintro e w9 ⟨v5, rfl, hR, hb0⟩; have hb := HB9'.out.trans (hb0.mono HB9'.out.size); have HR9 := Aside0.mk (Kd.C_below HR8.out hb); have HR49 := Aside0.mk (Kd.C_below HR4.out.2 hb); have HB9 := Aside0.mk (HB8.out.trans (hb.mono HB8.out.size)); clear hb hb0 hR c0 c1)
  clear HB8 HL8 HT8 HBX8 HA9 HB9' HR8
  have k0 := blk_list [.cells #[.int .i64 (-1), .int .i64 (-4)] 3 (0, 0), .cells #[.int .i64 (-1), .int .i64 (-3)] 3 (0, 0)] w9
  have kb := below_list [.cells #[.int .i64 (-1), .int .i64 (-4)] 3 (0, 0), .cells #[.int .i64 (-1), .int .i64 (-3)] 3 (0, 0)] w9.heap.size w9 w9 (Below.refl _ _) (Nat.le_refl _)
  simp only [List.foldl_cons, List.foldl_nil] at k0 kb
  have hcall1 : Calls Try.prog 30 #[.slice Ar1 2 cr1, .slice (some ⟨w9.heap.size, 0, none⟩) 2 2] (w9.alloc (.cells #[.int .i64 (-1), .int .i64 (-4)] 3 (0, 0))) fun e w' => e = .returned (.bool true) ∧ Drawn0 (w9.alloc (.cells #[.int .i64 (-1), .int .i64 (-4)] 3 (0, 0))) w' :=
    chalklineref15_Ints.calls 3 Ar1 cr1 [-1, -4] (some ⟨w9.heap.size, 0, none⟩) 2 [-1, -4] true _ (Kd.C_alloc HR9.out _) HR1c.out (C_ints [-1, -4] (by simp) (blk_new w9 _)) (by simp) live6
  have hcall2 : ∀ nd, Calls Try.prog 30 #[.slice Ar4 2 cr4, .slice (some ⟨w9.heap.size + 1, 0, none⟩) 2 2] (((w9.alloc (.cells #[.int .i64 (-1), .int .i64 (-4)] 3 (0, 0))).drewN nd).alloc (.cells #[.int .i64 (-1), .int .i64 (-3)] 3 (0, 0))) fun e w' => e = .returned (.bool true) ∧ Drawn0 (((w9.alloc (.cells #[.int .i64 (-1), .int .i64 (-4)] 3 (0, 0))).drewN nd).alloc (.cells #[.int .i64 (-1), .int .i64 (-3)] 3 (0, 0))) w' := fun nd =>
    chalklineref15_Ints.calls 3 Ar4 cr4 [-1, -3] (some ⟨w9.heap.size + 1, 0, none⟩) 2 [-1, -3] true _ (Kd.C_alloc (Kd.C_drewN (Kd.C_alloc HR49.out _) _) _) HR4.out.1
      (C_ints [-1, -3] (by simp) (by have := blk_new ((w9.alloc (.cells #[.int .i64 (-1), .int .i64 (-4)] 3 (0, 0))).drewN nd) (.cells #[.int .i64 (-1), .int .i64 (-3)] 3 (0, 0)); rwa [show ((w9.alloc (.cells #[.int .i64 (-1), .int .i64 (-4)] 3 (0, 0))).drewN nd).heap.size = w9.heap.size + 1 from World.size_alloc _ _] at this)) (by simp) live7
  have HC1 := Aside0.mk hcall1
  have HC2 := Aside0.mk hcall2
  clear hcall1 hcall2 k0 kb
  go_wp2_with (first
    | (go_at_call 30; (with_reducible refine HC1.out.mono ?_); rintro e w10 ⟨rfl, ⟨nd, rfl⟩⟩)
    | (go_at_call 30; (with_reducible refine (HC2.out _).mono ?_); rintro e w10 ⟨rfl, ⟨nd2, rfl⟩⟩))
  go_ret
  exact ⟨rfl, by repeat (first | exact HB9.out | apply pw_below_drewN | apply below_drew1 | apply below_alloc)⟩
end Go.Proofs.Ytobadajeekdakaa.Print
