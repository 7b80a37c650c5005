/- slices.BinarySearchFunc over the order of a heap; heap.Push: their contracts. -/
import Derived.Test.YtobadajeekdakaaHE
namespace Go.Proofs.Ytobadajeekdakaa.Print
open Go.RowKit Go.Proofs.YtobadajeekdakaaW.PrintWords Go.Proofs.YtobadajeekdakaaW.PrintLast Go.Proofs.YtobadajeekdakaaW.PrintMore
open Go.Sort (grow alloc_eq_grow)
set_option linter.unusedVariables false
set_option linter.unusedSimpArgs false

/-! ### the order, in plain words -/
theorem ordV_neg {act : List Int} {a b : Int} : ordV act a b < 0 ↔ (rd act b < rd act a ∨ (rd act b = rd act a ∧ a < b)) := by
  unfold ordV cmpH orV orV orV
  by_cases h1 : rd act b < rd act a
  · simp [h1]
  · by_cases h2 : rd act b > rd act a
    · rw [if_neg h1, if_pos h2]; simp; omega
    · rw [if_neg h1, if_neg h2]
      by_cases h3 : a < b
      · simp [h3]; omega
      · by_cases h4 : a > b
        · simp [h3, h4]; omega
        · simp [h3, h4]; omega
theorem ordV_zero {act : List Int} {a b : Int} : ordV act a b = 0 ↔ a = b := by
  unfold ordV cmpH orV orV orV
  by_cases h1 : rd act b < rd act a
  · simp [h1]; rintro rfl; omega
  · by_cases h2 : rd act b > rd act a
    · rw [if_neg h1, if_pos h2]; simp; rintro rfl; omega
    · rw [if_neg h1, if_neg h2]
      by_cases h3 : a < b
      · simp [h3]; omega
      · by_cases h4 : a > b
        · simp [h3, h4]; omega
        · simp [h3, h4]; omega
theorem ordV_trans {act : List Int} {a b c : Int} (h1 : ordV act a b < 0) (h2 : ordV act b c < 0) : ordV act a c < 0 := by
  rw [ordV_neg] at *
  omega
theorem ordV_total {act : List Int} {a b : Int} (h : ¬ ordV act a b < 0) (hne : a ≠ b) : ordV act b a < 0 := by
  rw [ordV_neg] at *
  omega
theorem rowOk_at {act l : List Int} (h : rowOkB act l = true) (i : Nat) (hi : i < l.length) : knownB' act (rd l i) = true ∧ (0 < i → ordV act (rd l ((i : Int) - 1)) (rd l i) < 0) := by
  unfold rowOkB at h
  rw [List.all_eq_true] at h
  have := h i (List.mem_range.2 hi)
  unfold placeB at this
  simp only [Bool.and_eq_true, Bool.or_eq_true, decide_eq_true_eq] at this
  exact ⟨this.1, fun h0 => by rcases this.2 with h | h
                              · omega
                              · exact h⟩
theorem rowOk_lt {act l : List Int} (h : rowOkB act l = true) : ∀ (d i : Nat), i + d + 1 < l.length → ordV act (rd l i) (rd l ((i + d + 1 : Nat) : Int)) < 0
  | 0, i, hl => by
    have := (rowOk_at h (i + 0 + 1) hl).2 (by omega)
    rwa [show (((i + 0 + 1 : Nat) : Int) - 1) = (i : Int) by omega] at this
  | d + 1, i, hl => by
    have h1 := rowOk_lt h d i (by omega)
    have := (rowOk_at h (i + (d + 1) + 1) hl).2 (by omega)
    rw [show (((i + (d + 1) + 1 : Nat) : Int) - 1) = ((i + d + 1 : Nat) : Int) by omega] at this
    exact ordV_trans h1 this
theorem rowOk_sorted {act l : List Int} (h : rowOkB act l = true) (i j : Nat) (hij : i < j) (hj : j < l.length) : ordV act (rd l i) (rd l j) < 0 := by
  have := rowOk_lt h (j - i - 1) i (by omega)
  rwa [show i + (j - i - 1) + 1 = j by omega] at this

/-- Where v would stand: the elements before it, and no others, stand ahead of v. -/
structure Spot (act l : List Int) (v : Int) (i : Nat) : Prop where
  le : i ≤ l.length
  lo : ∀ t, t < i → ordV act (rd l (t : Int)) v < 0
  hi : ∀ t, i ≤ t → t < l.length → ¬ ordV act (rd l (t : Int)) v < 0
def BsPost (w : World) (act l : List Int) (v : Int) (e : Ending) (w' : World) : Prop :=
  ∃ i : Nat, e = .returned (.tuple #[.int .i64 i, .bool (decide (i < l.length ∧ rd l (i : Int) = v))]) ∧ Spot act l v i ∧ Below w.heap.size w w'

set_option maxHeartbeats 4000000 in
theorem bsearch_any (g : Nat) (A B : Option Addr) (c d : Nat) (act l : List Int) (by_ v : Int) (w : World) (hg : w.heap[g]? = some (.cells #[.slice A act.length c, .slice B l.length d, .int .i64 by_] 136 (0, 0)))
    (hA : Kd.C (Kd.int .i64) w A act.length act) (hB : Kd.C (Kd.int .i64) w B l.length l) (hok : rowOkB act l = true) (hv : knownB' act v = true) (hl : l.length ≤ 100000) :
    Calls Try.prog 150 #[.slice B l.length d, .int .i64 v, .func (.func 151) #[.pointer (some ⟨g, 0, none⟩)] #[]] w (BsPost w act l v) := by
  have HG := Aside0.mk hg
  have HA := Aside0.mk hA
  have HB := Aside0.mk hB
  have HOK := Aside0.mk hok
  have HV := Aside0.mk (show 0 < v ∧ v < act.length by simpa [knownB'] using hv)
  have eg : ∀ args w, (callFunc 151 args).run Try.prog w = .ok (.enter 151 args) w := enters_of Try.func151 (by kernel_rfl) rfl
  clear hg hA hB hok hv
  obtain ⟨n, hn⟩ : ∃ n, n = l.length := ⟨_, rfl⟩
  rw [← hn] at hl HB HG ⊢
  have HN := Aside0.mk hn
  clear hn
  go_enter Try.func150, Try.ntmps150
  go_wp2
  go_loopg [9, 10] n (fun gg s9 s10 wr => ∃ i j : Nat, s9 = .int .i64 i ∧ s10 = .int .i64 j ∧ i ≤ j ∧ j ≤ n ∧ j - i ≤ gg ∧ Aside0 (∀ t, t < i → ordV act (rd l (t : Int)) v < 0) ∧ Aside0 (∀ t, j ≤ t → t < n → ¬ ordV act (rd l (t : Int)) v < 0) ∧ Aside0 (Below w.heap.size w wr))
  case atStart => exact ⟨0, n, rfl, rfl, Nat.zero_le _, Nat.le_refl _, by omega, ⟨fun t ht => absurd ht (Nat.not_lt_zero _)⟩, ⟨fun t h1 h2 => absurd h1 (by omega)⟩, ⟨Below.refl _ _⟩⟩
  case round =>
    obtain ⟨i, j, rfl, rfl, hij, hjn, hgg, HLO, HHI, HBL⟩ := hrel
    have HGr := Aside0.mk (blk_below HG.out HBL.out)
    have HAr := Aside0.mk (Kd.C_below HA.out HBL.out)
    have HBr := Aside0.mk (Kd.C_below HB.out HBL.out)
    by_cases hlt : i < j
    · have hltz : (i : Int) < (j : Int) := by omega
      go_upto_region 5 with (fail)
      obtain ⟨h, hh⟩ : ∃ h : Nat, ((i : Int) + (j : Int)) / 2 = (h : Int) := ⟨(i + j) / 2, by omega⟩
      rw [hh]
      have hih : i ≤ h := by omega
      have hhj : h < j := by omega
      have hhn : (h : Int) < (n : Int) := by omega
      clear hh
      obtain ⟨ad, e1, hcell⟩ := Kd.at_int HBr.out (h : Int) (by omega) (by omega)
      subst e1
      rw [Int.toNat_natCast] at hcell
      have HKX := Aside0.mk (show 0 < rd l (h : Int) ∧ rd l (h : Int) < act.length by
        have := (rowOk_at HOK.out h (by rw [← HN.out]; omega)).1
        simpa [knownB'] using this)
      obtain ⟨x, hx⟩ : ∃ x, x = rd l (h : Int) := ⟨_, rfl⟩
      rw [← hx] at hcell HKX
      have HX := Aside0.mk hx
      clear hx
      have hord := order_any g A (some ad) c n d act by_ x v wr HGr.out HAr.out (by have := HKX.out; omega) (by have := HKX.out; omega) (by have := HV.out; omega) (by have := HV.out; omega)
      obtain ⟨o, ho⟩ : ∃ o, o = ordV act x v := ⟨_, rfl⟩
      rw [← ho] at hord
      have HO := Aside0.mk ho
      clear ho
      by_cases h9 : o < 0
      · have HLT := Aside0.mk (show ordV act (rd l (h : Int)) v < 0 by rw [← HX.out, ← HO.out]; exact h9)
        go_wp2_with (go_at_fn 151; refine hord.mono ?_; rintro e w' ⟨rfl, _, hb9⟩; have HB9 := Aside0.mk (below_step HBL.out hb9); clear hb9)
        go_roundg (j - (h + 1))
        case measure => omega
        case rel =>
          refine ⟨h + 1, j, by go_num, rfl, by omega, hjn, by omega, ⟨fun t ht => ?_⟩, HHI, HB9⟩
          rcases Nat.lt_succ_iff_lt_or_eq.mp ht with h' | rfl
          · exact ordV_trans (rowOk_sorted HOK.out t h h' (by rw [← HN.out]; omega)) HLT.out
          · exact HLT.out
      · have HLT := Aside0.mk (show ¬ ordV act (rd l (h : Int)) v < 0 by rw [← HX.out, ← HO.out]; exact h9)
        go_wp2_with (go_at_fn 151; refine hord.mono ?_; rintro e w' ⟨rfl, _, hb9⟩; have HB9 := Aside0.mk (below_step HBL.out hb9); clear hb9)
        go_roundg (h - i)
        case measure => omega
        case rel =>
          have key : ∀ t, h ≤ t → t < n → ¬ ordV act (rd l (t : Int)) v < 0 := fun t h1 h2 h3 => by
            rcases Nat.lt_or_eq_of_le h1 with h' | rfl
            · have h4 := ordV_trans (rowOk_sorted HOK.out h t h' (by rw [← HN.out]; exact h2)) h3
              have h5 := HLT.out
              omega
            · have h5 := HLT.out
              omega
          exact ⟨i, h, rfl, rfl, hih, by omega, by omega, HLO, ⟨fun t h1 h2 => by have := key t h1 h2; omega⟩, HB9⟩
    · have hltz : ¬ (i : Int) < (j : Int) := by omega
      obtain rfl : i = j := by omega
      have HS : Aside0 (Spot act l v i) := ⟨⟨by rw [← HN.out]; exact hjn, HLO.out, fun t h1 h2 => HHI.out t h1 (by rw [HN.out]; exact h2)⟩⟩
      by_cases hin : i < n
      · have hinz : (i : Int) < (n : Int) := by omega
        obtain ⟨ad, e1, hcell⟩ := Kd.at_int HBr.out (i : Int) (by omega) hinz
        subst e1
        rw [Int.toNat_natCast] at hcell
        have HKX := Aside0.mk (show 0 < rd l (i : Int) ∧ rd l (i : Int) < act.length by
          have := (rowOk_at HOK.out i (by rw [← HN.out]; omega)).1
          simpa [knownB'] using this)
        obtain ⟨x, hx⟩ : ∃ x, x = rd l (i : Int) := ⟨_, rfl⟩
        rw [← hx] at hcell HKX
        have HX := Aside0.mk hx
        clear hx
        have hord := order_any g A (some ad) c n d act by_ x v wr HGr.out HAr.out (by have := HKX.out; omega) (by have := HKX.out; omega) (by have := HV.out; omega) (by have := HV.out; omega)
        obtain ⟨o, ho⟩ : ∃ o, o = ordV act x v := ⟨_, rfl⟩
        rw [← ho] at hord
        have HO := Aside0.mk ho
        have HEQ := Aside0.mk (show decide (o = 0) = decide (i < l.length ∧ rd l (i : Int) = v) by
          rw [← HN.out, ← HX.out, decide_eq_decide, HO.out, ordV_zero]
          simp [hin])
        clear ho
        go_wp2_with (go_at_fn 151; refine hord.mono ?_; rintro e w' ⟨rfl, _, hb9⟩; have HB9 := Aside0.mk (below_step HBL.out hb9); clear hb9)
        go_ret2
        refine ⟨i, ?_, HS.out, HB9.out⟩
        rw [← HEQ.out]
        rfl
      · have hinz : ¬ (i : Int) < (n : Int) := by omega
        have HEQ := Aside0.mk (show decide (i < l.length ∧ rd l (i : Int) = v) = false by
          rw [← HN.out]
          simp [hin])
        go_wp2
        go_ret2
        refine ⟨i, ?_, HS.out, HBL.out⟩
        rw [HEQ.out]
        rfl
end Go.Proofs.Ytobadajeekdakaa.Print
