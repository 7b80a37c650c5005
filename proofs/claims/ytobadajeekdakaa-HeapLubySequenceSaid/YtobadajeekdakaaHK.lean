/- slices.Max at []int; (*heap.work).scaled: their contracts. -/
import Derived.Test.YtobadajeekdakaaHJ
namespace Go.Proofs.Ytobadajeekdakaa.Print
open Go.RowKit Go.Proofs.YtobadajeekdakaaW.PrintWords Go.Proofs.YtobadajeekdakaaW.PrintLast Go.Proofs.YtobadajeekdakaaW.PrintMore
open Go.Sort (grow alloc_eq_grow)
attribute [local go_sem] max2_int min2_int max_two min_two
set_option linter.unusedVariables false
set_option linter.unusedSimpArgs false

/-- The greatest of the first k + 1 numbers. -/
def maxTo (xs : List Int) : Nat → Int
  | 0 => rd xs 0
  | k + 1 => if maxTo xs k < rd xs ((k + 1 : Nat) : Int) then rd xs ((k + 1 : Nat) : Int) else maxTo xs k
def maxV (xs : List Int) : Int := maxTo xs (xs.length - 1)
theorem maxTo_gt (xs : List Int) (M : Int) : ∀ k, (M < maxTo xs k ↔ ∃ j, j ≤ k ∧ M < rd xs (j : Int))
  | 0 => ⟨fun h => ⟨0, Nat.le_refl _, h⟩, fun hh => by
      obtain ⟨j, hj, h⟩ := hh
      have e : j = 0 := by omega
      subst e
      exact h⟩
  | k + 1 => by
    have ih := maxTo_gt xs M k
    unfold maxTo
    split
    · rename_i hlt
      constructor
      · intro h; exact ⟨k + 1, Nat.le_refl _, h⟩
      · rintro ⟨j, hj, h⟩
        rcases Nat.lt_or_eq_of_le hj with h2 | rfl
        · have := ih.2 ⟨j, by omega, h⟩; omega
        · exact h
    · rename_i hlt
      constructor
      · intro h
        obtain ⟨j, hj, h2⟩ := ih.1 h
        exact ⟨j, by omega, h2⟩
      · rintro ⟨j, hj, h⟩
        rcases Nat.lt_or_eq_of_le hj with h2 | rfl
        · exact ih.2 ⟨j, by omega, h⟩
        · omega
theorem maxV_gt (xs : List Int) (M : Int) (h0 : 0 < xs.length) : M < maxV xs ↔ xs.any (fun x => decide (M < x)) = true := by
  unfold maxV
  rw [maxTo_gt, List.any_eq_true]
  constructor
  · rintro ⟨j, hj, h⟩
    exact ⟨rd xs (j : Int), by rw [rd_get (by omega)]; exact List.getElem_mem _, decide_eq_true h⟩
  · rintro ⟨x, hx, h⟩
    obtain ⟨j, hj, rfl⟩ := List.getElem_of_mem hx
    exact ⟨j, by omega, by rw [rd_get hj]; exact of_decide_eq_true h⟩

set_option maxHeartbeats 2000000 in
theorem hp_max (A : Option Addr) (c : Nat) (xs : List Int) (w : World) (hC : Kd.C (Kd.int .i64) w A xs.length xs) (h0 : 0 < xs.length) (hl : xs.length ≤ 100000) :
    Calls Try.prog 175 #[.slice A xs.length c] w fun e w' => e = .returned (.int .i64 (maxV xs)) ∧ w = w' := by
  have HC := Aside0.mk hC
  obtain ⟨r, hr⟩ : ∃ r, r = maxV xs := ⟨_, rfl⟩
  rw [← hr]
  have HR := Aside0.mk hr
  obtain ⟨n, hn⟩ : ∃ n, n = xs.length := ⟨_, rfl⟩
  rw [← hn] at h0 hl HC ⊢
  have HN := Aside0.mk hn
  clear hC hr hn
  obtain ⟨ad, e1, hcell⟩ := Kd.at_int HC.out (0 : Int) (by omega) (by omega)
  subst e1
  replace hcell : w.cell? ad = some (.int .i64 (rd xs 0)) := by
    have h := hcell
    rwa [show ad.add (0 : Int).toNat = ad from rfl] at h
  obtain ⟨x0, hx0⟩ : ∃ x0, x0 = rd xs 0 := ⟨_, rfl⟩
  rw [← hx0] at hcell
  have HX0 := Aside0.mk hx0
  clear hx0
  have h1 : (1 : Int) ≤ (n : Int) := by omega
  have h2 : (0 : Int) < (n : Int) := by omega
  go_enter Try.func175, Try.ntmps175
  go_wp2
  go_loopg [3, 4] n (fun gg s3 s4 wr => ∃ (j : Nat) (m : Int), 1 ≤ j ∧ j ≤ n ∧ n - j ≤ gg ∧ s4 = .int .i64 (j : Int) ∧ s3 = .int .i64 m ∧ Aside0 (m = maxTo xs (j - 1)) ∧ wr = w)
  case atStart => exact ⟨1, x0, by omega, by omega, by omega, rfl, rfl, ⟨HX0.out⟩, rfl⟩
  case round =>
    obtain ⟨j, m, hj, hjn, hg, rfl, rfl, HM, rfl⟩ := hrel
    by_cases hlt : j < n
    · have hltz : (j : Int) < (n : Int) := by omega
      obtain ⟨ad2, e2, hcell2⟩ := Kd.at_int HC.out (j : Int) (by omega) hltz
      cases e2
      rw [Int.toNat_natCast] at hcell2
      obtain ⟨y, hy⟩ : ∃ y, y = rd xs (j : Int) := ⟨_, rfl⟩
      rw [← hy] at hcell2
      have HY := Aside0.mk hy
      clear hy
      obtain ⟨k, hk⟩ : ∃ k, j = k + 1 := ⟨j - 1, by omega⟩
      have HK := Aside0.mk hk
      by_cases hmy : m < y
      · have HS := Aside0.mk (show y = maxTo xs (j + 1 - 1) by
          have h5 := HM.out
          have h6 := HY.out
          rw [hk] at h5 h6 ⊢
          rw [show k + 1 + 1 - 1 = k + 1 by omega, maxTo, ← h6]
          rw [show k + 1 - 1 = k by omega] at h5
          rw [← h5, if_pos hmy])
        clear hk
        go_wp2
        go_roundg (n - (j + 1))
        case measure => omega
        case rel => exact ⟨j + 1, y, by omega, by omega, by omega, by go_num, rfl, HS, rfl⟩
      · have HS := Aside0.mk (show m = maxTo xs (j + 1 - 1) by
          have h5 := HM.out
          have h6 := HY.out
          rw [hk] at h5 h6 ⊢
          rw [show k + 1 + 1 - 1 = k + 1 by omega, maxTo, ← h6]
          rw [show k + 1 - 1 = k by omega] at h5
          rw [← h5, if_neg hmy])
        clear hk
        go_wp2
        go_roundg (n - (j + 1))
        case measure => omega
        case rel => exact ⟨j + 1, m, by omega, by omega, by omega, by go_num, rfl, HS, rfl⟩
    · have hltz : ¬ (j : Int) < (n : Int) := by omega
      have HF := Aside0.mk (show m = r by rw [HM.out, HR.out, maxV, ← HN.out, show n = j by omega])
      go_wp2
      go_ret
      exact ⟨ret_eq HF.out, rfl⟩
end Go.Proofs.Ytobadajeekdakaa.Print
