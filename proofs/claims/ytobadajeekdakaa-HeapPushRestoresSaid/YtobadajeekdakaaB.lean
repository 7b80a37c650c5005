/- cnf.Check: its contract. -/
import Derived.Test.YtobadajeekdakaaA
namespace Go.Proofs.Ytobadajeekdakaa.Print
open Go.RowKit Go.Proofs.YtobadajeekdakaaW.PrintWords Go.Proofs.YtobadajeekdakaaW.PrintLast Go.Proofs.YtobadajeekdakaaW.PrintMore
set_option linter.unusedVariables false
set_option linter.unusedSimpArgs false

/-- A literal of one of the variables 1 to n. -/
def mayB (n x : Int) : Bool := decide (x ≠ 0 ∧ -n ≤ x ∧ x ≤ n)
theorem lit_may (x n : Int) (hn : 0 ≤ n) (hn2 : n ≤ 65536) (w : World) :
    Calls Try.prog 129 #[.int .i64 x, .int .i64 n] w fun e w' => e = .returned (.bool (mayB n x)) ∧ w = w' := by
  by_cases h0 : x = 0
  · subst h0
    go_enter Try.func129, Try.ntmps129
    go_wp2
    go_ret
    exact ⟨by simp [mayB], rfl⟩
  · have hb : (x != 0) = true := by simp [h0]
    by_cases h1 : -n ≤ x
    · by_cases h2 : x ≤ n
      · have hr : mayB n x = true := by simp [mayB, *]
        rw [hr]; clear hr
        go_enter Try.func129, Try.ntmps129
        go_wp2
        go_ret
        exact ⟨rfl, rfl⟩
      · have hr : mayB n x = false := by simp [mayB, *]
        rw [hr]; clear hr
        go_enter Try.func129, Try.ntmps129
        go_wp2
        go_ret
        exact ⟨rfl, rfl⟩
    · have hr : mayB n x = false := by simp [mayB, *]
      rw [hr]; clear hr
      go_enter Try.func129, Try.ntmps129
      go_wp2
      go_ret
      exact ⟨rfl, rfl⟩

/-- The closure in cnf.Check, n read out of the captured struct. -/
theorem cnfCheck1 (x n : Int) (ad : Addr) (hn : 0 ≤ n) (hn2 : n ≤ 65536) (w : World) (hc : w.cell? ad = some (.int .i64 n)) :
    Calls Try.prog 137 #[.int .i64 x, .pointer (some ad)] w fun e w' => e = .returned (.bool (!mayB n x)) ∧ w = w' := by
  have hcall := lit_may x n hn hn2
  generalize mayB n x = b at hcall ⊢
  go_enter Try.func137, Try.ntmps137
  go_wp2_with (go_at_call 129; refine (hcall _).mono ?_; rintro e w' ⟨rfl, rfl⟩)
  go_ret
  exact ⟨rfl, rfl⟩

theorem ret_eq {k : IntKind} {a b : Int} (h : a = b) : Ending.returned (.int k a) = .returned (.int k b) := by rw [h]
theorem ret_b {a b : Bool} (h : a = b) : Ending.returned (.bool a) = .returned (.bool b) := by rw [h]
def cnfCheckV (n : Int) (L : List (List Int)) : Int :=
  if n < 0 ∨ 65536 < n then 1 else if L.any (fun l => l.any fun x => !mayB n x) then 1 else if 65536 < L.length then 2 else 0
def cnf_Check.f (a0_0 : Int) (l0_1 : List (List Int)) : Option Int := some (cnfCheckV a0_0 l0_1)

theorem any_take_hit {α : Type} (p : α → Bool) (L : List α) (k : Nat) (x : α) (h : L[k]? = some x) (hp : p x = true) : L.any p = true :=
  List.any_eq_true.mpr ⟨x, List.mem_of_getElem? h, hp⟩
theorem any_rd_hit (p : Int → Bool) (xs : List Int) (k : Nat) (hk : k < xs.length) (hp : p (rd xs k) = true) : xs.any p = true :=
  List.any_eq_true.mpr ⟨rd xs k, by simp [rd, List.getElem?_eq_getElem hk, List.getElem_mem], hp⟩
theorem any_rd_none (p : Int → Bool) (xs : List Int) (h : ∀ k, k < xs.length → p (rd xs k) = false) : xs.any p = false := by
  rw [List.any_eq_false]
  intro x hx
  obtain ⟨k, hk, rfl⟩ := List.getElem_of_mem hx
  have := h k hk
  simpa [rd, List.getElem?_eq_getElem hk] using this

/-- ContainsFunc with a predicate that leaves the world as it is. -/
theorem containsFunc_same (p : Int → Bool) (g : Nat) (lb : Array Value) (eg : ∀ args w, (callFunc g args).run Try.prog w = .ok (.enter g args) w)
    (A : Option Addr) (c : Nat) (xs : List Int) (w : World) (hC : Kd.C (Kd.int .i64) w A xs.length xs)
    (hp : ∀ x, Calls Try.prog g (#[.int .i64 x] ++ lb) w fun e w' => e = .returned (.bool (p x)) ∧ w = w') :
    Calls Try.prog 100 #[.slice A xs.length c, .func (.func g) #[] lb] w fun e w' => e = .returned (.bool (xs.any p)) ∧ w = w' := by
  refine (containsFunc_any g lb eg A c xs (fun k W => W = w ∧ p (rd xs k) = true) (fun k W => W = w ∧ ∀ j, j < k → p (rd xs j) = false) w
    (fun k W h => h.1 ▸ hC) (fun k W hk h => ?_) ⟨rfl, fun j hj => absurd hj (Nat.not_lt_zero _)⟩).mono ?_
  · obtain ⟨rfl, hj⟩ := h
    refine (hp (rd xs k)).mono ?_
    rintro e w' ⟨rfl, rfl⟩
    cases hq : p (rd xs k) with
    | true => exact .inl ⟨rfl, rfl, rfl⟩
    | false =>
      refine .inr ⟨rfl, rfl, fun j hj2 => ?_⟩
      rcases Nat.lt_succ_iff_lt_or_eq.mp hj2 with h | rfl
      · exact hj j h
      · exact hq
  · rintro e w' (⟨k, hk, rfl, rfl, hq⟩ | ⟨rfl, rfl, hq⟩)
    · exact ⟨by rw [any_rd_hit p xs k hk hq], rfl⟩
    · exact ⟨by rw [any_rd_none p xs hq], rfl⟩

set_option maxHeartbeats 1000000 in
set_option maxHeartbeats 2000000 in
theorem cnf_Check.calls (a0_0 : Int) (A0_1 : Option Addr) (c0_1 : Nat) (l0_1 : List (List Int)) (r : Int) (w : World) (hr0_1 : Kd.C (Kd.slice 3 (Kd.int .i64)) w A0_1 l0_1.length l0_1) (hc0_1 : l0_1.length ≤ c0_1) (h : cnf_Check.f a0_0 l0_1 = some r) :
    Calls Try.prog 55 #[.agg #[.int .i64 a0_0, .slice A0_1 l0_1.length c0_1]] w fun e w' => e = .returned (.int .i64 r) ∧ Below w.heap.size w w' := by
  have HV := Aside0.mk (show cnfCheckV a0_0 l0_1 = r from Option.some.inj h)
  have HR := Aside0.mk hr0_1
  have hm : l0_1.length ≤ 9223372036854775807 := hr0_1.2.1
  clear h hr0_1 hc0_1
  by_cases h1 : a0_0 < 0
  · go_enter Try.func55, Try.ntmps55
    go_wp2
    go_ret
    exact ⟨ret_eq <| by rw [← HV.out, cnfCheckV, if_pos (.inl h1)], (Below.refl _ _).alloc (Nat.le_refl _) _⟩
  · by_cases h2 : 65536 < a0_0
    · go_enter Try.func55, Try.ntmps55
      go_wp2
      go_ret
      exact ⟨ret_eq <| by rw [← HV.out, cnfCheckV, if_pos (.inr h2)], (Below.refl _ _).alloc (Nat.le_refl _) _⟩
    · have HV2 := Aside0.mk (show (if l0_1.any (fun l => l.any fun x => !mayB a0_0 x) then 1 else if 65536 < l0_1.length then 2 else 0) = r by rw [← HV.out, cnfCheckV, if_neg (show ¬ (a0_0 < 0 ∨ 65536 < a0_0) by omega)])
      clear HV
      have eg : ∀ args w, (callFunc 137 args).run Try.prog w = .ok (.enter 137 args) w := enters_of Try.func137 (by kernel_rfl) rfl
      go_enter Try.func55, Try.ntmps55
      go_wp2
      go_loopg [16] l0_1.length (fun gg s16 wr => ∃ k : Nat, k ≤ l0_1.length ∧ l0_1.length - k ≤ gg ∧ s16 = .int .i64 k ∧ Aside0 (∀ j, j < k → (rd_L1 l0_1 j).any (fun x => !mayB a0_0 x) = false) ∧ wr = w.alloc (.cells #[.int .i64 a0_0, .slice A0_1 l0_1.length c0_1] 24 (0, 0)))
      case atStart => exact ⟨0, Nat.zero_le _, by omega, rfl, ⟨fun j hj => absurd hj (Nat.not_lt_zero _)⟩, rfl⟩
      case round =>
        obtain ⟨k, hk, hg, rfl, HA, rfl⟩ := hrel
        by_cases hlt : k < l0_1.length
        · have hltz : (k : Int) < (l0_1.length : Int) := by omega
          obtain ⟨ad, A1, c1, e1, hcell, hle, hC⟩ := at_L1 HR.out (k : Int) (by omega) hltz
          cases e1
          rw [Int.toNat_natCast] at hcell
          have hcell2 : (w.alloc (.cells #[.int .i64 a0_0, .slice (some ad) l0_1.length c0_1] 24 (0, 0))).cell? (ad.add k) = some (.slice A1 (rd_L1 l0_1 k).length c1) := pw_cell_below ((Below.refl _ _).alloc (Nat.le_refl _) _) hcell
          have hC2 := Kd.C_below hC ((Below.refl w.heap.size w).alloc (Nat.le_refl _) (.cells #[.int .i64 a0_0, .slice (some ad) l0_1.length c0_1] 24 (0, 0)))
          have hcall := containsFunc_same (fun x => !mayB a0_0 x) 137 #[.pointer (some ⟨w.heap.size, 0, none⟩)] eg A1 c1 (rd_L1 l0_1 k) _ hC2 (fun x => cnfCheck1 x a0_0 ⟨w.heap.size, 0, none⟩ (by omega) (by omega) _ (by simp))
          clear hC2 hC hcell hle
          cases hq : (rd_L1 l0_1 k).any (fun x => !mayB a0_0 x) with
          | true =>
            rw [hq] at hcall
            have HQ := Aside0.mk hq
            clear hq
            go_wp2_with (go_at_call 100; refine hcall.mono ?_; rintro e w' ⟨rfl, rfl⟩)
            go_ret
            exact ⟨ret_eq <| by rw [← HV2.out, if_pos (any_take_hit _ l0_1 k (rd_L1 l0_1 k) (by simp [rd_L1, List.getElem?_eq_getElem hlt]) HQ.out)], (Below.refl _ _).alloc (Nat.le_refl _) _⟩
          | false =>
            rw [hq] at hcall
            have HQ := Aside0.mk hq
            clear hq
            go_wp2_with (go_at_call 100; refine hcall.mono ?_; rintro e w' ⟨rfl, rfl⟩)
            go_roundg (l0_1.length - (k + 1))
            case measure => omega
            case rel =>
              refine ⟨k + 1, by omega, by omega, by go_num, ⟨fun j hj => ?_⟩, rfl⟩
              rcases Nat.lt_succ_iff_lt_or_eq.mp hj with h | rfl
              · exact HA.out j h
              · exact HQ.out
        · have hltz : ¬ (k : Int) < (l0_1.length : Int) := by omega
          obtain rfl : k = l0_1.length := by omega
          have HN := Aside0.mk (show ¬ (l0_1.any (fun l => l.any fun x => !mayB a0_0 x) = true) by
            rw [Bool.not_eq_true, List.any_eq_false]
            intro l hl
            obtain ⟨j, hj, rfl⟩ := List.getElem_of_mem hl
            have := HA.out j hj
            simpa [rd_L1, List.getElem?_eq_getElem hj] using this)
          by_cases h3 : 65536 < l0_1.length
          · have h3z : (65536 : Int) < (l0_1.length : Int) := by omega
            go_wp2
            go_ret
            exact ⟨ret_eq <| by rw [← HV2.out, if_neg HN.out, if_pos h3], (Below.refl _ _).alloc (Nat.le_refl _) _⟩
          · have h3z : ¬ (65536 : Int) < (l0_1.length : Int) := by omega
            go_wp2
            go_ret
            exact ⟨ret_eq <| by rw [← HV2.out, if_neg HN.out, if_neg h3], (Below.refl _ _).alloc (Nat.le_refl _) _⟩

end Go.Proofs.Ytobadajeekdakaa.Print
