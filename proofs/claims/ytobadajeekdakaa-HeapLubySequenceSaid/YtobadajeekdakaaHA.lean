/- heap: cmp.Or, cmp.Compare, (*work).order, (*work).check, Check: their contracts. -/
import Derived.Test.YtobadajeekdakaaB
import Derived.Test.YtobadajeekdakaaE
import Derived.OrdersHeld
import Derived.Deep.RegionHeld3
import Derived.Sort.Grow
namespace Go.Proofs.Ytobadajeekdakaa.Print
open Go.RowKit Go.Proofs.YtobadajeekdakaaW.PrintWords Go.Proofs.YtobadajeekdakaaW.PrintLast Go.Proofs.YtobadajeekdakaaW.PrintMore
open Go.Sort (grow alloc_eq_grow)
set_option linter.unusedVariables false
set_option linter.unusedSimpArgs false

/-! ### plain words -/
/-- The order of two numbers, as Go's Compare tells it. -/
def cmpH (x y : Int) : Int := if x < y then -1 else if x > y then 1 else 0
/-- The first number that is not 0. -/
def orV : List Int → Int
  | [] => 0
  | x :: r => if x = 0 then orV r else x
def ordV (act : List Int) (a b : Int) : Int := orV [cmpH (rd act b) (rd act a), cmpH a b]
def oddB (n : Int) : Bool := decide (n < 0 ∨ 1099511627776 < n)
def knownB' (act : List Int) (v : Int) : Bool := decide (0 < v ∧ v < act.length)
/-- The place i of a queue: known, and behind the one before it. -/
def placeB (act l : List Int) (i : Nat) : Bool := knownB' act (rd l i) && (decide (i = 0) || decide (ordV act (rd l ((i : Int) - 1)) (rd l i) < 0))
def rowOkB (act l : List Int) : Bool := (List.range l.length).all (placeB act l)
def hpCheckV (act l : List Int) (by_ : Int) : Int :=
  if act.length = 0 ∨ 65537 < act.length ∨ rd act 0 ≠ 0 ∨ act.any oddB = true then 1
  else if by_ = 0 ∨ oddB by_ = true then 1
  else if rowOkB act l = true then 0 else 1

/-! ### walks -/
theorem hp_isnan (x : Int) (w : World) : Calls Try.prog 165 #[.int .i64 x] w fun e w' => e = .returned (.bool false) ∧ w = w' := by
  go_enter Try.func165, Try.ntmps165
  go_wp2
  all_goals (go_ret; exact ⟨ret_b (by simp), rfl⟩)
theorem hp_compare (x y : Int) (w : World) : Calls Try.prog 112 #[.int .i64 x, .int .i64 y] w fun e w' => e = .returned (.int .i64 (cmpH x y)) ∧ w = w' := by
  obtain ⟨r, hr⟩ : ∃ r, cmpH x y = r := ⟨_, rfl⟩
  rw [hr]
  have HR := Aside0.mk hr
  clear hr
  go_enter Try.func112, Try.ntmps112
  go_wp2_with (go_at_call 165; refine (hp_isnan _ _).mono ?_; rintro e w2 ⟨rfl, rfl⟩)
  all_goals (go_ret; exact ⟨ret_eq (by rw [← HR.out]; unfold cmpH; split <;> (try split) <;> omega), rfl⟩)

theorem orV_of : ∀ (xs : List Int) (k : Nat), (∀ j, j < k → rd xs (j : Int) = 0) → k < xs.length → rd xs (k : Int) ≠ 0 → orV xs = rd xs (k : Int)
  | [], k, _, h, _ => absurd h (Nat.not_lt_zero _)
  | x :: r, 0, _, _, hne => by
    have : rd (x :: r) ((0 : Nat) : Int) = x := rfl
    rw [this] at hne ⊢
    rw [orV, if_neg hne]
  | x :: r, k + 1, h0, hl, hne => by
    have hx : x = 0 := h0 0 (Nat.succ_pos _)
    have e : ∀ j : Nat, rd (x :: r) ((j + 1 : Nat) : Int) = rd r (j : Int) := fun j => by simp [rd]
    rw [orV, if_pos hx, e]
    exact orV_of r k (fun j hj => by rw [← e]; exact h0 (j + 1) (Nat.succ_lt_succ hj)) (Nat.lt_of_succ_lt_succ hl) (by rw [← e]; exact hne)
theorem orV_none : ∀ (xs : List Int), (∀ j, j < xs.length → rd xs (j : Int) = 0) → orV xs = 0
  | [], _ => rfl
  | x :: r, h => by
    have hx : x = 0 := h 0 (Nat.succ_pos _)
    have e : ∀ j : Nat, rd (x :: r) ((j + 1 : Nat) : Int) = rd r (j : Int) := fun j => by simp [rd]
    rw [orV, if_pos hx]
    exact orV_none r (fun j hj => by rw [← e]; exact h (j + 1) (Nat.succ_lt_succ hj))

set_option maxHeartbeats 1000000 in
theorem hp_or (A : Option Addr) (c : Nat) (xs : List Int) (w : World) (hC : Kd.C (Kd.int .i64) w A xs.length xs) :
    Calls Try.prog 111 #[.slice A xs.length c] w fun e w' => e = .returned (.int .i64 (orV xs)) ∧ w = w' := by
  have HC := Aside0.mk hC
  have hm : xs.length ≤ 9223372036854775807 := hC.2.1
  clear hC
  obtain ⟨r, hr⟩ : ∃ r, r = orV xs := ⟨_, rfl⟩
  rw [← hr]
  have HR := Aside0.mk hr
  clear hr
  go_enter Try.func111, Try.ntmps111
  go_wp2
  go_loopg [8] xs.length (fun gg s8 wr => ∃ kk : Nat, kk ≤ xs.length ∧ xs.length - kk ≤ gg ∧ s8 = .int .i64 kk ∧ Aside0 (∀ j, j < kk → rd xs (j : Int) = 0) ∧ wr = w)
  case atStart => exact ⟨0, Nat.zero_le _, by omega, rfl, ⟨fun j hj => absurd hj (Nat.not_lt_zero _)⟩, rfl⟩
  case round =>
    obtain ⟨kk, hkk, hg, rfl, HA, rfl⟩ := hrel
    by_cases hlt : kk < xs.length
    · have hltz : (kk : Int) < (xs.length : Int) := by omega
      obtain ⟨ad, e1, hcell⟩ := Kd.at_int HC.out (kk : Int) (by omega) hltz
      cases e1
      rw [Int.toNat_natCast] at hcell
      have HRD := Aside0.mk (show rd xs (kk : Int) = rd xs (kk : Int) from rfl)
      obtain ⟨y, hy⟩ : ∃ y, y = rd xs (kk : Int) := ⟨_, rfl⟩
      rw [← hy] at hcell
      have HY := Aside0.mk hy
      clear hy HRD
      by_cases hq : y = 0
      · have HQ := Aside0.mk (show rd xs (kk : Int) = 0 by rw [← HY.out, hq])
        subst hq
        go_wp2
        go_roundg (xs.length - (kk + 1))
        case measure => omega
        case rel =>
          refine ⟨kk + 1, by omega, by omega, by go_num, ⟨fun j hj => ?_⟩, rfl⟩
          rcases Nat.lt_succ_iff_lt_or_eq.mp hj with h | rfl
          · exact HA.out j h
          · exact HQ.out
      · have hb : (y != 0) = true := by simp [hq]
        have hb2 : (y == 0) = false := by simp [hq]
        have HQ := Aside0.mk hq
        clear hq
        go_wp2
        go_ret
        exact ⟨ret_eq (by rw [HR.out, orV_of xs kk HA.out hlt (by rw [← HY.out]; exact HQ.out), HY.out]), rfl⟩
    · have hltz : ¬ (kk : Int) < (xs.length : Int) := by omega
      obtain rfl : kk = xs.length := by omega
      go_wp2
      go_ret
      exact ⟨ret_eq (by rw [HR.out, orV_none xs HA.out]), rfl⟩

def OrdPost (w : World) (r : Int) (e : Ending) (w' : World) : Prop := e = .returned (.int .i64 r) ∧ (∃ q os, w' = grow (w.drewN q) os) ∧ Below w.heap.size w w'
theorem grow_below (w : World) (q : Nat) (os : Array Obj) : Below w.heap.size w (grow (w.drewN q) os) := by
  have h1 := pw_below_drewN (Below.refl w.heap.size w) q
  refine ⟨h1.os, h1.tape, h1.output, ?_, fun i hi => ?_⟩
  · have := h1.size
    simp only [Go.Sort.size_grow]
    omega
  · rw [← h1.block i hi]
    have hlt : i < (w.drewN q).heap.size := by have := h1.size; omega
    simp only [grow, Array.getElem?_append, hlt, if_true]

set_option maxHeartbeats 2000000 in
/-- order, at two places of the row of activities. -/
theorem order_any (g : Nat) (A B : Option Addr) (c m d : Nat) (act : List Int) (by_ a b : Int) (w : World) (hg : w.heap[g]? = some (.cells #[.slice A act.length c, .slice B m d, .int .i64 by_] 136 (0, 0)))
    (hC : Kd.C (Kd.int .i64) w A act.length act) (ha : 0 ≤ a) (ha2 : a < act.length) (hb : 0 ≤ b) (hb2 : b < act.length) :
    Calls Try.prog 151 #[.pointer (some ⟨g, 0, none⟩), .int .i64 a, .int .i64 b] w (OrdPost w (ordV act a b)) := by
  have hm : act.length ≤ 9223372036854775807 := hC.2.1
  obtain ⟨ad, e1, hca⟩ := Kd.at_int hC a ha ha2
  obtain ⟨ad2, e2, hcb⟩ := Kd.at_int hC b hb hb2
  subst e1
  cases e2
  clear hC
  have hc0 : w.cell? ⟨g, 0, none⟩ = some (.slice (some ad) act.length c) := cell_in hg 0 rfl
  clear hg
  obtain ⟨xa, hxa⟩ : ∃ x, x = rd act a := ⟨_, rfl⟩
  obtain ⟨xb, hxb⟩ : ∃ x, x = rd act b := ⟨_, rfl⟩
  rw [← hxa] at hca
  rw [← hxb] at hcb
  obtain ⟨r, hr⟩ : ∃ r, r = ordV act a b := ⟨_, rfl⟩
  rw [← hr]
  have HR := Aside0.mk (show r = orV [cmpH xb xa, cmpH a b] by rw [hr, ordV, hxa, hxb])
  clear hr hxa hxb
  have hor : ∀ (x y : Int), Calls Try.prog 111 #[.slice (some ⟨w.heap.size, 0, none⟩) 2 2] (w.alloc (.cells #[.int .i64 x, .int .i64 y] 3 (0, 0))).drew fun e w' => e = .returned (.int .i64 (orV [x, y])) ∧ (w.alloc (.cells #[.int .i64 x, .int .i64 y] 3 (0, 0))).drew = w' := fun x y => hp_or (some ⟨w.heap.size, 0, none⟩) 2 [x, y] _ (Kd.C_drew (C_ints [x, y] (by simp) (blk_new w _)))
  have HOR := Aside0.mk hor
  clear hor
  go_enter Try.func151, Try.ntmps151
  go_wp2_with fail
  go_region_held3 (fun w' => w'.cell? ⟨g, 0, none⟩ = some (.slice (some ad) act.length c) ∧ w'.cell? (ad.add a.toNat) = some (.int .i64 xa) ∧ w'.cell? (ad.add b.toNat) = some (.int .i64 xb)) (first | go_keep) (first | (go_at_call 112; refine (hp_compare _ _ _).mono ?_; rintro e w2 ⟨rfl, rfl⟩) | (go_at_call 111; refine (HOR.out _ _).mono ?_; rintro e w2 ⟨rfl, rfl⟩))
  go_wp2
  go_ret
  have e : (w.alloc (.cells #[.int .i64 (cmpH xb xa), .int .i64 (cmpH a b)] 3 (0, 0))).drew = grow (w.drewN 1) #[.cells #[.int .i64 (cmpH xb xa), .int .i64 (cmpH a b)] 3 (0, 0)] := by rw [alloc_eq_grow]; rfl
  exact ⟨ret_eq HR.out.symm, ⟨1, _, e⟩, by rw [e]; exact grow_below _ _ _⟩
end Go.Proofs.Ytobadajeekdakaa.Print
