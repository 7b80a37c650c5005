/- heap: cmp.Or, cmp.Compare, (*work).order, (*work).check, Check: their contracts. heap: known, the odd numbers, (*work).check, Check: their contracts. slices.Clone at []int; heap.begun: their contracts. heap.Pop: its contract. slices.Insert of one number into a row of one's own: its contract, out of the shelf's four roads. slices.BinarySearchFunc over the order of a heap; heap.Push: their contracts. heap.Push: its contract. -/
import Derived.Test.YtobadajeekdakaaB
import Derived.Test.YtobadajeekdakaaE
import Derived.OrdersHeld
import Derived.Deep.RegionHeld3
import Derived.Sort.Grow
import Derived.WalkSpells
import Derived.RegionTactic
import Derived.BigRegion
import Derived.Test.YtobadajeekdakaaShIns
namespace Go.Proofs.Ytobadajeekdakaa.Print
open Go.RowKit Go.Proofs.YtobadajeekdakaaW.PrintWords Go.Proofs.YtobadajeekdakaaW.PrintLast Go.Proofs.YtobadajeekdakaaW.PrintMore
open Go.Sort (grow alloc_eq_grow)
set_option linter.unusedVariables false
set_option linter.unusedSimpArgs false

/-! ### plain words -/
/-- The order of two numbers, as Go's Compare tells it. -/
def cmpH (x y : Int) : Int := if x < y then -1 else if x > y then 1 else 0
/-- The first number that is not 0. -/
def orV : List Int → Int
  | [] => 0
  | x :: r => if x = 0 then orV r else x
def ordV (act : List Int) (a b : Int) : Int := orV [cmpH (rd act b) (rd act a), cmpH a b]
def oddB (n : Int) : Bool := decide (n < 0 ∨ 1099511627776 < n)
def knownB' (act : List Int) (v : Int) : Bool := decide (0 < v ∧ v < act.length)
/-- The place i of a queue: known, and behind the one before it. -/
def placeB (act l : List Int) (i : Nat) : Bool := knownB' act (rd l i) && (decide (i = 0) || decide (ordV act (rd l ((i : Int) - 1)) (rd l i) < 0))
def rowOkB (act l : List Int) : Bool := (List.range l.length).all (placeB act l)
def hpCheckV (act l : List Int) (by_ : Int) : Int :=
  if act.length = 0 ∨ 65537 < act.length ∨ rd act 0 ≠ 0 ∨ act.any oddB = true then 1
  else if by_ = 0 ∨ oddB by_ = true then 1
  else if rowOkB act l = true then 0 else 1

/-! ### walks -/
theorem hp_isnan (x : Int) (w : World) : Calls Try.prog 165 #[.int .i64 x] w fun e w' => e = .returned (.bool false) ∧ w = w' := by
  go_enter Try.func165, Try.ntmps165
  go_wp2
  all_goals (go_ret; exact ⟨ret_b (by simp), rfl⟩)
theorem hp_compare (x y : Int) (w : World) : Calls Try.prog 112 #[.int .i64 x, .int .i64 y] w fun e w' => e = .returned (.int .i64 (cmpH x y)) ∧ w = w' := by
  obtain ⟨r, hr⟩ : ∃ r, cmpH x y = r := ⟨_, rfl⟩
  rw [hr]
  have HR := Aside0.mk hr
  clear hr
  go_enter Try.func112, Try.ntmps112
  go_wp2_with (go_at_call 165; refine (hp_isnan _ _).mono ?_; rintro e w2 ⟨rfl, rfl⟩)
  all_goals (go_ret; exact ⟨ret_eq (by rw [← HR.out]; unfold cmpH; split <;> (try split) <;> omega), rfl⟩)

theorem orV_of : ∀ (xs : List Int) (k : Nat), (∀ j, j < k → rd xs (j : Int) = 0) → k < xs.length → rd xs (k : Int) ≠ 0 → orV xs = rd xs (k : Int)
  | [], k, _, h, _ => absurd h (Nat.not_lt_zero _)
  | x :: r, 0, _, _, hne => by
    have : rd (x :: r) ((0 : Nat) : Int) = x := rfl
    rw [this] at hne ⊢
    rw [orV, if_neg hne]
  | x :: r, k + 1, h0, hl, hne => by
    have hx : x = 0 := h0 0 (Nat.succ_pos _)
    have e : ∀ j : Nat, rd (x :: r) ((j + 1 : Nat) : Int) = rd r (j : Int) := fun j => by simp [rd]
    rw [orV, if_pos hx, e]
    exact orV_of r k (fun j hj => by rw [← e]; exact h0 (j + 1) (Nat.succ_lt_succ hj)) (Nat.lt_of_succ_lt_succ hl) (by rw [← e]; exact hne)
theorem orV_none : ∀ (xs : List Int), (∀ j, j < xs.length → rd xs (j : Int) = 0) → orV xs = 0
  | [], _ => rfl
  | x :: r, h => by
    have hx : x = 0 := h 0 (Nat.succ_pos _)
    have e : ∀ j : Nat, rd (x :: r) ((j + 1 : Nat) : Int) = rd r (j : Int) := fun j => by simp [rd]
    rw [orV, if_pos hx]
    exact orV_none r (fun j hj => by rw [← e]; exact h (j + 1) (Nat.succ_lt_succ hj))

set_option maxHeartbeats 1000000 in
theorem hp_or (A : Option Addr) (c : Nat) (xs : List Int) (w : World) (hC : Kd.C (Kd.int .i64) w A xs.length xs) :
    Calls Try.prog 111 #[.slice A xs.length c] w fun e w' => e = .returned (.int .i64 (orV xs)) ∧ w = w' := by
  have HC := Aside0.mk hC
  have hm : xs.length ≤ 9223372036854775807 := hC.2.1
  clear hC
  obtain ⟨r, hr⟩ : ∃ r, r = orV xs := ⟨_, rfl⟩
  rw [← hr]
  have HR := Aside0.mk hr
  clear hr
  go_enter Try.func111, Try.ntmps111
  go_wp2
  go_loopg [8] xs.length (fun gg s8 wr => ∃ kk : Nat, kk ≤ xs.length ∧ xs.length - kk ≤ gg ∧ s8 = .int .i64 kk ∧ Aside0 (∀ j, j < kk → rd xs (j : Int) = 0) ∧ wr = w)
  case atStart => exact ⟨0, Nat.zero_le _, by omega, rfl, ⟨fun j hj => absurd hj (Nat.not_lt_zero _)⟩, rfl⟩
  case round =>
    obtain ⟨kk, hkk, hg, rfl, HA, rfl⟩ := hrel
    by_cases hlt : kk < xs.length
    · have hltz : (kk : Int) < (xs.length : Int) := by omega
      obtain ⟨ad, e1, hcell⟩ := Kd.at_int HC.out (kk : Int) (by omega) hltz
      cases e1
      rw [Int.toNat_natCast] at hcell
      have HRD := Aside0.mk (show rd xs (kk : Int) = rd xs (kk : Int) from rfl)
      obtain ⟨y, hy⟩ : ∃ y, y = rd xs (kk : Int) := ⟨_, rfl⟩
      rw [← hy] at hcell
      have HY := Aside0.mk hy
      clear hy HRD
      by_cases hq : y = 0
      · have HQ := Aside0.mk (show rd xs (kk : Int) = 0 by rw [← HY.out, hq])
        subst hq
        go_wp2
        go_roundg (xs.length - (kk + 1))
        case measure => omega
        case rel =>
          refine ⟨kk + 1, by omega, by omega, by go_num, ⟨fun j hj => ?_⟩, rfl⟩
          rcases Nat.lt_succ_iff_lt_or_eq.mp hj with h | rfl
          · exact HA.out j h
          · exact HQ.out
      · have hb : (y != 0) = true := by simp [hq]
        have hb2 : (y == 0) = false := by simp [hq]
        have HQ := Aside0.mk hq
        clear hq
        go_wp2
        go_ret
        exact ⟨ret_eq (by rw [HR.out, orV_of xs kk HA.out hlt (by rw [← HY.out]; exact HQ.out), HY.out]), rfl⟩
    · have hltz : ¬ (kk : Int) < (xs.length : Int) := by omega
      obtain rfl : kk = xs.length := by omega
      go_wp2
      go_ret
      exact ⟨ret_eq (by rw [HR.out, orV_none xs HA.out]), rfl⟩

def OrdPost (w : World) (r : Int) (e : Ending) (w' : World) : Prop := e = .returned (.int .i64 r) ∧ (∃ q os, w' = grow (w.drewN q) os) ∧ Below w.heap.size w w'
theorem grow_below (w : World) (q : Nat) (os : Array Obj) : Below w.heap.size w (grow (w.drewN q) os) := by
  have h1 := pw_below_drewN (Below.refl w.heap.size w) q
  refine ⟨h1.os, h1.tape, h1.output, ?_, fun i hi => ?_⟩
  · have := h1.size
    simp only [Go.Sort.size_grow]
    omega
  · rw [← h1.block i hi]
    have hlt : i < (w.drewN q).heap.size := by have := h1.size; omega
    simp only [grow, Array.getElem?_append, hlt, if_true]

set_option maxHeartbeats 2000000 in
/-- order, at two places of the row of activities. -/
theorem order_any (g : Nat) (A B : Option Addr) (c m d : Nat) (act : List Int) (by_ a b : Int) (w : World) (hg : w.heap[g]? = some (.cells #[.slice A act.length c, .slice B m d, .int .i64 by_] 136 (0, 0)))
    (hC : Kd.C (Kd.int .i64) w A act.length act) (ha : 0 ≤ a) (ha2 : a < act.length) (hb : 0 ≤ b) (hb2 : b < act.length) :
    Calls Try.prog 151 #[.pointer (some ⟨g, 0, none⟩), .int .i64 a, .int .i64 b] w (OrdPost w (ordV act a b)) := by
  have hm : act.length ≤ 9223372036854775807 := hC.2.1
  obtain ⟨ad, e1, hca⟩ := Kd.at_int hC a ha ha2
  obtain ⟨ad2, e2, hcb⟩ := Kd.at_int hC b hb hb2
  subst e1
  cases e2
  clear hC
  have hc0 : w.cell? ⟨g, 0, none⟩ = some (.slice (some ad) act.length c) := cell_in hg 0 rfl
  clear hg
  obtain ⟨xa, hxa⟩ : ∃ x, x = rd act a := ⟨_, rfl⟩
  obtain ⟨xb, hxb⟩ : ∃ x, x = rd act b := ⟨_, rfl⟩
  rw [← hxa] at hca
  rw [← hxb] at hcb
  obtain ⟨r, hr⟩ : ∃ r, r = ordV act a b := ⟨_, rfl⟩
  rw [← hr]
  have HR := Aside0.mk (show r = orV [cmpH xb xa, cmpH a b] by rw [hr, ordV, hxa, hxb])
  clear hr hxa hxb
  have hor : ∀ (x y : Int), Calls Try.prog 111 #[.slice (some ⟨w.heap.size, 0, none⟩) 2 2] (w.alloc (.cells #[.int .i64 x, .int .i64 y] 3 (0, 0))).drew fun e w' => e = .returned (.int .i64 (orV [x, y])) ∧ (w.alloc (.cells #[.int .i64 x, .int .i64 y] 3 (0, 0))).drew = w' := fun x y => hp_or (some ⟨w.heap.size, 0, none⟩) 2 [x, y] _ (Kd.C_drew (C_ints [x, y] (by simp) (blk_new w _)))
  have HOR := Aside0.mk hor
  clear hor
  go_enter Try.func151, Try.ntmps151
  go_wp2_with fail
  go_region_held3 (fun w' => w'.cell? ⟨g, 0, none⟩ = some (.slice (some ad) act.length c) ∧ w'.cell? (ad.add a.toNat) = some (.int .i64 xa) ∧ w'.cell? (ad.add b.toNat) = some (.int .i64 xb)) (first | go_keep) (first | (go_at_call 112; refine (hp_compare _ _ _).mono ?_; rintro e w2 ⟨rfl, rfl⟩) | (go_at_call 111; refine (HOR.out _ _).mono ?_; rintro e w2 ⟨rfl, rfl⟩))
  go_wp2
  go_ret
  have e : (w.alloc (.cells #[.int .i64 (cmpH xb xa), .int .i64 (cmpH a b)] 3 (0, 0))).drew = grow (w.drewN 1) #[.cells #[.int .i64 (cmpH xb xa), .int .i64 (cmpH a b)] 3 (0, 0)] := by rw [alloc_eq_grow]; rfl
  exact ⟨ret_eq HR.out.symm, ⟨1, _, e⟩, by rw [e]; exact grow_below _ _ _⟩
end Go.Proofs.Ytobadajeekdakaa.Print

namespace Go.Proofs.Ytobadajeekdakaa.Print
open Go.RowKit Go.Proofs.YtobadajeekdakaaW.PrintWords Go.Proofs.YtobadajeekdakaaW.PrintLast Go.Proofs.YtobadajeekdakaaW.PrintMore
open Go.Sort (grow alloc_eq_grow)
set_option linter.unusedVariables false
set_option linter.unusedSimpArgs false

theorem odd_any (n : Int) (w : World) : Calls Try.prog 174 #[.int .i64 n] w fun e w' => e = .returned (.bool (oddB n)) ∧ w = w' := by
  obtain ⟨r, hr⟩ : ∃ r, r = oddB n := ⟨_, rfl⟩
  rw [← hr]
  have HR := Aside0.mk hr
  clear hr
  by_cases h : n < 0
  · have HH := Aside0.mk (show r = true by rw [HR.out]; simp [oddB, h])
    go_enter Try.func174, Try.ntmps174
    go_wp2
    go_ret
    exact ⟨ret_b HH.out.symm, rfl⟩
  · have HH := Aside0.mk (show r = decide (1099511627776 < n) by rw [HR.out]; simp [oddB, h])
    go_enter Try.func174, Try.ntmps174
    go_wp2
    go_ret
    exact ⟨ret_b HH.out.symm, rfl⟩

/-- A working copy: the three cells of a heap. -/
def WorkAt (w : World) (g : Nat) (A : Option Addr) (n c : Nat) (B : Option Addr) (m d : Nat) (by_ : Int) : Prop :=
  w.heap[g]? = some (.cells #[.slice A n c, .slice B m d, .int .i64 by_] 136 (0, 0))
theorem known_any (g : Nat) (A B : Option Addr) (n c m d : Nat) (act : List Int) (by_ v : Int) (w : World) (hn : act.length = n) (hg : WorkAt w g A n c B m d by_) :
    Calls Try.prog 144 #[.pointer (some ⟨g, 0, none⟩), .int .i64 v] w fun e w' => e = .returned (.bool (knownB' act v)) ∧ w = w' := by
  have hc0 : w.cell? ⟨g, 0, none⟩ = some (.slice A n c) := cell_in hg 0 rfl
  obtain ⟨r, hr⟩ : ∃ r, r = knownB' act v := ⟨_, rfl⟩
  rw [← hr]
  have HR := Aside0.mk hr
  have HN := Aside0.mk hn
  clear hr hn hg
  by_cases h : 0 < v
  · have HH := Aside0.mk (show r = decide (v < (n : Int)) by rw [HR.out, knownB', HN.out]; simp [h])
    go_enter Try.func144, Try.ntmps144
    go_wp2
    go_ret
    exact ⟨ret_b HH.out.symm, rfl⟩
  · have HH := Aside0.mk (show r = false by rw [HR.out]; simp [knownB', h])
    go_enter Try.func144, Try.ntmps144
    go_wp2
    go_ret
    exact ⟨ret_b HH.out.symm, rfl⟩

theorem rowOk_false {act l : List Int} (i : Nat) (hi : i < l.length) (h : placeB act l i = false) : rowOkB act l = false := by
  unfold rowOkB
  rw [← Bool.not_eq_true, List.all_eq_true]
  intro hh
  have := hh i (List.mem_range.2 hi)
  rw [h] at this
  cases this
theorem rowOk_true {act l : List Int} (h : ∀ i, i < l.length → placeB act l i = true) : rowOkB act l = true := by
  unfold rowOkB
  rw [List.all_eq_true]
  exact fun i hi => h i (List.mem_range.1 hi)

set_option maxHeartbeats 4000000 in
set_option maxRecDepth 100000 in
theorem check_any (g : Nat) (A B : Option Addr) (n c m d : Nat) (act l : List Int) (by_ : Int) (w : World) (hg : WorkAt w g A n c B m d by_)
    (hA : Kd.C (Kd.int .i64) w A n act) (hB : Kd.C (Kd.int .i64) w B m l) :
    Calls Try.prog 140 #[.pointer (some ⟨g, 0, none⟩)] w fun e w' => e = .returned (.int .i64 (hpCheckV act l by_)) ∧ Below w.heap.size w w' := by
  have hc0 : w.cell? ⟨g, 0, none⟩ = some (.slice A n c) := cell_in hg 0 rfl
  have hc1 : w.cell? ⟨g, 1, none⟩ = some (.slice B m d) := cell_in hg 1 rfl
  have hc2 : w.cell? ⟨g, 2, none⟩ = some (.int .i64 by_) := cell_in hg 2 rfl
  have HG := Aside0.mk hg
  have hn : act.length = n := hA.1
  have HN := Aside0.mk hn
  have HM := Aside0.mk hB.1
  have hm63 : n ≤ 9223372036854775807 := hA.2.1
  have hm63b : m ≤ 9223372036854775807 := hB.2.1
  have HA := Aside0.mk hA
  have HB := Aside0.mk hB
  have eg : ∀ args w, (callFunc 174 args).run Try.prog w = .ok (.enter 174 args) w := enters_of Try.func174 (by kernel_rfl) rfl
  obtain ⟨r, hr⟩ : ∃ r, r = hpCheckV act l by_ := ⟨_, rfl⟩
  rw [← hr]
  have HR := Aside0.mk hr
  have hany := containsFunc_same oddB 174 #[] eg A c act w (by rw [HN.out]; exact HA.out) (fun x => odd_any x w)
  rw [HN.out] at hany
  clear hr hg hA hB
  by_cases h1 : n = 0
  · have HH := Aside0.mk (show r = 1 by rw [HR.out, hpCheckV, if_pos (.inl (by omega))])
    subst h1
    clear hn hany
    go_enter Try.func140, Try.ntmps140
    go_wp2
    go_ret
    exact ⟨ret_eq HH.out.symm, Below.refl _ _⟩
  · have h1z : ((n : Int) == 0) = false := by simp [h1]
    have h1y : (n == 0) = false := by simp [h1]
    by_cases h2 : 65537 < n
    · have HH := Aside0.mk (show r = 1 by rw [HR.out, hpCheckV, if_pos (.inr (.inl (by omega)))])
      clear hn hany
      go_enter Try.func140, Try.ntmps140
      go_wp2
      go_ret
      exact ⟨ret_eq HH.out.symm, Below.refl _ _⟩
    · obtain ⟨ad, e1, hcell⟩ := Kd.at_int HA.out (0 : Int) (by omega) (by omega)
      subst e1
      obtain ⟨x0, hx0⟩ : ∃ x, x = rd act 0 := ⟨_, rfl⟩
      rw [← hx0] at hcell
      replace hcell : w.cell? ad = some (.int .i64 x0) := by
        have h := hcell
        rwa [show ad.add (0 : Int).toNat = ad from rfl] at h
      by_cases h3 : x0 = 0
      · subst h3
        cases h4 : act.any oddB with
        | true =>
          have HH := Aside0.mk (show r = 1 by rw [HR.out, hpCheckV, if_pos (.inr (.inr (.inr h4)))])
          rw [h4] at hany
          clear h4 hn hx0
          go_enter Try.func140, Try.ntmps140
          go_wp2_with (go_at_call 100; refine hany.mono ?_; rintro e w' ⟨rfl, rfl⟩)
          go_ret
          exact ⟨ret_eq HH.out.symm, Below.refl _ _⟩
        | false =>
          have HH := Aside0.mk (show r = if by_ = 0 ∨ oddB by_ = true then 1 else if rowOkB act l = true then 0 else 1 by
            rw [HR.out, hpCheckV, if_neg (show ¬ (act.length = 0 ∨ 65537 < act.length ∨ rd act 0 ≠ 0 ∨ act.any oddB = true) by rw [h4, HN.out, ← hx0]; simp; omega)])
          rw [h4] at hany
          clear h4 hn hx0 HR
          by_cases h5 : by_ = 0
          · have HH2 := Aside0.mk (show r = 1 by rw [HH.out, if_pos (.inl h5)])
            subst h5
            go_enter Try.func140, Try.ntmps140
            go_wp2_with (go_at_call 100; refine hany.mono ?_; rintro e w' ⟨rfl, rfl⟩)
            go_ret
            exact ⟨ret_eq HH2.out.symm, Below.refl _ _⟩
          · have h5z : (by_ == 0) = false := by simp [h5]
            have hodd := odd_any by_ w
            cases h6 : oddB by_ with
            | true =>
              have HH2 := Aside0.mk (show r = 1 by rw [HH.out, if_pos (.inr h6)])
              rw [h6] at hodd
              clear h6 h5
              go_enter Try.func140, Try.ntmps140
              go_wp2_with (first | (go_at_call 100; refine hany.mono ?_; rintro e w' ⟨rfl, rfl⟩) | (go_at_fn 174; refine hodd.mono ?_; rintro e w' ⟨rfl, rfl⟩))
              go_ret
              exact ⟨ret_eq HH2.out.symm, Below.refl _ _⟩
            | false =>
              have HH2 := Aside0.mk (show r = if rowOkB act l = true then 0 else 1 by rw [HH.out, if_neg (by rw [h6]; simp [h5])])
              rw [h6] at hodd
              clear h6 h5 HH
              go_enter Try.func140, Try.ntmps140
              go_wp2_with (first | (go_at_call 100; refine hany.mono ?_; rintro e w' ⟨rfl, rfl⟩) | (go_at_fn 174; refine hodd.mono ?_; rintro e w' ⟨rfl, rfl⟩))
              clear hany hodd hcell hc2
              go_loopg [64] m (fun gg s64 wr => ∃ k : Nat, k ≤ m ∧ m - k ≤ gg ∧ s64 = .int .i64 k ∧ Aside0 (∀ j, j < k → placeB act l j = true) ∧ Aside0 (Below w.heap.size w wr))
              case atStart => exact ⟨0, Nat.zero_le _, by omega, rfl, ⟨fun j hj => absurd hj (Nat.not_lt_zero _)⟩, ⟨Below.refl _ _⟩⟩
              case round =>
                clear hc0 hc1
                obtain ⟨k, hk, hg, rfl, HP, HBL⟩ := hrel
                have HGr : Aside0 (WorkAt wr g (some ad) n c B m d by_) := ⟨blk_below HG.out HBL.out⟩
                have hc0 : wr.cell? ⟨g, 0, none⟩ = some (.slice (some ad) n c) := cell_in HGr.out 0 rfl
                have hc1 : wr.cell? ⟨g, 1, none⟩ = some (.slice B m d) := cell_in HGr.out 1 rfl
                by_cases hlt : k < m
                · have hltz : (k : Int) < (m : Int) := by omega
                  have HBr := Aside0.mk (Kd.C_below HB.out HBL.out)
                  have HAr := Aside0.mk (Kd.C_below HA.out HBL.out)
                  obtain ⟨ad2, e2, hcell⟩ := Kd.at_int HBr.out (k : Int) (by omega) hltz
                  subst e2
                  rw [Int.toNat_natCast] at hcell
                  obtain ⟨x, hx⟩ : ∃ x, x = rd l (k : Int) := ⟨_, rfl⟩
                  rw [← hx] at hcell
                  have HX := Aside0.mk hx
                  clear hx
                  have hkn := known_any g (some ad) (some ad2) n c m d act by_ x wr HN.out HGr.out
                  cases h7 : knownB' act x with
                  | false =>
                    rw [h7] at hkn
                    have HF := Aside0.mk (show r = 1 by rw [HH2.out, rowOk_false k (by rw [HM.out]; exact hlt) (by rw [placeB, ← HX.out, h7]; rfl)]; rfl)
                    clear h7
                    go_wp2_with (go_at_call 144; refine hkn.mono ?_; rintro e w' ⟨rfl, rfl⟩)
                    go_ret
                    exact ⟨ret_eq HF.out.symm, HBL.out⟩
                  | true =>
                    rw [h7] at hkn
                    have HK := Aside0.mk h7
                    clear h7
                    by_cases h8 : k = 0
                    · have HS := Aside0.mk (show placeB act l k = true by rw [placeB, ← HX.out, HK.out, h8]; rfl)
                      have hcell0 : wr.cell? ad2 = some (.int .i64 x) := by
                        have h := hcell
                        rw [h8] at h
                        exact h
                      subst h8
                      clear hcell
                      go_wp2_with (go_at_call 144; refine hkn.mono ?_; rintro e w' ⟨rfl, rfl⟩)
                      go_roundg (m - (0 + 1))
                      case measure => omega
                      case rel => exact ⟨0 + 1, by omega, by omega, by go_num, ⟨fun j hj => by obtain rfl : j = 0 := by omega
                                                                                               exact HS.out⟩, HBL⟩
                    · have h8z : (0 : Int) < (k : Int) := by omega
                      obtain ⟨ad3, e3, hcellp⟩ := Kd.at_int HBr.out ((k : Int) - 1) (by omega) (by omega)
                      cases e3
                      rw [show ((k : Int) - 1).toNat = k - 1 by omega] at hcellp
                      obtain ⟨y, hy⟩ : ∃ y, y = rd l ((k : Int) - 1) := ⟨_, rfl⟩
                      rw [← hy] at hcellp
                      have HY := Aside0.mk hy
                      have HKB := Aside0.mk (show (0 < x ∧ x < act.length) ∧ (0 < y ∧ y < act.length) by
                        refine ⟨by simpa [knownB'] using HK.out, ?_⟩
                        have := HP.out (k - 1) (by omega)
                        rw [placeB, Bool.and_eq_true, show ((k - 1 : Nat) : Int) = (k : Int) - 1 by omega, ← hy] at this
                        simpa [knownB'] using this.1)
                      clear hy
                      have hord := order_any g (some ad) (some ad2) c m d act by_ y x wr (by rw [HN.out]; exact HGr.out) (by rw [HN.out]; exact HAr.out) (by have := HKB.out; omega) (by have := HKB.out; omega) (by have := HKB.out; omega) (by have := HKB.out; omega)
                      obtain ⟨o, ho⟩ : ∃ o, o = ordV act y x := ⟨_, rfl⟩
                      rw [← ho] at hord
                      have HO := Aside0.mk ho
                      clear ho
                      have hw1 : wrap64 ((k : Int) - 1) = (k : Int) - 1 := by unfold wrap64; omega
                      by_cases h9 : o < 0
                      · have HS := Aside0.mk (show placeB act l k = true by rw [placeB, ← HX.out, ← HY.out, HK.out, ← HO.out]; simp [h9])
                        go_wp2_with (first | (go_at_call 144; refine hkn.mono ?_; rintro e w' ⟨rfl, rfl⟩) | (go_at_call 151; refine hord.mono ?_; rintro e w' ⟨rfl, _, hb9⟩; have HB9 := Aside0.mk (below_step HBL.out hb9); clear hb9))
                        go_roundg (m - (k + 1))
                        case measure => omega
                        case rel =>
                          refine ⟨k + 1, by omega, by omega, by go_num, ⟨fun j hj => ?_⟩, HB9⟩
                          rcases Nat.lt_succ_iff_lt_or_eq.mp hj with h | rfl
                          · exact HP.out j h
                          · exact HS.out
                      · have HF := Aside0.mk (show r = 1 by rw [HH2.out, rowOk_false k (by rw [HM.out]; exact hlt) (by rw [placeB, ← HX.out, ← HY.out, HK.out, ← HO.out]; simp [h9, h8])]; rfl)
                        go_wp2_with (first | (go_at_call 144; refine hkn.mono ?_; rintro e w' ⟨rfl, rfl⟩) | (go_at_call 151; refine hord.mono ?_; rintro e w' ⟨rfl, _, hb9⟩; have HB9 := Aside0.mk (below_step HBL.out hb9); clear hb9))
                        go_ret
                        exact ⟨ret_eq HF.out.symm, HB9.out⟩
                · have hltz : ¬ (k : Int) < (m : Int) := by omega
                  obtain rfl : k = m := by omega
                  have HF := Aside0.mk (show r = 0 by rw [HH2.out, rowOk_true (fun i hi => HP.out i (by rw [HM.out] at hi; exact hi)), if_pos rfl])
                  go_wp2
                  go_ret
                  exact ⟨ret_eq HF.out.symm, HBL.out⟩
      · have HH := Aside0.mk (show r = 1 by rw [HR.out, hpCheckV, if_pos (.inr (.inr (.inl (by rw [← hx0]; exact h3))))])
        have h3z : (x0 != 0) = true := by simp [h3]
        clear hn hx0 hany
        go_enter Try.func140, Try.ntmps140
        go_wp2
        go_ret
        exact ⟨ret_eq HH.out.symm, Below.refl _ _⟩
end Go.Proofs.Ytobadajeekdakaa.Print

namespace Go.Proofs.Ytobadajeekdakaa.Print
open Go.RowKit Go.Proofs.YtobadajeekdakaaW.PrintWords Go.Proofs.YtobadajeekdakaaW.PrintLast Go.Proofs.YtobadajeekdakaaW.PrintMore
def heap_Check.f (l0_0 l0_1 : List Int) (a0_2 : Int) : Option Int := some (hpCheckV l0_0 l0_1 a0_2)
theorem heap_Check.calls (A0_0 : Option Addr) (c0_0 : Nat) (l0_0 : List Int) (A0_1 : Option Addr) (c0_1 : Nat) (l0_1 : List Int) (a0_2 : Int) (r : Int) (w : World) (hr0_0 : Kd.C (Kd.int .i64) w A0_0 l0_0.length l0_0) (hc0_0 : l0_0.length ≤ c0_0) (hr0_1 : Kd.C (Kd.int .i64) w A0_1 l0_1.length l0_1) (hc0_1 : l0_1.length ≤ c0_1) (h : heap_Check.f l0_0 l0_1 a0_2 = some r) :
    Calls Try.prog 65 #[.agg #[.slice A0_0 l0_0.length c0_0, .slice A0_1 l0_1.length c0_1, .int .i64 a0_2]] w fun e w' => e = .returned (.int .i64 r) ∧ Below w.heap.size w w' := by
  have HV := Aside0.mk (Option.some.inj h)
  have HA := Aside0.mk hr0_0
  have HB := Aside0.mk hr0_1
  clear h hr0_0 hr0_1
  have hw : WorkAt ((w.alloc (.cells #[.slice A0_0 l0_0.length c0_0, .slice A0_1 l0_1.length c0_1, .int .i64 a0_2] 74 (0, 0))).alloc (.cells #[.slice A0_0 l0_0.length c0_0, .slice A0_1 l0_1.length c0_1, .int .i64 a0_2] 136 (0, 0))) (w.heap.size + 1) A0_0 l0_0.length c0_0 A0_1 l0_1.length c0_1 a0_2 := by
    have h := blk_new (w.alloc (.cells #[.slice A0_0 l0_0.length c0_0, .slice A0_1 l0_1.length c0_1, .int .i64 a0_2] 74 (0, 0))) (.cells #[.slice A0_0 l0_0.length c0_0, .slice A0_1 l0_1.length c0_1, .int .i64 a0_2] 136 (0, 0))
    rw [World.size_alloc] at h
    exact h
  have hcall := check_any _ _ _ _ _ _ _ _ _ _ _ hw (Kd.C_alloc (Kd.C_alloc HA.out _) _) (Kd.C_alloc (Kd.C_alloc HB.out _) _)
  rw [show hpCheckV l0_0 l0_1 a0_2 = r from HV.out] at hcall
  have HC := Aside0.mk hcall
  clear hcall hw
  go_enter Try.func65, Try.ntmps65
  go_wp2_with (go_at_call 140; refine HC.out.mono ?_; rintro e w' ⟨rfl, hb⟩; have HB2 := Aside0.mk hb; clear hb)
  go_ret
  exact ⟨rfl, ((Below.refl w.heap.size w).alloc (Nat.le_refl _) _).alloc (by simp) _ |>.trans (HB2.out.mono (by simp; omega))⟩
end Go.Proofs.Ytobadajeekdakaa.Print

namespace Go.Proofs.Ytobadajeekdakaa.Print
open Go.RowKit Go.Proofs.YtobadajeekdakaaW.PrintWords Go.Proofs.YtobadajeekdakaaW.PrintLast Go.Proofs.YtobadajeekdakaaW.PrintMore
open Go.Sort (grow alloc_eq_grow)
set_option linter.unusedVariables false
set_option linter.unusedSimpArgs false

theorem hp_far {w : World} {g g' i j : Nat} {u : Value} (h : g ≠ g') : (w.setCell ⟨g', j, none⟩ u).cell? ⟨g, i, none⟩ = w.cell? ⟨g, i, none⟩ := by
  simp [World.cell?, Below.heap_setCell w ⟨g', j, none⟩ u g h]
def ClonePost (w : World) (xs : List Int) (e : Ending) (w' : World) : Prop := ∃ v : Value, e = .returned v ∧ Kd.R (Kd.int .i64) 3 w' w.heap.size (fun _ => True) v xs ∧ Below w.heap.size w w'
set_option maxHeartbeats 1000000 in
theorem clone_any (A : Option Addr) (c : Nat) (xs : List Int) (w : World) (hC : Kd.C (Kd.int .i64) w A xs.length xs) (hl : xs.length * 8 ≤ 140737488355328) :
    Calls Try.prog 125 #[.slice A xs.length c] w (ClonePost w xs) := by
  have q28 : ∀ (w : World) (a : Option Addr) (n c n' c' : Nat), (binOp .eql 28 (.slice a n c) (.slice none n' c')).run Try.prog w = .ok (.bool a.isNone) w := fun w a n c n' c' => Lib.run_eql_slice_nil w _ _ a n c n' c' Try.underlying28
  have HC := Aside0.mk hC
  have HL := Aside0.mk hl
  clear hC hl
  cases A with
  | none =>
    have HX := Aside0.mk (show xs = [] by
      rcases Nat.eq_zero_or_pos xs.length with h | h
      · exact List.eq_nil_of_length_eq_zero h
      · obtain ⟨ad, e, _⟩ := HC.out.2.2 h; cases e)
    go_enter Try.func125, Try.ntmps125
    go_wp2
    go_ret
    exact ⟨_, rfl, by rw [HX.out]; exact Kd.R_nil _ _ _ _ _, Below.refl _ _⟩
  | some ad =>
    go_enter Try.func125, Try.ntmps125
    go_wp2_with (at_builtin; refine Kd.R_append_rows (Kd.int .i64) (w0 := w) w.heap.size rfl (.tmp 5) (.tmp 6) 28 3 (.int .i64 0) 8 rfl Try.underlying28 info3 rfl (by decide) (by omega) _ [] xs _ _ _ (fun _ => True) (fun _ => False) rfl rfl (Kd.R_of_own (World.ownsRow_made w #[] 0 (Nat.le_refl _) (Nat.zero_le _) rfl) (fun _ _ => trivial)) (Kd.C_alloc HC.out _) (fun _ _ h => h) (fun _ h => h.elim) (fun _ _ => trivial) (below_alloc (Below.refl _ w) _) (by simp) (by have := HL.out; simpa using this) ?_; intro v1 w1 hR hB hg hat; have HR := Aside0.mk hR; have HB := Aside0.mk hB; clear hR hB hg hat)
    go_ret
    exact ⟨_, rfl, by have := HR.out; rwa [List.nil_append] at this, HB.out⟩

/-- A working copy of one's own: its block, and its two rows. -/
def Work (W : World) (base gw : Nat) (act l : List Int) (by_ : Int) : Prop :=
  ∃ vA vL : Value, W.heap[gw]? = some (.cells #[vA, vL, .int .i64 by_] 136 (0, 0)) ∧ base ≤ gw ∧ Kd.R (Kd.int .i64) 3 W base (fun k_ => some k_ ≠ vL.ownBlock) vA act ∧ Kd.R (Kd.int .i64) 3 W base (fun k_ => some k_ ≠ vA.ownBlock) vL l
def BegunPost (w : World) (act l : List Int) (by_ r : Int) (e : Ending) (w' : World) : Prop :=
  Below w.heap.size w w' ∧ ((r ≠ 0 ∧ e = .returned (.tuple #[.pointer none, .int .i64 r])) ∨
    (r = 0 ∧ ∃ gw, e = .returned (.tuple #[.pointer (some ⟨gw, 0, none⟩), .int .i64 0]) ∧ Work w' w.heap.size gw act l by_))

set_option maxHeartbeats 4000000 in
set_option maxRecDepth 100000 in
theorem begun_any (A0 : Option Addr) (c0 : Nat) (act : List Int) (A1 : Option Addr) (c1 : Nat) (l : List Int) (by_ : Int) (w : World) (hA : Kd.C (Kd.int .i64) w A0 act.length act) (hB : Kd.C (Kd.int .i64) w A1 l.length l)
    (hla : act.length ≤ 100000) (hlb : l.length ≤ 100000) :
    Calls Try.prog 143 #[.agg #[.slice A0 act.length c0, .slice A1 l.length c1, .int .i64 by_]] w (BegunPost w act l by_ (hpCheckV act l by_)) := by
  have HA := Aside0.mk hA
  have HB := Aside0.mk hB
  have HLA := Aside0.mk hla
  have HLB := Aside0.mk hlb
  clear hA hB hla hlb
  obtain ⟨r, hr⟩ : ∃ r, r = hpCheckV act l by_ := ⟨_, rfl⟩
  have HR := Aside0.mk hr
  rw [← hr]
  clear hr
  go_enter Try.func143, Try.ntmps143
  go_upto_region 2 with (fail)
  have HX := Aside0.mk (blk_alloc (blk_new w (.cells #[.slice A0 act.length c0, .slice A1 l.length c1, .int .i64 by_] 74 (0, 0))) (.cells #[.slice A0 act.length c0, .slice A1 l.length c1, .int .i64 by_] 136 (0, 0)))
  have HG := Aside0.mk (blk_new (w.alloc (.cells #[.slice A0 act.length c0, .slice A1 l.length c1, .int .i64 by_] 74 (0, 0))) (.cells #[.slice A0 act.length c0, .slice A1 l.length c1, .int .i64 by_] 136 (0, 0)))
  have HBL := Aside0.mk (below_alloc (below_alloc (Below.refl _ w) (.cells #[.slice A0 act.length c0, .slice A1 l.length c1, .int .i64 by_] 74 (0, 0))) (.cells #[.slice A0 act.length c0, .slice A1 l.length c1, .int .i64 by_] 136 (0, 0)))
  rw [World.size_alloc] at HG
  generalize (w.alloc (.cells #[.slice A0 act.length c0, .slice A1 l.length c1, .int .i64 by_] 74 (0, 0))).alloc (.cells #[.slice A0 act.length c0, .slice A1 l.length c1, .int .i64 by_] 136 (0, 0)) = w1 at HX HG HBL ⊢
  have hne : w.heap.size ≠ w.heap.size + 1 := by omega
  have HGE := Aside0.mk (show w.heap.size ≤ w.heap.size + 1 ∧ w.heap.size ≤ w.heap.size from ⟨by omega, by omega⟩)
  generalize w.heap.size + 1 = gw at HG HGE hne ⊢
  have hcall := check_any gw A0 A1 _ c0 _ c1 act l by_ w1 HG.out (Kd.C_below HA.out HBL.out) (Kd.C_below HB.out HBL.out)
  rw [← HR.out] at hcall
  by_cases h0 : r = 0
  · subst h0
    go_upto_region 5 with (go_at_call 140; refine hcall.mono ?_; rintro e w2 ⟨rfl, hb2⟩; have HB2 := Aside0.mk hb2; clear hb2)
    have HX2 := Aside0.mk (blk_below HX.out HB2.out)
    have HG2 := Aside0.mk (blk_below HG.out HB2.out)
    have HBL2 := Aside0.mk (below_step HBL.out HB2.out)
    clear hcall HX HG HBL HB2 w1
    have e0 : w2.cell? ⟨w.heap.size, 0, none⟩ = some (.slice A0 act.length c0) := cell_in HX2.out 0 rfl
    have e1 : w2.cell? ⟨w.heap.size, 1, none⟩ = some (.slice A1 l.length c1) := cell_in HX2.out 1 rfl
    go_region_held3 (fun w' => w'.cell? ⟨w.heap.size, 0, none⟩ = some (.slice A0 act.length c0) ∧ w'.cell? ⟨w.heap.size, 1, none⟩ = some (.slice A1 l.length c1)) (first | go_keep | (refine ⟨?_, ?_⟩ <;> (repeat (rw [hp_far (by assumption)])) <;> assumption))
      (first
        | (go_at_call 125; refine (clone_any A0 c0 act _ (Kd.C_drew (Kd.C_below HA.out HBL2.out)) (by have := HLA.out; omega)).mono ?_; rintro e w3 ⟨vA, rfl, hRA, hb3⟩; have HX3 := Aside0.mk (blk_below (blk_drew HX2.out) hb3); have HG3 := Aside0.mk (blk_below (blk_drew HG2.out) hb3); have e0 : w3.cell? ⟨w.heap.size, 0, none⟩ = some (.slice A0 act.length c0) := cell_in HX3.out 0 rfl; have e1 : w3.cell? ⟨w.heap.size, 1, none⟩ = some (.slice A1 l.length c1) := cell_in HX3.out 1 rfl; have HRA := Aside0.mk hRA; have HBL3 := Aside0.mk (below_step (below_drew1 HBL2.out) hb3); clear hRA hb3)
        | (go_at_call 125; refine (clone_any A1 c1 l _ (Kd.C_below HB.out HBL3.out) (by have := HLB.out; omega)).mono ?_; rintro e w4 ⟨vL, rfl, hRL, hb4⟩; have HX4 := Aside0.mk (blk_below HX3.out hb4); have HG4 := Aside0.mk (blk_below HG3.out hb4); have e0 : w4.cell? ⟨w.heap.size, 0, none⟩ = some (.slice A0 act.length c0) := cell_in HX4.out 0 rfl; have e1 : w4.cell? ⟨w.heap.size, 1, none⟩ = some (.slice A1 l.length c1) := cell_in HX4.out 1 rfl; have HRL := Aside0.mk hRL; have HB4 := Aside0.mk hb4; have HBL4 := Aside0.mk (below_step HBL3.out hb4); have g0 : w4.cell? ⟨gw, 0, none⟩ = some (.slice A0 act.length c0) := cell_in HG4.out 0 rfl; have g1 : w4.cell? ⟨gw, 1, none⟩ = some (.slice A1 l.length c1) := cell_in HG4.out 1 rfl; have f0 : w4.frozen? ⟨gw, 0, none⟩ = false := blk_frozen HG4.out 0; have f1 : w4.frozen? ⟨gw, 1, none⟩ = false := blk_frozen HG4.out 1; obtain ⟨AA, ca, rfl⟩ := Kd.R_slice HRA.out; obtain ⟨AL, cl, rfl⟩ := Kd.R_slice hRL; clear hRL hb4))
    have hRA2 := Kd.R_mono (Kd.R_lower (Kd.R_elder' HRA.out (Kd.R_base HRL.out) HB4.out) (show w.heap.size ≤ w2.drew.heap.size from HBL2.out.size)) (ok' := fun k_ => some k_ ≠ (Value.slice AL l.length cl).ownBlock) (fun k hk => hk.2)
    have hRL2 := Kd.R_mono (Kd.R_lower (Kd.R_new' HRL.out (Kd.R_lt HRA.out)) (show w.heap.size ≤ w3.heap.size from HBL3.out.size)) (ok' := fun k_ => some k_ ≠ (Value.slice AA act.length ca).ownBlock) (fun k hk => hk.2)
    have hk1 := blk_put HG4.out 0 (.slice AA act.length ca) rfl
    have hk2 := blk_put hk1 1 (.slice AL l.length cl) rfl
    have hne3 : ∀ q, q ∈ 3 :: (Kd.int .i64).E → q ≠ 136 := fun q hq => by
      have : q = 3 := by simpa [Kd.int, Kd.scalar] using hq
      omega
    have HW := Aside0.mk (show Work ((w4.setCell ⟨gw, 0, none⟩ (.slice AA act.length ca)).setCell ⟨gw, 1, none⟩ (.slice AL l.length cl)) w.heap.size gw act l by_ from
      ⟨_, _, hk2, HGE.out.1, Kd.R_set (Kd.R_set hRA2 HG4.out hne3 0 _) hk1 hne3 1 _, Kd.R_set (Kd.R_set hRL2 HG4.out hne3 0 _) hk1 hne3 1 _⟩)
    have HBE := Aside0.mk (below_set (j := 1) (v := .slice AL l.length cl) (below_set (j := 0) (v := .slice AA act.length ca) HBL4.out HGE.out.1) HGE.out.1)
    clear hRA2 hRL2 hk1 hk2 hne3
    go_wp2
    go_ret2
    exact ⟨HBE.out, .inr ⟨rfl, gw, rfl, HW.out⟩⟩
  · have h0z : (r != 0) = true := by simp [h0]
    have h0y : (r == 0) = false := by simp [h0]
    have H0 := Aside0.mk h0
    clear h0
    go_wp2_with (go_at_call 140; refine hcall.mono ?_; rintro e w2 ⟨rfl, hb2⟩; have HB2 := Aside0.mk hb2; clear hb2)
    go_ret2
    exact ⟨below_step HBL.out HB2.out, .inl ⟨H0.out, rfl⟩⟩
end Go.Proofs.Ytobadajeekdakaa.Print

namespace Go.Proofs.Ytobadajeekdakaa.Print
open Go.RowKit Go.Proofs.YtobadajeekdakaaW.PrintWords Go.Proofs.YtobadajeekdakaaW.PrintLast Go.Proofs.YtobadajeekdakaaW.PrintMore
open Go.Sort (grow alloc_eq_grow)
set_option linter.unusedVariables false
set_option linter.unusedSimpArgs false

theorem begun_no {A0 : Option Addr} {c0 : Nat} {act : List Int} {A1 : Option Addr} {c1 : Nat} {l : List Int} {by_ r : Int} {w : World} (hA : Kd.C (Kd.int .i64) w A0 act.length act) (hB : Kd.C (Kd.int .i64) w A1 l.length l)
    (hla : act.length ≤ 100000) (hlb : l.length ≤ 100000) (hr : hpCheckV act l by_ = r) (h0 : r ≠ 0) :
    Calls Try.prog 143 #[.agg #[.slice A0 act.length c0, .slice A1 l.length c1, .int .i64 by_]] w fun e w' => e = .returned (.tuple #[.pointer none, .int .i64 r]) ∧ Below w.heap.size w w' := by
  refine (begun_any A0 c0 act A1 c1 l by_ w hA hB hla hlb).mono ?_
  rw [hr]
  rintro e w' ⟨hb, h | h⟩
  · exact ⟨h.2, hb⟩
  · exact absurd h.1 h0
theorem begun_yes {A0 : Option Addr} {c0 : Nat} {act : List Int} {A1 : Option Addr} {c1 : Nat} {l : List Int} {by_ : Int} {w : World} (hA : Kd.C (Kd.int .i64) w A0 act.length act) (hB : Kd.C (Kd.int .i64) w A1 l.length l)
    (hla : act.length ≤ 100000) (hlb : l.length ≤ 100000) (hr : hpCheckV act l by_ = 0) :
    Calls Try.prog 143 #[.agg #[.slice A0 act.length c0, .slice A1 l.length c1, .int .i64 by_]] w fun e w' => ∃ gw, e = .returned (.tuple #[.pointer (some ⟨gw, 0, none⟩), .int .i64 0]) ∧ Work w' w.heap.size gw act l by_ ∧ Below w.heap.size w w' := by
  refine (begun_any A0 c0 act A1 c1 l by_ w hA hB hla hlb).mono ?_
  rw [hr]
  rintro e w' ⟨hb, h | h⟩
  · exact absurd rfl h.1
  · obtain ⟨_, gw, he, hw⟩ := h
    exact ⟨gw, he, hw, hb⟩

abbrev Z74 : Obj := .cells #[.slice none 0 0, .slice none 0 0, .int .i64 0] 74 (0, 0)
theorem zero_put {w : World} {g : Nat} (h : w.heap[g]? = some Z74) : (((w.setCell ⟨g, 0, none⟩ (.slice none 0 0)).setCell ⟨g, 1, none⟩ (.slice none 0 0)).setCell ⟨g, 2, none⟩ (.int .i64 0)).heap[g]? = some Z74 :=
  blk_put (blk_put (blk_put h 0 _ rfl) 1 _ rfl) 2 _ rfl
theorem heap_put {w : World} {g : Nat} {u1 u2 u3 : Value} (h : w.heap[g]? = some Z74) : (((w.setCell ⟨g, 0, none⟩ u1).setCell ⟨g, 1, none⟩ u2).setCell ⟨g, 2, none⟩ u3).heap[g]? = some (.cells #[u1, u2, u3] 74 (0, 0)) :=
  blk_put (blk_put (blk_put h 0 _ rfl) 1 _ rfl) 2 _ rfl
theorem ne74 : ∀ q, q ∈ 3 :: (Kd.int .i64).E → q ≠ 74 := fun q hq => by
  have : q = 3 := by simpa [Kd.int, Kd.scalar] using hq
  omega
theorem set3_R {w : World} {g base : Nat} {ok : Nat → Prop} {v u1 u2 u3 : Value} {xs : List Int} (h : Kd.R (Kd.int .i64) 3 w base ok v xs) (hz : w.heap[g]? = some Z74) :
    Kd.R (Kd.int .i64) 3 (((w.setCell ⟨g, 0, none⟩ u1).setCell ⟨g, 1, none⟩ u2).setCell ⟨g, 2, none⟩ u3) base ok v xs := by
  have h1 := blk_put hz 0 u1 rfl
  have h2 := blk_put h1 1 u2 rfl
  exact Kd.R_set (Kd.R_set (Kd.R_set h hz ne74 0 u1) h1 ne74 1 u2) h2 ne74 2 u3
theorem set3_Q {w : World} {g base : Nat} {ok : Nat → Prop} {v u1 u2 u3 : Value} {xs : List Int} (h : Kd.Q (Kd.int .i64) 3 w base ok v xs) (hz : w.heap[g]? = some Z74) :
    Kd.Q (Kd.int .i64) 3 (((w.setCell ⟨g, 0, none⟩ u1).setCell ⟨g, 1, none⟩ u2).setCell ⟨g, 2, none⟩ u3) base ok v xs := by
  have h1 := blk_put hz 0 u1 rfl
  have h2 := blk_put h1 1 u2 rfl
  exact Kd.Q_set (Kd.Q_set (Kd.Q_set h hz ne74 0 u1) h1 ne74 1 u2) h2 ne74 2 u3
def smallB (act l : List Int) : Bool := decide (act.length ≤ 100000 ∧ l.length ≤ 100000)
def popV (act l : List Int) (by_ : Int) : List Int × List Int × Int × Int × Int :=
  if hpCheckV act l by_ ≠ 0 then ([], [], 0, 0, hpCheckV act l by_)
  else if l.length = 0 then ([], [], 0, 0, 270) else (act, l.drop 1, by_, rd l 0, 0)
def heap_Pop.f (l0_0 l0_1 : List Int) (a0_2 : Int) : Option (List Int × List Int × Int × Int × Int) := if smallB l0_0 l0_1 = true then some (popV l0_0 l0_1 a0_2) else none

set_option maxHeartbeats 8000000 in
set_option maxRecDepth 100000 in
theorem heap_Pop.calls (A0_0 : Option Addr) (c0_0 : Nat) (l0_0 : List Int) (A0_1 : Option Addr) (c0_1 : Nat) (l0_1 : List Int) (a0_2 : Int) (r1 r2 : List Int) (r3 r4 r5 : Int) (w : World) (hr0_0 : Kd.C (Kd.int .i64) w A0_0 l0_0.length l0_0) (_hc0_0 : l0_0.length ≤ c0_0) (hr0_1 : Kd.C (Kd.int .i64) w A0_1 l0_1.length l0_1) (_hc0_1 : l0_1.length ≤ c0_1) (h : heap_Pop.f l0_0 l0_1 a0_2 = some (r1, r2, r3, r4, r5)) :
    Calls Try.prog 74 #[.agg #[.slice A0_0 l0_0.length c0_0, .slice A0_1 l0_1.length c0_1, .int .i64 a0_2]] w fun e w' => ∃ v0_ v1_ : Value, e = .returned (.tuple #[.agg #[v0_, v1_, .int .i64 r3], .int .i64 r4, .int .i64 r5]) ∧ Kd.R (Kd.int .i64) 3 w' w.heap.size (fun k_ => some k_ ≠ (v1_ : Value).ownBlock) v0_ r1 ∧ Kd.Q (Kd.int .i64) 3 w' w.heap.size (fun k_ => some k_ ≠ (v0_ : Value).ownBlock) v1_ r2 ∧ Below w.heap.size w w' := by
  have HA := Aside0.mk hr0_0
  have HB := Aside0.mk hr0_1
  have hu74 := Try.underlying74
  unfold heap_Pop.f at h
  by_cases hs : smallB l0_0 l0_1 = true
  · rw [if_pos hs] at h
    have HS := Aside0.mk (show l0_0.length ≤ 100000 ∧ l0_1.length ≤ 100000 by simpa [smallB] using hs)
    have HV := Aside0.mk (Option.some.inj h)
    clear h hs hr0_0 hr0_1
    go_enter Try.func74, Try.ntmps74
    go_upto_region 1 with (fail)
    have HX := Aside0.mk (blk_alloc (blk_new w (.cells #[.slice A0_0 l0_0.length c0_0, .slice A0_1 l0_1.length c0_1, .int .i64 a0_2] 74 (0, 0))) Z74)
    have HZ := Aside0.mk (blk_new (w.alloc (.cells #[.slice A0_0 l0_0.length c0_0, .slice A0_1 l0_1.length c0_1, .int .i64 a0_2] 74 (0, 0))) Z74)
    have HBL := Aside0.mk (below_alloc (below_alloc (Below.refl _ w) (.cells #[.slice A0_0 l0_0.length c0_0, .slice A0_1 l0_1.length c0_1, .int .i64 a0_2] 74 (0, 0))) Z74)
    rw [World.size_alloc] at HZ
    have HGE := Aside0.mk (show w.heap.size ≤ w.heap.size + 1 by omega)
    generalize (w.alloc (.cells #[.slice A0_0 l0_0.length c0_0, .slice A0_1 l0_1.length c0_1, .int .i64 a0_2] 74 (0, 0))).alloc Z74 = w1 at HX HZ HBL ⊢
    generalize w.heap.size + 1 = gz at HZ HGE ⊢
    have e0 : w1.cell? ⟨w.heap.size, 0, none⟩ = some (.slice A0_0 l0_0.length c0_0) := cell_in HX.out 0 rfl
    have e1 : w1.cell? ⟨w.heap.size, 1, none⟩ = some (.slice A0_1 l0_1.length c0_1) := cell_in HX.out 1 rfl
    have e2 : w1.cell? ⟨w.heap.size, 2, none⟩ = some (.int .i64 a0_2) := cell_in HX.out 2 rfl
    obtain ⟨r, hr⟩ : ∃ r, hpCheckV l0_0 l0_1 a0_2 = r := ⟨_, rfl⟩
    by_cases h0 : r = 0
    · subst h0
      have hcall := begun_yes (c0 := c0_0) (c1 := c0_1) (Kd.C_below HA.out HBL.out) (Kd.C_below HB.out HBL.out) HS.out.1 HS.out.2 hr
      have HR := Aside0.mk hr
      clear hr
      go_upto_region 4 with (go_at_call 143; refine hcall.mono ?_; rintro e w2 ⟨gw, rfl, hw2, hb2⟩; have HW := Aside0.mk hw2; have HZ2 := Aside0.mk (blk_below HZ.out hb2); have HBL2 := Aside0.mk (below_step HBL.out hb2); have HBASE := Aside0.mk HBL.out.size; clear hw2 hb2 e0 e1 e2)
      obtain ⟨vA, vL, hgw, hbg, hRA, hRL⟩ := HW.out
      obtain ⟨AA, ca, rfl⟩ := Kd.R_slice hRA
      obtain ⟨AL, cl, rfl⟩ := Kd.R_slice hRL
      have HGW := Aside0.mk hgw
      have HBG := Aside0.mk hbg
      have HRA := Aside0.mk hRA
      have HRL := Aside0.mk hRL
      clear hgw hbg hRA hRL HW
      have g1 : w2.cell? ⟨gw, 1, none⟩ = some (.slice AL l0_1.length cl) := cell_in HGW.out 1 rfl
      have hm63 : l0_1.length ≤ 9223372036854775807 := by have := HS.out.2; omega
      by_cases hl : l0_1.length = 0
      · have hlz : ((l0_1.length : Int) == 0) = true := by simp [hl]
        have HL := Aside0.mk hl
        have z0 : w2.cell? ⟨gz, 0, none⟩ = some (.slice none 0 0) := cell_in HZ2.out 0 rfl
        have z1 : w2.cell? ⟨gz, 1, none⟩ = some (.slice none 0 0) := cell_in HZ2.out 1 rfl
        have z2 : w2.cell? ⟨gz, 2, none⟩ = some (.int .i64 0) := cell_in HZ2.out 2 rfl
        have zf0 : w2.frozen? ⟨gz, 0, none⟩ = false := blk_frozen HZ2.out 0
        have zf1 : w2.frozen? ⟨gz, 1, none⟩ = false := blk_frozen HZ2.out 1
        have zf2 : w2.frozen? ⟨gz, 2, none⟩ = false := blk_frozen HZ2.out 2
        rw [hl] at g1
        clear hl hlz
        go_wp2
        have hv : (([] : List Int), ([] : List Int), (0 : Int), (0 : Int), (270 : Int)) = (r1, r2, r3, r4, r5) := by
          rw [← HV.out, popV, HR.out, if_neg (by simp), if_pos HL.out]
        simp only [Prod.mk.injEq] at hv
        obtain ⟨rfl, rfl, rfl, rfl, rfl⟩ := hv
        refine bodyPost_ret (results_ctt rfl _ _ gz 74 #[.slice none 0 0, .slice none 0 0, .int .i64 0] (0, 0) _ rfl (zero_put HZ2.out) Try.underlying74 rfl (by kernel_rfl)) rfl ?_
        exact ⟨_, _, rfl, Kd.R_nil _ _ _ _ _, Kd.Q_nil _ _ _ _ _, below_set (below_set (below_set HBL2.out HGE.out) HGE.out) HGE.out⟩
      · have hlz : ((l0_1.length : Int) == 0) = false := by simp [hl]
        have HL := Aside0.mk hl
        obtain ⟨_, hlc, hCL⟩ := Kd.R_reads' HRL.out
        obtain ⟨ad, e1, hcell⟩ := Kd.at_int hCL (0 : Int) (by omega) (by omega)
        subst e1
        replace hcell : w2.cell? ad = some (.int .i64 (rd l0_1 0)) := by
          have h := hcell
          rwa [show ad.add (0 : Int).toNat = ad from rfl] at h
        obtain ⟨i0, hi0, _, hsz0, _⟩ := info_parts info3
        have hcut := cut_from (P := Try.prog) 28 3 .i64 Try.underlying28 hi0 1 hsz0 (some ad) l0_1.length cl 1 (by omega) (by omega)
        have HQ := Aside0.mk (Kd.Q_drop (Kd.Q_of_R HRL.out) (show 1 ≤ l0_1.length by omega))
        obtain ⟨A2, hA2⟩ : ∃ A2, A2 = (if cl = 1 then some ad else (some ad).map (·.add 1)) := ⟨_, rfl⟩
        obtain ⟨n1, hn1⟩ : ∃ n1, n1 = l0_1.length - 1 := ⟨_, rfl⟩
        obtain ⟨c1, hc1⟩ : ∃ c1, c1 = cl - 1 := ⟨_, rfl⟩
        have hcut2 : ∀ W, (Instr.slice 28 (.slice (some ad) l0_1.length cl) (some (.int .i64 1)) none none).run Try.prog W = .ok (.slice A2 n1 c1) W := fun W => by
          rw [hA2, hn1, hc1]
          exact hcut W
        have HQ2 : Aside0 (Kd.Q (Kd.int .i64) 3 w2 w1.heap.size (fun k_ => some k_ ≠ (Value.slice AA l0_0.length ca).ownBlock) (.slice A2 n1 c1) (l0_1.drop 1)) := ⟨by
          rw [hA2, hn1, hc1]
          exact HQ.out⟩
        have HOB : Aside0 ((Value.slice A2 n1 c1).ownBlock = (Value.slice (some ad) l0_1.length cl).ownBlock) := ⟨by
          rw [hA2]
          by_cases hcc : cl = 1
          · rw [if_pos hcc]; rfl
          · rw [if_neg hcc]; rfl⟩
        clear hcut hA2 hn1 hc1 HQ hi0 hsz0
        obtain ⟨x0, hx0⟩ : ∃ x0, x0 = rd l0_1 0 := ⟨_, rfl⟩
        rw [← hx0] at hcell
        have HX0 := Aside0.mk hx0
        have gf1 : w2.frozen? ⟨gw, 1, none⟩ = false := blk_frozen HGW.out 1
        have hpos : (0 : Int) < (l0_1.length : Int) := by omega
        clear hx0 hl
        go_upto_region 6 with (fail)
        go_region
        have hne3 : ∀ q, q ∈ 3 :: (Kd.int .i64).E → q ≠ 136 := fun q hq => by
          have : q = 3 := by simpa [Kd.int, Kd.scalar] using hq
          omega
        have hzw : gz ≠ gw := by
          rintro rfl
          have := HZ2.out.symm.trans HGW.out
          simp at this
        have HGW3 := Aside0.mk (blk_drew (blk_put HGW.out 1 (.slice A2 n1 c1) rfl))
        have HZ3 := Aside0.mk (blk_drew (blk_far HZ2.out (p := ⟨gw, 1, none⟩) hzw (.slice A2 n1 c1)))
        have HRA3 := Aside0.mk (Kd.R_mono (Kd.R_lower (Kd.R_drew (Kd.R_set HRA.out HGW.out hne3 1 (.slice A2 n1 c1))) (Nat.le_trans HBASE.out (Nat.le_refl _))) (ok' := fun k_ => some k_ ≠ (Value.slice A2 n1 c1).ownBlock) (fun k hk => by rw [HOB.out]; exact hk))
        have HQ3 := Aside0.mk (Kd.Q_lower (Kd.Q_drew (Kd.Q_set HQ2.out HGW.out hne3 1 (.slice A2 n1 c1))) HBASE.out)
        have HBL3 := Aside0.mk (below_drew1 (below_set (j := 1) (v := .slice A2 n1 c1) HBL2.out (Nat.le_trans HBASE.out HBG.out)))
        clear g1 hcell hcut2 gf1 hne3 hzw HGW HZ2 HBL2 HRA HRL HQ2 hlc hCL
        generalize (w2.setCell ⟨gw, 1, none⟩ (.slice A2 n1 c1)).drew = w3 at HGW3 HZ3 HRA3 HQ3 HBL3 ⊢
        have g0 : w3.cell? ⟨gw, 0, none⟩ = some (.slice AA l0_0.length ca) := cell_in HGW3.out 0 rfl
        have g1 : w3.cell? ⟨gw, 1, none⟩ = some (.slice A2 n1 c1) := cell_in HGW3.out 1 rfl
        have g2 : w3.cell? ⟨gw, 2, none⟩ = some (.int .i64 a0_2) := cell_in HGW3.out 2 rfl
        have z0 : w3.cell? ⟨gz, 0, none⟩ = some (.slice none 0 0) := cell_in HZ3.out 0 rfl
        have z1 : w3.cell? ⟨gz, 1, none⟩ = some (.slice none 0 0) := cell_in HZ3.out 1 rfl
        have z2 : w3.cell? ⟨gz, 2, none⟩ = some (.int .i64 0) := cell_in HZ3.out 2 rfl
        have zf0 : w3.frozen? ⟨gz, 0, none⟩ = false := blk_frozen HZ3.out 0
        have zf1 : w3.frozen? ⟨gz, 1, none⟩ = false := blk_frozen HZ3.out 1
        have zf2 : w3.frozen? ⟨gz, 2, none⟩ = false := blk_frozen HZ3.out 2
        go_wp2
        have hv : (l0_0, l0_1.drop 1, a0_2, x0, (0 : Int)) = (r1, r2, r3, r4, r5) := by
          rw [← HV.out, popV, HR.out, if_neg (by simp), if_neg HL.out, HX0.out]
        simp only [Prod.mk.injEq] at hv
        obtain ⟨rfl, rfl, rfl, rfl, rfl⟩ := hv
        refine bodyPost_ret (results_ctt rfl _ _ gz 74 #[.slice AA l0_0.length ca, .slice A2 n1 c1, .int .i64 a0_2] (0, 0) _ rfl (heap_put HZ3.out) Try.underlying74 rfl (by kernel_rfl)) rfl ?_
        exact ⟨_, _, rfl, set3_R HRA3.out HZ3.out, set3_Q HQ3.out HZ3.out, below_set (below_set (below_set HBL3.out HGE.out) HGE.out) HGE.out⟩
    · have hcall := begun_no (c0 := c0_0) (c1 := c0_1) (Kd.C_below HA.out HBL.out) (Kd.C_below HB.out HBL.out) HS.out.1 HS.out.2 hr h0
      have h0z : (r != 0) = true := by simp [h0]
      have H0 := Aside0.mk h0
      have HR := Aside0.mk hr
      clear h0 hr
      go_upto_region 3 with (go_at_call 143; refine hcall.mono ?_; rintro e w2 ⟨rfl, hb2⟩; have HZ2 := Aside0.mk (blk_below HZ.out hb2); have HBL2 := Aside0.mk (below_step HBL.out hb2); clear hb2 e0 e1 e2)
      have z0 : w2.cell? ⟨gz, 0, none⟩ = some (.slice none 0 0) := cell_in HZ2.out 0 rfl
      have z1 : w2.cell? ⟨gz, 1, none⟩ = some (.slice none 0 0) := cell_in HZ2.out 1 rfl
      have z2 : w2.cell? ⟨gz, 2, none⟩ = some (.int .i64 0) := cell_in HZ2.out 2 rfl
      have zf0 : w2.frozen? ⟨gz, 0, none⟩ = false := blk_frozen HZ2.out 0
      have zf1 : w2.frozen? ⟨gz, 1, none⟩ = false := blk_frozen HZ2.out 1
      have zf2 : w2.frozen? ⟨gz, 2, none⟩ = false := blk_frozen HZ2.out 2
      go_wp2
      have hv : (([] : List Int), ([] : List Int), (0 : Int), (0 : Int), r) = (r1, r2, r3, r4, r5) := by
        rw [← HV.out, popV, HR.out, if_pos H0.out]
      simp only [Prod.mk.injEq] at hv
      obtain ⟨rfl, rfl, rfl, rfl, rfl⟩ := hv
      refine bodyPost_ret (results_ctt rfl _ _ gz 74 #[.slice none 0 0, .slice none 0 0, .int .i64 0] (0, 0) _ rfl (zero_put HZ2.out) Try.underlying74 rfl (by kernel_rfl)) rfl ?_
      exact ⟨_, _, rfl, Kd.R_nil _ _ _ _ _, Kd.Q_nil _ _ _ _ _, below_set (below_set (below_set HBL2.out HGE.out) HGE.out) HGE.out⟩
  · rw [if_neg hs] at h
    cases h
end Go.Proofs.Ytobadajeekdakaa.Print

namespace Go.Proofs.Ytobadajeekdakaa.Print
open Go.RowKit Go.Proofs.YtobadajeekdakaaW.PrintWords Go.Proofs.YtobadajeekdakaaW.PrintLast Go.Proofs.YtobadajeekdakaaW.PrintMore
open Go.Sort (grow alloc_eq_grow)
set_option linter.unusedVariables false
set_option linter.unusedSimpArgs false

def insV (xs : List Int) (i : Nat) (x : Int) : List Int := xs.take i ++ x :: xs.drop i
theorem insV_length (xs : List Int) (i : Nat) (x : Int) (hi : i ≤ xs.length) : (insV xs i x).length = xs.length + 1 := by simp [insV]; omega
theorem encs_map (xs : List Int) : encs (Value.int .i64) xs = xs.map (Value.int .i64) := rfl
theorem one_ints {v : Value} {xs : List Int} (h : v ∈ xs.map (Value.int .i64)) : v.oneCell' = true := by
  obtain ⟨x, _, rfl⟩ := List.mem_map.1 h
  rfl
def InsPost (w : World) (base : Nat) (v : Value) (xs : List Int) (i : Nat) (x : Int) (e : Ending) (w' : World) : Prop :=
  ∃ v' : Value, e = .returned v' ∧ Kd.R (Kd.int .i64) 3 w' base (fun _ => True) v' (insV xs i x) ∧ w.grownBy w' v.ownBlock ∧ (v'.ownBlock = v.ownBlock ∨ ∃ b, v'.ownBlock = some b ∧ w.heap.size ≤ b)
/-- New memory that holds a row. -/
theorem R_fresh {W : World} {g base cap : Nat} {cur : Array Value} {ys : List Int} (hg : W.heap[g]? = some (.cells cur 3 (0, 0))) (hb : base ≤ g) (hc : ys.length ≤ cap) (hm : cap ≤ maxLen) (hs : cur.size = cap) (ht : cur.toList.take ys.length = ys.map (Value.int .i64)) :
    Kd.R (Kd.int .i64) 3 W base (fun _ => True) (.slice (some ⟨g, 0, none⟩) ys.length cap) ys :=
  Kd.R_of_own ⟨by simp [encs], .inr ⟨g, cap, cur, rfl, hb, hg, hc, hm, by omega, by rw [Nat.mul_one]; exact ht⟩⟩ (fun _ _ => trivial)
theorem grown_alloc (w : World) (o : Obj) (row : Option Nat) : w.grownBy (w.alloc o) row := grown_of_below (below_alloc (Below.refl _ w) o) row
theorem setCells_grown (w : World) (g o : Nat) (vs : List Value) : w.grownBy (w.setCells g o vs) (some g) := by
  obtain ⟨h1, h2, h3, h4⟩ := setCells_same g vs o w
  exact ⟨h1, h2, h3, by omega, fun k _ hk => setCells_far vs o k (by intro e; exact hk (by rw [e]))⟩
theorem below_setCells {w : World} {g : Nat} (hg : w.heap.size ≤ g) : ∀ (vs : List Value) (o : Nat) {W : World}, Below w.heap.size w W → Below w.heap.size w (W.setCells g o vs)
  | [], _, _, h => h
  | v :: r, o, W, h => by
    rw [World.setCells]
    exact below_setCells hg r (o + 1) (below_set h hg)
theorem grown_trans {w w1 w2 : World} {row : Option Nat} (h : w.grownBy w1 row) (k : w1.grownBy w2 row) : w.grownBy w2 row :=
  ⟨k.os.trans h.os, k.tape.trans h.tape, k.output.trans h.output, Nat.le_trans h.size k.size, fun i hi hr => (k.block i (Nat.lt_of_lt_of_le hi h.size) hr).trans (h.block i hi hr)⟩
theorem grown_drew (w : World) (row : Option Nat) : w.grownBy w.drew row := grown_of_below (below_drew (Below.refl _ w)) row

theorem insert_end (base c : Nat) (A : Option Addr) (xs : List Int) (x : Int) (w : World) (gx : Nat) (hR : Kd.R (Kd.int .i64) 3 w base (fun _ => True) (.slice A xs.length c) xs) (hbase : base ≤ w.heap.size) (hl : xs.length ≤ 100000) (hx : w.heap[gx]? = some (.cells #[.int .i64 x] 3 (0, 0))) :
    Calls Try.prog 152 #[.slice A xs.length c, .int .i64 xs.length, .slice (some ⟨gx, 0, none⟩) 1 1] w (InsPost w base (.slice A xs.length c) xs xs.length x) := by
  have hvs : ∀ j v, [Value.int .i64 x][j]? = some v → w.cell? ⟨gx, 0 + j, none⟩ = some v := fun j v hj => by
    cases j with
    | zero => exact (cell_in hx 0 rfl).trans hj
    | succ j => simp at hj
  have h1v : ∀ v ∈ [Value.int .i64 x], v.oneCell' = true := fun v hv => by simp at hv; subst hv; rfl
  have hins : insV xs xs.length x = xs ++ [x] := by simp [insV]
  have hown := Kd.own_of_R hR
  have hle : xs.length ≤ c := (Kd.R_reads' hR).2.1
  obtain ⟨hlen, h | ⟨g, cap, cur, e1, hb, hg, hn, hc, hsz, htk⟩⟩ := hown
  · -- nil
    obtain ⟨e, h0⟩ := h
    have hA : A = none ∧ c = 0 := by injection e with e1 _ e3; exact ⟨e1, e3⟩
    obtain ⟨rfl, rfl⟩ := hA
    have hxs : xs = [] := List.eq_nil_of_length_eq_zero h0
    subst hxs
    refine (Any2.slices_Insert_int_end_grow Try.laysIns none 0 0 gx 0 1 1 [] [.int .i64 x] w (by omega) (by omega) (by omega) (by omega) rfl rfl (fun _ => rfl) (fun a h => by cases h) hvs h1v).mono ?_
    rintro e w' ⟨rfl, rfl⟩
    refine ⟨_, rfl, ?_, grown_trans (grown_drew w _) (grown_alloc _ _ _), .inr ⟨w.heap.size, rfl, Nat.le_refl _⟩⟩
    have := R_fresh (W := w.drew.alloc _) (g := w.heap.size) (base := base) (ys := insV [] 0 x) (blk_new w.drew _) hbase (show (insV [] 0 x).length ≤ grownCap w (0 + 1) 0 3 from grownCap_ge w 1 0 3) (grownCap_le_maxLen w _ _ _ (by unfold maxLen; omega))
      (cur := ([] ++ [Value.int .i64 x]).toArray ++ Builtin.zeroCells (Value.int .i64 0).cells (grownCap w (0 + 1) 0 3 - (0 + 1))) (by
        have := grownCap_ge w 1 0 3
        simp [size_zeroCells, Value.cells]; omega) (by simp [insV])
    exact this
  · injection e1 with e1 _ e3
    subst e1 e3
    have hcs : ∀ j v, (xs.map (Value.int .i64))[j]? = some v → w.cell? ⟨g, 0 + j, none⟩ = some v := fun j v hj => by
      rw [Nat.zero_add]
      refine (blk_cell hg j).trans ?_
      rw [← encs_map, ← htk, Nat.mul_one] at hj
      rw [List.getElem?_take] at hj
      split at hj
      · simpa using hj
      · cases hj
    by_cases hroom : xs.length + 1 ≤ c
    · refine (Any2.slices_Insert_int_end_room Try.laysIns g 0 xs.length c gx 0 1 1 [.int .i64 x] w (by omega) hroom (by unfold maxLen at hc; omega) rfl (fun j hj => ?_) (fun j hj => ?_) hvs h1v).mono ?_
      · rw [blk_cell hg]
        rw [Array.getElem?_eq_getElem (by omega)]
        rfl
      · exact blk_frozen hg _
      · rintro e w' ⟨rfl, rfl⟩
        refine ⟨_, rfl, ?_, setCells_grown w g _ _, .inl rfl⟩
        obtain ⟨cur', hc1, hc2, hc3⟩ := setCells_row [Value.int .i64 x] (0 + xs.length) w cur hg (by simp; omega)
        have := R_fresh (ys := insV xs xs.length x) hc1 hb (by rw [insV_length _ _ _ (Nat.le_refl _)]; exact hroom) hc (by omega) (by
          rw [hc3, hins, Nat.zero_add, show cur.toList.take xs.length = xs.map (Value.int .i64) by rw [Nat.mul_one] at htk; rw [htk, encs_map]]
          rw [List.take_append_of_le_length (by simp)]
          rw [List.take_of_length_le (by simp)]
          simp)
        rw [insV_length _ _ _ (Nat.le_refl _)] at this
        exact this
    · refine (Any2.slices_Insert_int_end_grow Try.laysIns (some ⟨g, 0, none⟩) xs.length c gx 0 1 1 (xs.map (Value.int .i64)) [.int .i64 x] w (by omega) hn (by omega) (by omega) (by simp) rfl (fun h => by cases h) (fun a ha j v hj => by
          cases ha
          rw [show (Addr.add ⟨g, 0, none⟩ j) = (⟨g, 0 + j, none⟩ : Addr) from by cases j <;> simp [Addr.add]]
          exact hcs j v hj) hvs h1v).mono ?_
      rintro e w' ⟨rfl, rfl⟩
      refine ⟨_, rfl, ?_, grown_trans (grown_drew w _) (grown_alloc _ _ _), .inr ⟨w.heap.size, rfl, Nat.le_refl _⟩⟩
      have h2 := R_fresh (W := w.drew.alloc _) (g := w.heap.size) (base := base) (ys := insV xs xs.length x) (blk_new w.drew _) hbase (show (insV xs xs.length x).length ≤ grownCap w (xs.length + 1) c 3 by rw [insV_length _ _ _ (Nat.le_refl _)]; exact grownCap_ge w _ _ 3) (grownCap_le_maxLen w _ _ _ (by unfold maxLen; omega))
        (cur := (xs.map (Value.int .i64) ++ [Value.int .i64 x]).toArray ++ Builtin.zeroCells (Value.int .i64 0).cells (grownCap w (xs.length + 1) c 3 - (xs.length + 1))) (by
          have := grownCap_ge w (xs.length + 1) c 3
          simp [size_zeroCells, Value.cells]; omega) (by rw [hins, Array.toList_append, List.take_append_of_le_length (by simp), List.take_of_length_le (by simp)]; simp)
      rw [insV_length _ _ _ (Nat.le_refl _)] at h2
      exact h2

/-- A row, its tail moved up by one, and x put in. -/
theorem shift_list {α : Type} (cur cs : List α) (u : α) (i : Nat) (hi : i < cs.length) (hc : cs.length + 1 ≤ cur.length) (ht : cur.take cs.length = cs) :
    (((cur.take (i + 1) ++ cs.drop i ++ cur.drop (i + 1 + (cs.drop i).length)).take i ++ [u] ++ (cur.take (i + 1) ++ cs.drop i ++ cur.drop (i + 1 + (cs.drop i).length)).drop (i + [u].length)).take (cs.length + 1)) = cs.take i ++ u :: cs.drop i := by
  have h1 : (cur.take (i + 1) ++ cs.drop i ++ cur.drop (i + 1 + (cs.drop i).length)).take i = cs.take i := by
    rw [List.append_assoc, List.take_append_of_le_length (by simp; omega), List.take_take, show min i (i + 1) = i by omega]
    conv => rhs; rw [← ht]
    rw [List.take_take, show min i cs.length = i by omega]
  have h2 : (cur.take (i + 1) ++ cs.drop i ++ cur.drop (i + 1 + (cs.drop i).length)).drop (i + [u].length) = cs.drop i ++ cur.drop (i + 1 + (cs.drop i).length) := by
    rw [List.append_assoc, show i + [u].length = (cur.take (i + 1)).length by simp; omega, List.drop_left]
  rw [h1, h2, ← List.append_assoc, List.take_append_of_le_length (by simp; omega), List.take_of_length_le (by simp; omega)]
  simp
theorem put_list {α : Type} (cur cs : List α) (u : α) (i : Nat) (hi : i < cs.length) (hc : cs.length + 1 ≤ cur.length) (ht : cur.take i = cs.take i) :
    (((cur.take i ++ [u] ++ cur.drop (i + [u].length)).take (i + 1) ++ cs.drop i ++ (cur.take i ++ [u] ++ cur.drop (i + [u].length)).drop (i + 1 + (cs.drop i).length)).take (cs.length + 1)) = cs.take i ++ u :: cs.drop i := by
  have h1 : (cur.take i ++ [u] ++ cur.drop (i + [u].length)).take (i + 1) = cs.take i ++ [u] := by
    rw [List.take_append_of_le_length (by simp; omega), List.take_of_length_le (by simp; omega), ht]
  rw [h1, List.take_append_of_le_length (by simp; omega), List.take_of_length_le (by simp; omega)]
  simp

theorem insert_mid (base g c : Nat) (xs : List Int) (i : Nat) (x : Int) (w : World) (gx : Nat) (hR : Kd.R (Kd.int .i64) 3 w base (fun _ => True) (.slice (some ⟨g, 0, none⟩) xs.length c) xs) (hbase : base ≤ w.heap.size) (hi : i < xs.length) (hl : xs.length ≤ 100000) (hx : w.heap[gx]? = some (.cells #[.int .i64 x] 3 (0, 0))) (hne : gx ≠ g) :
    Calls Try.prog 152 #[.slice (some ⟨g, 0, none⟩) xs.length c, .int .i64 i, .slice (some ⟨gx, 0, none⟩) 1 1] w (InsPost w base (.slice (some ⟨g, 0, none⟩) xs.length c) xs i x) := by
  have hvs : ∀ j v, [Value.int .i64 x][j]? = some v → w.cell? ⟨gx, 0 + j, none⟩ = some v := fun j v hj => by
    cases j with
    | zero => exact (cell_in hx 0 rfl).trans hj
    | succ j => simp at hj
  have h1v : ∀ v ∈ [Value.int .i64 x], v.oneCell' = true := fun v hv => by simp at hv; subst hv; rfl
  have hown := Kd.own_of_R hR
  obtain ⟨hlen, h | ⟨g', cap, cur, e1, hb, hg, hn, hc, hsz, htk⟩⟩ := hown
  · omega
  · injection e1 with e1 _ e3
    injection e1 with e1
    injection e1 with e1
    subst e1 e3
    rw [Nat.mul_one] at htk hsz
    have hcs : ∀ j v, (xs.map (Value.int .i64))[j]? = some v → w.cell? ⟨g, 0 + j, none⟩ = some v := fun j v hj => by
      rw [Nat.zero_add]
      refine (blk_cell hg j).trans ?_
      rw [← encs_map, ← htk] at hj
      rw [List.getElem?_take] at hj
      split at hj
      · simpa using hj
      · cases hj
    have hmap : (insV xs i x).map (Value.int .i64) = (xs.map (Value.int .i64)).take i ++ Value.int .i64 x :: (xs.map (Value.int .i64)).drop i := by simp [insV, List.map_take, List.map_drop]
    have hil := insV_length xs i x (Nat.le_of_lt hi)
    have hdl : ((xs.map (Value.int .i64)).drop i).length = xs.length - i := by simp
    by_cases hroom : xs.length + 1 ≤ c
    · have hsa : w.shape? gx = some (3, 1) := by unfold World.shape?; rw [hx]; rfl
      have hsb : w.shape? g = some (3, c) := by unfold World.shape?; rw [hg]; simp [hsz]
      refine (Any2.slices_Insert_int_shift Try.laysIns g 0 xs.length c i gx 0 1 1 (xs.map (Value.int .i64)) [.int .i64 x] w hi (by omega) hroom (by unfold maxLen at hc; omega) hne (by simp) rfl hcs (fun j hj => ?_) (fun j hj => blk_frozen hg _) hvs (fun v hv => one_ints hv) h1v 3 3 1 c hsa hsb (by omega) (blk_frozen hx _) (blk_frozen hx _)).mono ?_
      · rw [blk_cell hg, Array.getElem?_eq_getElem (by omega)]
        rfl
      · rintro e w' ⟨rfl, rfl⟩
        refine ⟨_, rfl, ?_, grown_trans (grown_drew w _) (grown_trans (setCells_grown _ g _ _) (setCells_grown _ g _ _)), .inl rfl⟩
        obtain ⟨cur1, hc1, hc2, hc3⟩ := setCells_row ((xs.map (Value.int .i64)).drop i) (0 + (i + 1)) w.drew cur hg (by rw [hdl]; omega)
        obtain ⟨cur2, hd1, hd2, hd3⟩ := setCells_row [Value.int .i64 x] (0 + i) _ cur1 hc1 (by simp; omega)
        have := R_fresh (ys := insV xs i x) hd1 hb (by rw [hil]; exact hroom) hc (by omega) (by
          rw [hil, hmap, hd3, hc3, Nat.zero_add, Nat.zero_add]
          have := shift_list cur.toList (xs.map (Value.int .i64)) (Value.int .i64 x) i (by simpa using hi) (by simp; omega) (by rw [List.length_map]; exact htk)
          rwa [List.length_map] at this)
        rw [hil] at this
        exact this
    · refine (Any2.slices_Insert_int_grow Try.laysIns g 0 xs.length c i gx 0 1 1 (xs.map (Value.int .i64)) [.int .i64 x] w hi (by omega) hn (by omega) (by omega) (by simp) rfl hcs hvs (fun v hv => one_ints hv) h1v).mono ?_
      rintro e w' ⟨rfl, rfl⟩
      have hgc := grownCap_ge w (xs.length + 1) c 3
      have hz : ∀ k, (Builtin.zeroCells (Value.int .i64 0).cells k).size = k := fun k => by rw [size_zeroCells]; simp [Value.cells]
      refine ⟨_, rfl, ?_, grown_of_below (below_setCells (Nat.le_refl _) _ _ (below_drew1 (below_setCells (Nat.le_refl _) _ _ (below_drew1 (below_alloc (Below.refl _ w) _))))) _, .inr ⟨w.heap.size, rfl, Nat.le_refl _⟩⟩
      · have h0 := blk_drew (blk_new w (.cells (((xs.map (Value.int .i64)).take i).toArray ++ Builtin.zeroCells (Value.int .i64 0).cells (xs.length + 1 - i) ++ Builtin.zeroCells (Value.int .i64 0).cells (grownCap w (xs.length + 1) c 3 - (xs.length + 1))) 3 (0, 0)))
        obtain ⟨cur1, hc1, hc2, hc3⟩ := setCells_row [Value.int .i64 x] i _ _ h0 (by simp [hz]; omega)
        obtain ⟨cur2, hd1, hd2, hd3⟩ := setCells_row ((xs.map (Value.int .i64)).drop i) (i + 1) _ cur1 (blk_drew hc1) (by rw [hdl, hc2]; simp [hz]; omega)
        have := R_fresh (ys := insV xs i x) hd1 hbase (by rw [hil]; exact hgc) (grownCap_le_maxLen w _ _ _ (by unfold maxLen; omega)) (by rw [hd2, hc2]; simp [hz]; omega) (by
          rw [hil, hmap, hd3, hc3]
          have := put_list (((xs.map (Value.int .i64)).take i).toArray ++ Builtin.zeroCells (Value.int .i64 0).cells (xs.length + 1 - i) ++ Builtin.zeroCells (Value.int .i64 0).cells (grownCap w (xs.length + 1) c 3 - (xs.length + 1))).toList (xs.map (Value.int .i64)) (Value.int .i64 x) i (by simpa using hi) (by simp [hz]; omega) (by
            rw [Array.toList_append, Array.toList_append, List.append_assoc, List.take_append_of_le_length (by simp; omega), List.take_of_length_le (by simp; omega)])
          rwa [List.length_map] at this)
        rw [hil] at this
        exact this
end Go.Proofs.Ytobadajeekdakaa.Print

namespace Go.Proofs.Ytobadajeekdakaa.Print
open Go.RowKit Go.Proofs.YtobadajeekdakaaW.PrintWords Go.Proofs.YtobadajeekdakaaW.PrintLast Go.Proofs.YtobadajeekdakaaW.PrintMore
open Go.Sort (grow alloc_eq_grow)
set_option linter.unusedVariables false
set_option linter.unusedSimpArgs false

/-! ### the order, in plain words -/
theorem ordV_neg {act : List Int} {a b : Int} : ordV act a b < 0 ↔ (rd act b < rd act a ∨ (rd act b = rd act a ∧ a < b)) := by
  unfold ordV cmpH orV orV orV
  by_cases h1 : rd act b < rd act a
  · simp [h1]
  · by_cases h2 : rd act b > rd act a
    · rw [if_neg h1, if_pos h2]; simp; omega
    · rw [if_neg h1, if_neg h2]
      by_cases h3 : a < b
      · simp [h3]; omega
      · by_cases h4 : a > b
        · simp [h3, h4]; omega
        · simp [h3, h4]; omega
theorem ordV_zero {act : List Int} {a b : Int} : ordV act a b = 0 ↔ a = b := by
  unfold ordV cmpH orV orV orV
  by_cases h1 : rd act b < rd act a
  · simp [h1]; rintro rfl; omega
  · by_cases h2 : rd act b > rd act a
    · rw [if_neg h1, if_pos h2]; simp; rintro rfl; omega
    · rw [if_neg h1, if_neg h2]
      by_cases h3 : a < b
      · simp [h3]; omega
      · by_cases h4 : a > b
        · simp [h3, h4]; omega
        · simp [h3, h4]; omega
theorem ordV_trans {act : List Int} {a b c : Int} (h1 : ordV act a b < 0) (h2 : ordV act b c < 0) : ordV act a c < 0 := by
  rw [ordV_neg] at *
  omega
theorem ordV_total {act : List Int} {a b : Int} (h : ¬ ordV act a b < 0) (hne : a ≠ b) : ordV act b a < 0 := by
  rw [ordV_neg] at *
  omega
theorem rowOk_at {act l : List Int} (h : rowOkB act l = true) (i : Nat) (hi : i < l.length) : knownB' act (rd l i) = true ∧ (0 < i → ordV act (rd l ((i : Int) - 1)) (rd l i) < 0) := by
  unfold rowOkB at h
  rw [List.all_eq_true] at h
  have := h i (List.mem_range.2 hi)
  unfold placeB at this
  simp only [Bool.and_eq_true, Bool.or_eq_true, decide_eq_true_eq] at this
  exact ⟨this.1, fun h0 => by rcases this.2 with h | h
                              · omega
                              · exact h⟩
theorem rowOk_lt {act l : List Int} (h : rowOkB act l = true) : ∀ (d i : Nat), i + d + 1 < l.length → ordV act (rd l i) (rd l ((i + d + 1 : Nat) : Int)) < 0
  | 0, i, hl => by
    have := (rowOk_at h (i + 0 + 1) hl).2 (by omega)
    rwa [show (((i + 0 + 1 : Nat) : Int) - 1) = (i : Int) by omega] at this
  | d + 1, i, hl => by
    have h1 := rowOk_lt h d i (by omega)
    have := (rowOk_at h (i + (d + 1) + 1) hl).2 (by omega)
    rw [show (((i + (d + 1) + 1 : Nat) : Int) - 1) = ((i + d + 1 : Nat) : Int) by omega] at this
    exact ordV_trans h1 this
theorem rowOk_sorted {act l : List Int} (h : rowOkB act l = true) (i j : Nat) (hij : i < j) (hj : j < l.length) : ordV act (rd l i) (rd l j) < 0 := by
  have := rowOk_lt h (j - i - 1) i (by omega)
  rwa [show i + (j - i - 1) + 1 = j by omega] at this

/-- Where v would stand: the elements before it, and no others, stand ahead of v. -/
structure Spot (act l : List Int) (v : Int) (i : Nat) : Prop where
  le : i ≤ l.length
  lo : ∀ t, t < i → ordV act (rd l (t : Int)) v < 0
  hi : ∀ t, i ≤ t → t < l.length → ¬ ordV act (rd l (t : Int)) v < 0
def BsPost (w : World) (act l : List Int) (v : Int) (e : Ending) (w' : World) : Prop :=
  ∃ i : Nat, e = .returned (.tuple #[.int .i64 i, .bool (decide (i < l.length ∧ rd l (i : Int) = v))]) ∧ Spot act l v i ∧ Below w.heap.size w w'

set_option maxHeartbeats 4000000 in
theorem bsearch_any (g : Nat) (A B : Option Addr) (c d : Nat) (act l : List Int) (by_ v : Int) (w : World) (hg : w.heap[g]? = some (.cells #[.slice A act.length c, .slice B l.length d, .int .i64 by_] 136 (0, 0)))
    (hA : Kd.C (Kd.int .i64) w A act.length act) (hB : Kd.C (Kd.int .i64) w B l.length l) (hok : rowOkB act l = true) (hv : knownB' act v = true) (hl : l.length ≤ 100000) :
    Calls Try.prog 150 #[.slice B l.length d, .int .i64 v, .func (.func 151) #[.pointer (some ⟨g, 0, none⟩)] #[]] w (BsPost w act l v) := by
  have HG := Aside0.mk hg
  have HA := Aside0.mk hA
  have HB := Aside0.mk hB
  have HOK := Aside0.mk hok
  have HV := Aside0.mk (show 0 < v ∧ v < act.length by simpa [knownB'] using hv)
  have eg : ∀ args w, (callFunc 151 args).run Try.prog w = .ok (.enter 151 args) w := enters_of Try.func151 (by kernel_rfl) rfl
  clear hg hA hB hok hv
  obtain ⟨n, hn⟩ : ∃ n, n = l.length := ⟨_, rfl⟩
  rw [← hn] at hl HB HG ⊢
  have HN := Aside0.mk hn
  clear hn
  go_enter Try.func150, Try.ntmps150
  go_wp2
  go_loopg [9, 10] n (fun gg s9 s10 wr => ∃ i j : Nat, s9 = .int .i64 i ∧ s10 = .int .i64 j ∧ i ≤ j ∧ j ≤ n ∧ j - i ≤ gg ∧ Aside0 (∀ t, t < i → ordV act (rd l (t : Int)) v < 0) ∧ Aside0 (∀ t, j ≤ t → t < n → ¬ ordV act (rd l (t : Int)) v < 0) ∧ Aside0 (Below w.heap.size w wr))
  case atStart => exact ⟨0, n, rfl, rfl, Nat.zero_le _, Nat.le_refl _, by omega, ⟨fun t ht => absurd ht (Nat.not_lt_zero _)⟩, ⟨fun t h1 h2 => absurd h1 (by omega)⟩, ⟨Below.refl _ _⟩⟩
  case round =>
    obtain ⟨i, j, rfl, rfl, hij, hjn, hgg, HLO, HHI, HBL⟩ := hrel
    have HGr := Aside0.mk (blk_below HG.out HBL.out)
    have HAr := Aside0.mk (Kd.C_below HA.out HBL.out)
    have HBr := Aside0.mk (Kd.C_below HB.out HBL.out)
    by_cases hlt : i < j
    · have hltz : (i : Int) < (j : Int) := by omega
      go_upto_region 5 with (fail)
      obtain ⟨h, hh⟩ : ∃ h : Nat, ((i : Int) + (j : Int)) / 2 = (h : Int) := ⟨(i + j) / 2, by omega⟩
      rw [hh]
      have hih : i ≤ h := by omega
      have hhj : h < j := by omega
      have hhn : (h : Int) < (n : Int) := by omega
      clear hh
      obtain ⟨ad, e1, hcell⟩ := Kd.at_int HBr.out (h : Int) (by omega) (by omega)
      subst e1
      rw [Int.toNat_natCast] at hcell
      have HKX := Aside0.mk (show 0 < rd l (h : Int) ∧ rd l (h : Int) < act.length by
        have := (rowOk_at HOK.out h (by rw [← HN.out]; omega)).1
        simpa [knownB'] using this)
      obtain ⟨x, hx⟩ : ∃ x, x = rd l (h : Int) := ⟨_, rfl⟩
      rw [← hx] at hcell HKX
      have HX := Aside0.mk hx
      clear hx
      have hord := order_any g A (some ad) c n d act by_ x v wr HGr.out HAr.out (by have := HKX.out; omega) (by have := HKX.out; omega) (by have := HV.out; omega) (by have := HV.out; omega)
      obtain ⟨o, ho⟩ : ∃ o, o = ordV act x v := ⟨_, rfl⟩
      rw [← ho] at hord
      have HO := Aside0.mk ho
      clear ho
      by_cases h9 : o < 0
      · have HLT := Aside0.mk (show ordV act (rd l (h : Int)) v < 0 by rw [← HX.out, ← HO.out]; exact h9)
        go_wp2_with (go_at_fn 151; refine hord.mono ?_; rintro e w' ⟨rfl, _, hb9⟩; have HB9 := Aside0.mk (below_step HBL.out hb9); clear hb9)
        go_roundg (j - (h + 1))
        case measure => omega
        case rel =>
          refine ⟨h + 1, j, by go_num, rfl, by omega, hjn, by omega, ⟨fun t ht => ?_⟩, HHI, HB9⟩
          rcases Nat.lt_succ_iff_lt_or_eq.mp ht with h' | rfl
          · exact ordV_trans (rowOk_sorted HOK.out t h h' (by rw [← HN.out]; omega)) HLT.out
          · exact HLT.out
      · have HLT := Aside0.mk (show ¬ ordV act (rd l (h : Int)) v < 0 by rw [← HX.out, ← HO.out]; exact h9)
        go_wp2_with (go_at_fn 151; refine hord.mono ?_; rintro e w' ⟨rfl, _, hb9⟩; have HB9 := Aside0.mk (below_step HBL.out hb9); clear hb9)
        go_roundg (h - i)
        case measure => omega
        case rel =>
          have key : ∀ t, h ≤ t → t < n → ¬ ordV act (rd l (t : Int)) v < 0 := fun t h1 h2 h3 => by
            rcases Nat.lt_or_eq_of_le h1 with h' | rfl
            · have h4 := ordV_trans (rowOk_sorted HOK.out h t h' (by rw [← HN.out]; exact h2)) h3
              have h5 := HLT.out
              omega
            · have h5 := HLT.out
              omega
          exact ⟨i, h, rfl, rfl, hih, by omega, by omega, HLO, ⟨fun t h1 h2 => by have := key t h1 h2; omega⟩, HB9⟩
    · have hltz : ¬ (i : Int) < (j : Int) := by omega
      obtain rfl : i = j := by omega
      have HS : Aside0 (Spot act l v i) := ⟨⟨by rw [← HN.out]; exact hjn, HLO.out, fun t h1 h2 => HHI.out t h1 (by rw [HN.out]; exact h2)⟩⟩
      by_cases hin : i < n
      · have hinz : (i : Int) < (n : Int) := by omega
        obtain ⟨ad, e1, hcell⟩ := Kd.at_int HBr.out (i : Int) (by omega) hinz
        subst e1
        rw [Int.toNat_natCast] at hcell
        have HKX := Aside0.mk (show 0 < rd l (i : Int) ∧ rd l (i : Int) < act.length by
          have := (rowOk_at HOK.out i (by rw [← HN.out]; omega)).1
          simpa [knownB'] using this)
        obtain ⟨x, hx⟩ : ∃ x, x = rd l (i : Int) := ⟨_, rfl⟩
        rw [← hx] at hcell HKX
        have HX := Aside0.mk hx
        clear hx
        have hord := order_any g A (some ad) c n d act by_ x v wr HGr.out HAr.out (by have := HKX.out; omega) (by have := HKX.out; omega) (by have := HV.out; omega) (by have := HV.out; omega)
        obtain ⟨o, ho⟩ : ∃ o, o = ordV act x v := ⟨_, rfl⟩
        rw [← ho] at hord
        have HO := Aside0.mk ho
        have HEQ := Aside0.mk (show decide (o = 0) = decide (i < l.length ∧ rd l (i : Int) = v) by
          rw [← HN.out, ← HX.out, decide_eq_decide, HO.out, ordV_zero]
          simp [hin])
        clear ho
        go_wp2_with (go_at_fn 151; refine hord.mono ?_; rintro e w' ⟨rfl, _, hb9⟩; have HB9 := Aside0.mk (below_step HBL.out hb9); clear hb9)
        go_ret2
        refine ⟨i, ?_, HS.out, HB9.out⟩
        rw [← HEQ.out]
        rfl
      · have hinz : ¬ (i : Int) < (n : Int) := by omega
        have HEQ := Aside0.mk (show decide (i < l.length ∧ rd l (i : Int) = v) = false by
          rw [← HN.out]
          simp [hin])
        go_wp2
        go_ret2
        refine ⟨i, ?_, HS.out, HBL.out⟩
        rw [HEQ.out]
        rfl
end Go.Proofs.Ytobadajeekdakaa.Print

namespace Go.Proofs.Ytobadajeekdakaa.Print
open Go.RowKit Go.Proofs.YtobadajeekdakaaW.PrintWords Go.Proofs.YtobadajeekdakaaW.PrintLast Go.Proofs.YtobadajeekdakaaW.PrintMore
open Go.Sort (grow alloc_eq_grow)
set_option linter.unusedVariables false
set_option linter.unusedSimpArgs false

theorem insert_any (base c : Nat) (A : Option Addr) (xs : List Int) (i : Nat) (x : Int) (w : World) (gx : Nat) (hR : Kd.R (Kd.int .i64) 3 w base (fun _ => True) (.slice A xs.length c) xs) (hbase : base ≤ w.heap.size) (hi : i ≤ xs.length) (hl : xs.length ≤ 100000) (hx : w.heap[gx]? = some (.cells #[.int .i64 x] 3 (0, 0)))
    (hne : (Value.slice A xs.length c).ownBlock ≠ some gx) :
    Calls Try.prog 152 #[.slice A xs.length c, .int .i64 i, .slice (some ⟨gx, 0, none⟩) 1 1] w (InsPost w base (.slice A xs.length c) xs i x) := by
  rcases Nat.lt_or_eq_of_le hi with h | rfl
  · obtain ⟨_, h2 | ⟨g, cap, cur, e1, _⟩⟩ := Kd.own_of_R hR
    · omega
    · injection e1 with e1 _ e3
      subst e1
      exact insert_mid base g c xs i x w gx hR hbase h hl hx (fun e => hne (by rw [e]; rfl))
  · exact insert_end base c A xs x w gx hR hbase hl hx

/-- v put into the sorted queue l, at its place. -/
def putV (act l : List Int) (v : Int) : List Int := l.takeWhile (fun x => decide (ordV act x v < 0)) ++ v :: l.dropWhile (fun x => decide (ordV act x v < 0))
theorem take_while_at {p : Int → Bool} : ∀ (l : List Int) (i : Nat), i ≤ l.length → (∀ t, t < i → p (rd l (t : Int)) = true) → (i < l.length → p (rd l (i : Int)) = false) → l.take i = l.takeWhile p ∧ l.drop i = l.dropWhile p
  | [], i, h, _, _ => by simp
  | x :: l, 0, _, _, h => by
    have : p x = false := h (Nat.succ_pos _)
    simp [List.takeWhile_cons, List.dropWhile_cons, this]
  | x :: l, i + 1, hi, h1, h2 => by
    have hx : p x = true := h1 0 (Nat.succ_pos _)
    have e : ∀ j : Nat, rd (x :: l) ((j + 1 : Nat) : Int) = rd l (j : Int) := fun j => by simp [rd]
    obtain ⟨h3, h4⟩ := take_while_at l i (by simpa using hi) (fun t ht => by rw [← e]; exact h1 (t + 1) (Nat.succ_lt_succ ht)) (fun hlt => by rw [← e]; exact h2 (by simpa using hlt))
    simp [List.takeWhile_cons, List.dropWhile_cons, hx, h3, h4]
theorem Spot.put {act l : List Int} {v : Int} {i : Nat} (h : Spot act l v i) : insV l i v = putV act l v := by
  obtain ⟨h1, h2⟩ := take_while_at (p := fun x => decide (ordV act x v < 0)) l i h.le (fun t ht => decide_eq_true (h.lo t ht)) (fun hi => decide_eq_false (h.hi i (Nat.le_refl _) hi))
  rw [insV, putV, h1, h2]
theorem Spot.mem {act l : List Int} {v : Int} {i : Nat} (h : Spot act l v i) (hok : rowOkB act l = true) : decide (i < l.length ∧ rd l (i : Int) = v) = l.contains v := by
  have hrd : ∀ j (hj : j < l.length), rd l (j : Int) = l[j] := fun j hj => by simp [rd, List.getElem?_eq_getElem hj]
  by_cases hc : l.contains v = true
  · rw [hc]
    obtain ⟨j, hj, e⟩ := List.getElem_of_mem (List.contains_iff_mem.1 hc)
    rw [← hrd j hj] at e
    have h1 : ¬ j < i := fun hlt => by
      have := h.lo j hlt
      rw [e] at this
      have := (ordV_zero (act := act) (a := v) (b := v)).2 rfl
      omega
    have h2 : ¬ i < j := fun hlt => by
      have := h.hi i (Nat.le_refl _) (by omega)
      exact this (by rw [← e]; exact rowOk_sorted hok i j hlt hj)
    obtain rfl : i = j := by omega
    exact decide_eq_true ⟨hj, e⟩
  · rw [Bool.not_eq_true] at hc
    rw [hc]
    refine decide_eq_false fun ⟨h1, h2⟩ => ?_
    rw [hrd i h1] at h2
    have : l.contains v = true := List.contains_iff_mem.2 (by rw [← h2]; exact List.getElem_mem _)
    rw [hc] at this
    cases this

theorem bsearch_two {g : Nat} {A B : Option Addr} {c d : Nat} {act l : List Int} {by_ v : Int} {w : World} {bb : Bool} (hg : w.heap[g]? = some (.cells #[.slice A act.length c, .slice B l.length d, .int .i64 by_] 136 (0, 0)))
    (hA : Kd.C (Kd.int .i64) w A act.length act) (hB : Kd.C (Kd.int .i64) w B l.length l) (hok : rowOkB act l = true) (hv : knownB' act v = true) (hl : l.length ≤ 100000) (hb : l.contains v = bb) :
    Calls Try.prog 150 #[.slice B l.length d, .int .i64 v, .func (.func 151) #[.pointer (some ⟨g, 0, none⟩)] #[]] w fun e w' => ∃ i : Nat, e = .returned (.tuple #[.int .i64 i, .bool bb]) ∧ Spot act l v i ∧ Below w.heap.size w w' := by
  refine (bsearch_any g A B c d act l by_ v w hg hA hB hok hv hl).mono ?_
  rintro e w' ⟨i, he, hs, hw⟩
  exact ⟨i, by rw [he, hs.mem hok, hb], hs, hw⟩
theorem ne136 : ∀ q, q ∈ 3 :: (Kd.int .i64).E → q ≠ 136 := fun q hq => by
  have : q = 3 := by simpa [Kd.int, Kd.scalar] using hq
  omega
def pushV (act l : List Int) (by_ v : Int) : List Int × List Int × Int × Int :=
  if hpCheckV act l by_ ≠ 0 then ([], [], 0, hpCheckV act l by_)
  else if knownB' act v = false then ([], [], 0, 1)
  else if l.contains v = true then ([], [], 0, 270) else (act, putV act l v, by_, 0)
def heap_Push.f (l0_0 l0_1 : List Int) (a0_2 a1 : Int) : Option (List Int × List Int × Int × Int) := if smallB l0_0 l0_1 = true then some (pushV l0_0 l0_1 a0_2 a1) else none
theorem check_rowOk {act l : List Int} {by_ : Int} (h : hpCheckV act l by_ = 0) : rowOkB act l = true := by
  unfold hpCheckV at h
  split at h
  · omega
  · split at h
    · omega
    · split at h
      · assumption
      · omega

set_option maxHeartbeats 8000000 in
set_option maxRecDepth 100000 in
theorem heap_Push.calls (A0_0 : Option Addr) (c0_0 : Nat) (l0_0 : List Int) (A0_1 : Option Addr) (c0_1 : Nat) (l0_1 : List Int) (a0_2 a1 : Int) (r1 r2 : List Int) (r3 r4 : Int) (w : World) (hr0_0 : Kd.C (Kd.int .i64) w A0_0 l0_0.length l0_0) (_hc0_0 : l0_0.length ≤ c0_0) (hr0_1 : Kd.C (Kd.int .i64) w A0_1 l0_1.length l0_1) (_hc0_1 : l0_1.length ≤ c0_1) (h : heap_Push.f l0_0 l0_1 a0_2 a1 = some (r1, r2, r3, r4)) :
    Calls Try.prog 76 #[.agg #[.slice A0_0 l0_0.length c0_0, .slice A0_1 l0_1.length c0_1, .int .i64 a0_2], .int .i64 a1] w fun e w' => ∃ v0_ v1_ : Value, e = .returned (.tuple #[.agg #[v0_, v1_, .int .i64 r3], .int .i64 r4]) ∧ Kd.R (Kd.int .i64) 3 w' w.heap.size (fun k_ => some k_ ≠ (v1_ : Value).ownBlock) v0_ r1 ∧ Kd.R (Kd.int .i64) 3 w' w.heap.size (fun k_ => some k_ ≠ (v0_ : Value).ownBlock) v1_ r2 ∧ Below w.heap.size w w' := by
  have HA := Aside0.mk hr0_0
  have HB := Aside0.mk hr0_1
  have hu74 := Try.underlying74
  unfold heap_Push.f at h
  by_cases hs : smallB l0_0 l0_1 = true
  · rw [if_pos hs] at h
    have HS := Aside0.mk (show l0_0.length ≤ 100000 ∧ l0_1.length ≤ 100000 by simpa [smallB] using hs)
    have HV := Aside0.mk (Option.some.inj h)
    clear h hs hr0_0 hr0_1
    go_enter Try.func76, Try.ntmps76
    go_upto_region 1 with (fail)
    have HX := Aside0.mk (blk_alloc (blk_new w (.cells #[.slice A0_0 l0_0.length c0_0, .slice A0_1 l0_1.length c0_1, .int .i64 a0_2] 74 (0, 0))) Z74)
    have HZ := Aside0.mk (blk_new (w.alloc (.cells #[.slice A0_0 l0_0.length c0_0, .slice A0_1 l0_1.length c0_1, .int .i64 a0_2] 74 (0, 0))) Z74)
    have HBL := Aside0.mk (below_alloc (below_alloc (Below.refl _ w) (.cells #[.slice A0_0 l0_0.length c0_0, .slice A0_1 l0_1.length c0_1, .int .i64 a0_2] 74 (0, 0))) Z74)
    rw [World.size_alloc] at HZ
    have HGE := Aside0.mk (show w.heap.size ≤ w.heap.size + 1 by omega)
    generalize (w.alloc (.cells #[.slice A0_0 l0_0.length c0_0, .slice A0_1 l0_1.length c0_1, .int .i64 a0_2] 74 (0, 0))).alloc Z74 = w1 at HX HZ HBL ⊢
    generalize w.heap.size + 1 = gz at HZ HGE ⊢
    have e0 : w1.cell? ⟨w.heap.size, 0, none⟩ = some (.slice A0_0 l0_0.length c0_0) := cell_in HX.out 0 rfl
    have e1 : w1.cell? ⟨w.heap.size, 1, none⟩ = some (.slice A0_1 l0_1.length c0_1) := cell_in HX.out 1 rfl
    have e2 : w1.cell? ⟨w.heap.size, 2, none⟩ = some (.int .i64 a0_2) := cell_in HX.out 2 rfl
    obtain ⟨r, hr⟩ : ∃ r, hpCheckV l0_0 l0_1 a0_2 = r := ⟨_, rfl⟩
    by_cases h0 : r = 0
    · subst h0
      have hcall := begun_yes (c0 := c0_0) (c1 := c0_1) (Kd.C_below HA.out HBL.out) (Kd.C_below HB.out HBL.out) HS.out.1 HS.out.2 hr
      have HR := Aside0.mk hr
      clear hr
      go_upto_region 4 with (go_at_call 143; refine hcall.mono ?_; rintro e w2 ⟨gw, rfl, hw2, hb2⟩; have HW := Aside0.mk hw2; have HZ2 := Aside0.mk (blk_below HZ.out hb2); have HBL2 := Aside0.mk (below_step HBL.out hb2); have HBASE := Aside0.mk HBL.out.size; clear hw2 hb2 e0 e1 e2)
      have HB12 := Aside0.mk (show w1.heap.size ≤ w2.heap.size by
        obtain ⟨_, _, hgw, hbg, _⟩ := HW.out
        have := blk_lt hgw
        omega)
      obtain ⟨vA, vL, hgw, hbg, hRA, hRL⟩ := HW.out
      obtain ⟨AA, ca, rfl⟩ := Kd.R_slice hRA
      obtain ⟨AL, cl, rfl⟩ := Kd.R_slice hRL
      have HGW := Aside0.mk hgw
      have HBG := Aside0.mk hbg
      have HRA := Aside0.mk hRA
      have HRL := Aside0.mk hRL
      clear hgw hbg hRA hRL HW
      have hkn := known_any gw AA AL l0_0.length ca l0_1.length cl l0_0 a0_2 a1 w2 rfl HGW.out
      cases hk : knownB' l0_0 a1 with
      | false =>
        have HK := Aside0.mk hk
        rw [hk] at hkn
        clear hk
        have z0 : w2.cell? ⟨gz, 0, none⟩ = some (.slice none 0 0) := cell_in HZ2.out 0 rfl
        have z1 : w2.cell? ⟨gz, 1, none⟩ = some (.slice none 0 0) := cell_in HZ2.out 1 rfl
        have z2 : w2.cell? ⟨gz, 2, none⟩ = some (.int .i64 0) := cell_in HZ2.out 2 rfl
        have zf0 : w2.frozen? ⟨gz, 0, none⟩ = false := blk_frozen HZ2.out 0
        have zf1 : w2.frozen? ⟨gz, 1, none⟩ = false := blk_frozen HZ2.out 1
        have zf2 : w2.frozen? ⟨gz, 2, none⟩ = false := blk_frozen HZ2.out 2
        go_wp2_with (go_at_call 144; refine hkn.mono ?_; rintro e w3 ⟨rfl, rfl⟩)
        have hv : (([] : List Int), ([] : List Int), (0 : Int), (1 : Int)) = (r1, r2, r3, r4) := by
          rw [← HV.out, pushV, HR.out, if_neg (by simp), if_pos HK.out]
        simp only [Prod.mk.injEq] at hv
        obtain ⟨rfl, rfl, rfl, rfl⟩ := hv
        refine bodyPost_ret (results_ct rfl _ _ gz 74 #[.slice none 0 0, .slice none 0 0, .int .i64 0] (0, 0) _ rfl (zero_put HZ2.out) Try.underlying74 rfl (by kernel_rfl)) rfl ?_
        exact ⟨_, _, rfl, Kd.R_nil _ _ _ _ _, Kd.R_nil _ _ _ _ _, below_set (below_set (below_set HBL2.out HGE.out) HGE.out) HGE.out⟩
      | true =>
        have HK := Aside0.mk hk
        rw [hk] at hkn
        clear hk
        have g1 : w2.cell? ⟨gw, 1, none⟩ = some (.slice AL l0_1.length cl) := cell_in HGW.out 1 rfl
        have hbs := fun bb hb => bsearch_two (bb := bb) (c := ca) (d := cl) HGW.out (Kd.R_reads' HRA.out).2.2 (Kd.R_reads' HRL.out).2.2 (check_rowOk HR.out) HK.out HS.out.2 hb
        cases hc : l0_1.contains a1 with
        | true =>
          have HC := Aside0.mk hc
          have hbs := hbs true hc
          clear hc
          go_upto_region 7 with (first | (go_at_call 144; refine hkn.mono ?_; rintro e w3 ⟨rfl, rfl⟩) | (go_at_call 150; refine hbs.mono ?_; rintro e w3 ⟨i, rfl, hsp, hb3⟩; have HSP := Aside0.mk hsp; have HZ3 := Aside0.mk (blk_below HZ2.out hb3); have HBL3 := Aside0.mk (below_step HBL2.out hb3); have HGW3 := Aside0.mk (blk_below HGW.out hb3); have HRA3 := Aside0.mk (Kd.R_below HRA.out hb3); have HRL3 := Aside0.mk (Kd.R_below HRL.out hb3); have HB13 := Aside0.mk (Nat.le_trans HB12.out hb3.size); clear hsp hb3 g1))
          have z0 : w3.cell? ⟨gz, 0, none⟩ = some (.slice none 0 0) := cell_in HZ3.out 0 rfl
          have z1 : w3.cell? ⟨gz, 1, none⟩ = some (.slice none 0 0) := cell_in HZ3.out 1 rfl
          have z2 : w3.cell? ⟨gz, 2, none⟩ = some (.int .i64 0) := cell_in HZ3.out 2 rfl
          have zf0 : w3.frozen? ⟨gz, 0, none⟩ = false := blk_frozen HZ3.out 0
          have zf1 : w3.frozen? ⟨gz, 1, none⟩ = false := blk_frozen HZ3.out 1
          have zf2 : w3.frozen? ⟨gz, 2, none⟩ = false := blk_frozen HZ3.out 2
          go_wp2
          have hv : (([] : List Int), ([] : List Int), (0 : Int), (270 : Int)) = (r1, r2, r3, r4) := by
            rw [← HV.out, pushV, HR.out, if_neg (by simp), if_neg (by rw [HK.out]; simp), if_pos HC.out]
          simp only [Prod.mk.injEq] at hv
          obtain ⟨rfl, rfl, rfl, rfl⟩ := hv
          refine bodyPost_ret (results_ct rfl _ _ gz 74 #[.slice none 0 0, .slice none 0 0, .int .i64 0] (0, 0) _ rfl (zero_put HZ3.out) Try.underlying74 rfl (by kernel_rfl)) rfl ?_
          exact ⟨_, _, rfl, Kd.R_nil _ _ _ _ _, Kd.R_nil _ _ _ _ _, below_set (below_set (below_set HBL3.out HGE.out) HGE.out) HGE.out⟩
        | false =>
          have HC := Aside0.mk hc
          have hbs := hbs false hc
          clear hc
          go_upto_region 7 with (first | (go_at_call 144; refine hkn.mono ?_; rintro e w3 ⟨rfl, rfl⟩) | (go_at_call 150; refine hbs.mono ?_; rintro e w3 ⟨i, rfl, hsp, hb3⟩; have HSP := Aside0.mk hsp; have HZ3 := Aside0.mk (blk_below HZ2.out hb3); have HBL3 := Aside0.mk (below_step HBL2.out hb3); have HGW3 := Aside0.mk (blk_below HGW.out hb3); have HRA3 := Aside0.mk (Kd.R_below HRA.out hb3); have HRL3 := Aside0.mk (Kd.R_below HRL.out hb3); have HB13 := Aside0.mk (Nat.le_trans HB12.out hb3.size); clear hsp hb3 g1))
          have g1 : w3.cell? ⟨gw, 1, none⟩ = some (.slice AL l0_1.length cl) := cell_in HGW3.out 1 rfl
          have hx := blk_new w3 (.cells #[.int .i64 a1] 3 (0, 0))
          have hins := insert_any w1.heap.size cl AL l0_1 i a1 _ _ (Kd.R_alloc (Kd.R_mono HRL3.out (fun _ _ => trivial)) (.cells #[.int .i64 a1] 3 (0, 0))) (by have := HB13.out; simp; omega) HSP.out.le HS.out.2 hx (by
            intro e
            have := Kd.R_lt HRL3.out _ e
            omega)
          have HRA4 := Aside0.mk (Kd.R_alloc HRA3.out (.cells #[.int .i64 a1] 3 (0, 0)))
          have HZ4 := Aside0.mk (blk_alloc HZ3.out (.cells #[.int .i64 a1] 3 (0, 0)))
          have HGW4 := Aside0.mk (blk_alloc HGW3.out (.cells #[.int .i64 a1] 3 (0, 0)))
          have HBL4 := Aside0.mk (below_alloc HBL3.out (.cells #[.int .i64 a1] 3 (0, 0)))
          have HRL4 := Aside0.mk (Kd.R_alloc HRL3.out (.cells #[.int .i64 a1] 3 (0, 0)))
          have HINS := Aside0.mk hins
          have HSZ := Aside0.mk (show w3.heap.size ≤ (w3.alloc (.cells #[.int .i64 a1] 3 (0, 0))).heap.size by simp)
          clear hx hins
          go_upto_region 10 with (go_at_call 152; refine HINS.out.mono ?_; rintro e w5 ⟨v', rfl, hR5, hg5, hat5⟩; have HR5 := Aside0.mk hR5; have HAT5 := Aside0.mk hat5; have HG5 := Aside0.mk hg5; have HGW5 := Aside0.mk (blk_grown HGW4.out hg5 (Kd.R_ne HRL4.out HGW4.out (by decide))); have HZ5 := Aside0.mk (blk_grown HZ4.out hg5 (Kd.R_ne HRL4.out HZ4.out (by decide))); have HRA5 := Aside0.mk (Kd.R_after (ok := fun _ => True) (Kd.R_mono HRA4.out (fun k hk => ⟨trivial, hk⟩)) hg5 hat5); have HBL5 := Aside0.mk (pw_below_grown HBL4.out _ HBL4.out.size hg5 (fun k hk => Nat.le_trans HBASE.out (Kd.R_base HRL4.out k hk))); obtain ⟨A5, c5, rfl⟩ := Kd.R_slice hR5; have g1 : w5.cell? ⟨gw, 1, none⟩ = some (.slice AL l0_1.length cl) := cell_in HGW5.out 1 rfl; have gf1 : w5.frozen? ⟨gw, 1, none⟩ = false := blk_frozen HGW5.out 1; clear hR5 hg5 hat5)
          have hzw : gz ≠ gw := by
            rintro rfl
            have := HZ5.out.symm.trans HGW5.out
            simp at this
          have hgwb : w.heap.size ≤ gw := Nat.le_trans HBASE.out HBG.out
          have HGW6 := Aside0.mk (blk_put HGW5.out 1 (.slice A5 (insV l0_1 i a1).length c5) rfl)
          have HZ6 := Aside0.mk (blk_far HZ5.out (p := ⟨gw, 1, none⟩) hzw (.slice A5 (insV l0_1 i a1).length c5))
          have HRA6 := Aside0.mk (Kd.R_lower (Kd.R_set (Kd.R_mono HRA5.out (ok' := fun k_ => some k_ ≠ (Value.slice A5 (insV l0_1 i a1).length c5).ownBlock) (fun k hk => hk.2)) HGW5.out ne136 1 (.slice A5 (insV l0_1 i a1).length c5)) HBASE.out)
          have HR6 := Aside0.mk (Kd.R_lower (Kd.R_set (Kd.R_reok (ok := fun k_ => some k_ ≠ (Value.slice AA l0_0.length ca).ownBlock) rfl HR5.out (fun k hk he => by
            rcases HAT5.out with h | ⟨b, hb, hle⟩
            · exact HRL4.out.1 k (by rw [← h, hk]) he
            · have h1 := Kd.R_lt HRA3.out k he.symm
              rw [hb] at hk
              injection hk with hk
              have := HSZ.out
              omega)) HGW5.out ne136 1 (.slice A5 (insV l0_1 i a1).length c5)) HBASE.out)
          have HBL6 := Aside0.mk (below_set (j := 1) (v := .slice A5 (insV l0_1 i a1).length c5) HBL5.out hgwb)
          have HPUT := Aside0.mk HSP.out.put
          clear g1 gf1 hzw hgwb HGW5 HZ5 HRA5 HR5 HBL5 HAT5 HG5 HINS HBL4 HGW4 HZ4 HRA4 HRL4 HSZ
          generalize w5.setCell ⟨gw, 1, none⟩ (.slice A5 (insV l0_1 i a1).length c5) = w6 at HGW6 HZ6 HRA6 HR6 HBL6 ⊢
          rw [HPUT.out] at HGW6 HRA6 HR6
          generalize hlen : (insV l0_1 i a1).length = n5
          rw [HPUT.out] at hlen
          subst hlen
          have g0 : w6.cell? ⟨gw, 0, none⟩ = some (.slice AA l0_0.length ca) := cell_in HGW6.out 0 rfl
          have g1 : w6.cell? ⟨gw, 1, none⟩ = some (.slice A5 (putV l0_0 l0_1 a1).length c5) := cell_in HGW6.out 1 rfl
          have g2 : w6.cell? ⟨gw, 2, none⟩ = some (.int .i64 a0_2) := cell_in HGW6.out 2 rfl
          have z0 : w6.cell? ⟨gz, 0, none⟩ = some (.slice none 0 0) := cell_in HZ6.out 0 rfl
          have z1 : w6.cell? ⟨gz, 1, none⟩ = some (.slice none 0 0) := cell_in HZ6.out 1 rfl
          have z2 : w6.cell? ⟨gz, 2, none⟩ = some (.int .i64 0) := cell_in HZ6.out 2 rfl
          have zf0 : w6.frozen? ⟨gz, 0, none⟩ = false := blk_frozen HZ6.out 0
          have zf1 : w6.frozen? ⟨gz, 1, none⟩ = false := blk_frozen HZ6.out 1
          have zf2 : w6.frozen? ⟨gz, 2, none⟩ = false := blk_frozen HZ6.out 2
          go_wp2
          have hv : (l0_0, putV l0_0 l0_1 a1, a0_2, (0 : Int)) = (r1, r2, r3, r4) := by
            rw [← HV.out, pushV, HR.out, if_neg (by simp), if_neg (by rw [HK.out]; simp), if_neg (by rw [HC.out]; simp)]
          simp only [Prod.mk.injEq] at hv
          obtain ⟨rfl, rfl, rfl, rfl⟩ := hv
          refine bodyPost_ret (results_ct rfl _ _ gz 74 #[.slice AA l0_0.length ca, .slice A5 (putV l0_0 l0_1 a1).length c5, .int .i64 a0_2] (0, 0) _ rfl (heap_put HZ6.out) Try.underlying74 rfl (by kernel_rfl)) rfl ?_
          exact ⟨_, _, rfl, set3_R HRA6.out HZ6.out, set3_R HR6.out HZ6.out, below_set (below_set (below_set HBL6.out HGE.out) HGE.out) HGE.out⟩
    · have hcall := begun_no (c0 := c0_0) (c1 := c0_1) (Kd.C_below HA.out HBL.out) (Kd.C_below HB.out HBL.out) HS.out.1 HS.out.2 hr h0
      have h0z : (r != 0) = true := by simp [h0]
      have H0 := Aside0.mk h0
      have HR := Aside0.mk hr
      clear h0 hr
      go_upto_region 3 with (go_at_call 143; refine hcall.mono ?_; rintro e w2 ⟨rfl, hb2⟩; have HZ2 := Aside0.mk (blk_below HZ.out hb2); have HBL2 := Aside0.mk (below_step HBL.out hb2); clear hb2 e0 e1 e2)
      have z0 : w2.cell? ⟨gz, 0, none⟩ = some (.slice none 0 0) := cell_in HZ2.out 0 rfl
      have z1 : w2.cell? ⟨gz, 1, none⟩ = some (.slice none 0 0) := cell_in HZ2.out 1 rfl
      have z2 : w2.cell? ⟨gz, 2, none⟩ = some (.int .i64 0) := cell_in HZ2.out 2 rfl
      have zf0 : w2.frozen? ⟨gz, 0, none⟩ = false := blk_frozen HZ2.out 0
      have zf1 : w2.frozen? ⟨gz, 1, none⟩ = false := blk_frozen HZ2.out 1
      have zf2 : w2.frozen? ⟨gz, 2, none⟩ = false := blk_frozen HZ2.out 2
      go_wp2
      have hv : (([] : List Int), ([] : List Int), (0 : Int), r) = (r1, r2, r3, r4) := by
        rw [← HV.out, pushV, HR.out, if_pos H0.out]
      simp only [Prod.mk.injEq] at hv
      obtain ⟨rfl, rfl, rfl, rfl⟩ := hv
      refine bodyPost_ret (results_ct rfl _ _ gz 74 #[.slice none 0 0, .slice none 0 0, .int .i64 0] (0, 0) _ rfl (zero_put HZ2.out) Try.underlying74 rfl (by kernel_rfl)) rfl ?_
      exact ⟨_, _, rfl, Kd.R_nil _ _ _ _ _, Kd.R_nil _ _ _ _ _, below_set (below_set (below_set HBL2.out HGE.out) HGE.out) HGE.out⟩
  · rw [if_neg hs] at h
    cases h
end Go.Proofs.Ytobadajeekdakaa.Print
