/- heap: known, the odd numbers, (*work).check, Check: their contracts. -/
import Derived.Test.YtobadajeekdakaaHA
namespace Go.Proofs.Ytobadajeekdakaa.Print
open Go.RowKit Go.Proofs.YtobadajeekdakaaW.PrintWords Go.Proofs.YtobadajeekdakaaW.PrintLast Go.Proofs.YtobadajeekdakaaW.PrintMore
open Go.Sort (grow alloc_eq_grow)
set_option linter.unusedVariables false
set_option linter.unusedSimpArgs false

theorem odd_any (n : Int) (w : World) : Calls Try.prog 174 #[.int .i64 n] w fun e w' => e = .returned (.bool (oddB n)) ∧ w = w' := by
  obtain ⟨r, hr⟩ : ∃ r, r = oddB n := ⟨_, rfl⟩
  rw [← hr]
  have HR := Aside0.mk hr
  clear hr
  by_cases h : n < 0
  · have HH := Aside0.mk (show r = true by rw [HR.out]; simp [oddB, h])
    go_enter Try.func174, Try.ntmps174
    go_wp2
    go_ret
    exact ⟨ret_b HH.out.symm, rfl⟩
  · have HH := Aside0.mk (show r = decide (1099511627776 < n) by rw [HR.out]; simp [oddB, h])
    go_enter Try.func174, Try.ntmps174
    go_wp2
    go_ret
    exact ⟨ret_b HH.out.symm, rfl⟩

/-- A working copy: the three cells of a heap. -/
def WorkAt (w : World) (g : Nat) (A : Option Addr) (n c : Nat) (B : Option Addr) (m d : Nat) (by_ : Int) : Prop :=
  w.heap[g]? = some (.cells #[.slice A n c, .slice B m d, .int .i64 by_] 136 (0, 0))
theorem known_any (g : Nat) (A B : Option Addr) (n c m d : Nat) (act : List Int) (by_ v : Int) (w : World) (hn : act.length = n) (hg : WorkAt w g A n c B m d by_) :
    Calls Try.prog 144 #[.pointer (some ⟨g, 0, none⟩), .int .i64 v] w fun e w' => e = .returned (.bool (knownB' act v)) ∧ w = w' := by
  have hc0 : w.cell? ⟨g, 0, none⟩ = some (.slice A n c) := cell_in hg 0 rfl
  obtain ⟨r, hr⟩ : ∃ r, r = knownB' act v := ⟨_, rfl⟩
  rw [← hr]
  have HR := Aside0.mk hr
  have HN := Aside0.mk hn
  clear hr hn hg
  by_cases h : 0 < v
  · have HH := Aside0.mk (show r = decide (v < (n : Int)) by rw [HR.out, knownB', HN.out]; simp [h])
    go_enter Try.func144, Try.ntmps144
    go_wp2
    go_ret
    exact ⟨ret_b HH.out.symm, rfl⟩
  · have HH := Aside0.mk (show r = false by rw [HR.out]; simp [knownB', h])
    go_enter Try.func144, Try.ntmps144
    go_wp2
    go_ret
    exact ⟨ret_b HH.out.symm, rfl⟩

theorem rowOk_false {act l : List Int} (i : Nat) (hi : i < l.length) (h : placeB act l i = false) : rowOkB act l = false := by
  unfold rowOkB
  rw [← Bool.not_eq_true, List.all_eq_true]
  intro hh
  have := hh i (List.mem_range.2 hi)
  rw [h] at this
  cases this
theorem rowOk_true {act l : List Int} (h : ∀ i, i < l.length → placeB act l i = true) : rowOkB act l = true := by
  unfold rowOkB
  rw [List.all_eq_true]
  exact fun i hi => h i (List.mem_range.1 hi)

set_option maxHeartbeats 4000000 in
set_option maxRecDepth 100000 in
theorem check_any (g : Nat) (A B : Option Addr) (n c m d : Nat) (act l : List Int) (by_ : Int) (w : World) (hg : WorkAt w g A n c B m d by_)
    (hA : Kd.C (Kd.int .i64) w A n act) (hB : Kd.C (Kd.int .i64) w B m l) :
    Calls Try.prog 140 #[.pointer (some ⟨g, 0, none⟩)] w fun e w' => e = .returned (.int .i64 (hpCheckV act l by_)) ∧ Below w.heap.size w w' := by
  have hc0 : w.cell? ⟨g, 0, none⟩ = some (.slice A n c) := cell_in hg 0 rfl
  have hc1 : w.cell? ⟨g, 1, none⟩ = some (.slice B m d) := cell_in hg 1 rfl
  have hc2 : w.cell? ⟨g, 2, none⟩ = some (.int .i64 by_) := cell_in hg 2 rfl
  have HG := Aside0.mk hg
  have hn : act.length = n := hA.1
  have HN := Aside0.mk hn
  have HM := Aside0.mk hB.1
  have hm63 : n ≤ 9223372036854775807 := hA.2.1
  have hm63b : m ≤ 9223372036854775807 := hB.2.1
  have HA := Aside0.mk hA
  have HB := Aside0.mk hB
  have eg : ∀ args w, (callFunc 174 args).run Try.prog w = .ok (.enter 174 args) w := enters_of Try.func174 (by kernel_rfl) rfl
  obtain ⟨r, hr⟩ : ∃ r, r = hpCheckV act l by_ := ⟨_, rfl⟩
  rw [← hr]
  have HR := Aside0.mk hr
  have hany := containsFunc_same oddB 174 #[] eg A c act w (by rw [HN.out]; exact HA.out) (fun x => odd_any x w)
  rw [HN.out] at hany
  clear hr hg hA hB
  by_cases h1 : n = 0
  · have HH := Aside0.mk (show r = 1 by rw [HR.out, hpCheckV, if_pos (.inl (by omega))])
    subst h1
    clear hn hany
    go_enter Try.func140, Try.ntmps140
    go_wp2
    go_ret
    exact ⟨ret_eq HH.out.symm, Below.refl _ _⟩
  · have h1z : ((n : Int) == 0) = false := by simp [h1]
    have h1y : (n == 0) = false := by simp [h1]
    by_cases h2 : 65537 < n
    · have HH := Aside0.mk (show r = 1 by rw [HR.out, hpCheckV, if_pos (.inr (.inl (by omega)))])
      clear hn hany
      go_enter Try.func140, Try.ntmps140
      go_wp2
      go_ret
      exact ⟨ret_eq HH.out.symm, Below.refl _ _⟩
    · obtain ⟨ad, e1, hcell⟩ := Kd.at_int HA.out (0 : Int) (by omega) (by omega)
      subst e1
      obtain ⟨x0, hx0⟩ : ∃ x, x = rd act 0 := ⟨_, rfl⟩
      rw [← hx0] at hcell
      replace hcell : w.cell? ad = some (.int .i64 x0) := by
        have h := hcell
        rwa [show ad.add (0 : Int).toNat = ad from rfl] at h
      by_cases h3 : x0 = 0
      · subst h3
        cases h4 : act.any oddB with
        | true =>
          have HH := Aside0.mk (show r = 1 by rw [HR.out, hpCheckV, if_pos (.inr (.inr (.inr h4)))])
          rw [h4] at hany
          clear h4 hn hx0
          go_enter Try.func140, Try.ntmps140
          go_wp2_with (go_at_call 100; refine hany.mono ?_; rintro e w' ⟨rfl, rfl⟩)
          go_ret
          exact ⟨ret_eq HH.out.symm, Below.refl _ _⟩
        | false =>
          have HH := Aside0.mk (show r = if by_ = 0 ∨ oddB by_ = true then 1 else if rowOkB act l = true then 0 else 1 by
            rw [HR.out, hpCheckV, if_neg (show ¬ (act.length = 0 ∨ 65537 < act.length ∨ rd act 0 ≠ 0 ∨ act.any oddB = true) by rw [h4, HN.out, ← hx0]; simp; omega)])
          rw [h4] at hany
          clear h4 hn hx0 HR
          by_cases h5 : by_ = 0
          · have HH2 := Aside0.mk (show r = 1 by rw [HH.out, if_pos (.inl h5)])
            subst h5
            go_enter Try.func140, Try.ntmps140
            go_wp2_with (go_at_call 100; refine hany.mono ?_; rintro e w' ⟨rfl, rfl⟩)
            go_ret
            exact ⟨ret_eq HH2.out.symm, Below.refl _ _⟩
          · have h5z : (by_ == 0) = false := by simp [h5]
            have hodd := odd_any by_ w
            cases h6 : oddB by_ with
            | true =>
              have HH2 := Aside0.mk (show r = 1 by rw [HH.out, if_pos (.inr h6)])
              rw [h6] at hodd
              clear h6 h5
              go_enter Try.func140, Try.ntmps140
              go_wp2_with (first | (go_at_call 100; refine hany.mono ?_; rintro e w' ⟨rfl, rfl⟩) | (go_at_fn 174; refine hodd.mono ?_; rintro e w' ⟨rfl, rfl⟩))
              go_ret
              exact ⟨ret_eq HH2.out.symm, Below.refl _ _⟩
            | false =>
              have HH2 := Aside0.mk (show r = if rowOkB act l = true then 0 else 1 by rw [HH.out, if_neg (by rw [h6]; simp [h5])])
              rw [h6] at hodd
              clear h6 h5 HH
              go_enter Try.func140, Try.ntmps140
              go_wp2_with (first | (go_at_call 100; refine hany.mono ?_; rintro e w' ⟨rfl, rfl⟩) | (go_at_fn 174; refine hodd.mono ?_; rintro e w' ⟨rfl, rfl⟩))
              clear hany hodd hcell hc2
              go_loopg [64] m (fun gg s64 wr => ∃ k : Nat, k ≤ m ∧ m - k ≤ gg ∧ s64 = .int .i64 k ∧ Aside0 (∀ j, j < k → placeB act l j = true) ∧ Aside0 (Below w.heap.size w wr))
              case atStart => exact ⟨0, Nat.zero_le _, by omega, rfl, ⟨fun j hj => absurd hj (Nat.not_lt_zero _)⟩, ⟨Below.refl _ _⟩⟩
              case round =>
                clear hc0 hc1
                obtain ⟨k, hk, hg, rfl, HP, HBL⟩ := hrel
                have HGr : Aside0 (WorkAt wr g (some ad) n c B m d by_) := ⟨blk_below HG.out HBL.out⟩
                have hc0 : wr.cell? ⟨g, 0, none⟩ = some (.slice (some ad) n c) := cell_in HGr.out 0 rfl
                have hc1 : wr.cell? ⟨g, 1, none⟩ = some (.slice B m d) := cell_in HGr.out 1 rfl
                by_cases hlt : k < m
                · have hltz : (k : Int) < (m : Int) := by omega
                  have HBr := Aside0.mk (Kd.C_below HB.out HBL.out)
                  have HAr := Aside0.mk (Kd.C_below HA.out HBL.out)
                  obtain ⟨ad2, e2, hcell⟩ := Kd.at_int HBr.out (k : Int) (by omega) hltz
                  subst e2
                  rw [Int.toNat_natCast] at hcell
                  obtain ⟨x, hx⟩ : ∃ x, x = rd l (k : Int) := ⟨_, rfl⟩
                  rw [← hx] at hcell
                  have HX := Aside0.mk hx
                  clear hx
                  have hkn := known_any g (some ad) (some ad2) n c m d act by_ x wr HN.out HGr.out
                  cases h7 : knownB' act x with
                  | false =>
                    rw [h7] at hkn
                    have HF := Aside0.mk (show r = 1 by rw [HH2.out, rowOk_false k (by rw [HM.out]; exact hlt) (by rw [placeB, ← HX.out, h7]; rfl)]; rfl)
                    clear h7
                    go_wp2_with (go_at_call 144; refine hkn.mono ?_; rintro e w' ⟨rfl, rfl⟩)
                    go_ret
                    exact ⟨ret_eq HF.out.symm, HBL.out⟩
                  | true =>
                    rw [h7] at hkn
                    have HK := Aside0.mk h7
                    clear h7
                    by_cases h8 : k = 0
                    · have HS := Aside0.mk (show placeB act l k = true by rw [placeB, ← HX.out, HK.out, h8]; rfl)
                      have hcell0 : wr.cell? ad2 = some (.int .i64 x) := by
                        have h := hcell
                        rw [h8] at h
                        exact h
                      subst h8
                      clear hcell
                      go_wp2_with (go_at_call 144; refine hkn.mono ?_; rintro e w' ⟨rfl, rfl⟩)
                      go_roundg (m - (0 + 1))
                      case measure => omega
                      case rel => exact ⟨0 + 1, by omega, by omega, by go_num, ⟨fun j hj => by obtain rfl : j = 0 := by omega
                                                                                               exact HS.out⟩, HBL⟩
                    · have h8z : (0 : Int) < (k : Int) := by omega
                      obtain ⟨ad3, e3, hcellp⟩ := Kd.at_int HBr.out ((k : Int) - 1) (by omega) (by omega)
                      cases e3
                      rw [show ((k : Int) - 1).toNat = k - 1 by omega] at hcellp
                      obtain ⟨y, hy⟩ : ∃ y, y = rd l ((k : Int) - 1) := ⟨_, rfl⟩
                      rw [← hy] at hcellp
                      have HY := Aside0.mk hy
                      have HKB := Aside0.mk (show (0 < x ∧ x < act.length) ∧ (0 < y ∧ y < act.length) by
                        refine ⟨by simpa [knownB'] using HK.out, ?_⟩
                        have := HP.out (k - 1) (by omega)
                        rw [placeB, Bool.and_eq_true, show ((k - 1 : Nat) : Int) = (k : Int) - 1 by omega, ← hy] at this
                        simpa [knownB'] using this.1)
                      clear hy
                      have hord := order_any g (some ad) (some ad2) c m d act by_ y x wr (by rw [HN.out]; exact HGr.out) (by rw [HN.out]; exact HAr.out) (by have := HKB.out; omega) (by have := HKB.out; omega) (by have := HKB.out; omega) (by have := HKB.out; omega)
                      obtain ⟨o, ho⟩ : ∃ o, o = ordV act y x := ⟨_, rfl⟩
                      rw [← ho] at hord
                      have HO := Aside0.mk ho
                      clear ho
                      have hw1 : wrap64 ((k : Int) - 1) = (k : Int) - 1 := by unfold wrap64; omega
                      by_cases h9 : o < 0
                      · have HS := Aside0.mk (show placeB act l k = true by rw [placeB, ← HX.out, ← HY.out, HK.out, ← HO.out]; simp [h9])
                        go_wp2_with (first | (go_at_call 144; refine hkn.mono ?_; rintro e w' ⟨rfl, rfl⟩) | (go_at_call 151; refine hord.mono ?_; rintro e w' ⟨rfl, _, hb9⟩; have HB9 := Aside0.mk (below_step HBL.out hb9); clear hb9))
                        go_roundg (m - (k + 1))
                        case measure => omega
                        case rel =>
                          refine ⟨k + 1, by omega, by omega, by go_num, ⟨fun j hj => ?_⟩, HB9⟩
                          rcases Nat.lt_succ_iff_lt_or_eq.mp hj with h | rfl
                          · exact HP.out j h
                          · exact HS.out
                      · have HF := Aside0.mk (show r = 1 by rw [HH2.out, rowOk_false k (by rw [HM.out]; exact hlt) (by rw [placeB, ← HX.out, ← HY.out, HK.out, ← HO.out]; simp [h9, h8])]; rfl)
                        go_wp2_with (first | (go_at_call 144; refine hkn.mono ?_; rintro e w' ⟨rfl, rfl⟩) | (go_at_call 151; refine hord.mono ?_; rintro e w' ⟨rfl, _, hb9⟩; have HB9 := Aside0.mk (below_step HBL.out hb9); clear hb9))
                        go_ret
                        exact ⟨ret_eq HF.out.symm, HB9.out⟩
                · have hltz : ¬ (k : Int) < (m : Int) := by omega
                  obtain rfl : k = m := by omega
                  have HF := Aside0.mk (show r = 0 by rw [HH2.out, rowOk_true (fun i hi => HP.out i (by rw [HM.out] at hi; exact hi)), if_pos rfl])
                  go_wp2
                  go_ret
                  exact ⟨ret_eq HF.out.symm, HBL.out⟩
      · have HH := Aside0.mk (show r = 1 by rw [HR.out, hpCheckV, if_pos (.inr (.inr (.inl (by rw [← hx0]; exact h3))))])
        have h3z : (x0 != 0) = true := by simp [h3]
        clear hn hx0 hany
        go_enter Try.func140, Try.ntmps140
        go_wp2
        go_ret
        exact ⟨ret_eq HH.out.symm, Below.refl _ _⟩
end Go.Proofs.Ytobadajeekdakaa.Print

namespace Go.Proofs.Ytobadajeekdakaa.Print
open Go.RowKit Go.Proofs.YtobadajeekdakaaW.PrintWords Go.Proofs.YtobadajeekdakaaW.PrintLast Go.Proofs.YtobadajeekdakaaW.PrintMore
def heap_Check.f (l0_0 l0_1 : List Int) (a0_2 : Int) : Option Int := some (hpCheckV l0_0 l0_1 a0_2)
theorem heap_Check.calls (A0_0 : Option Addr) (c0_0 : Nat) (l0_0 : List Int) (A0_1 : Option Addr) (c0_1 : Nat) (l0_1 : List Int) (a0_2 : Int) (r : Int) (w : World) (hr0_0 : Kd.C (Kd.int .i64) w A0_0 l0_0.length l0_0) (hc0_0 : l0_0.length ≤ c0_0) (hr0_1 : Kd.C (Kd.int .i64) w A0_1 l0_1.length l0_1) (hc0_1 : l0_1.length ≤ c0_1) (h : heap_Check.f l0_0 l0_1 a0_2 = some r) :
    Calls Try.prog 65 #[.agg #[.slice A0_0 l0_0.length c0_0, .slice A0_1 l0_1.length c0_1, .int .i64 a0_2]] w fun e w' => e = .returned (.int .i64 r) ∧ Below w.heap.size w w' := by
  have HV := Aside0.mk (Option.some.inj h)
  have HA := Aside0.mk hr0_0
  have HB := Aside0.mk hr0_1
  clear h hr0_0 hr0_1
  have hw : WorkAt ((w.alloc (.cells #[.slice A0_0 l0_0.length c0_0, .slice A0_1 l0_1.length c0_1, .int .i64 a0_2] 74 (0, 0))).alloc (.cells #[.slice A0_0 l0_0.length c0_0, .slice A0_1 l0_1.length c0_1, .int .i64 a0_2] 136 (0, 0))) (w.heap.size + 1) A0_0 l0_0.length c0_0 A0_1 l0_1.length c0_1 a0_2 := by
    have h := blk_new (w.alloc (.cells #[.slice A0_0 l0_0.length c0_0, .slice A0_1 l0_1.length c0_1, .int .i64 a0_2] 74 (0, 0))) (.cells #[.slice A0_0 l0_0.length c0_0, .slice A0_1 l0_1.length c0_1, .int .i64 a0_2] 136 (0, 0))
    rw [World.size_alloc] at h
    exact h
  have hcall := check_any _ _ _ _ _ _ _ _ _ _ _ hw (Kd.C_alloc (Kd.C_alloc HA.out _) _) (Kd.C_alloc (Kd.C_alloc HB.out _) _)
  rw [show hpCheckV l0_0 l0_1 a0_2 = r from HV.out] at hcall
  have HC := Aside0.mk hcall
  clear hcall hw
  go_enter Try.func65, Try.ntmps65
  go_wp2_with (go_at_call 140; refine HC.out.mono ?_; rintro e w' ⟨rfl, hb⟩; have HB2 := Aside0.mk hb; clear hb)
  go_ret
  exact ⟨rfl, ((Below.refl w.heap.size w).alloc (Nat.le_refl _) _).alloc (by simp) _ |>.trans (HB2.out.mono (by simp; omega))⟩
end Go.Proofs.Ytobadajeekdakaa.Print
