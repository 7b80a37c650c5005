/- slices.insertionSortCmpFunc at the order of a heap: its contract. slices.SortFunc at the order of a heap: its contract for at most twelve elements. slices.Max at []int; (*heap.work).scaled: their contracts. (*heap.work).scaled: its contract, under a law of the sort. (*heap.work).scaled: its contract, under a law of the sort: the walk. heap.Bump, heap.Decay: their contracts, under a law of the sort. heap.Bump, heap.Decay: their contracts, as the laws call them (queues of at most twelve). chalklinelaw21.live: its contract: it answers true. -/
import Derived.Test.YtobadajeekdakaaHG
import Derived.Test.YtobadajeekdakaaShelf
import Derived.Test.YtobadajeekdakaaF63
namespace Go.Proofs.Ytobadajeekdakaa.Print
open Go.RowKit Go.Proofs.YtobadajeekdakaaW.PrintWords Go.Proofs.YtobadajeekdakaaW.PrintLast Go.Proofs.YtobadajeekdakaaW.PrintMore
open Go.Sort (grow alloc_eq_grow)
set_option linter.unusedVariables false
set_option linter.unusedSimpArgs false

/-- v stands ahead of w. -/
abbrev aheadP (act : List Int) (x y : Int) : Prop := ordV act x y < 0
theorem ahead_asymm {act : List Int} {x y : Int} (h : aheadP act x y) : ¬ aheadP act y x := by
  unfold aheadP at *; rw [ordV_neg] at *; omega
theorem le_trans' {act : List Int} {x y z : Int} (h1 : ¬ aheadP act y x) (h2 : ¬ aheadP act z y) : ¬ aheadP act z x := by
  unfold aheadP at *; rw [ordV_neg] at *; omega
/-- Exchanged: the elements at i and j. -/
def swapV (ys : List Int) (i j : Nat) : List Int := (ys.set i (rd ys j)).set j (rd ys i)
theorem rd_get {ys : List Int} {i : Nat} (h : i < ys.length) : rd ys (i : Int) = ys[i] := by simp [rd, List.getElem?_eq_getElem h]
theorem swapV_perm {ys : List Int} {i j : Nat} (hi : i < ys.length) (hj : j < ys.length) : (swapV ys i j).Perm ys := by
  unfold swapV
  rw [rd_get hi, rd_get hj]
  exact List.set_set_perm hi hj
theorem swapV_rd {ys : List Int} {i j : Nat} (hi : i < ys.length) (hj : j < ys.length) (k : Nat) : rd (swapV ys i j) (k : Int) = if k = j then rd ys i else if k = i then rd ys j else rd ys k := by
  have e : ∀ (zs : List Int) (m : Nat), rd zs (m : Int) = zs.getD m 0 := fun zs m => rfl
  have hl : (ys.set i (rd ys j)).length = ys.length := List.length_set ..
  rw [e, swapV, List.getD_eq_getElem?_getD, List.getElem?_set]
  by_cases h1 : k = j
  · subst h1
    rw [if_pos rfl, if_pos (by rw [hl]; exact hj), if_pos rfl]
    rfl
  · rw [if_neg (fun e => h1 e.symm), if_neg h1, List.getElem?_set]
    by_cases h2 : k = i
    · subst h2
      rw [if_pos rfl, if_pos hi, if_pos rfl]
      rfl
    · rw [if_neg (fun e => h2 e.symm), if_neg h2]
      rfl
/-- A rearrangement within the places from a to b. -/
structure Within (a b : Nat) (xs ys : List Int) : Prop where
  perm : ys.Perm xs
  out : ∀ k, k < a ∨ b ≤ k → rd ys (k : Int) = rd xs (k : Int)
theorem Within.refl (a b : Nat) (xs : List Int) : Within a b xs xs := ⟨List.Perm.refl _, fun _ _ => rfl⟩
theorem Within.len {a b : Nat} {xs ys : List Int} (h : Within a b xs ys) : ys.length = xs.length := h.perm.length_eq
theorem Within.swap {a b : Nat} {xs ys : List Int} (h : Within a b xs ys) {i j : Nat} (hi : i < ys.length) (hj : j < ys.length) (ha : a ≤ i ∧ i < b) (hb : a ≤ j ∧ j < b) : Within a b xs (swapV ys i j) :=
  ⟨(swapV_perm hi hj).trans h.perm, fun k hk => by rw [swapV_rd hi hj, if_neg (by omega), if_neg (by omega)]; exact h.out k hk⟩
theorem Within.trans {a b : Nat} {xs ys zs : List Int} (h : Within a b xs ys) (k : Within a b ys zs) : Within a b xs zs :=
  ⟨k.perm.trans h.perm, fun i hi => (k.out i hi).trans (h.out i hi)⟩
/-- In order from a to b. -/
def SortedTo (act : List Int) (a b : Nat) (ys : List Int) : Prop := ∀ p q : Nat, a ≤ p → p < q → q < b → ¬ aheadP act (rd ys (q : Int)) (rd ys (p : Int))
/-- In order from a to i, but for the element at j, which may stand further ahead. -/
def ButOne (act : List Int) (a i j : Nat) (ys : List Int) : Prop := ∀ p q : Nat, a ≤ p → p < q → q ≤ i → q ≠ j → ¬ aheadP act (rd ys (q : Int)) (rd ys (p : Int))
theorem ButOne.start {act : List Int} {a i : Nat} {ys : List Int} (h : SortedTo act a i ys) : ButOne act a i i ys := fun p q h1 h2 h3 h4 => h p q h1 h2 (by omega)
theorem ButOne.step {act : List Int} {a i j : Nat} {ys : List Int} (h : ButOne act a i j ys) (haj : a < j) (hji : j ≤ i) (hi : i < ys.length) (hlt : aheadP act (rd ys (j : Int)) (rd ys ((j - 1 : Nat) : Int))) : ButOne act a i (j - 1) (swapV ys j (j - 1)) := by
  intro p q h1 h2 h3 h4
  rw [swapV_rd (by omega) (by omega), swapV_rd (by omega) (by omega), if_neg h4]
  by_cases hq : q = j
  · rw [if_pos hq]
    by_cases hp : p = j - 1
    · rw [if_pos hp]; exact ahead_asymm hlt
    · rw [if_neg hp, if_neg (by omega)]; exact h p (j - 1) h1 (by omega) (by omega) (by omega)
  · rw [if_neg hq]
    by_cases hp : p = j - 1
    · rw [if_pos hp]; exact h j q (by omega) (by omega) h3 hq
    · rw [if_neg hp]
      by_cases hp2 : p = j
      · rw [if_pos hp2]; exact h (j - 1) q (by omega) (by omega) h3 hq
      · rw [if_neg hp2]; exact h p q h1 h2 h3 hq
theorem ButOne.stop {act : List Int} {a i j : Nat} {ys : List Int} (h : ButOne act a i j ys) (haj : a ≤ j) (hji : j ≤ i) (hlt : j = a ∨ ¬ aheadP act (rd ys (j : Int)) (rd ys ((j - 1 : Nat) : Int))) : SortedTo act a (i + 1) ys := by
  intro p q h1 h2 h3
  by_cases hq : q = j
  · subst hq
    rcases hlt with h4 | h4
    · omega
    · by_cases hp : p = q - 1
      · rw [hp]; exact h4
      · exact le_trans' (h p (q - 1) h1 (by omega) (by omega) (by omega)) h4
  · exact h p q h1 h2 (by omega) hq

/-- The comparison, in every world in which block g alone has been written. -/
def CmpLaw (w : World) (g gw : Nat) (act : List Int) : Prop := ∀ (W : World) (x y : Int), w.grownBy W (some g) → (0 ≤ x ∧ x < act.length) → (0 ≤ y ∧ y < act.length) →
  Calls Try.prog 151 #[.pointer (some ⟨gw, 0, none⟩), .int .i64 x, .int .i64 y] W (OrdPost W (ordV act x y))
/-- The row that is being sorted. -/
structure SortSt (w : World) (base g n cap : Nat) (ys : List Int) (W : World) : Prop where
  row : Kd.R (Kd.int .i64) 3 W base (fun _ => True) (.slice (some ⟨g, 0, none⟩) n cap) ys
  grown : w.grownBy W (some g)
def InR (act ys : List Int) : Prop := ∀ x ∈ ys, 0 ≤ x ∧ x < act.length
theorem InR.at_ {act ys : List Int} (h : InR act ys) {i : Nat} (hi : i < ys.length) : 0 ≤ rd ys (i : Int) ∧ rd ys (i : Int) < act.length := h _ (by rw [rd_get hi]; exact List.getElem_mem _)
section
variable {w W W1 : World} {base g n cap : Nat} {ys : List Int}
theorem SortSt.cell (h : SortSt w base g n cap ys W) (i : Nat) (hi : i < n) : W.cell? ⟨g, i, none⟩ = some (.int .i64 (rd ys (i : Int))) ∧ W.frozen? ⟨g, i, none⟩ = false := by
  obtain ⟨hn, _, _⟩ := Kd.R_reads' h.row
  have hr := h.row
  rw [hn] at hr
  have := Kd.R_cell (d := (0 : Int)) hr (i : Int) (by omega) (by omega)
  rw [Int.toNat_natCast] at this
  exact this
theorem SortSt.len (h : SortSt w base g n cap ys W) : ys.length = n := (Kd.R_reads' h.row).1.symm
theorem SortSt.below (h : SortSt w base g n cap ys W) (hb : Below W.heap.size W W1) : SortSt w base g n cap ys W1 := ⟨Kd.R_below h.row hb, grown_trans h.grown (grown_of_below hb _)⟩
theorem SortSt.swapped (h : SortSt w base g n cap ys W) (i j : Nat) : SortSt w base g n cap (swapV ys i j) (((W.setCell ⟨g, i, none⟩ (.int .i64 (rd ys (j : Int)))).setCell ⟨g, j, none⟩ (.int .i64 (rd ys (i : Int)))).drew) := by
  obtain ⟨h1, h2⟩ := Kd.R_putg h.row (i : Int) (rd ys (j : Int))
  rw [Int.toNat_natCast] at h1 h2
  obtain ⟨h3, h4⟩ := Kd.R_putg h1 (j : Int) (rd ys (i : Int))
  rw [Int.toNat_natCast] at h3 h4
  exact ⟨Kd.R_drew h3, grown_trans h.grown (grown_trans h2 (grown_trans h4 (grown_drew _ _)))⟩
end

def SortPost (w : World) (base g n cap a b : Nat) (act l : List Int) (e : Ending) (w' : World) : Prop := e = .returned (.tuple #[]) ∧ ∃ ys, Within a b l ys ∧ SortedTo act a b ys ∧ SortSt w base g n cap ys w'
set_option maxHeartbeats 8000000 in
set_option maxRecDepth 100000 in
theorem insertion_any (w0 : World) (gw base g n cap a b : Nat) (act l : List Int) (w : World) (hc : CmpLaw w0 g gw act) (hS : SortSt w0 base g n cap l w) (hl : InR act l) (hab : a ≤ b) (hb : b ≤ n) (hn : n ≤ 100000) :
    Calls Try.prog 179 #[.slice (some ⟨g, 0, none⟩) n cap, .int .i64 a, .int .i64 b, .func (.func 151) #[.pointer (some ⟨gw, 0, none⟩)] #[]] w (SortPost w0 base g n cap a b act l) := by
  have HC := Aside0.mk hc
  have HS := Aside0.mk hS
  have HL := Aside0.mk hl
  have HLEN := Aside0.mk hS.len
  have eg : ∀ args w, (callFunc 151 args).run Try.prog w = .ok (.enter 151 args) w := enters_of Try.func151 (by kernel_rfl) rfl
  clear hc hS hl
  go_enter Try.func179, Try.ntmps179
  go_wp2
  go_loopg [8] (b - a) (fun gg s8 wr => ∃ (i : Nat) (ys : List Int), s8 = .int .i64 i ∧ a < i ∧ i ≤ b + 1 ∧ b + 1 - i ≤ gg + 1 ∧ Aside0 (Within a b l ys) ∧ Aside0 (i ≤ b → SortedTo act a i ys) ∧ Aside0 (b < i → SortedTo act a b ys) ∧ Aside0 (SortSt w0 base g n cap ys wr))
  case atStart => exact ⟨a + 1, l, by go_num, by omega, by omega, by omega, ⟨Within.refl _ _ _⟩, ⟨fun _ p q h1 h2 h3 => absurd h1 (by omega)⟩, ⟨fun _ p q h1 h2 h3 => absurd h1 (by omega)⟩, HS⟩
  case round =>
    obtain ⟨i, ys, rfl, hai, hib, hgg, HW, HO, HO2, HST⟩ := hrel
    by_cases hlt : i < b
    · have hltz : (i : Int) < (b : Int) := by omega
      have HLI := Aside0.mk hlt
      have HSO := Aside0.mk (HO.out (Nat.le_of_lt hlt))
      clear HO HO2
      go_wp2
      go_loopg [9] i (fun g2 s9 wr2 => ∃ (j : Nat) (zs : List Int), s9 = .int .i64 j ∧ a ≤ j ∧ j ≤ i ∧ j ≤ g2 ∧ Aside0 (Within a b l zs) ∧ Aside0 (ButOne act a i j zs) ∧ Aside0 (SortSt w0 base g n cap zs wr2))
      case atStart => exact ⟨i, ys, rfl, by omega, Nat.le_refl _, Nat.le_refl _, HW, ⟨ButOne.start HSO.out⟩, HST⟩
      case round =>
        clear HST HSO HW ys
        obtain ⟨j, zs, rfl, haj, hji, hg2, HW, HBO, HST⟩ := hrel
        have HLZ := Aside0.mk HST.out.len
        by_cases hja : a < j
        · have hjaz : (a : Int) < (j : Int) := by omega
          have hjd : decide ((j : Int) > (a : Int)) = true := decide_eq_true (by omega)
          obtain ⟨c1, f1⟩ := HST.out.cell j (by omega)
          obtain ⟨c2, f2⟩ := HST.out.cell (j - 1) (by omega)
          have HIX := Aside0.mk (show InR act zs from fun x hx => HL.out x (HW.out.perm.mem_iff.1 hx))
          obtain ⟨x, hx⟩ : ∃ x, x = rd zs (j : Int) := ⟨_, rfl⟩
          obtain ⟨y, hy⟩ : ∃ y, y = rd zs ((j - 1 : Nat) : Int) := ⟨_, rfl⟩
          have hcmp := HC.out wr.drew x y (grown_trans HST.out.grown (grown_drew _ _)) (by rw [hx]; exact HIX.out.at_ (by rw [HLZ.out]; omega)) (by rw [hy]; exact HIX.out.at_ (by rw [HLZ.out]; omega))
          rw [← hx] at c1
          rw [← hy] at c2
          have HX := Aside0.mk hx
          have HY := Aside0.mk hy
          clear hx hy HIX
          have hw1 : IntKind.i64.wrap ((j : Int) - 1) = (j : Int) - 1 := by rw [IntKind.wrap_i64]; omega
          have ht1 : ((j : Int) - 1).toNat = j - 1 := by omega
          have hp1 : (0 : Int) ≤ (j : Int) - 1 := by omega
          have hp0 : (1 : Int) ≤ (j : Int) := by omega
          have hp2 : (j : Int) - 1 < (n : Int) := by omega
          have hp3 : (j : Int) < (n : Int) := by omega
          obtain ⟨o, ho⟩ : ∃ o, o = ordV act x y := ⟨_, rfl⟩
          rw [← ho] at hcmp
          have HO := Aside0.mk ho
          clear ho
          by_cases ho : o < 0
          · have HOL := Aside0.mk ho
            have hod : decide (o < 0) = true := decide_eq_true ho
            go_wp2_with fail
            go_region_held3 (fun w' => w'.cell? ⟨g, j, none⟩ = some (.int .i64 x) ∧ w'.cell? ⟨g, j - 1, none⟩ = some (.int .i64 y)) (first | go_keep | exact ⟨by assumption, by assumption⟩) (first | (go_at_fn 151; refine hcmp.mono ?_; rintro e w3 ⟨rfl, _, hb3⟩; have HB3 := Aside0.mk hb3; have c1' : w3.cell? ⟨g, j, none⟩ = some (.int .i64 x) := pw_cell_below (below_drew1 (Below.refl _ wr) |>.trans (hb3.mono (Nat.le_refl _))) c1; have c2' : w3.cell? ⟨g, j - 1, none⟩ = some (.int .i64 y) := pw_cell_below (below_drew1 (Below.refl _ wr) |>.trans (hb3.mono (Nat.le_refl _))) c2; clear hb3))
            have HST3 := Aside0.mk ((HST.out.below (below_drew1 (Below.refl _ wr))).below HB3.out)
            have f1' : w3.frozen? ⟨g, j, none⟩ = false := (HST3.out.cell j (by omega)).2
            have f2' : w3.frozen? ⟨g, j - 1, none⟩ = false := (HST3.out.cell (j - 1) (by omega)).2
            have c3' : (w3.setCell ⟨g, j, none⟩ (.int .i64 y)).cell? ⟨g, j - 1, none⟩ = some (.int .i64 y) := by
              rw [World.cell?_setCell_other _ _ _ _ (by intro e; injection e with _ e; omega)]
              exact c2'
            have HSW := Aside0.mk (HST3.out.swapped j (j - 1))
            rw [← HX.out, ← HY.out] at HSW
            clear c1 c2 f1 f2 hcmp HB3
            go_wp2_with fail
            go_region
            generalize ((w3.setCell ⟨g, j, none⟩ (.int .i64 y)).setCell ⟨g, j - 1, none⟩ (.int .i64 x)).drew = w4 at HSW ⊢
            have HNX := Aside0.mk (HBO.out.step hja hji (by rw [HLZ.out]; omega) (by rw [← HX.out, ← HY.out]; unfold aheadP; rw [← HO.out]; exact HOL.out))
            have HNW := Aside0.mk (HW.out.swap (i := j) (j := j - 1) (by rw [HLZ.out]; omega) (by rw [HLZ.out]; omega) (by omega) (by omega))
            clear c1' c2' c3' f1' f2'
            go_wp2
            go_roundg (j - 1)
            case measure => omega
            case rel => exact ⟨j - 1, swapV zs j (j - 1), by congr 1; omega, by omega, by omega, Nat.le_refl _, HNW, HNX, HSW⟩
          · have hod : decide (o < 0) = false := decide_eq_false ho
            have hoge : (0 : Int) ≤ o := by omega
            have HSTOP := Aside0.mk (HBO.out.stop haj hji (.inr (by rw [← HX.out, ← HY.out]; unfold aheadP; rw [← HO.out]; exact ho)))
            clear ho
            go_wp2_with fail
            go_region_held3 (fun w' => w'.cell? ⟨g, j, none⟩ = some (.int .i64 x) ∧ w'.cell? ⟨g, j - 1, none⟩ = some (.int .i64 y)) (first | go_keep | exact ⟨by assumption, by assumption⟩) (first | (go_at_fn 151; refine hcmp.mono ?_; rintro e w3 ⟨rfl, _, hb3⟩; have HB3 := Aside0.mk hb3; have c1' : w3.cell? ⟨g, j, none⟩ = some (.int .i64 x) := pw_cell_below (below_drew1 (Below.refl _ wr) |>.trans (hb3.mono (Nat.le_refl _))) c1; have c2' : w3.cell? ⟨g, j - 1, none⟩ = some (.int .i64 y) := pw_cell_below (below_drew1 (Below.refl _ wr) |>.trans (hb3.mono (Nat.le_refl _))) c2; clear hb3))
            have HST3 := Aside0.mk ((HST.out.below (below_drew1 (Below.refl _ wr))).below HB3.out)
            clear c1 c2 f1 f2 hcmp HB3 c1' c2'
            go_wp2
            go_roundg (b - (i + 1))
            case measure => omega
            case rel => exact ⟨i + 1, zs, by go_num, by omega, by omega, by omega, HW, ⟨fun _ => HSTOP.out⟩, ⟨fun h => absurd h (by have := HLI.out; omega)⟩, HST3⟩
        · obtain rfl : a = j := by omega
          have hjd : decide ((a : Int) > (a : Int)) = false := decide_eq_false (by omega)
          have HSTOP := Aside0.mk (HBO.out.stop haj hji (.inl rfl))
          go_wp2_with fail
          go_region
          have HST3 := Aside0.mk (HST.out.below (below_drew1 (Below.refl _ wr)))
          go_wp2
          go_roundg (b - (i + 1))
          case measure => omega
          case rel => exact ⟨i + 1, zs, by go_num, by omega, by omega, by omega, HW, ⟨fun _ => HSTOP.out⟩, ⟨fun h => absurd h (by have := HLI.out; omega)⟩, HST3⟩
    · have hltz : ¬ (i : Int) < (b : Int) := by omega
      have HFIN := Aside0.mk (show SortedTo act a b ys by
        by_cases h : i ≤ b
        · obtain rfl : i = b := by omega
          exact HO.out h
        · exact HO2.out (by omega))
      go_wp2
      go_end0
      exact ⟨rfl, ys, HW.out, HFIN.out, HST.out⟩
end Go.Proofs.Ytobadajeekdakaa.Print

namespace Go.Proofs.Ytobadajeekdakaa.Print
open Go.RowKit Go.Proofs.YtobadajeekdakaaW.PrintWords Go.Proofs.YtobadajeekdakaaW.PrintLast Go.Proofs.YtobadajeekdakaaW.PrintMore
open Go.Sort (grow alloc_eq_grow)
open Go.Shelf
set_option linter.unusedVariables false
set_option linter.unusedSimpArgs false

theorem hp_bitsLen (n : Nat) (w : World) (hn : n ≤ 100000) : Calls Try.prog 164 #[.int .u64 n] w fun e w' => e = .returned (.int .i64 (Lib.bitLen n : Nat)) ∧ w = w' := by
  have h := Any.bits_Len (SlLaysF0.n15.bits (P := Try.prog) (ρ := Try.slays6_ren) { Try.slays6 with }) (n : Int) w (by omega) (by omega)
  rw [Int.toNat_natCast] at h
  exact h.mono fun e w' hh => ⟨hh.1, hh.2.symm⟩

set_option maxHeartbeats 8000000 in
set_option maxRecDepth 100000 in
theorem pdq_small (w0 : World) (gw base g n cap : Nat) (lim : Int) (act l : List Int) (w : World) (hc : CmpLaw w0 g gw act) (hS : SortSt w0 base g n cap l w) (hl : InR act l) (hn : n ≤ 12) :
    Calls Try.prog 163 #[.slice (some ⟨g, 0, none⟩) n cap, .int .i64 0, .int .i64 n, .int .i64 lim, .func (.func 151) #[.pointer (some ⟨gw, 0, none⟩)] #[]] w (SortPost w0 base g n cap 0 n act l) := by
  have hcall := insertion_any w0 gw base g n cap 0 n act l w hc hS hl (by omega) (Nat.le_refl _) (by omega)
  have HC := Aside0.mk hcall
  clear hc hS hl hcall
  have h12 : (n : Int) ≤ 12 := by omega
  go_enter Try.func163, Try.ntmps163
  go_wp2
  refine wp_loop_rounds 1 ?_
  rw [rounds_succ]
  go_wp2_with (go_at_call 179; refine HC.out.mono ?_; rintro e w' ⟨rfl, ys, h1, h2, h3⟩; have H1 := Aside0.mk h1; have H2 := Aside0.mk h2; have H3 := Aside0.mk h3; clear h1 h2 h3)
  go_end0
  exact ⟨rfl, ys, H1.out, H2.out, H3.out⟩

theorem sort_small (w0 : World) (gw base g n cap : Nat) (act l : List Int) (w : World) (hc : CmpLaw w0 g gw act) (hS : SortSt w0 base g n cap l w) (hl : InR act l) (hn : n ≤ 12) :
    Calls Try.prog 109 #[.slice (some ⟨g, 0, none⟩) n cap, .func (.func 151) #[.pointer (some ⟨gw, 0, none⟩)] #[]] w (SortPost w0 base g n cap 0 n act l) := by
  have hcall := fun lim => pdq_small w0 gw base g n cap lim act l w hc hS hl hn
  have HC := Aside0.mk hcall
  clear hc hS hl hcall
  have h63 : n ≤ 9223372036854775807 := by omega
  have hbl := hp_bitsLen n
  have wr : IntKind.u64.wrap (n : Int) = n := by simp [IntKind.wrap, IntKind.bits, IntKind.signed]; omega
  go_enter Try.func109, Try.ntmps109
  go_wp2_with (first | (go_at_call 164; refine (hbl _ (by omega)).mono ?_; rintro e w2 ⟨rfl, rfl⟩) | (go_at_call 163; refine (HC.out _).mono ?_; rintro e w' ⟨rfl, ys, h1, h2, h3⟩; have H1 := Aside0.mk h1; have H2 := Aside0.mk h2; have H3 := Aside0.mk h3; clear h1 h2 h3))
  go_end0
  exact ⟨rfl, ys, H1.out, H2.out, H3.out⟩
end Go.Proofs.Ytobadajeekdakaa.Print

namespace Go.Proofs.Ytobadajeekdakaa.Print
open Go.RowKit Go.Proofs.YtobadajeekdakaaW.PrintWords Go.Proofs.YtobadajeekdakaaW.PrintLast Go.Proofs.YtobadajeekdakaaW.PrintMore
open Go.Sort (grow alloc_eq_grow)
attribute [local go_sem] max2_int min2_int max_two min_two
set_option linter.unusedVariables false
set_option linter.unusedSimpArgs false

/-- The greatest of the first k + 1 numbers. -/
def maxTo (xs : List Int) : Nat → Int
  | 0 => rd xs 0
  | k + 1 => if maxTo xs k < rd xs ((k + 1 : Nat) : Int) then rd xs ((k + 1 : Nat) : Int) else maxTo xs k
def maxV (xs : List Int) : Int := maxTo xs (xs.length - 1)
theorem maxTo_gt (xs : List Int) (M : Int) : ∀ k, (M < maxTo xs k ↔ ∃ j, j ≤ k ∧ M < rd xs (j : Int))
  | 0 => ⟨fun h => ⟨0, Nat.le_refl _, h⟩, fun hh => by
      obtain ⟨j, hj, h⟩ := hh
      have e : j = 0 := by omega
      subst e
      exact h⟩
  | k + 1 => by
    have ih := maxTo_gt xs M k
    unfold maxTo
    split
    · rename_i hlt
      constructor
      · intro h; exact ⟨k + 1, Nat.le_refl _, h⟩
      · rintro ⟨j, hj, h⟩
        rcases Nat.lt_or_eq_of_le hj with h2 | rfl
        · have := ih.2 ⟨j, by omega, h⟩; omega
        · exact h
    · rename_i hlt
      constructor
      · intro h
        obtain ⟨j, hj, h2⟩ := ih.1 h
        exact ⟨j, by omega, h2⟩
      · rintro ⟨j, hj, h⟩
        rcases Nat.lt_or_eq_of_le hj with h2 | rfl
        · exact ih.2 ⟨j, by omega, h⟩
        · omega
theorem maxV_gt (xs : List Int) (M : Int) (h0 : 0 < xs.length) : M < maxV xs ↔ xs.any (fun x => decide (M < x)) = true := by
  unfold maxV
  rw [maxTo_gt, List.any_eq_true]
  constructor
  · rintro ⟨j, hj, h⟩
    exact ⟨rd xs (j : Int), by rw [rd_get (by omega)]; exact List.getElem_mem _, decide_eq_true h⟩
  · rintro ⟨x, hx, h⟩
    obtain ⟨j, hj, rfl⟩ := List.getElem_of_mem hx
    exact ⟨j, by omega, by rw [rd_get hj]; exact of_decide_eq_true h⟩

set_option maxHeartbeats 2000000 in
theorem hp_max (A : Option Addr) (c : Nat) (xs : List Int) (w : World) (hC : Kd.C (Kd.int .i64) w A xs.length xs) (h0 : 0 < xs.length) (hl : xs.length ≤ 100000) :
    Calls Try.prog 175 #[.slice A xs.length c] w fun e w' => e = .returned (.int .i64 (maxV xs)) ∧ w = w' := by
  have HC := Aside0.mk hC
  obtain ⟨r, hr⟩ : ∃ r, r = maxV xs := ⟨_, rfl⟩
  rw [← hr]
  have HR := Aside0.mk hr
  obtain ⟨n, hn⟩ : ∃ n, n = xs.length := ⟨_, rfl⟩
  rw [← hn] at h0 hl HC ⊢
  have HN := Aside0.mk hn
  clear hC hr hn
  obtain ⟨ad, e1, hcell⟩ := Kd.at_int HC.out (0 : Int) (by omega) (by omega)
  subst e1
  replace hcell : w.cell? ad = some (.int .i64 (rd xs 0)) := by
    have h := hcell
    rwa [show ad.add (0 : Int).toNat = ad from rfl] at h
  obtain ⟨x0, hx0⟩ : ∃ x0, x0 = rd xs 0 := ⟨_, rfl⟩
  rw [← hx0] at hcell
  have HX0 := Aside0.mk hx0
  clear hx0
  have h1 : (1 : Int) ≤ (n : Int) := by omega
  have h2 : (0 : Int) < (n : Int) := by omega
  go_enter Try.func175, Try.ntmps175
  go_wp2
  go_loopg [3, 4] n (fun gg s3 s4 wr => ∃ (j : Nat) (m : Int), 1 ≤ j ∧ j ≤ n ∧ n - j ≤ gg ∧ s4 = .int .i64 (j : Int) ∧ s3 = .int .i64 m ∧ Aside0 (m = maxTo xs (j - 1)) ∧ wr = w)
  case atStart => exact ⟨1, x0, by omega, by omega, by omega, rfl, rfl, ⟨HX0.out⟩, rfl⟩
  case round =>
    obtain ⟨j, m, hj, hjn, hg, rfl, rfl, HM, rfl⟩ := hrel
    by_cases hlt : j < n
    · have hltz : (j : Int) < (n : Int) := by omega
      obtain ⟨ad2, e2, hcell2⟩ := Kd.at_int HC.out (j : Int) (by omega) hltz
      cases e2
      rw [Int.toNat_natCast] at hcell2
      obtain ⟨y, hy⟩ : ∃ y, y = rd xs (j : Int) := ⟨_, rfl⟩
      rw [← hy] at hcell2
      have HY := Aside0.mk hy
      clear hy
      obtain ⟨k, hk⟩ : ∃ k, j = k + 1 := ⟨j - 1, by omega⟩
      have HK := Aside0.mk hk
      by_cases hmy : m < y
      · have HS := Aside0.mk (show y = maxTo xs (j + 1 - 1) by
          have h5 := HM.out
          have h6 := HY.out
          rw [hk] at h5 h6 ⊢
          rw [show k + 1 + 1 - 1 = k + 1 by omega, maxTo, ← h6]
          rw [show k + 1 - 1 = k by omega] at h5
          rw [← h5, if_pos hmy])
        clear hk
        go_wp2
        go_roundg (n - (j + 1))
        case measure => omega
        case rel => exact ⟨j + 1, y, by omega, by omega, by omega, by go_num, rfl, HS, rfl⟩
      · have HS := Aside0.mk (show m = maxTo xs (j + 1 - 1) by
          have h5 := HM.out
          have h6 := HY.out
          rw [hk] at h5 h6 ⊢
          rw [show k + 1 + 1 - 1 = k + 1 by omega, maxTo, ← h6]
          rw [show k + 1 - 1 = k by omega] at h5
          rw [← h5, if_neg hmy])
        clear hk
        go_wp2
        go_roundg (n - (j + 1))
        case measure => omega
        case rel => exact ⟨j + 1, m, by omega, by omega, by omega, by go_num, rfl, HS, rfl⟩
    · have hltz : ¬ (j : Int) < (n : Int) := by omega
      have HF := Aside0.mk (show m = r by rw [HM.out, HR.out, maxV, ← HN.out, show n = j by omega])
      go_wp2
      go_ret
      exact ⟨ret_eq HF.out, rfl⟩
end Go.Proofs.Ytobadajeekdakaa.Print

namespace Go.Proofs.Ytobadajeekdakaa.Print
open Go.RowKit Go.Proofs.YtobadajeekdakaaW.PrintWords Go.Proofs.YtobadajeekdakaaW.PrintLast Go.Proofs.YtobadajeekdakaaW.PrintMore
open Go.Sort (grow alloc_eq_grow)
open Go.Shelf
attribute [local go_sem] max2_int min2_int max_two min_two
set_option linter.unusedVariables false
set_option linter.unusedSimpArgs false

/-- The sort's law, for rows of at most N elements. -/
def HSort (N : Nat) : Prop := ∀ (w0 : World) (gw base g n cap : Nat) (act l : List Int) (w : World), CmpLaw w0 g gw act → SortSt w0 base g n cap l w → InR act l → n ≤ N →
  Calls Try.prog 109 #[.slice (some ⟨g, 0, none⟩) n cap, .func (.func 151) #[.pointer (some ⟨gw, 0, none⟩)] #[]] w (SortPost w0 base g n cap 0 n act l)
theorem hsort12 : HSort 12 := fun w0 gw base g n cap act l w h1 h2 h3 h4 => sort_small w0 gw base g n cap act l w h1 h2 h3 h4

def sortA (act l : List Int) : List Int := l.mergeSort (fun x y => !decide (ordV act y x < 0))
theorem sortA_only {act l ys : List Int} (hp : ys.Perm l) (hs : SortedTo act 0 ys.length ys) : ys = sortA act l := by
  have h1 : ys.Pairwise (fun x y => ¬ aheadP act y x) := by
    rw [List.pairwise_iff_getElem]
    intro i j hi hj hij
    have := hs i j (Nat.zero_le _) hij hj
    rwa [rd_get hi, rd_get hj] at this
  have h2 : (sortA act l).Pairwise (fun x y => ¬ aheadP act y x) := by
    have := List.pairwise_mergeSort (le := fun x y => !decide (ordV act y x < 0)) (fun a b c hab hbc => by
      simp only [Bool.not_eq_true', decide_eq_false_iff_not] at *
      exact le_trans' hab hbc) (fun a b => by
      by_cases h : ordV act b a < 0
      · have := ahead_asymm h
        simp [show ¬ ordV act a b < 0 from this]
      · simp [h]) l
    exact this.imp (fun h => by simpa [aheadP] using h)
  refine List.Perm.eq_of_pairwise ?_ h1 h2 (hp.trans (List.mergeSort_perm l _).symm)
  intro a b _ _ hab hba
  by_cases he : a = b
  · exact he
  · exact absurd (ordV_total hab (fun e => he e.symm)) hba
structure ScSt (w : World) (base gw gr ga n ca : Nat) (vL : Value) (act l : List Int) (by_ : Int) (W : World) : Prop where
  blk : W.heap[gw]? = some (.cells #[.slice (some ⟨ga, 0, none⟩) n ca, vL, .int .i64 by_] 136 (0, 0))
  res : W.heap[gr]? = some Z74
  rA : Kd.R (Kd.int .i64) 3 W base (fun k => some k ≠ vL.ownBlock) (.slice (some ⟨ga, 0, none⟩) n ca) act
  rL : Kd.R (Kd.int .i64) 3 W base (fun k => some k ≠ some ga) vL l
  below : Below base w W
  ge : base ≤ gw
section
variable {w W W1 : World} {base gw gr ga n ca : Nat} {vL : Value} {act l ys : List Int} {by_ : Int}
theorem ScSt.step (h : ScSt w base gw gr ga n ca vL act l by_ W) (hb : Below W.heap.size W W1) : ScSt w base gw gr ga n ca vL act l by_ W1 :=
  ⟨blk_below h.blk hb, blk_below h.res hb, Kd.R_below h.rA hb, Kd.R_below h.rL hb, h.below.trans (hb.mono (Nat.le_trans h.ge (Nat.le_of_lt (blk_lt h.blk)))), h.ge⟩
theorem ScSt.lenA (h : ScSt w base gw gr ga n ca vL act l by_ W) : act.length = n := (Kd.R_reads' h.rA).1.symm
theorem ScSt.neA (h : ScSt w base gw gr ga n ca vL act l by_ W) : gw ≠ ga := fun e => by
  have := Kd.R_ne h.rA h.blk (by decide)
  rw [e] at this
  exact this rfl
theorem ScSt.neR (h : ScSt w base gw gr ga n ca vL act l by_ W) : gr ≠ ga := fun e => by
  have := Kd.R_ne h.rA h.res (by decide)
  rw [e] at this
  exact this rfl
theorem ScSt.neG (h : ScSt w base gw gr ga n ca vL act l by_ W) : gr ≠ gw := fun e => by
  have := h.res
  rw [e] at this
  have := this.symm.trans h.blk
  simp at this
theorem ScSt.geA (h : ScSt w base gw gr ga n ca vL act l by_ W) : base ≤ ga := Kd.R_base h.rA ga rfl
theorem ScSt.putA (h : ScSt w base gw gr ga n ca vL act l by_ W) (i : Nat) (x : Int) : ScSt w base gw gr ga n ca vL (act.set i x) l by_ (W.setCell ⟨ga, i, none⟩ (.int .i64 x)) := by
  obtain ⟨h1, h2⟩ := Kd.R_putg h.rA (i : Int) x
  rw [Int.toNat_natCast] at h1 h2
  exact ⟨blk_far h.blk (p := ⟨ga, i, none⟩) h.neA _, blk_far h.res (p := ⟨ga, i, none⟩) h.neR _, h1, Kd.R_far (p := ⟨ga, i, none⟩) h.rL (fun k hk e => hk (by rw [e])) _, below_setB h.below h.geA, h.ge⟩
where below_setB {w W : World} {B g j : Nat} {v : Value} (h : Below B w W) (hg : B ≤ g) : Below B w (W.setCell ⟨g, j, none⟩ v) := h.setCell hg _
theorem ScSt.putBy (h : ScSt w base gw gr ga n ca vL act l by_ W) (v : Int) : ScSt w base gw gr ga n ca vL act l v (W.setCell ⟨gw, 2, none⟩ (.int .i64 v)) :=
  ⟨blk_put h.blk 2 _ rfl, blk_far h.res (p := ⟨gw, 2, none⟩) h.neG _, Kd.R_set h.rA h.blk ne136 2 _, Kd.R_set h.rL h.blk ne136 2 _, h.below.setCell h.ge _, h.ge⟩
theorem ScSt.sorted (h : ScSt w base gw gr ga n ca vL act l by_ W) (hg : W.grownBy W1 vL.ownBlock) (hr : Kd.R (Kd.int .i64) 3 W1 base (fun _ => True) vL ys) : ScSt w base gw gr ga n ca vL act ys by_ W1 :=
  ⟨blk_grown h.blk hg (Kd.R_ne h.rL h.blk (by decide)), blk_grown h.res hg (Kd.R_ne h.rL h.res (by decide)), Kd.R_grown h.rA hg (fun k hk => hk), Kd.R_reok rfl hr (fun k hk => h.rL.1 k hk),
    ⟨hg.os.trans h.below.os, hg.tape.trans h.below.tape, hg.output.trans h.below.output, Nat.le_trans h.below.size hg.size, fun k hk => (hg.block k (Nat.lt_of_lt_of_le hk (Nat.le_trans h.ge (Nat.le_of_lt (blk_lt h.blk)))) (fun e => by
      have := Kd.R_base h.rL k e.symm
      omega)).trans (h.below.block k hk)⟩, h.ge⟩
/-- The queue, sorted. -/
theorem ScSt.sort (h : ScSt w base gw gr ga n ca vL act l by_ W) {N : Nat} (hs : HSort N) (hl : InR act l) (hN : l.length ≤ N) :
    Calls Try.prog 109 #[vL, .func (.func 151) #[.pointer (some ⟨gw, 0, none⟩)] #[]] W fun e w' => e = .returned (.tuple #[]) ∧ ScSt w base gw gr ga n ca vL act (sortA act l) by_ w' := by
  obtain ⟨AL, cl, e⟩ := Kd.R_slice h.rL
  obtain ⟨_, h2 | ⟨g, cap, cur, e1, hb, hg, hn, hc, hsz, htk⟩⟩ := Kd.own_of_R h.rL
  · obtain ⟨rfl, h0⟩ := h2
    have hl0 : l = [] := List.eq_nil_of_length_eq_zero h0
    subst hl0
    refine (AnyF.slices_SortFunc_none (P := Try.prog) { Try.slays6 with } none 0 (.func (.func 151) #[.pointer (some ⟨gw, 0, none⟩)] #[]) W).mono ?_
    rintro e w' ⟨rfl, rfl⟩
    exact ⟨rfl, by simpa [sortA] using h⟩
  · subst e1
    have hcmp : CmpLaw W g gw act := fun W2 x y hgr hx hy => by
      have hA := Kd.R_grown h.rA hgr (fun k hk => hk)
      have hAl := h.lenA
      obtain ⟨_, _, hC⟩ := Kd.R_reads' hA
      subst hAl
      exact order_any gw _ _ ca _ _ act by_ x y W2 (blk_grown h.blk hgr (Kd.R_ne h.rL h.blk (by decide))) hC hx.1 hx.2 hy.1 hy.2
    have hR := Kd.R_mono h.rL (ok' := fun _ => True) (fun _ _ => trivial)
    refine (hs W gw base g l.length cap act l W hcmp ⟨hR, grown_of_below (Below.refl _ _) _⟩ hl hN).mono ?_
    rintro e w' ⟨rfl, ys, h3, h4, h5⟩
    have hys : ys = sortA act l := sortA_only h3.perm (by rw [h3.len]; exact h4)
    rw [← hys]
    exact ⟨rfl, h.sorted h5.grown h5.row⟩
end
end Go.Proofs.Ytobadajeekdakaa.Print

namespace Go.Proofs.Ytobadajeekdakaa.Print
open Go.RowKit Go.Proofs.YtobadajeekdakaaW.PrintWords Go.Proofs.YtobadajeekdakaaW.PrintLast Go.Proofs.YtobadajeekdakaaW.PrintMore
open Go.Sort (grow alloc_eq_grow)
open Go.Shelf
attribute [local go_sem] max2_int min2_int max_two min_two
set_option linter.unusedVariables false
set_option linter.unusedSimpArgs false

abbrev HM : Int := 1099511627776
def greatB (act : List Int) (by_ : Int) : Bool := decide (1099511627776 < by_) || act.any (fun x => decide (1099511627776 < x))
def downV (act : List Int) : List Int := act.map (· / 1024)
def byDown (by_ : Int) : Int := if by_ / 1024 < 1 then 1 else by_ / 1024
/-- The heap behind k scalings (k: 0 or 1). -/
def scAct (act : List Int) : Nat → List Int
  | 0 => act
  | _ + 1 => downV act
def scBy (by_ : Int) : Nat → Int
  | 0 => by_
  | _ + 1 => byDown by_
/-- The first i numbers divided. -/
def downTo (act : List Int) (i : Nat) : List Int := (act.take i).map (· / 1024) ++ act.drop i
theorem downTo_zero (act : List Int) : downTo act 0 = act := by simp [downTo]
theorem downTo_all (act : List Int) : downTo act act.length = downV act := by simp [downTo, downV]
theorem downTo_length (act : List Int) (i : Nat) : (downTo act i).length = act.length := by simp [downTo]; omega
theorem downTo_rd {act : List Int} {i : Nat} (hi : i < act.length) : rd (downTo act i) (i : Int) = rd act (i : Int) := by
  unfold downTo rd
  rw [Int.toNat_natCast, List.getD_eq_getElem?_getD, List.getD_eq_getElem?_getD, List.getElem?_append_right (by simp; omega)]
  simp [Nat.min_eq_left (Nat.le_of_lt hi)]
theorem downTo_next {act : List Int} {i : Nat} (hi : i < act.length) : (downTo act i).set i (rd act (i : Int) / 1024) = downTo act (i + 1) := by
  have hl : (List.map (· / 1024) (act.take i)).length = i := by simp; omega
  unfold downTo
  rw [List.set_append_right _ _ (by omega), hl, Nat.sub_self, List.drop_eq_getElem_cons hi, List.set_cons_zero, List.take_succ_eq_append_getElem hi, List.map_append, List.append_assoc]
  simp [rd_get hi]
structure Fair (act : List Int) (by_ : Int) : Prop where
  act_ : ∀ x ∈ act, 0 ≤ x ∧ x ≤ 2199023255552
  by1 : 0 ≤ by_
  by2 : by_ ≤ 2199023255552
theorem Fair.at_ {act : List Int} {by_ : Int} (h : Fair act by_) {i : Nat} (hi : i < act.length) : 0 ≤ rd act (i : Int) ∧ rd act (i : Int) ≤ 2199023255552 := h.act_ _ (by rw [rd_get hi]; exact List.getElem_mem _)
theorem Fair.notgreat {act : List Int} {by_ : Int} (h : Fair act by_) : greatB (downV act) (byDown by_) = false := by
  unfold greatB downV byDown
  have h1 := h.by1
  have h2 := h.by2
  rw [Bool.or_eq_false_iff]
  refine ⟨decide_eq_false (by split <;> omega), ?_⟩
  rw [List.any_eq_false]
  intro x hx
  obtain ⟨y, hy, rfl⟩ := List.mem_map.1 hx
  have := h.act_ y hy
  simp only [decide_eq_true_eq]
  omega
def scaledV (act l : List Int) (by_ : Int) : List Int × List Int × Int := if greatB act by_ = true then (downV act, sortA (downV act) l, byDown by_) else (act, sortA act l, by_)

def ScPost (w : World) (base gw : Nat) (act l : List Int) (by_ : Int) (e : Ending) (w' : World) : Prop :=
  ∃ vA vL : Value, e = .returned (.agg #[vA, vL, .int .i64 (scaledV act l by_).2.2]) ∧ Kd.R (Kd.int .i64) 3 w' base (fun k => some k ≠ vL.ownBlock) vA (scaledV act l by_).1 ∧ Kd.R (Kd.int .i64) 3 w' base (fun k => some k ≠ vA.ownBlock) vL (scaledV act l by_).2.1 ∧ Below base w w'

set_option maxHeartbeats 8000000 in
set_option maxRecDepth 100000 in
theorem scaled_any {N : Nat} (hs : HSort N) (base gw ga n ca : Nat) (vL : Value) (act l : List Int) (by_ : Int) (w : World)
    (hgw : w.heap[gw]? = some (.cells #[.slice (some ⟨ga, 0, none⟩) n ca, vL, .int .i64 by_] 136 (0, 0))) (hge : base ≤ gw)
    (hA : Kd.R (Kd.int .i64) 3 w base (fun k => some k ≠ vL.ownBlock) (.slice (some ⟨ga, 0, none⟩) n ca) act) (hL : Kd.R (Kd.int .i64) 3 w base (fun k => some k ≠ some ga) vL l)
    (hf : Fair act by_) (hn0 : 0 < n) (hn : n ≤ 100000) (hl : InR act l) (hN : l.length ≤ N) :
    Calls Try.prog 145 #[.pointer (some ⟨gw, 0, none⟩)] w (ScPost w base gw act l by_) := by
  have HS0 : Aside0 (ScSt w base gw w.heap.size ga n ca vL act l by_ (w.alloc Z74)) := ⟨⟨blk_alloc hgw _, blk_new w _, Kd.R_alloc hA _, Kd.R_alloc hL _, (Below.refl base w).alloc (Nat.le_trans hge (Nat.le_of_lt (blk_lt hgw))) _, hge⟩⟩
  have HF := Aside0.mk hf
  have HL := Aside0.mk hl
  have HN := Aside0.mk hN
  have HSORT := Aside0.mk hs
  have HLA := Aside0.mk HS0.out.lenA
  have HGR0 : Aside0 (base ≤ w.heap.size) := ⟨Nat.le_trans hge (Nat.le_of_lt (blk_lt hgw))⟩
  clear hgw hA hL hf hl hN hs hge
  go_enter Try.func145, Try.ntmps145
  go_upto_region 1 with (fail)
  generalize w.heap.size = gr at HS0 HGR0 ⊢
  generalize w.alloc Z74 = w1 at HS0 ⊢
  go_loopg [3] 1 (fun gg s3 wr => ∃ k : Nat, k ≤ 1 ∧ 1 - k ≤ gg ∧ Aside0 (k = 1 → greatB act by_ = true) ∧ Aside0 (ScSt w base gw gr ga n ca vL (scAct act k) l (scBy by_ k) wr))
  case atStart => exact ⟨0, by omega, by omega, ⟨fun h => absurd h (by omega)⟩, HS0⟩
  case round =>
    clear HS0
    obtain ⟨k, hk1, hgg, HK1, HST⟩ := hrel
    obtain ⟨a', ha'⟩ : ∃ a', a' = scAct act k := ⟨_, rfl⟩
    obtain ⟨b', hb'⟩ : ∃ b', b' = scBy by_ k := ⟨_, rfl⟩
    rw [← ha', ← hb'] at HST
    have HLA' := Aside0.mk HST.out.lenA
    have hc0 : wr.cell? ⟨gw, 0, none⟩ = some (.slice (some ⟨ga, 0, none⟩) n ca) := cell_in HST.out.blk 0 rfl
    have hc1 : wr.cell? ⟨gw, 1, none⟩ = some vL := cell_in HST.out.blk 1 rfl
    have hc2 : wr.cell? ⟨gw, 2, none⟩ = some (.int .i64 b') := cell_in HST.out.blk 2 rfl
    have hmax := hp_max (some ⟨ga, 0, none⟩) ca a' wr (Kd.R_reads' HST.out.rA).2.2 (by rw [HLA'.out]; exact hn0) (by rw [HLA'.out]; exact hn)
    rw [HLA'.out] at hmax
    have HMX := Aside0.mk (maxV_gt a' 1099511627776 (by rw [HLA'.out]; exact hn0))
    obtain ⟨mm, hmm⟩ : ∃ mm, mm = maxV a' := ⟨_, rfl⟩
    rw [← hmm] at hmax HMX
    clear hmm
    by_cases hgr : greatB a' b' = true
    · have hk0 : k = 0 := by
        rcases Nat.lt_or_ge k 1 with h | h
        · omega
        · exfalso
          obtain rfl : k = 1 := by omega
          rw [ha', hb'] at hgr
          have := HF.out.notgreat
          rw [show greatB (scAct act 1) (scBy by_ 1) = false from this] at hgr
          cases hgr
      subst hk0
      have HGR := Aside0.mk hgr
      have hgr2 : 1099511627776 < b' ∨ (¬ 1099511627776 < b' ∧ 1099511627776 < mm) := by
        by_cases h : 1099511627776 < b'
        · exact .inl h
        · refine .inr ⟨h, HMX.out.2 ?_⟩
          unfold greatB at hgr
          simpa [h] using hgr
      clear hgr
      have HA0 := Aside0.mk (show a' = act from ha')
      have HB0 := Aside0.mk (show b' = by_ from hb')
      have hb0 : 0 ≤ b' := by rw [HB0.out]; exact HF.out.by1
      have hb9 : b' ≤ 2199023255552 := by rw [HB0.out]; exact HF.out.by2
      clear ha' hb'
      rcases hgr2 with h1 | ⟨h1, h2⟩
      · go_upto_region 3 with (go_at_call 175; refine hmax.mono ?_; rintro e w3 ⟨rfl, rfl⟩)
        clear hmax hc0 hc1 hc2 h1 HMX
        go_loopg [3, 25] n (fun gg s3 s25 wr => ∃ i : Nat, i ≤ n ∧ n - i ≤ gg ∧ s25 = .int .i64 i ∧ Aside0 (ScSt w base gw gr ga n ca vL (downTo a' i) l b' wr))
        case atStart => exact ⟨0, Nat.zero_le _, by omega, rfl, ⟨by rw [downTo_zero]; exact HST.out⟩⟩
        case round =>
          clear HST
          obtain ⟨i, hi, hg2, rfl, HST⟩ := hrel
          have hc0 : wr.cell? ⟨gw, 0, none⟩ = some (.slice (some ⟨ga, 0, none⟩) n ca) := cell_in HST.out.blk 0 rfl
          have hc2 : wr.cell? ⟨gw, 2, none⟩ = some (.int .i64 b') := cell_in HST.out.blk 2 rfl
          by_cases hlt : i < n
          · have hltz : (i : Int) < (n : Int) := by omega
            have hrow := HST.out.rA
            rw [show n = (downTo a' i).length by rw [downTo_length, HLA'.out]] at hrow
            obtain ⟨hce, hfe⟩ := Kd.R_cell (d := (0 : Int)) hrow (i : Int) (by omega) (by rw [downTo_length, HLA'.out]; omega)
            rw [Int.toNat_natCast, show rdOf (0 : Int) (downTo a' i) (i : Int) = rd a' (i : Int) from downTo_rd (by rw [HLA'.out]; exact hlt)] at hce
            rw [Int.toNat_natCast] at hfe
            clear hrow
            have hx0 : 0 ≤ rd a' (i : Int) := by rw [HA0.out]; exact (HF.out.at_ (by rw [HLA.out]; exact hlt)).1
            have hx9 : rd a' (i : Int) ≤ 2199023255552 := by rw [HA0.out]; exact (HF.out.at_ (by rw [HLA.out]; exact hlt)).2
            have HNX := Aside0.mk (HST.out.putA i (rd a' (i : Int) / 1024))
            rw [downTo_next (by rw [HLA'.out]; exact hlt)] at HNX
            obtain ⟨x, hx⟩ : ∃ x, x = rd a' (i : Int) := ⟨_, rfl⟩
            rw [← hx] at hce hx0 hx9 HNX
            clear hx
            go_wp2
            go_roundg (n - (i + 1))
            case measure => omega
            case rel => exact ⟨i + 1, by omega, by omega, by go_num, HNX⟩
          · have hltz : ¬ (i : Int) < (n : Int) := by omega
            obtain rfl : i = n := by omega
            have hf2 : wr.frozen? ⟨gw, 2, none⟩ = false := blk_frozen HST.out.blk 2
            have HNX := Aside0.mk (HST.out.putBy (byDown b'))
            rw [show downTo a' i = scAct act 1 by rw [← HLA'.out, downTo_all, HA0.out]; rfl, show byDown b' = scBy by_ 1 by rw [HB0.out]; rfl] at HNX
            have HBD := Aside0.mk (show scBy by_ 1 = if b' / 1024 < 1 then 1 else b' / 1024 by rw [HB0.out]; rfl)
            by_cases hb1 : b' / 1024 < 1
            · have hb2 : b' < 1024 := by omega
              rw [HBD.out, if_pos hb1] at HNX
              have HNX2 : Aside0 (ScSt w base gw gr ga i ca vL (scAct act 1) l (scBy by_ 1) (wr.setCell ⟨gw, 2, none⟩ (.int .i64 1))) := ⟨by rw [HBD.out, if_pos hb1]; exact HNX.out⟩
              clear HBD
              go_wp2
              go_roundg 0
              case measure => omega
              case rel => exact ⟨1, by omega, by omega, ⟨fun _ => by have := HGR.out; rwa [HA0.out, HB0.out] at this⟩, HNX2⟩
            · have hb2 : ¬ b' < 1024 := by omega
              have HNX2 : Aside0 (ScSt w base gw gr ga i ca vL (scAct act 1) l (scBy by_ 1) (wr.setCell ⟨gw, 2, none⟩ (.int .i64 (b' / 1024)))) := ⟨by
                have h := HNX.out
                have e : scBy by_ 1 = b' / 1024 := by rw [HBD.out, if_neg hb1]
                rw [e] at h ⊢
                exact h⟩
              clear HBD
              go_wp2
              go_roundg 0
              case measure => omega
              case rel => exact ⟨1, by omega, by omega, ⟨fun _ => by have := HGR.out; rwa [HA0.out, HB0.out] at this⟩, HNX2⟩
      · go_upto_region 3 with (go_at_call 175; refine hmax.mono ?_; rintro e w3 ⟨rfl, rfl⟩)
        clear hmax hc0 hc1 hc2 h1 HMX
        go_loopg [3, 25] n (fun gg s3 s25 wr => ∃ i : Nat, i ≤ n ∧ n - i ≤ gg ∧ s25 = .int .i64 i ∧ Aside0 (ScSt w base gw gr ga n ca vL (downTo a' i) l b' wr))
        case atStart => exact ⟨0, Nat.zero_le _, by omega, rfl, ⟨by rw [downTo_zero]; exact HST.out⟩⟩
        case round =>
          clear HST
          obtain ⟨i, hi, hg2, rfl, HST⟩ := hrel
          have hc0 : wr.cell? ⟨gw, 0, none⟩ = some (.slice (some ⟨ga, 0, none⟩) n ca) := cell_in HST.out.blk 0 rfl
          have hc2 : wr.cell? ⟨gw, 2, none⟩ = some (.int .i64 b') := cell_in HST.out.blk 2 rfl
          by_cases hlt : i < n
          · have hltz : (i : Int) < (n : Int) := by omega
            have hrow := HST.out.rA
            rw [show n = (downTo a' i).length by rw [downTo_length, HLA'.out]] at hrow
            obtain ⟨hce, hfe⟩ := Kd.R_cell (d := (0 : Int)) hrow (i : Int) (by omega) (by rw [downTo_length, HLA'.out]; omega)
            rw [Int.toNat_natCast, show rdOf (0 : Int) (downTo a' i) (i : Int) = rd a' (i : Int) from downTo_rd (by rw [HLA'.out]; exact hlt)] at hce
            rw [Int.toNat_natCast] at hfe
            clear hrow
            have hx0 : 0 ≤ rd a' (i : Int) := by rw [HA0.out]; exact (HF.out.at_ (by rw [HLA.out]; exact hlt)).1
            have hx9 : rd a' (i : Int) ≤ 2199023255552 := by rw [HA0.out]; exact (HF.out.at_ (by rw [HLA.out]; exact hlt)).2
            have HNX := Aside0.mk (HST.out.putA i (rd a' (i : Int) / 1024))
            rw [downTo_next (by rw [HLA'.out]; exact hlt)] at HNX
            obtain ⟨x, hx⟩ : ∃ x, x = rd a' (i : Int) := ⟨_, rfl⟩
            rw [← hx] at hce hx0 hx9 HNX
            clear hx
            go_wp2
            go_roundg (n - (i + 1))
            case measure => omega
            case rel => exact ⟨i + 1, by omega, by omega, by go_num, HNX⟩
          · have hltz : ¬ (i : Int) < (n : Int) := by omega
            obtain rfl : i = n := by omega
            have hf2 : wr.frozen? ⟨gw, 2, none⟩ = false := blk_frozen HST.out.blk 2
            have HNX := Aside0.mk (HST.out.putBy (byDown b'))
            rw [show downTo a' i = scAct act 1 by rw [← HLA'.out, downTo_all, HA0.out]; rfl, show byDown b' = scBy by_ 1 by rw [HB0.out]; rfl] at HNX
            have HBD := Aside0.mk (show scBy by_ 1 = if b' / 1024 < 1 then 1 else b' / 1024 by rw [HB0.out]; rfl)
            by_cases hb1 : b' / 1024 < 1
            · have hb2 : b' < 1024 := by omega
              rw [HBD.out, if_pos hb1] at HNX
              have HNX2 : Aside0 (ScSt w base gw gr ga i ca vL (scAct act 1) l (scBy by_ 1) (wr.setCell ⟨gw, 2, none⟩ (.int .i64 1))) := ⟨by rw [HBD.out, if_pos hb1]; exact HNX.out⟩
              clear HBD
              go_wp2
              go_roundg 0
              case measure => omega
              case rel => exact ⟨1, by omega, by omega, ⟨fun _ => by have := HGR.out; rwa [HA0.out, HB0.out] at this⟩, HNX2⟩
            · have hb2 : ¬ b' < 1024 := by omega
              have HNX2 : Aside0 (ScSt w base gw gr ga i ca vL (scAct act 1) l (scBy by_ 1) (wr.setCell ⟨gw, 2, none⟩ (.int .i64 (b' / 1024)))) := ⟨by
                have h := HNX.out
                have e : scBy by_ 1 = b' / 1024 := by rw [HBD.out, if_neg hb1]
                rw [e] at h ⊢
                exact h⟩
              clear HBD
              go_wp2
              go_roundg 0
              case measure => omega
              case rel => exact ⟨1, by omega, by omega, ⟨fun _ => by have := HGR.out; rwa [HA0.out, HB0.out] at this⟩, HNX2⟩
    · rw [Bool.not_eq_true] at hgr
      have h1 : ¬ 1099511627776 < b' := by
        intro h
        unfold greatB at hgr
        simp [h] at hgr
      have h2 : ¬ 1099511627776 < mm := by
        intro h
        have := HMX.out.1 h
        unfold greatB at hgr
        rw [this] at hgr
        simp at hgr
      have HGR := Aside0.mk hgr
      have HAB := Aside0.mk (show a' = scAct act k ∧ b' = scBy by_ k from ⟨ha', hb'⟩)
      have hsort := HST.out.sort HSORT.out (fun x hx => by rw [HLA'.out]; have := HL.out x hx; rwa [HLA.out] at this) HN.out
      clear hgr ha' hb'
      go_upto_region 9 with (first | (go_at_call 175; refine hmax.mono ?_; rintro e w3 ⟨rfl, rfl⟩) | (go_at_call 109; refine hsort.mono ?_; rintro e w4 ⟨rfl, hS4⟩; have HST4 := Aside0.mk hS4; clear hS4))
      clear hmax hc0 hc1 hc2 hsort h1 h2 HST HMX
      have HV := Aside0.mk (show scaledV act l by_ = (a', sortA a' l, b') by
        rw [HAB.out.1, HAB.out.2]
        have hg := HGR.out
        rw [HAB.out.1, HAB.out.2] at hg
        rcases Nat.lt_or_ge k 1 with h | h
        · obtain rfl : k = 0 := by omega
          rw [scaledV, if_neg (by rw [show greatB act by_ = false from hg]; simp)]
          rfl
        · obtain rfl : k = 1 := by omega
          rw [scaledV, if_pos (HK1.out rfl)]
          rfl)
      have g0 : w4.cell? ⟨gw, 0, none⟩ = some (.slice (some ⟨ga, 0, none⟩) n ca) := cell_in HST4.out.blk 0 rfl
      have g1 : w4.cell? ⟨gw, 1, none⟩ = some vL := cell_in HST4.out.blk 1 rfl
      have g2 : w4.cell? ⟨gw, 2, none⟩ = some (.int .i64 b') := cell_in HST4.out.blk 2 rfl
      have z0 : w4.cell? ⟨gr, 0, none⟩ = some (.slice none 0 0) := cell_in HST4.out.res 0 rfl
      have z1 : w4.cell? ⟨gr, 1, none⟩ = some (.slice none 0 0) := cell_in HST4.out.res 1 rfl
      have z2 : w4.cell? ⟨gr, 2, none⟩ = some (.int .i64 0) := cell_in HST4.out.res 2 rfl
      have zf0 : w4.frozen? ⟨gr, 0, none⟩ = false := blk_frozen HST4.out.res 0
      have zf1 : w4.frozen? ⟨gr, 1, none⟩ = false := blk_frozen HST4.out.res 1
      have zf2 : w4.frozen? ⟨gr, 2, none⟩ = false := blk_frozen HST4.out.res 2
      obtain ⟨AL, cl, evL⟩ := Kd.R_slice HST4.out.rL
      subst evL
      go_wp2
      refine bodyPost_ret (results_single rfl (Vals.cell gr 74 #[.slice (some ⟨ga, 0, none⟩) n ca, .slice AL (sortA a' l).length cl, .int .i64 b'] (0, 0) _ rfl (heap_put HST4.out.res) Try.underlying74 rfl (by kernel_rfl) Vals.nil)) rfl ?_
      unfold ScPost
      rw [HV.out]
      exact ⟨_, _, rfl, set3_R HST4.out.rA HST4.out.res, set3_R (Kd.R_mono HST4.out.rL (fun k hk => hk)) HST4.out.res, ((HST4.out.below.setCell HGR0.out _).setCell HGR0.out _).setCell HGR0.out _⟩
end Go.Proofs.Ytobadajeekdakaa.Print

namespace Go.Proofs.Ytobadajeekdakaa.Print
open Go.RowKit Go.Proofs.YtobadajeekdakaaW.PrintWords Go.Proofs.YtobadajeekdakaaW.PrintLast Go.Proofs.YtobadajeekdakaaW.PrintMore
open Go.Sort (grow alloc_eq_grow)
open Go.Shelf
attribute [local go_sem] max2_int min2_int max_two min_two
set_option linter.unusedVariables false
set_option linter.unusedSimpArgs false

def smallN (N : Nat) (act l : List Int) : Bool := decide (act.length ≤ 100000 ∧ l.length ≤ N ∧ l.length ≤ 100000)
def bumpV (act l : List Int) (by_ v : Int) : List Int × List Int × Int × Int :=
  if hpCheckV act l by_ ≠ 0 then ([], [], 0, hpCheckV act l by_)
  else if knownB' act v = false then ([], [], 0, 1)
  else ((scaledV (act.set v.toNat (rd act v + by_)) l by_).1, (scaledV (act.set v.toNat (rd act v + by_)) l by_).2.1, (scaledV (act.set v.toNat (rd act v + by_)) l by_).2.2, 0)
def decayV (act l : List Int) (by_ : Int) : List Int × List Int × Int × Int :=
  if hpCheckV act l by_ ≠ 0 then ([], [], 0, hpCheckV act l by_)
  else ((scaledV act l (by_ + (by_ / 20 + 1))).1, (scaledV act l (by_ + (by_ / 20 + 1))).2.1, (scaledV act l (by_ + (by_ / 20 + 1))).2.2, 0)
/-- What a heap that is in order tells of its numbers. -/
structure Valid (act l : List Int) (by_ : Int) : Prop where
  pos : 0 < act.length
  le : act.length ≤ 65537
  odd : ∀ x ∈ act, 0 ≤ x ∧ x ≤ 1099511627776
  by1 : 1 ≤ by_
  by2 : by_ ≤ 1099511627776
  row : rowOkB act l = true
  zero : rd act 0 = 0
theorem valid_of {act l : List Int} {by_ : Int} (h : hpCheckV act l by_ = 0) : Valid act l by_ := by
  have hrow := check_rowOk h
  unfold hpCheckV at h
  split at h
  · omega
  · rename_i h1
    split at h
    · omega
    · rename_i h2
      have h3 : act.any oddB = false := by
        cases hh : act.any oddB with
        | false => rfl
        | true => exact absurd (.inr (.inr (.inr hh))) h1
      rw [List.any_eq_false] at h3
      have h4 : ¬ (oddB by_ = true) := fun hh => h2 (.inr hh)
      have h5 : by_ ≠ 0 := fun hh => h2 (.inl hh)
      have h6 : act.length ≠ 0 := fun hh => h1 (.inl hh)
      have h7 : ¬ 65537 < act.length := fun hh => h1 (.inr (.inl hh))
      have h8 : rd act 0 = 0 := Classical.byContradiction fun hh => h1 (.inr (.inr (.inl hh)))
      simp only [oddB, decide_eq_true_eq] at h3 h4
      exact ⟨by omega, by omega, fun x hx => by have := h3 x hx; omega, by omega, by omega, hrow, h8⟩
theorem Valid.inR {act l : List Int} {by_ : Int} (h : Valid act l by_) : InR act l := by
  intro x hx
  obtain ⟨i, hi, rfl⟩ := List.getElem_of_mem hx
  have := (rowOk_at h.row i hi).1
  rw [rd_get hi] at this
  simp only [knownB', decide_eq_true_eq] at this
  omega
theorem Valid.fair {act l : List Int} {by_ : Int} (h : Valid act l by_) : Fair act (by_ + (by_ / 20 + 1)) := by
  have h1 := h.by1
  have h2 := h.by2
  exact ⟨fun x hx => by have := h.odd x hx; omega, by omega, by omega⟩
theorem Valid.at_ {act l : List Int} {by_ : Int} (h : Valid act l by_) {i : Nat} (hi : i < act.length) : 0 ≤ rd act (i : Int) ∧ rd act (i : Int) ≤ 1099511627776 := h.odd _ (by rw [rd_get hi]; exact List.getElem_mem _)
theorem Valid.fair_set {act l : List Int} {by_ : Int} (h : Valid act l by_) {i : Nat} (hi : i < act.length) : Fair (act.set i (rd act (i : Int) + by_)) by_ := by
  have h1 := h.by1
  have h2 := h.by2
  refine ⟨fun x hx => ?_, by omega, by omega⟩
  rcases List.mem_or_eq_of_mem_set hx with h3 | rfl
  · have := h.odd x h3; omega
  · have := h.at_ hi; omega

set_option maxHeartbeats 8000000 in
set_option maxRecDepth 100000 in
theorem heap_Bump_any {N : Nat} (hsort : HSort N) (A0_0 : Option Addr) (c0_0 : Nat) (l0_0 : List Int) (A0_1 : Option Addr) (c0_1 : Nat) (l0_1 : List Int) (a0_2 a1 : Int) (r1 r2 : List Int) (r3 r4 : Int) (w : World) (hr0_0 : Kd.C (Kd.int .i64) w A0_0 l0_0.length l0_0) (_hc0_0 : l0_0.length ≤ c0_0) (hr0_1 : Kd.C (Kd.int .i64) w A0_1 l0_1.length l0_1) (_hc0_1 : l0_1.length ≤ c0_1) (hs : smallN N l0_0 l0_1 = true) (h : bumpV l0_0 l0_1 a0_2 a1 = (r1, r2, r3, r4)) :
    Calls Try.prog 70 #[.agg #[.slice A0_0 l0_0.length c0_0, .slice A0_1 l0_1.length c0_1, .int .i64 a0_2], .int .i64 a1] w fun e w' => ∃ v0_ v1_ : Value, e = .returned (.tuple #[.agg #[v0_, v1_, .int .i64 r3], .int .i64 r4]) ∧ Kd.R (Kd.int .i64) 3 w' w.heap.size (fun k_ => some k_ ≠ (v1_ : Value).ownBlock) v0_ r1 ∧ Kd.R (Kd.int .i64) 3 w' w.heap.size (fun k_ => some k_ ≠ (v0_ : Value).ownBlock) v1_ r2 ∧ Below w.heap.size w w' := by
  have HA := Aside0.mk hr0_0
  have HB := Aside0.mk hr0_1
  have HSORT := Aside0.mk hsort
  have hu74 := Try.underlying74
  have HS := Aside0.mk (show l0_0.length ≤ 100000 ∧ l0_1.length ≤ N ∧ l0_1.length ≤ 100000 by simpa [smallN] using hs)
  have HV := Aside0.mk h
  clear h hs hr0_0 hr0_1 hsort
  obtain ⟨r, hr⟩ : ∃ r, hpCheckV l0_0 l0_1 a0_2 = r := ⟨_, rfl⟩
  by_cases h0 : r = 0
  · subst h0
    have HR := Aside0.mk hr
    have HVA := Aside0.mk (valid_of hr)
    clear hr
    cases hk : knownB' l0_0 a1 with
    | false =>
      have HK := Aside0.mk hk
      clear hk
      go_enter Try.func70, Try.ntmps70
      go_upto_region 1 with (fail)
      have HX := Aside0.mk (blk_alloc (blk_new w (.cells #[.slice A0_0 l0_0.length c0_0, .slice A0_1 l0_1.length c0_1, .int .i64 a0_2] 74 (0, 0))) Z74)
      have HZ := Aside0.mk (blk_new (w.alloc (.cells #[.slice A0_0 l0_0.length c0_0, .slice A0_1 l0_1.length c0_1, .int .i64 a0_2] 74 (0, 0))) Z74)
      have HBL := Aside0.mk (below_alloc (below_alloc (Below.refl _ w) (.cells #[.slice A0_0 l0_0.length c0_0, .slice A0_1 l0_1.length c0_1, .int .i64 a0_2] 74 (0, 0))) Z74)
      rw [World.size_alloc] at HZ
      have HGE := Aside0.mk (show w.heap.size ≤ w.heap.size + 1 by omega)
      generalize (w.alloc (.cells #[.slice A0_0 l0_0.length c0_0, .slice A0_1 l0_1.length c0_1, .int .i64 a0_2] 74 (0, 0))).alloc Z74 = w1 at HX HZ HBL ⊢
      generalize w.heap.size + 1 = gz at HZ HGE ⊢
      have e0 : w1.cell? ⟨w.heap.size, 0, none⟩ = some (.slice A0_0 l0_0.length c0_0) := cell_in HX.out 0 rfl
      have e1 : w1.cell? ⟨w.heap.size, 1, none⟩ = some (.slice A0_1 l0_1.length c0_1) := cell_in HX.out 1 rfl
      have e2 : w1.cell? ⟨w.heap.size, 2, none⟩ = some (.int .i64 a0_2) := cell_in HX.out 2 rfl
      have hcall := begun_yes (c0 := c0_0) (c1 := c0_1) (Kd.C_below HA.out HBL.out) (Kd.C_below HB.out HBL.out) HS.out.1 HS.out.2.2 HR.out
      go_upto_region 4 with (go_at_call 143; refine hcall.mono ?_; rintro e w2 ⟨gw, rfl, hw2, hb2⟩; have HW := Aside0.mk hw2; have HZ2 := Aside0.mk (blk_below HZ.out hb2); have HBL2 := Aside0.mk (below_step HBL.out hb2); have HBASE := Aside0.mk HBL.out.size; have HZL := Aside0.mk (blk_lt HZ.out); clear hw2 hb2 e0 e1 e2)
      obtain ⟨vA, vL, hgw, hbg, hRA, hRL⟩ := HW.out
      obtain ⟨AA, ca, rfl⟩ := Kd.R_slice hRA
      obtain ⟨AL, cl, rfl⟩ := Kd.R_slice hRL
      have HGW := Aside0.mk hgw
      have HBG := Aside0.mk hbg
      have HRA := Aside0.mk hRA
      have HRL := Aside0.mk hRL
      clear hgw hbg hRA hRL HW hcall
      have hkn := known_any gw AA AL l0_0.length ca l0_1.length cl l0_0 a0_2 a1 w2 rfl HGW.out
      rw [HK.out] at hkn
      have z0 : w2.cell? ⟨gz, 0, none⟩ = some (.slice none 0 0) := cell_in HZ2.out 0 rfl
      have z1 : w2.cell? ⟨gz, 1, none⟩ = some (.slice none 0 0) := cell_in HZ2.out 1 rfl
      have z2 : w2.cell? ⟨gz, 2, none⟩ = some (.int .i64 0) := cell_in HZ2.out 2 rfl
      have zf0 : w2.frozen? ⟨gz, 0, none⟩ = false := blk_frozen HZ2.out 0
      have zf1 : w2.frozen? ⟨gz, 1, none⟩ = false := blk_frozen HZ2.out 1
      have zf2 : w2.frozen? ⟨gz, 2, none⟩ = false := blk_frozen HZ2.out 2
      go_wp2_with (go_at_call 144; refine hkn.mono ?_; rintro e w3 ⟨rfl, rfl⟩)
      have hv : (([] : List Int), ([] : List Int), (0 : Int), (1 : Int)) = (r1, r2, r3, r4) := by
        rw [← HV.out, bumpV, HR.out, if_neg (by simp), if_pos HK.out]
      simp only [Prod.mk.injEq] at hv
      obtain ⟨rfl, rfl, rfl, rfl⟩ := hv
      refine bodyPost_ret (results_ct rfl _ _ gz 74 #[.slice none 0 0, .slice none 0 0, .int .i64 0] (0, 0) _ rfl (zero_put HZ2.out) Try.underlying74 rfl (by kernel_rfl)) rfl ?_
      exact ⟨_, _, rfl, Kd.R_nil _ _ _ _ _, Kd.R_nil _ _ _ _ _, below_set (below_set (below_set HBL2.out HGE.out) HGE.out) HGE.out⟩
    | true =>
      have hk2 : 0 < a1 ∧ a1 < l0_0.length := by simpa [knownB'] using hk
      have HK := Aside0.mk hk
      clear hk
      obtain ⟨vn, rfl⟩ : ∃ vn : Nat, a1 = (vn : Int) := ⟨a1.toNat, by omega⟩
      have hvn : vn < l0_0.length := by omega
      have HVN := Aside0.mk hvn
      clear hk2
      go_enter Try.func70, Try.ntmps70
      go_upto_region 1 with (fail)
      have HX := Aside0.mk (blk_alloc (blk_new w (.cells #[.slice A0_0 l0_0.length c0_0, .slice A0_1 l0_1.length c0_1, .int .i64 a0_2] 74 (0, 0))) Z74)
      have HZ := Aside0.mk (blk_new (w.alloc (.cells #[.slice A0_0 l0_0.length c0_0, .slice A0_1 l0_1.length c0_1, .int .i64 a0_2] 74 (0, 0))) Z74)
      have HBL := Aside0.mk (below_alloc (below_alloc (Below.refl _ w) (.cells #[.slice A0_0 l0_0.length c0_0, .slice A0_1 l0_1.length c0_1, .int .i64 a0_2] 74 (0, 0))) Z74)
      rw [World.size_alloc] at HZ
      have HGE := Aside0.mk (show w.heap.size ≤ w.heap.size + 1 by omega)
      generalize (w.alloc (.cells #[.slice A0_0 l0_0.length c0_0, .slice A0_1 l0_1.length c0_1, .int .i64 a0_2] 74 (0, 0))).alloc Z74 = w1 at HX HZ HBL ⊢
      generalize w.heap.size + 1 = gz at HZ HGE ⊢
      have e0 : w1.cell? ⟨w.heap.size, 0, none⟩ = some (.slice A0_0 l0_0.length c0_0) := cell_in HX.out 0 rfl
      have e1 : w1.cell? ⟨w.heap.size, 1, none⟩ = some (.slice A0_1 l0_1.length c0_1) := cell_in HX.out 1 rfl
      have e2 : w1.cell? ⟨w.heap.size, 2, none⟩ = some (.int .i64 a0_2) := cell_in HX.out 2 rfl
      have hcall := begun_yes (c0 := c0_0) (c1 := c0_1) (Kd.C_below HA.out HBL.out) (Kd.C_below HB.out HBL.out) HS.out.1 HS.out.2.2 HR.out
      go_upto_region 4 with (go_at_call 143; refine hcall.mono ?_; rintro e w2 ⟨gw, rfl, hw2, hb2⟩; have HW := Aside0.mk hw2; have HZ2 := Aside0.mk (blk_below HZ.out hb2); have HBL2 := Aside0.mk (below_step HBL.out hb2); have HBASE := Aside0.mk HBL.out.size; have HZL := Aside0.mk (blk_lt HZ.out); clear hw2 hb2 e0 e1 e2)
      obtain ⟨vA, vL, hgw, hbg, hRA, hRL⟩ := HW.out
      obtain ⟨AA, ca, rfl⟩ := Kd.R_slice hRA
      obtain ⟨AL, cl, rfl⟩ := Kd.R_slice hRL
      have HGW := Aside0.mk hgw
      have HBG := Aside0.mk hbg
      have HRA := Aside0.mk hRA
      have HRL := Aside0.mk hRL
      clear hgw hbg hRA hRL HW hcall
      have hkn := known_any gw AA AL l0_0.length ca l0_1.length cl l0_0 a0_2 vn w2 rfl HGW.out
      rw [HK.out] at hkn
      obtain ⟨ga, rfl⟩ : ∃ ga, AA = some ⟨ga, 0, none⟩ := by
        obtain ⟨_, h2 | ⟨g, cap, cur, e1, _⟩⟩ := Kd.own_of_R HRA.out
        · have := HVA.out.pos; omega
        · injection e1 with e1 _ _
          exact ⟨g, e1⟩
      have g0 : w2.cell? ⟨gw, 0, none⟩ = some (.slice (some ⟨ga, 0, none⟩) l0_0.length ca) := cell_in HGW.out 0 rfl
      have g2 : w2.cell? ⟨gw, 2, none⟩ = some (.int .i64 a0_2) := cell_in HGW.out 2 rfl
      obtain ⟨hce, hfe⟩ := Kd.R_cell (d := (0 : Int)) HRA.out (vn : Int) (by omega) (by omega)
      rw [Int.toNat_natCast] at hce hfe
      replace hce : w2.cell? ⟨ga, vn, none⟩ = some (.int .i64 (rd l0_0 (vn : Int))) := hce
      have hx1 := (HVA.out.at_ hvn).1
      have hx2 := (HVA.out.at_ hvn).2
      have hy1 := HVA.out.by1
      have hy2 := HVA.out.by2
      obtain ⟨hp1, hp2⟩ := Kd.R_putg HRA.out (vn : Int) (rd l0_0 (vn : Int) + a0_2)
      rw [Int.toNat_natCast] at hp1 hp2
      have HP1 := Aside0.mk (Kd.R_drew hp1)
      have HP2 := Aside0.mk (Kd.R_drew (Kd.R_grown HRL.out hp2 (fun k hk => hk)))
      have hgne : gw ≠ ga := fun e => by
        have := Kd.R_ne HRA.out HGW.out (by decide)
        rw [e] at this
        exact this rfl
      have hzne : gz ≠ ga := fun e => by
        have := Kd.R_ne HRA.out HZ2.out (by decide)
        rw [e] at this
        exact this rfl
      have HGW3 := Aside0.mk (blk_drew (blk_far HGW.out (p := ⟨ga, vn, none⟩) hgne (.int .i64 (rd l0_0 (vn : Int) + a0_2))))
      have HZ3 := Aside0.mk (blk_drew (blk_far HZ2.out (p := ⟨ga, vn, none⟩) hzne (.int .i64 (rd l0_0 (vn : Int) + a0_2))))
      have HBL3 := Aside0.mk (below_drew1 (below_set (j := vn) (v := .int .i64 (rd l0_0 (vn : Int) + a0_2)) HBL2.out (Nat.le_trans HBASE.out (Kd.R_base HRA.out ga rfl))))
      obtain ⟨x, hx⟩ : ∃ x, x = rd l0_0 (vn : Int) := ⟨_, rfl⟩
      rw [← hx] at hce hx1 hx2 HP1 HP2 HGW3 HZ3 HBL3
      have HX := Aside0.mk hx
      have hvz : (vn : Int) < (l0_0.length : Int) := by omega
      have hw1 : IntKind.i64.wrap (x + a0_2) = x + a0_2 := by rw [IntKind.wrap_i64]; omega
      clear hx hp1 hp2 hgne hzne
      go_upto_region 6 with (go_at_call 144; refine hkn.mono ?_; rintro e w3 ⟨rfl, rfl⟩)
      go_region
      generalize (w2.setCell ⟨ga, vn, none⟩ (.int .i64 (x + a0_2))).drew = w3 at HP1 HP2 HGW3 HZ3 HBL3 ⊢
      have hsc := scaled_any HSORT.out w1.heap.size gw ga l0_0.length ca (.slice AL l0_1.length cl) (l0_0.set vn (x + a0_2)) l0_1 a0_2 w3 HGW3.out HBG.out HP1.out HP2.out (by rw [HX.out]; exact HVA.out.fair_set HVN.out) HVA.out.pos HS.out.1 (fun y hy => by rw [List.length_set]; exact HVA.out.inR y hy) HS.out.2.1
      clear hw1 hx1 hx2 hy1 hy2 hce hfe g0 g2 hkn
      go_wp2_with (go_at_call 145; refine hsc.mono ?_; rintro e w4 ⟨vA4, vL4, rfl, hRA4, hRL4, hb4⟩; obtain ⟨AA4, ca4, rfl⟩ := Kd.R_slice hRA4; obtain ⟨AL4, cl4, rfl⟩ := Kd.R_slice hRL4; have HRA4 := Aside0.mk hRA4; have HRL4 := Aside0.mk hRL4; have HZ4 := Aside0.mk ((hb4.block _ HZL.out).trans HZ3.out); have HBL4 := Aside0.mk (HBL3.out.trans (hb4.mono HBASE.out)); clear hRA4 hRL4 hb4; have z0 : w4.cell? ⟨gz, 0, none⟩ = some (.slice none 0 0) := cell_in HZ4.out 0 rfl; have z1 : w4.cell? ⟨gz, 1, none⟩ = some (.slice none 0 0) := cell_in HZ4.out 1 rfl; have z2 : w4.cell? ⟨gz, 2, none⟩ = some (.int .i64 0) := cell_in HZ4.out 2 rfl; have zf0 : w4.frozen? ⟨gz, 0, none⟩ = false := blk_frozen HZ4.out 0; have zf1 : w4.frozen? ⟨gz, 1, none⟩ = false := blk_frozen HZ4.out 1; have zf2 : w4.frozen? ⟨gz, 2, none⟩ = false := blk_frozen HZ4.out 2)
      have hv : ((scaledV (l0_0.set vn (x + a0_2)) l0_1 a0_2).1, (scaledV (l0_0.set vn (x + a0_2)) l0_1 a0_2).2.1, (scaledV (l0_0.set vn (x + a0_2)) l0_1 a0_2).2.2, (0 : Int)) = (r1, r2, r3, r4) := by
        rw [← HV.out, bumpV, HR.out, if_neg (by simp), if_neg (by rw [HK.out]; simp), Int.toNat_natCast, ← HX.out]
      simp only [Prod.mk.injEq] at hv
      obtain ⟨rfl, rfl, rfl, rfl⟩ := hv
      refine bodyPost_ret (results_ct rfl _ _ gz 74 #[.slice AA4 (scaledV (l0_0.set vn (x + a0_2)) l0_1 a0_2).1.length ca4, .slice AL4 (scaledV (l0_0.set vn (x + a0_2)) l0_1 a0_2).2.1.length cl4, .int .i64 (scaledV (l0_0.set vn (x + a0_2)) l0_1 a0_2).2.2] (0, 0) _ rfl (heap_put HZ4.out) Try.underlying74 rfl (by kernel_rfl)) rfl ?_
      exact ⟨_, _, rfl, set3_R (Kd.R_lower HRA4.out HBASE.out) HZ4.out, set3_R (Kd.R_lower HRL4.out HBASE.out) HZ4.out, below_set (below_set (below_set HBL4.out HGE.out) HGE.out) HGE.out⟩
  · have H0 := Aside0.mk h0
    have h0z : (r != 0) = true := by simp [h0]
    have HR := Aside0.mk hr
    go_enter Try.func70, Try.ntmps70
    go_upto_region 1 with (fail)
    have HX := Aside0.mk (blk_alloc (blk_new w (.cells #[.slice A0_0 l0_0.length c0_0, .slice A0_1 l0_1.length c0_1, .int .i64 a0_2] 74 (0, 0))) Z74)
    have HZ := Aside0.mk (blk_new (w.alloc (.cells #[.slice A0_0 l0_0.length c0_0, .slice A0_1 l0_1.length c0_1, .int .i64 a0_2] 74 (0, 0))) Z74)
    have HBL := Aside0.mk (below_alloc (below_alloc (Below.refl _ w) (.cells #[.slice A0_0 l0_0.length c0_0, .slice A0_1 l0_1.length c0_1, .int .i64 a0_2] 74 (0, 0))) Z74)
    rw [World.size_alloc] at HZ
    have HGE := Aside0.mk (show w.heap.size ≤ w.heap.size + 1 by omega)
    generalize (w.alloc (.cells #[.slice A0_0 l0_0.length c0_0, .slice A0_1 l0_1.length c0_1, .int .i64 a0_2] 74 (0, 0))).alloc Z74 = w1 at HX HZ HBL ⊢
    generalize w.heap.size + 1 = gz at HZ HGE ⊢
    have e0 : w1.cell? ⟨w.heap.size, 0, none⟩ = some (.slice A0_0 l0_0.length c0_0) := cell_in HX.out 0 rfl
    have e1 : w1.cell? ⟨w.heap.size, 1, none⟩ = some (.slice A0_1 l0_1.length c0_1) := cell_in HX.out 1 rfl
    have e2 : w1.cell? ⟨w.heap.size, 2, none⟩ = some (.int .i64 a0_2) := cell_in HX.out 2 rfl
    have hcall := begun_no (c0 := c0_0) (c1 := c0_1) (Kd.C_below HA.out HBL.out) (Kd.C_below HB.out HBL.out) HS.out.1 HS.out.2.2 HR.out H0.out
    clear h0 hr
    go_upto_region 3 with (go_at_call 143; refine hcall.mono ?_; rintro e w2 ⟨rfl, hb2⟩; have HZ2 := Aside0.mk (blk_below HZ.out hb2); have HBL2 := Aside0.mk (below_step HBL.out hb2); clear hb2 e0 e1 e2)
    have z0 : w2.cell? ⟨gz, 0, none⟩ = some (.slice none 0 0) := cell_in HZ2.out 0 rfl
    have z1 : w2.cell? ⟨gz, 1, none⟩ = some (.slice none 0 0) := cell_in HZ2.out 1 rfl
    have z2 : w2.cell? ⟨gz, 2, none⟩ = some (.int .i64 0) := cell_in HZ2.out 2 rfl
    have zf0 : w2.frozen? ⟨gz, 0, none⟩ = false := blk_frozen HZ2.out 0
    have zf1 : w2.frozen? ⟨gz, 1, none⟩ = false := blk_frozen HZ2.out 1
    have zf2 : w2.frozen? ⟨gz, 2, none⟩ = false := blk_frozen HZ2.out 2
    go_wp2
    have hv : (([] : List Int), ([] : List Int), (0 : Int), (r : Int)) = (r1, r2, r3, r4) := by
      rw [← HV.out, bumpV, HR.out, if_pos H0.out]
    simp only [Prod.mk.injEq] at hv
    obtain ⟨rfl, rfl, rfl, rfl⟩ := hv
    refine bodyPost_ret (results_ct rfl _ _ gz 74 #[.slice none 0 0, .slice none 0 0, .int .i64 0] (0, 0) _ rfl (zero_put HZ2.out) Try.underlying74 rfl (by kernel_rfl)) rfl ?_
    exact ⟨_, _, rfl, Kd.R_nil _ _ _ _ _, Kd.R_nil _ _ _ _ _, below_set (below_set (below_set HBL2.out HGE.out) HGE.out) HGE.out⟩

set_option maxHeartbeats 8000000 in
set_option maxRecDepth 100000 in
theorem heap_Decay_any {N : Nat} (hsort : HSort N) (A0_0 : Option Addr) (c0_0 : Nat) (l0_0 : List Int) (A0_1 : Option Addr) (c0_1 : Nat) (l0_1 : List Int) (a0_2 : Int) (r1 r2 : List Int) (r3 r4 : Int) (w : World) (hr0_0 : Kd.C (Kd.int .i64) w A0_0 l0_0.length l0_0) (_hc0_0 : l0_0.length ≤ c0_0) (hr0_1 : Kd.C (Kd.int .i64) w A0_1 l0_1.length l0_1) (_hc0_1 : l0_1.length ≤ c0_1) (hs : smallN N l0_0 l0_1 = true) (h : decayV l0_0 l0_1 a0_2 = (r1, r2, r3, r4)) :
    Calls Try.prog 72 #[.agg #[.slice A0_0 l0_0.length c0_0, .slice A0_1 l0_1.length c0_1, .int .i64 a0_2]] w fun e w' => ∃ v0_ v1_ : Value, e = .returned (.tuple #[.agg #[v0_, v1_, .int .i64 r3], .int .i64 r4]) ∧ Kd.R (Kd.int .i64) 3 w' w.heap.size (fun k_ => some k_ ≠ (v1_ : Value).ownBlock) v0_ r1 ∧ Kd.R (Kd.int .i64) 3 w' w.heap.size (fun k_ => some k_ ≠ (v0_ : Value).ownBlock) v1_ r2 ∧ Below w.heap.size w w' := by
  have HA := Aside0.mk hr0_0
  have HB := Aside0.mk hr0_1
  have HSORT := Aside0.mk hsort
  have hu74 := Try.underlying74
  have HS := Aside0.mk (show l0_0.length ≤ 100000 ∧ l0_1.length ≤ N ∧ l0_1.length ≤ 100000 by simpa [smallN] using hs)
  have HV := Aside0.mk h
  clear h hs hr0_0 hr0_1 hsort
  obtain ⟨r, hr⟩ : ∃ r, hpCheckV l0_0 l0_1 a0_2 = r := ⟨_, rfl⟩
  by_cases h0 : r = 0
  · subst h0
    have HR := Aside0.mk hr
    have HVA := Aside0.mk (valid_of hr)
    clear hr
    go_enter Try.func72, Try.ntmps72
    go_upto_region 1 with (fail)
    have HX := Aside0.mk (blk_alloc (blk_new w (.cells #[.slice A0_0 l0_0.length c0_0, .slice A0_1 l0_1.length c0_1, .int .i64 a0_2] 74 (0, 0))) Z74)
    have HZ := Aside0.mk (blk_new (w.alloc (.cells #[.slice A0_0 l0_0.length c0_0, .slice A0_1 l0_1.length c0_1, .int .i64 a0_2] 74 (0, 0))) Z74)
    have HBL := Aside0.mk (below_alloc (below_alloc (Below.refl _ w) (.cells #[.slice A0_0 l0_0.length c0_0, .slice A0_1 l0_1.length c0_1, .int .i64 a0_2] 74 (0, 0))) Z74)
    rw [World.size_alloc] at HZ
    have HGE := Aside0.mk (show w.heap.size ≤ w.heap.size + 1 by omega)
    generalize (w.alloc (.cells #[.slice A0_0 l0_0.length c0_0, .slice A0_1 l0_1.length c0_1, .int .i64 a0_2] 74 (0, 0))).alloc Z74 = w1 at HX HZ HBL ⊢
    generalize w.heap.size + 1 = gz at HZ HGE ⊢
    have e0 : w1.cell? ⟨w.heap.size, 0, none⟩ = some (.slice A0_0 l0_0.length c0_0) := cell_in HX.out 0 rfl
    have e1 : w1.cell? ⟨w.heap.size, 1, none⟩ = some (.slice A0_1 l0_1.length c0_1) := cell_in HX.out 1 rfl
    have e2 : w1.cell? ⟨w.heap.size, 2, none⟩ = some (.int .i64 a0_2) := cell_in HX.out 2 rfl
    have hcall := begun_yes (c0 := c0_0) (c1 := c0_1) (Kd.C_below HA.out HBL.out) (Kd.C_below HB.out HBL.out) HS.out.1 HS.out.2.2 HR.out
    go_upto_region 4 with (go_at_call 143; refine hcall.mono ?_; rintro e w2 ⟨gw, rfl, hw2, hb2⟩; have HW := Aside0.mk hw2; have HZ2 := Aside0.mk (blk_below HZ.out hb2); have HBL2 := Aside0.mk (below_step HBL.out hb2); have HBASE := Aside0.mk HBL.out.size; have HZL := Aside0.mk (blk_lt HZ.out); clear hw2 hb2 e0 e1 e2)
    obtain ⟨vA, vL, hgw, hbg, hRA, hRL⟩ := HW.out
    obtain ⟨AA, ca, rfl⟩ := Kd.R_slice hRA
    obtain ⟨AL, cl, rfl⟩ := Kd.R_slice hRL
    have HGW := Aside0.mk hgw
    have HBG := Aside0.mk hbg
    have HRA := Aside0.mk hRA
    have HRL := Aside0.mk hRL
    clear hgw hbg hRA hRL HW hcall
    obtain ⟨ga, rfl⟩ : ∃ ga, AA = some ⟨ga, 0, none⟩ := by
      obtain ⟨_, h2 | ⟨g, cap, cur, e1, _⟩⟩ := Kd.own_of_R HRA.out
      · have := HVA.out.pos; omega
      · injection e1 with e1 _ _
        exact ⟨g, e1⟩
    have g2 : w2.cell? ⟨gw, 2, none⟩ = some (.int .i64 a0_2) := cell_in HGW.out 2 rfl
    have gf2 : w2.frozen? ⟨gw, 2, none⟩ = false := blk_frozen HGW.out 2
    have hy1 := HVA.out.by1
    have hy2 := HVA.out.by2
    have hzw : gz ≠ gw := by
      rintro rfl
      have := HZ2.out.symm.trans HGW.out
      simp at this
    have HGW3 := Aside0.mk (blk_drew (blk_put HGW.out 2 (.int .i64 (a0_2 + (a0_2 / 20 + 1))) rfl))
    have HZ3 := Aside0.mk (blk_drew (blk_far HZ2.out (p := ⟨gw, 2, none⟩) hzw (.int .i64 (a0_2 + (a0_2 / 20 + 1)))))
    have HP1 := Aside0.mk (Kd.R_drew (Kd.R_set HRA.out HGW.out ne136 2 (.int .i64 (a0_2 + (a0_2 / 20 + 1)))))
    have HP2 := Aside0.mk (Kd.R_drew (Kd.R_set HRL.out HGW.out ne136 2 (.int .i64 (a0_2 + (a0_2 / 20 + 1)))))
    have HBL3 := Aside0.mk (below_drew1 (below_set (j := 2) (v := .int .i64 (a0_2 + (a0_2 / 20 + 1))) HBL2.out (Nat.le_trans HBASE.out HBG.out)))
    have hd : IntKind.i64.wrap (Int.tdiv a0_2 20) = a0_2 / 20 := by rw [Int.tdiv_eq_ediv_of_nonneg (by omega), IntKind.wrap_i64]; omega
    have hw1 : IntKind.i64.wrap (a0_2 / 20 + 1) = a0_2 / 20 + 1 := by rw [IntKind.wrap_i64]; omega
    have hw2 : IntKind.i64.wrap (a0_2 + (a0_2 / 20 + 1)) = a0_2 + (a0_2 / 20 + 1) := by rw [IntKind.wrap_i64]; omega
    clear hzw
    go_wp2_with fail
    go_region
    generalize (w2.setCell ⟨gw, 2, none⟩ (.int .i64 (a0_2 + (a0_2 / 20 + 1)))).drew = w3 at HP1 HP2 HGW3 HZ3 HBL3 ⊢
    have hsc := scaled_any HSORT.out w1.heap.size gw ga l0_0.length ca (.slice AL l0_1.length cl) l0_0 l0_1 (a0_2 + (a0_2 / 20 + 1)) w3 HGW3.out HBG.out HP1.out HP2.out HVA.out.fair HVA.out.pos HS.out.1 HVA.out.inR HS.out.2.1
    clear hw1 hw2 hd hy1 hy2 g2 gf2
    go_wp2_with (go_at_call 145; refine hsc.mono ?_; rintro e w4 ⟨vA4, vL4, rfl, hRA4, hRL4, hb4⟩; obtain ⟨AA4, ca4, rfl⟩ := Kd.R_slice hRA4; obtain ⟨AL4, cl4, rfl⟩ := Kd.R_slice hRL4; have HRA4 := Aside0.mk hRA4; have HRL4 := Aside0.mk hRL4; have HZ4 := Aside0.mk ((hb4.block _ HZL.out).trans HZ3.out); have HBL4 := Aside0.mk (HBL3.out.trans (hb4.mono HBASE.out)); clear hRA4 hRL4 hb4; have z0 : w4.cell? ⟨gz, 0, none⟩ = some (.slice none 0 0) := cell_in HZ4.out 0 rfl; have z1 : w4.cell? ⟨gz, 1, none⟩ = some (.slice none 0 0) := cell_in HZ4.out 1 rfl; have z2 : w4.cell? ⟨gz, 2, none⟩ = some (.int .i64 0) := cell_in HZ4.out 2 rfl; have zf0 : w4.frozen? ⟨gz, 0, none⟩ = false := blk_frozen HZ4.out 0; have zf1 : w4.frozen? ⟨gz, 1, none⟩ = false := blk_frozen HZ4.out 1; have zf2 : w4.frozen? ⟨gz, 2, none⟩ = false := blk_frozen HZ4.out 2)
    have hv : ((scaledV l0_0 l0_1 (a0_2 + (a0_2 / 20 + 1))).1, (scaledV l0_0 l0_1 (a0_2 + (a0_2 / 20 + 1))).2.1, (scaledV l0_0 l0_1 (a0_2 + (a0_2 / 20 + 1))).2.2, (0 : Int)) = (r1, r2, r3, r4) := by
      rw [← HV.out, decayV, HR.out, if_neg (by simp)]
    simp only [Prod.mk.injEq] at hv
    obtain ⟨rfl, rfl, rfl, rfl⟩ := hv
    refine bodyPost_ret (results_ct rfl _ _ gz 74 #[.slice AA4 (scaledV l0_0 l0_1 (a0_2 + (a0_2 / 20 + 1))).1.length ca4, .slice AL4 (scaledV l0_0 l0_1 (a0_2 + (a0_2 / 20 + 1))).2.1.length cl4, .int .i64 (scaledV l0_0 l0_1 (a0_2 + (a0_2 / 20 + 1))).2.2] (0, 0) _ rfl (heap_put HZ4.out) Try.underlying74 rfl (by kernel_rfl)) rfl ?_
    exact ⟨_, _, rfl, set3_R (Kd.R_lower HRA4.out HBASE.out) HZ4.out, set3_R (Kd.R_lower HRL4.out HBASE.out) HZ4.out, below_set (below_set (below_set HBL4.out HGE.out) HGE.out) HGE.out⟩
  · have H0 := Aside0.mk h0
    have h0z : (r != 0) = true := by simp [h0]
    have HR := Aside0.mk hr
    go_enter Try.func72, Try.ntmps72
    go_upto_region 1 with (fail)
    have HX := Aside0.mk (blk_alloc (blk_new w (.cells #[.slice A0_0 l0_0.length c0_0, .slice A0_1 l0_1.length c0_1, .int .i64 a0_2] 74 (0, 0))) Z74)
    have HZ := Aside0.mk (blk_new (w.alloc (.cells #[.slice A0_0 l0_0.length c0_0, .slice A0_1 l0_1.length c0_1, .int .i64 a0_2] 74 (0, 0))) Z74)
    have HBL := Aside0.mk (below_alloc (below_alloc (Below.refl _ w) (.cells #[.slice A0_0 l0_0.length c0_0, .slice A0_1 l0_1.length c0_1, .int .i64 a0_2] 74 (0, 0))) Z74)
    rw [World.size_alloc] at HZ
    have HGE := Aside0.mk (show w.heap.size ≤ w.heap.size + 1 by omega)
    generalize (w.alloc (.cells #[.slice A0_0 l0_0.length c0_0, .slice A0_1 l0_1.length c0_1, .int .i64 a0_2] 74 (0, 0))).alloc Z74 = w1 at HX HZ HBL ⊢
    generalize w.heap.size + 1 = gz at HZ HGE ⊢
    have e0 : w1.cell? ⟨w.heap.size, 0, none⟩ = some (.slice A0_0 l0_0.length c0_0) := cell_in HX.out 0 rfl
    have e1 : w1.cell? ⟨w.heap.size, 1, none⟩ = some (.slice A0_1 l0_1.length c0_1) := cell_in HX.out 1 rfl
    have e2 : w1.cell? ⟨w.heap.size, 2, none⟩ = some (.int .i64 a0_2) := cell_in HX.out 2 rfl
    have hcall := begun_no (c0 := c0_0) (c1 := c0_1) (Kd.C_below HA.out HBL.out) (Kd.C_below HB.out HBL.out) HS.out.1 HS.out.2.2 HR.out H0.out
    clear h0 hr
    go_upto_region 3 with (go_at_call 143; refine hcall.mono ?_; rintro e w2 ⟨rfl, hb2⟩; have HZ2 := Aside0.mk (blk_below HZ.out hb2); have HBL2 := Aside0.mk (below_step HBL.out hb2); clear hb2 e0 e1 e2)
    have z0 : w2.cell? ⟨gz, 0, none⟩ = some (.slice none 0 0) := cell_in HZ2.out 0 rfl
    have z1 : w2.cell? ⟨gz, 1, none⟩ = some (.slice none 0 0) := cell_in HZ2.out 1 rfl
    have z2 : w2.cell? ⟨gz, 2, none⟩ = some (.int .i64 0) := cell_in HZ2.out 2 rfl
    have zf0 : w2.frozen? ⟨gz, 0, none⟩ = false := blk_frozen HZ2.out 0
    have zf1 : w2.frozen? ⟨gz, 1, none⟩ = false := blk_frozen HZ2.out 1
    have zf2 : w2.frozen? ⟨gz, 2, none⟩ = false := blk_frozen HZ2.out 2
    go_wp2
    have hv : (([] : List Int), ([] : List Int), (0 : Int), (r : Int)) = (r1, r2, r3, r4) := by
      rw [← HV.out, decayV, HR.out, if_pos H0.out]
    simp only [Prod.mk.injEq] at hv
    obtain ⟨rfl, rfl, rfl, rfl⟩ := hv
    refine bodyPost_ret (results_ct rfl _ _ gz 74 #[.slice none 0 0, .slice none 0 0, .int .i64 0] (0, 0) _ rfl (zero_put HZ2.out) Try.underlying74 rfl (by kernel_rfl)) rfl ?_
    exact ⟨_, _, rfl, Kd.R_nil _ _ _ _ _, Kd.R_nil _ _ _ _ _, below_set (below_set (below_set HBL2.out HGE.out) HGE.out) HGE.out⟩
end Go.Proofs.Ytobadajeekdakaa.Print

namespace Go.Proofs.Ytobadajeekdakaa.Print
open Go.RowKit Go.Proofs.YtobadajeekdakaaW.PrintWords Go.Proofs.YtobadajeekdakaaW.PrintLast Go.Proofs.YtobadajeekdakaaW.PrintMore
set_option linter.unusedVariables false
def heap_Bump.f (l0_0 l0_1 : List Int) (a0_2 a1 : Int) : Option (List Int × List Int × Int × Int) := if smallN 12 l0_0 l0_1 = true then some (bumpV l0_0 l0_1 a0_2 a1) else none
def heap_Decay.f (l0_0 l0_1 : List Int) (a0_2 : Int) : Option (List Int × List Int × Int × Int) := if smallN 12 l0_0 l0_1 = true then some (decayV l0_0 l0_1 a0_2) else none
theorem heap_Bump.calls (A0_0 : Option Addr) (c0_0 : Nat) (l0_0 : List Int) (A0_1 : Option Addr) (c0_1 : Nat) (l0_1 : List Int) (a0_2 a1 : Int) (r1 r2 : List Int) (r3 r4 : Int) (w : World) (hr0_0 : Kd.C (Kd.int .i64) w A0_0 l0_0.length l0_0) (hc0_0 : l0_0.length ≤ c0_0) (hr0_1 : Kd.C (Kd.int .i64) w A0_1 l0_1.length l0_1) (hc0_1 : l0_1.length ≤ c0_1) (h : heap_Bump.f l0_0 l0_1 a0_2 a1 = some (r1, r2, r3, r4)) :
    Calls Try.prog 70 #[.agg #[.slice A0_0 l0_0.length c0_0, .slice A0_1 l0_1.length c0_1, .int .i64 a0_2], .int .i64 a1] w fun e w' => ∃ v0_ v1_ : Value, e = .returned (.tuple #[.agg #[v0_, v1_, .int .i64 r3], .int .i64 r4]) ∧ Kd.R (Kd.int .i64) 3 w' w.heap.size (fun k_ => some k_ ≠ (v1_ : Value).ownBlock) v0_ r1 ∧ Kd.R (Kd.int .i64) 3 w' w.heap.size (fun k_ => some k_ ≠ (v0_ : Value).ownBlock) v1_ r2 ∧ Below w.heap.size w w' := by
  unfold heap_Bump.f at h
  split at h
  · rename_i hs
    exact heap_Bump_any hsort12 A0_0 c0_0 l0_0 A0_1 c0_1 l0_1 a0_2 a1 r1 r2 r3 r4 w hr0_0 hc0_0 hr0_1 hc0_1 hs (Option.some.inj h)
  · cases h
theorem heap_Decay.calls (A0_0 : Option Addr) (c0_0 : Nat) (l0_0 : List Int) (A0_1 : Option Addr) (c0_1 : Nat) (l0_1 : List Int) (a0_2 : Int) (r1 r2 : List Int) (r3 r4 : Int) (w : World) (hr0_0 : Kd.C (Kd.int .i64) w A0_0 l0_0.length l0_0) (hc0_0 : l0_0.length ≤ c0_0) (hr0_1 : Kd.C (Kd.int .i64) w A0_1 l0_1.length l0_1) (hc0_1 : l0_1.length ≤ c0_1) (h : heap_Decay.f l0_0 l0_1 a0_2 = some (r1, r2, r3, r4)) :
    Calls Try.prog 72 #[.agg #[.slice A0_0 l0_0.length c0_0, .slice A0_1 l0_1.length c0_1, .int .i64 a0_2]] w fun e w' => ∃ v0_ v1_ : Value, e = .returned (.tuple #[.agg #[v0_, v1_, .int .i64 r3], .int .i64 r4]) ∧ Kd.R (Kd.int .i64) 3 w' w.heap.size (fun k_ => some k_ ≠ (v1_ : Value).ownBlock) v0_ r1 ∧ Kd.R (Kd.int .i64) 3 w' w.heap.size (fun k_ => some k_ ≠ (v0_ : Value).ownBlock) v1_ r2 ∧ Below w.heap.size w w' := by
  unfold heap_Decay.f at h
  split at h
  · rename_i hs
    exact heap_Decay_any hsort12 A0_0 c0_0 l0_0 A0_1 c0_1 l0_1 a0_2 r1 r2 r3 r4 w hr0_0 hc0_0 hr0_1 hc0_1 hs (Option.some.inj h)
  · cases h
end Go.Proofs.Ytobadajeekdakaa.Print

namespace Go.Proofs.Ytobadajeekdakaa.Print
open Go.RowKit Go.Proofs.YtobadajeekdakaaW.PrintWords Go.Proofs.YtobadajeekdakaaW.PrintLast Go.Proofs.YtobadajeekdakaaW.PrintMore
set_option linter.unusedVariables false
set_option linter.unusedSimpArgs false
theorem sortA_of {act l ys : List Int} (hp : ys.Perm l) (hs : rowOkB act ys = true) : sortA act l = ys :=
  (sortA_only hp (fun p q _ h2 h3 => ahead_asymm (rowOk_sorted hs p q h2 h3))).symm
theorem hl1 : heap_New.f 9 3 = some ([0, 0, 0, 0], [1, 2, 3], 1, 0) := by decide +kernel
theorem hl2 : heap_Bump.f [0, 0, 0, 0] [1, 2, 3] 1 2 = some ([0, 0, 1, 0], [2, 1, 3], 1, 0) := by
  have e : sortA [0, 0, 1, 0] [1, 2, 3] = [2, 1, 3] := sortA_of (by decide) (by decide)
  have e2 : scaledV [0, 0, 1, 0] [1, 2, 3] 1 = ([0, 0, 1, 0], [2, 1, 3], 1) := by rw [scaledV, if_neg (by decide), e]
  rw [heap_Bump.f, if_pos (by decide), bumpV, if_neg (by decide), if_neg (by decide), show ([0, 0, 0, 0] : List Int).set (2 : Int).toNat (rd [0, 0, 0, 0] 2 + 1) = [0, 0, 1, 0] from by decide, e2]
theorem hl3 : heap_Pop.f [0, 0, 1, 0] [2, 1, 3] 1 = some ([0, 0, 1, 0], [1, 3], 1, 2, 0) := by decide +kernel
theorem hl4 : heap_Pop.f [0, 0, 1, 0] [1, 3] 1 = some ([0, 0, 1, 0], [3], 1, 1, 0) := by decide +kernel
theorem hl5 : heap_Pop.f [0, 0, 1, 0] [3] 1 = some ([0, 0, 1, 0], [], 1, 3, 0) := by decide +kernel
theorem hl6 : heap_Pop.f [0, 0, 1, 0] [] 1 = some ([], [], 0, 0, 270) := by decide +kernel
theorem hl7 : heap_Push.f [0, 0, 1, 0] [] 1 3 = some ([0, 0, 1, 0], [3], 1, 0) := by decide +kernel
theorem hl8 : heap_Push.f [0, 0, 1, 0] [3] 1 3 = some ([], [], 0, 270) := by decide +kernel
theorem hl9 : heap_Decay.f [0, 0, 0, 0] [1, 2, 3] 1 = some ([0, 0, 0, 0], [1, 2, 3], 2, 0) := by
  have e : sortA [0, 0, 0, 0] [1, 2, 3] = [1, 2, 3] := sortA_of (by decide) (by decide)
  have e2 : scaledV [0, 0, 0, 0] [1, 2, 3] 2 = ([0, 0, 0, 0], [1, 2, 3], 2) := by rw [scaledV, if_neg (by decide), e]
  rw [heap_Decay.f, if_pos (by decide), decayV, if_neg (by decide), show ((1 : Int) + (1 / 20 + 1)) = 2 from by decide, e2]
theorem hl10 : heap_Check.f [0, 0, 1, 0] [2, 1, 3] 1 = some 0 := by decide +kernel
theorem hl11 : heap_Check.f [] [] 0 = some 1 := by decide +kernel
theorem hm1 : heap_Luby.f 20 1 = some 1 := by decide +kernel
theorem hm2 : heap_Luby.f 20 2 = some 1 := by decide +kernel
theorem hm3 : heap_Luby.f 20 3 = some 2 := by decide +kernel
theorem hm4 : heap_Luby.f 20 4 = some 1 := by decide +kernel
theorem hm5 : heap_Luby.f 20 7 = some 4 := by decide +kernel
theorem hm6 : heap_Luby.f 20 0 = some 0 := by decide +kernel

theorem hp_R_slice {W : World} {base : Nat} {ok : Nat → Prop} {v : Value} {xs : List Int} (h : Kd.R (Kd.int .i64) 3 W base ok v xs) : ∃ A c, v = .slice A xs.length c ∧ True := by
  obtain ⟨A, c, e⟩ := Kd.R_slice h
  exact ⟨A, c, e, trivial⟩
/-- A heap in a block of its own. -/
def HeapAt (W : World) (g : Nat) (A B : Option Addr) (c d : Nat) (act l : List Int) (by_ : Int) : Prop :=
  W.heap[g]? = some (.cells #[.slice A act.length c, .slice B l.length d, .int .i64 by_] 74 (0, 0)) ∧ Kd.C (Kd.int .i64) W A act.length act ∧ Kd.C (Kd.int .i64) W B l.length l ∧ act.length ≤ c ∧ l.length ≤ d
theorem HeapAt.below {W W1 : World} {g : Nat} {A B : Option Addr} {c d : Nat} {act l : List Int} {by_ : Int} (h : HeapAt W g A B c d act l by_) (hb : Below W.heap.size W W1) : HeapAt W1 g A B c d act l by_ :=
  ⟨blk_below h.1 hb, Kd.C_below h.2.1 hb, Kd.C_below h.2.2.1 hb, h.2.2.2⟩

def chalklinelaw21_live.f : Option Bool := some true
set_option maxHeartbeats 8000000 in
set_option maxRecDepth 100000 in
theorem chalklinelaw21_live.calls (r : Bool) (w : World) (h : chalklinelaw21_live.f = some r) : Calls Try.prog 61 #[] w fun e w' => e = .returned (.bool r) ∧ Below w.heap.size w w' := by
  obtain rfl : true = r := Option.some.inj h
  clear h
  go_enter Try.func61, Try.ntmps61
  go_upto_region 2 with (go_at_call 63; refine (heap_New.calls 9 3 [0, 0, 0, 0] [1, 2, 3] 1 0 _ hl1).mono ?_; rintro e v0 ⟨vA, vL, rfl, hA, hL, hb⟩; obtain ⟨A0, a0, rfl⟩ := Kd.R_slice hA; obtain ⟨B0, b0, rfl, _⟩ := hp_R_slice hL; have HA := Aside0.mk (Kd.R_reads' hA).2; have HL := Aside0.mk (Kd.R_reads' hL).2; have HB := Aside0.mk hb; clear hA hL hb)
  have Hh : Aside0 (HeapAt (v0.alloc (.cells #[.slice A0 4 a0, .slice B0 3 b0, .int .i64 1] 74 (0, 0))) v0.heap.size A0 B0 a0 b0 [0, 0, 0, 0] [1, 2, 3] 1) := ⟨⟨blk_new _ _, Kd.C_alloc HA.out.2 _, Kd.C_alloc HL.out.2 _, HA.out.1, HL.out.1⟩⟩
  have HBB := Aside0.mk (below_alloc HB.out (.cells #[.slice A0 4 a0, .slice B0 3 b0, .int .i64 1] 74 (0, 0)))
  have HT := HBB
  clear HA HL HB HBB
  generalize v0.alloc (.cells #[.slice A0 4 a0, .slice B0 3 b0, .int .i64 1] 74 (0, 0)) = W0 at Hh HT ⊢
  generalize v0.heap.size = g0 at Hh ⊢
  have c0 : W0.cell? ⟨g0, 0, none⟩ = some (.slice A0 4 a0) := cell_in Hh.out.1 0 rfl
  have c1 : W0.cell? ⟨g0, 1, none⟩ = some (.slice B0 3 b0) := cell_in Hh.out.1 1 rfl
  have c2 : W0.cell? ⟨g0, 2, none⟩ = some (.int .i64 1) := cell_in Hh.out.1 2 rfl
  go_upto_region 3 with (go_at_call 70; refine (heap_Bump.calls A0 a0 [0, 0, 0, 0] B0 b0 [1, 2, 3] 1 2 [0, 0, 1, 0] [2, 1, 3] 1 0 _ Hh.out.2.1 Hh.out.2.2.2.1 Hh.out.2.2.1 Hh.out.2.2.2.2 hl2).mono ?_; rintro e v1 ⟨vA, vL, rfl, hA, hL, hb⟩; obtain ⟨A1, a1, rfl⟩ := Kd.R_slice hA; obtain ⟨B1, b1, rfl, _⟩ := hp_R_slice hL; have HA := Aside0.mk (Kd.R_reads' hA).2; have HL := Aside0.mk (Kd.R_reads' hL).2; have HB := Aside0.mk hb; clear hA hL hb; clear c0 c1 c2)
  have Hx : Aside0 (HeapAt (v1.alloc (.cells #[.slice A1 4 a1, .slice B1 3 b1, .int .i64 1] 74 (0, 0))) v1.heap.size A1 B1 a1 b1 [0, 0, 1, 0] [2, 1, 3] 1) := ⟨⟨blk_new _ _, Kd.C_alloc HA.out.2 _, Kd.C_alloc HL.out.2 _, HA.out.1, HL.out.1⟩⟩
  have HBB := Aside0.mk (below_alloc HB.out (.cells #[.slice A1 4 a1, .slice B1 3 b1, .int .i64 1] 74 (0, 0)))
  replace Hh := Aside0.mk (Hh.out.below HBB.out)
  replace HT := Aside0.mk (below_step HT.out HBB.out)
  clear HA HL HB HBB
  generalize v1.alloc (.cells #[.slice A1 4 a1, .slice B1 3 b1, .int .i64 1] 74 (0, 0)) = W1 at Hh Hx HT ⊢
  generalize v1.heap.size = g1 at Hx ⊢
  have c0 : W1.cell? ⟨g1, 0, none⟩ = some (.slice A1 4 a1) := cell_in Hx.out.1 0 rfl
  have c1 : W1.cell? ⟨g1, 1, none⟩ = some (.slice B1 3 b1) := cell_in Hx.out.1 1 rfl
  have c2 : W1.cell? ⟨g1, 2, none⟩ = some (.int .i64 1) := cell_in Hx.out.1 2 rfl
  go_upto_region 4 with (go_at_call 74; refine (heap_Pop.calls A1 a1 [0, 0, 1, 0] B1 b1 [2, 1, 3] 1 [0, 0, 1, 0] [1, 3] 1 2 0 _ Hx.out.2.1 Hx.out.2.2.2.1 Hx.out.2.2.1 Hx.out.2.2.2.2 hl3).mono ?_; rintro e v2 ⟨vA, vL, rfl, hA, hL, hb⟩; obtain ⟨A2, a2, rfl⟩ := Kd.R_slice hA; obtain ⟨B2, b2, rfl, _⟩ := Kd.Q_slice hL; have HA := Aside0.mk (Kd.R_reads' hA).2; have HL := Aside0.mk (Kd.Q_reads' hL).2; have HB := Aside0.mk hb; clear hA hL hb; clear c0 c1 c2)
  have Ha : Aside0 (HeapAt (v2.alloc (.cells #[.slice A2 4 a2, .slice B2 2 b2, .int .i64 1] 74 (0, 0))) v2.heap.size A2 B2 a2 b2 [0, 0, 1, 0] [1, 3] 1) := ⟨⟨blk_new _ _, Kd.C_alloc HA.out.2 _, Kd.C_alloc HL.out.2 _, HA.out.1, HL.out.1⟩⟩
  have HBB := Aside0.mk (below_alloc HB.out (.cells #[.slice A2 4 a2, .slice B2 2 b2, .int .i64 1] 74 (0, 0)))
  replace Hh := Aside0.mk (Hh.out.below HBB.out)
  replace Hx := Aside0.mk (Hx.out.below HBB.out)
  replace HT := Aside0.mk (below_step HT.out HBB.out)
  clear HA HL HB HBB
  generalize v2.alloc (.cells #[.slice A2 4 a2, .slice B2 2 b2, .int .i64 1] 74 (0, 0)) = W2 at Hh Hx Ha HT ⊢
  generalize v2.heap.size = g2 at Ha ⊢
  have c0 : W2.cell? ⟨g2, 0, none⟩ = some (.slice A2 4 a2) := cell_in Ha.out.1 0 rfl
  have c1 : W2.cell? ⟨g2, 1, none⟩ = some (.slice B2 2 b2) := cell_in Ha.out.1 1 rfl
  have c2 : W2.cell? ⟨g2, 2, none⟩ = some (.int .i64 1) := cell_in Ha.out.1 2 rfl
  go_upto_region 5 with (go_at_call 74; refine (heap_Pop.calls A2 a2 [0, 0, 1, 0] B2 b2 [1, 3] 1 [0, 0, 1, 0] [3] 1 1 0 _ Ha.out.2.1 Ha.out.2.2.2.1 Ha.out.2.2.1 Ha.out.2.2.2.2 hl4).mono ?_; rintro e v3 ⟨vA, vL, rfl, hA, hL, hb⟩; obtain ⟨A3, a3, rfl⟩ := Kd.R_slice hA; obtain ⟨B3, b3, rfl, _⟩ := Kd.Q_slice hL; have HA := Aside0.mk (Kd.R_reads' hA).2; have HL := Aside0.mk (Kd.Q_reads' hL).2; have HB := Aside0.mk hb; clear hA hL hb; clear c0 c1 c2)
  have Hb : Aside0 (HeapAt (v3.alloc (.cells #[.slice A3 4 a3, .slice B3 1 b3, .int .i64 1] 74 (0, 0))) v3.heap.size A3 B3 a3 b3 [0, 0, 1, 0] [3] 1) := ⟨⟨blk_new _ _, Kd.C_alloc HA.out.2 _, Kd.C_alloc HL.out.2 _, HA.out.1, HL.out.1⟩⟩
  have HBB := Aside0.mk (below_alloc HB.out (.cells #[.slice A3 4 a3, .slice B3 1 b3, .int .i64 1] 74 (0, 0)))
  replace Hh := Aside0.mk (Hh.out.below HBB.out)
  replace Hx := Aside0.mk (Hx.out.below HBB.out)
  clear Ha
  replace HT := Aside0.mk (below_step HT.out HBB.out)
  clear HA HL HB HBB
  generalize v3.alloc (.cells #[.slice A3 4 a3, .slice B3 1 b3, .int .i64 1] 74 (0, 0)) = W3 at Hh Hx Hb HT ⊢
  generalize v3.heap.size = g3 at Hb ⊢
  have c0 : W3.cell? ⟨g3, 0, none⟩ = some (.slice A3 4 a3) := cell_in Hb.out.1 0 rfl
  have c1 : W3.cell? ⟨g3, 1, none⟩ = some (.slice B3 1 b3) := cell_in Hb.out.1 1 rfl
  have c2 : W3.cell? ⟨g3, 2, none⟩ = some (.int .i64 1) := cell_in Hb.out.1 2 rfl
  go_upto_region 6 with (go_at_call 74; refine (heap_Pop.calls A3 a3 [0, 0, 1, 0] B3 b3 [3] 1 [0, 0, 1, 0] [] 1 3 0 _ Hb.out.2.1 Hb.out.2.2.2.1 Hb.out.2.2.1 Hb.out.2.2.2.2 hl5).mono ?_; rintro e v4 ⟨vA, vL, rfl, hA, hL, hb⟩; obtain ⟨A4, a4, rfl⟩ := Kd.R_slice hA; obtain ⟨B4, b4, rfl, _⟩ := Kd.Q_slice hL; have HA := Aside0.mk (Kd.R_reads' hA).2; have HL := Aside0.mk (Kd.Q_reads' hL).2; have HB := Aside0.mk hb; clear hA hL hb; clear c0 c1 c2)
  have Hc : Aside0 (HeapAt (v4.alloc (.cells #[.slice A4 4 a4, .slice B4 0 b4, .int .i64 1] 74 (0, 0))) v4.heap.size A4 B4 a4 b4 [0, 0, 1, 0] [] 1) := ⟨⟨blk_new _ _, Kd.C_alloc HA.out.2 _, Kd.C_alloc HL.out.2 _, HA.out.1, HL.out.1⟩⟩
  have HBB := Aside0.mk (below_alloc HB.out (.cells #[.slice A4 4 a4, .slice B4 0 b4, .int .i64 1] 74 (0, 0)))
  replace Hh := Aside0.mk (Hh.out.below HBB.out)
  replace Hx := Aside0.mk (Hx.out.below HBB.out)
  clear Hb
  replace HT := Aside0.mk (below_step HT.out HBB.out)
  clear HA HL HB HBB
  generalize v4.alloc (.cells #[.slice A4 4 a4, .slice B4 0 b4, .int .i64 1] 74 (0, 0)) = W4 at Hh Hx Hc HT ⊢
  generalize v4.heap.size = g4 at Hc ⊢
  have c0 : W4.cell? ⟨g4, 0, none⟩ = some (.slice A4 4 a4) := cell_in Hc.out.1 0 rfl
  have c1 : W4.cell? ⟨g4, 1, none⟩ = some (.slice B4 0 b4) := cell_in Hc.out.1 1 rfl
  have c2 : W4.cell? ⟨g4, 2, none⟩ = some (.int .i64 1) := cell_in Hc.out.1 2 rfl
  go_upto_region 7 with (go_at_call 74; refine (heap_Pop.calls A4 a4 [0, 0, 1, 0] B4 b4 [] 1 [] [] 0 0 270 _ Hc.out.2.1 Hc.out.2.2.2.1 Hc.out.2.2.1 Hc.out.2.2.2.2 hl6).mono ?_; rintro e v5 ⟨vA, vL, rfl, hA, hL, hb⟩; obtain ⟨A5, a5, rfl⟩ := Kd.R_slice hA; obtain ⟨B5, b5, rfl, _⟩ := Kd.Q_slice hL; have HA := Aside0.mk (Kd.R_reads' hA).2; have HL := Aside0.mk (Kd.Q_reads' hL).2; have HB := Aside0.mk hb; clear hA hL hb; clear c0 c1 c2)
  have Hp : Aside0 (HeapAt (v5.alloc (.cells #[.slice A5 0 a5, .slice B5 0 b5, .int .i64 0] 74 (0, 0))) v5.heap.size A5 B5 a5 b5 [] [] 0) := ⟨⟨blk_new _ _, Kd.C_alloc HA.out.2 _, Kd.C_alloc HL.out.2 _, HA.out.1, HL.out.1⟩⟩
  have HBB := Aside0.mk (below_alloc HB.out (.cells #[.slice A5 0 a5, .slice B5 0 b5, .int .i64 0] 74 (0, 0)))
  replace Hh := Aside0.mk (Hh.out.below HBB.out)
  replace Hx := Aside0.mk (Hx.out.below HBB.out)
  replace Hc := Aside0.mk (Hc.out.below HBB.out)
  replace HT := Aside0.mk (below_step HT.out HBB.out)
  clear HA HL HB HBB
  generalize v5.alloc (.cells #[.slice A5 0 a5, .slice B5 0 b5, .int .i64 0] 74 (0, 0)) = W5 at Hh Hx Hc Hp HT ⊢
  generalize v5.heap.size = g5 at Hp ⊢
  clear Hp
  have c0 : W5.cell? ⟨g4, 0, none⟩ = some (.slice A4 4 a4) := cell_in Hc.out.1 0 rfl
  have c1 : W5.cell? ⟨g4, 1, none⟩ = some (.slice B4 0 b4) := cell_in Hc.out.1 1 rfl
  have c2 : W5.cell? ⟨g4, 2, none⟩ = some (.int .i64 1) := cell_in Hc.out.1 2 rfl
  go_upto_region 8 with (go_at_call 76; refine (heap_Push.calls A4 a4 [0, 0, 1, 0] B4 b4 [] 1 3 [0, 0, 1, 0] [3] 1 0 _ Hc.out.2.1 Hc.out.2.2.2.1 Hc.out.2.2.1 Hc.out.2.2.2.2 hl7).mono ?_; rintro e v6 ⟨vA, vL, rfl, hA, hL, hb⟩; obtain ⟨A6, a6, rfl⟩ := Kd.R_slice hA; obtain ⟨B6, b6, rfl, _⟩ := hp_R_slice hL; have HA := Aside0.mk (Kd.R_reads' hA).2; have HL := Aside0.mk (Kd.R_reads' hL).2; have HB := Aside0.mk hb; clear hA hL hb; clear c0 c1 c2)
  have Hy : Aside0 (HeapAt (v6.alloc (.cells #[.slice A6 4 a6, .slice B6 1 b6, .int .i64 1] 74 (0, 0))) v6.heap.size A6 B6 a6 b6 [0, 0, 1, 0] [3] 1) := ⟨⟨blk_new _ _, Kd.C_alloc HA.out.2 _, Kd.C_alloc HL.out.2 _, HA.out.1, HL.out.1⟩⟩
  have HBB := Aside0.mk (below_alloc HB.out (.cells #[.slice A6 4 a6, .slice B6 1 b6, .int .i64 1] 74 (0, 0)))
  replace Hh := Aside0.mk (Hh.out.below HBB.out)
  replace Hx := Aside0.mk (Hx.out.below HBB.out)
  clear Hc
  replace HT := Aside0.mk (below_step HT.out HBB.out)
  clear HA HL HB HBB
  generalize v6.alloc (.cells #[.slice A6 4 a6, .slice B6 1 b6, .int .i64 1] 74 (0, 0)) = W6 at Hh Hx Hy HT ⊢
  generalize v6.heap.size = g6 at Hy ⊢
  have c0 : W6.cell? ⟨g6, 0, none⟩ = some (.slice A6 4 a6) := cell_in Hy.out.1 0 rfl
  have c1 : W6.cell? ⟨g6, 1, none⟩ = some (.slice B6 1 b6) := cell_in Hy.out.1 1 rfl
  have c2 : W6.cell? ⟨g6, 2, none⟩ = some (.int .i64 1) := cell_in Hy.out.1 2 rfl
  go_upto_region 9 with (go_at_call 76; refine (heap_Push.calls A6 a6 [0, 0, 1, 0] B6 b6 [3] 1 3 [] [] 0 270 _ Hy.out.2.1 Hy.out.2.2.2.1 Hy.out.2.2.1 Hy.out.2.2.2.2 hl8).mono ?_; rintro e v7 ⟨vA, vL, rfl, hA, hL, hb⟩; obtain ⟨A7, a7, rfl⟩ := Kd.R_slice hA; obtain ⟨B7, b7, rfl, _⟩ := hp_R_slice hL; have HA := Aside0.mk (Kd.R_reads' hA).2; have HL := Aside0.mk (Kd.R_reads' hL).2; have HB := Aside0.mk hb; clear hA hL hb; clear c0 c1 c2)
  have Hq : Aside0 (HeapAt (v7.alloc (.cells #[.slice A7 0 a7, .slice B7 0 b7, .int .i64 0] 74 (0, 0))) v7.heap.size A7 B7 a7 b7 [] [] 0) := ⟨⟨blk_new _ _, Kd.C_alloc HA.out.2 _, Kd.C_alloc HL.out.2 _, HA.out.1, HL.out.1⟩⟩
  have HBB := Aside0.mk (below_alloc HB.out (.cells #[.slice A7 0 a7, .slice B7 0 b7, .int .i64 0] 74 (0, 0)))
  replace Hh := Aside0.mk (Hh.out.below HBB.out)
  replace Hx := Aside0.mk (Hx.out.below HBB.out)
  replace Hy := Aside0.mk (Hy.out.below HBB.out)
  replace HT := Aside0.mk (below_step HT.out HBB.out)
  clear HA HL HB HBB
  generalize v7.alloc (.cells #[.slice A7 0 a7, .slice B7 0 b7, .int .i64 0] 74 (0, 0)) = W7 at Hh Hx Hy Hq HT ⊢
  generalize v7.heap.size = g7 at Hq ⊢
  clear Hq
  have c0 : W7.cell? ⟨g0, 0, none⟩ = some (.slice A0 4 a0) := cell_in Hh.out.1 0 rfl
  have c1 : W7.cell? ⟨g0, 1, none⟩ = some (.slice B0 3 b0) := cell_in Hh.out.1 1 rfl
  have c2 : W7.cell? ⟨g0, 2, none⟩ = some (.int .i64 1) := cell_in Hh.out.1 2 rfl
  go_upto_region 10 with (go_at_call 72; refine (heap_Decay.calls A0 a0 [0, 0, 0, 0] B0 b0 [1, 2, 3] 1 [0, 0, 0, 0] [1, 2, 3] 2 0 _ Hh.out.2.1 Hh.out.2.2.2.1 Hh.out.2.2.1 Hh.out.2.2.2.2 hl9).mono ?_; rintro e v8 ⟨vA, vL, rfl, hA, hL, hb⟩; obtain ⟨A8, a8, rfl⟩ := Kd.R_slice hA; obtain ⟨B8, b8, rfl, _⟩ := hp_R_slice hL; have HA := Aside0.mk (Kd.R_reads' hA).2; have HL := Aside0.mk (Kd.R_reads' hL).2; have HB := Aside0.mk hb; clear hA hL hb; clear c0 c1 c2)
  have Hd : Aside0 (HeapAt (v8.alloc (.cells #[.slice A8 4 a8, .slice B8 3 b8, .int .i64 2] 74 (0, 0))) v8.heap.size A8 B8 a8 b8 [0, 0, 0, 0] [1, 2, 3] 2) := ⟨⟨blk_new _ _, Kd.C_alloc HA.out.2 _, Kd.C_alloc HL.out.2 _, HA.out.1, HL.out.1⟩⟩
  have HBB := Aside0.mk (below_alloc HB.out (.cells #[.slice A8 4 a8, .slice B8 3 b8, .int .i64 2] 74 (0, 0)))
  replace Hx := Aside0.mk (Hx.out.below HBB.out)
  replace Hy := Aside0.mk (Hy.out.below HBB.out)
  clear Hh
  replace HT := Aside0.mk (below_step HT.out HBB.out)
  clear HA HL HB HBB
  generalize v8.alloc (.cells #[.slice A8 4 a8, .slice B8 3 b8, .int .i64 2] 74 (0, 0)) = W8 at Hx Hy Hd HT ⊢
  generalize v8.heap.size = g8 at Hd ⊢
  go_upto_region 12 with (first | (go_at_call 68; (with_reducible refine (heap_Luby.calls 20 1 1 _ hm1).mono ?_); rintro e u1 ⟨rfl, hd⟩; replace Hx := Aside0.mk (Hx.out.below hd.below); replace Hy := Aside0.mk (Hy.out.below hd.below); replace Hd := Aside0.mk (Hd.out.below hd.below); replace HT := Aside0.mk (below_step HT.out hd.below); clear hd) | (go_at_call 68; (with_reducible refine (heap_Luby.calls 20 2 1 _ hm2).mono ?_); rintro e u2 ⟨rfl, hd⟩; replace Hx := Aside0.mk (Hx.out.below hd.below); replace Hy := Aside0.mk (Hy.out.below hd.below); replace Hd := Aside0.mk (Hd.out.below hd.below); replace HT := Aside0.mk (below_step HT.out hd.below); clear hd) | (go_at_call 68; (with_reducible refine (heap_Luby.calls 20 3 2 _ hm3).mono ?_); rintro e u3 ⟨rfl, hd⟩; replace Hx := Aside0.mk (Hx.out.below hd.below); replace Hy := Aside0.mk (Hy.out.below hd.below); replace Hd := Aside0.mk (Hd.out.below hd.below); replace HT := Aside0.mk (below_step HT.out hd.below); clear hd) | (go_at_call 68; (with_reducible refine (heap_Luby.calls 20 4 1 _ hm4).mono ?_); rintro e u4 ⟨rfl, hd⟩; replace Hx := Aside0.mk (Hx.out.below hd.below); replace Hy := Aside0.mk (Hy.out.below hd.below); replace Hd := Aside0.mk (Hd.out.below hd.below); replace HT := Aside0.mk (below_step HT.out hd.below); clear hd) | (go_at_call 68; (with_reducible refine (heap_Luby.calls 20 7 4 _ hm5).mono ?_); rintro e u5 ⟨rfl, hd⟩; replace Hx := Aside0.mk (Hx.out.below hd.below); replace Hy := Aside0.mk (Hy.out.below hd.below); replace Hd := Aside0.mk (Hd.out.below hd.below); replace HT := Aside0.mk (below_step HT.out hd.below); clear hd) | (go_at_call 68; (with_reducible refine (heap_Luby.calls 20 0 0 _ hm6).mono ?_); rintro e u6 ⟨rfl, hd⟩; replace Hx := Aside0.mk (Hx.out.below hd.below); replace Hy := Aside0.mk (Hy.out.below hd.below); replace Hd := Aside0.mk (Hd.out.below hd.below); replace HT := Aside0.mk (below_step HT.out hd.below); clear hd))
  have c0 : u6.cell? ⟨g1, 0, none⟩ = some (.slice A1 4 a1) := cell_in Hx.out.1 0 rfl
  have c1 : u6.cell? ⟨g1, 1, none⟩ = some (.slice B1 3 b1) := cell_in Hx.out.1 1 rfl
  have c2 : u6.cell? ⟨g1, 2, none⟩ = some (.int .i64 1) := cell_in Hx.out.1 2 rfl
  have c3 : u6.cell? ⟨g6, 1, none⟩ = some (.slice B6 1 b6) := cell_in Hy.out.1 1 rfl
  have c4 : u6.cell? ⟨g8, 2, none⟩ = some (.int .i64 2) := cell_in Hd.out.1 2 rfl
  have hk1 : Calls Try.prog 65 #[.agg #[.slice A1 4 a1, .slice B1 3 b1, .int .i64 1]] u6 fun e w' => e = .returned (.int .i64 0) ∧ Below u6.heap.size u6 w' := heap_Check.calls A1 a1 [0, 0, 1, 0] B1 b1 [2, 1, 3] 1 0 u6 Hx.out.2.1 Hx.out.2.2.2.1 Hx.out.2.2.1 Hx.out.2.2.2.2 hl10
  have hk2 : ∀ W, Calls Try.prog 65 #[.agg #[.slice none 0 0, .slice none 0 0, .int .i64 0]] W fun e w' => e = .returned (.int .i64 1) ∧ Below W.heap.size W w' := fun W => heap_Check.calls none 0 [] none 0 [] 0 1 W (Kd.C_nil _ _) (Nat.le_refl _) (Kd.C_nil _ _) (Nat.le_refl _) hl11
  have HK1 := Aside0.mk hk1
  have HK2 := Aside0.mk hk2
  clear hk1 hk2
  go_wp2_with (first | (go_at_call 65; (with_reducible refine HK1.out.mono ?_); rintro e x1 ⟨rfl, hb⟩; replace HT := Aside0.mk (below_step HT.out hb); clear hb) | (go_at_call 65; (with_reducible refine (HK2.out _).mono ?_); rintro e x2 ⟨rfl, hb⟩; replace HT := Aside0.mk (below_step HT.out hb); clear hb))
  go_ret
  exact ⟨rfl, HT.out⟩
end Go.Proofs.Ytobadajeekdakaa.Print
