/- slices.insertionSortCmpFunc at the order of a heap: its contract. -/
import Derived.Test.YtobadajeekdakaaHG
namespace Go.Proofs.Ytobadajeekdakaa.Print
open Go.RowKit Go.Proofs.YtobadajeekdakaaW.PrintWords Go.Proofs.YtobadajeekdakaaW.PrintLast Go.Proofs.YtobadajeekdakaaW.PrintMore
open Go.Sort (grow alloc_eq_grow)
set_option linter.unusedVariables false
set_option linter.unusedSimpArgs false

/-- v stands ahead of w. -/
abbrev aheadP (act : List Int) (x y : Int) : Prop := ordV act x y < 0
theorem ahead_asymm {act : List Int} {x y : Int} (h : aheadP act x y) : ¬ aheadP act y x := by
  unfold aheadP at *; rw [ordV_neg] at *; omega
theorem le_trans' {act : List Int} {x y z : Int} (h1 : ¬ aheadP act y x) (h2 : ¬ aheadP act z y) : ¬ aheadP act z x := by
  unfold aheadP at *; rw [ordV_neg] at *; omega
/-- Exchanged: the elements at i and j. -/
def swapV (ys : List Int) (i j : Nat) : List Int := (ys.set i (rd ys j)).set j (rd ys i)
theorem rd_get {ys : List Int} {i : Nat} (h : i < ys.length) : rd ys (i : Int) = ys[i] := by simp [rd, List.getElem?_eq_getElem h]
theorem swapV_perm {ys : List Int} {i j : Nat} (hi : i < ys.length) (hj : j < ys.length) : (swapV ys i j).Perm ys := by
  unfold swapV
  rw [rd_get hi, rd_get hj]
  exact List.set_set_perm hi hj
theorem swapV_rd {ys : List Int} {i j : Nat} (hi : i < ys.length) (hj : j < ys.length) (k : Nat) : rd (swapV ys i j) (k : Int) = if k = j then rd ys i else if k = i then rd ys j else rd ys k := by
  have e : ∀ (zs : List Int) (m : Nat), rd zs (m : Int) = zs.getD m 0 := fun zs m => rfl
  have hl : (ys.set i (rd ys j)).length = ys.length := List.length_set ..
  rw [e, swapV, List.getD_eq_getElem?_getD, List.getElem?_set]
  by_cases h1 : k = j
  · subst h1
    rw [if_pos rfl, if_pos (by rw [hl]; exact hj), if_pos rfl]
    rfl
  · rw [if_neg (fun e => h1 e.symm), if_neg h1, List.getElem?_set]
    by_cases h2 : k = i
    · subst h2
      rw [if_pos rfl, if_pos hi, if_pos rfl]
      rfl
    · rw [if_neg (fun e => h2 e.symm), if_neg h2]
      rfl
/-- A rearrangement within the places from a to b. -/
structure Within (a b : Nat) (xs ys : List Int) : Prop where
  perm : ys.Perm xs
  out : ∀ k, k < a ∨ b ≤ k → rd ys (k : Int) = rd xs (k : Int)
theorem Within.refl (a b : Nat) (xs : List Int) : Within a b xs xs := ⟨List.Perm.refl _, fun _ _ => rfl⟩
theorem Within.len {a b : Nat} {xs ys : List Int} (h : Within a b xs ys) : ys.length = xs.length := h.perm.length_eq
theorem Within.swap {a b : Nat} {xs ys : List Int} (h : Within a b xs ys) {i j : Nat} (hi : i < ys.length) (hj : j < ys.length) (ha : a ≤ i ∧ i < b) (hb : a ≤ j ∧ j < b) : Within a b xs (swapV ys i j) :=
  ⟨(swapV_perm hi hj).trans h.perm, fun k hk => by rw [swapV_rd hi hj, if_neg (by omega), if_neg (by omega)]; exact h.out k hk⟩
theorem Within.trans {a b : Nat} {xs ys zs : List Int} (h : Within a b xs ys) (k : Within a b ys zs) : Within a b xs zs :=
  ⟨k.perm.trans h.perm, fun i hi => (k.out i hi).trans (h.out i hi)⟩
/-- In order from a to b. -/
def SortedTo (act : List Int) (a b : Nat) (ys : List Int) : Prop := ∀ p q : Nat, a ≤ p → p < q → q < b → ¬ aheadP act (rd ys (q : Int)) (rd ys (p : Int))
/-- In order from a to i, but for the element at j, which may stand further ahead. -/
def ButOne (act : List Int) (a i j : Nat) (ys : List Int) : Prop := ∀ p q : Nat, a ≤ p → p < q → q ≤ i → q ≠ j → ¬ aheadP act (rd ys (q : Int)) (rd ys (p : Int))
theorem ButOne.start {act : List Int} {a i : Nat} {ys : List Int} (h : SortedTo act a i ys) : ButOne act a i i ys := fun p q h1 h2 h3 h4 => h p q h1 h2 (by omega)
theorem ButOne.step {act : List Int} {a i j : Nat} {ys : List Int} (h : ButOne act a i j ys) (haj : a < j) (hji : j ≤ i) (hi : i < ys.length) (hlt : aheadP act (rd ys (j : Int)) (rd ys ((j - 1 : Nat) : Int))) : ButOne act a i (j - 1) (swapV ys j (j - 1)) := by
  intro p q h1 h2 h3 h4
  rw [swapV_rd (by omega) (by omega), swapV_rd (by omega) (by omega), if_neg h4]
  by_cases hq : q = j
  · rw [if_pos hq]
    by_cases hp : p = j - 1
    · rw [if_pos hp]; exact ahead_asymm hlt
    · rw [if_neg hp, if_neg (by omega)]; exact h p (j - 1) h1 (by omega) (by omega) (by omega)
  · rw [if_neg hq]
    by_cases hp : p = j - 1
    · rw [if_pos hp]; exact h j q (by omega) (by omega) h3 hq
    · rw [if_neg hp]
      by_cases hp2 : p = j
      · rw [if_pos hp2]; exact h (j - 1) q (by omega) (by omega) h3 hq
      · rw [if_neg hp2]; exact h p q h1 h2 h3 hq
theorem ButOne.stop {act : List Int} {a i j : Nat} {ys : List Int} (h : ButOne act a i j ys) (haj : a ≤ j) (hji : j ≤ i) (hlt : j = a ∨ ¬ aheadP act (rd ys (j : Int)) (rd ys ((j - 1 : Nat) : Int))) : SortedTo act a (i + 1) ys := by
  intro p q h1 h2 h3
  by_cases hq : q = j
  · subst hq
    rcases hlt with h4 | h4
    · omega
    · by_cases hp : p = q - 1
      · rw [hp]; exact h4
      · exact le_trans' (h p (q - 1) h1 (by omega) (by omega) (by omega)) h4
  · exact h p q h1 h2 (by omega) hq

/-- The comparison, in every world in which block g alone has been written. -/
def CmpLaw (w : World) (g gw : Nat) (act : List Int) : Prop := ∀ (W : World) (x y : Int), w.grownBy W (some g) → (0 ≤ x ∧ x < act.length) → (0 ≤ y ∧ y < act.length) →
  Calls Try.prog 151 #[.pointer (some ⟨gw, 0, none⟩), .int .i64 x, .int .i64 y] W (OrdPost W (ordV act x y))
/-- The row that is being sorted. -/
structure SortSt (w : World) (base g n cap : Nat) (ys : List Int) (W : World) : Prop where
  row : Kd.R (Kd.int .i64) 3 W base (fun _ => True) (.slice (some ⟨g, 0, none⟩) n cap) ys
  grown : w.grownBy W (some g)
def InR (act ys : List Int) : Prop := ∀ x ∈ ys, 0 ≤ x ∧ x < act.length
theorem InR.at_ {act ys : List Int} (h : InR act ys) {i : Nat} (hi : i < ys.length) : 0 ≤ rd ys (i : Int) ∧ rd ys (i : Int) < act.length := h _ (by rw [rd_get hi]; exact List.getElem_mem _)
section
variable {w W W1 : World} {base g n cap : Nat} {ys : List Int}
theorem SortSt.cell (h : SortSt w base g n cap ys W) (i : Nat) (hi : i < n) : W.cell? ⟨g, i, none⟩ = some (.int .i64 (rd ys (i : Int))) ∧ W.frozen? ⟨g, i, none⟩ = false := by
  obtain ⟨hn, _, _⟩ := Kd.R_reads' h.row
  have hr := h.row
  rw [hn] at hr
  have := Kd.R_cell (d := (0 : Int)) hr (i : Int) (by omega) (by omega)
  rw [Int.toNat_natCast] at this
  exact this
theorem SortSt.len (h : SortSt w base g n cap ys W) : ys.length = n := (Kd.R_reads' h.row).1.symm
theorem SortSt.below (h : SortSt w base g n cap ys W) (hb : Below W.heap.size W W1) : SortSt w base g n cap ys W1 := ⟨Kd.R_below h.row hb, grown_trans h.grown (grown_of_below hb _)⟩
theorem SortSt.swapped (h : SortSt w base g n cap ys W) (i j : Nat) : SortSt w base g n cap (swapV ys i j) (((W.setCell ⟨g, i, none⟩ (.int .i64 (rd ys (j : Int)))).setCell ⟨g, j, none⟩ (.int .i64 (rd ys (i : Int)))).drew) := by
  obtain ⟨h1, h2⟩ := Kd.R_putg h.row (i : Int) (rd ys (j : Int))
  rw [Int.toNat_natCast] at h1 h2
  obtain ⟨h3, h4⟩ := Kd.R_putg h1 (j : Int) (rd ys (i : Int))
  rw [Int.toNat_natCast] at h3 h4
  exact ⟨Kd.R_drew h3, grown_trans h.grown (grown_trans h2 (grown_trans h4 (grown_drew _ _)))⟩
end

def SortPost (w : World) (base g n cap a b : Nat) (act l : List Int) (e : Ending) (w' : World) : Prop := e = .returned (.tuple #[]) ∧ ∃ ys, Within a b l ys ∧ SortedTo act a b ys ∧ SortSt w base g n cap ys w'
set_option maxHeartbeats 8000000 in
set_option maxRecDepth 100000 in
theorem insertion_any (w0 : World) (gw base g n cap a b : Nat) (act l : List Int) (w : World) (hc : CmpLaw w0 g gw act) (hS : SortSt w0 base g n cap l w) (hl : InR act l) (hab : a ≤ b) (hb : b ≤ n) (hn : n ≤ 100000) :
    Calls Try.prog 179 #[.slice (some ⟨g, 0, none⟩) n cap, .int .i64 a, .int .i64 b, .func (.func 151) #[.pointer (some ⟨gw, 0, none⟩)] #[]] w (SortPost w0 base g n cap a b act l) := by
  have HC := Aside0.mk hc
  have HS := Aside0.mk hS
  have HL := Aside0.mk hl
  have HLEN := Aside0.mk hS.len
  have eg : ∀ args w, (callFunc 151 args).run Try.prog w = .ok (.enter 151 args) w := enters_of Try.func151 (by kernel_rfl) rfl
  clear hc hS hl
  go_enter Try.func179, Try.ntmps179
  go_wp2
  go_loopg [8] (b - a) (fun gg s8 wr => ∃ (i : Nat) (ys : List Int), s8 = .int .i64 i ∧ a < i ∧ i ≤ b + 1 ∧ b + 1 - i ≤ gg + 1 ∧ Aside0 (Within a b l ys) ∧ Aside0 (i ≤ b → SortedTo act a i ys) ∧ Aside0 (b < i → SortedTo act a b ys) ∧ Aside0 (SortSt w0 base g n cap ys wr))
  case atStart => exact ⟨a + 1, l, by go_num, by omega, by omega, by omega, ⟨Within.refl _ _ _⟩, ⟨fun _ p q h1 h2 h3 => absurd h1 (by omega)⟩, ⟨fun _ p q h1 h2 h3 => absurd h1 (by omega)⟩, HS⟩
  case round =>
    obtain ⟨i, ys, rfl, hai, hib, hgg, HW, HO, HO2, HST⟩ := hrel
    by_cases hlt : i < b
    · have hltz : (i : Int) < (b : Int) := by omega
      have HLI := Aside0.mk hlt
      have HSO := Aside0.mk (HO.out (Nat.le_of_lt hlt))
      clear HO HO2
      go_wp2
      go_loopg [9] i (fun g2 s9 wr2 => ∃ (j : Nat) (zs : List Int), s9 = .int .i64 j ∧ a ≤ j ∧ j ≤ i ∧ j ≤ g2 ∧ Aside0 (Within a b l zs) ∧ Aside0 (ButOne act a i j zs) ∧ Aside0 (SortSt w0 base g n cap zs wr2))
      case atStart => exact ⟨i, ys, rfl, by omega, Nat.le_refl _, Nat.le_refl _, HW, ⟨ButOne.start HSO.out⟩, HST⟩
      case round =>
        clear HST HSO HW ys
        obtain ⟨j, zs, rfl, haj, hji, hg2, HW, HBO, HST⟩ := hrel
        have HLZ := Aside0.mk HST.out.len
        by_cases hja : a < j
        · have hjaz : (a : Int) < (j : Int) := by omega
          have hjd : decide ((j : Int) > (a : Int)) = true := decide_eq_true (by omega)
          obtain ⟨c1, f1⟩ := HST.out.cell j (by omega)
          obtain ⟨c2, f2⟩ := HST.out.cell (j - 1) (by omega)
          have HIX := Aside0.mk (show InR act zs from fun x hx => HL.out x (HW.out.perm.mem_iff.1 hx))
          obtain ⟨x, hx⟩ : ∃ x, x = rd zs (j : Int) := ⟨_, rfl⟩
          obtain ⟨y, hy⟩ : ∃ y, y = rd zs ((j - 1 : Nat) : Int) := ⟨_, rfl⟩
          have hcmp := HC.out wr.drew x y (grown_trans HST.out.grown (grown_drew _ _)) (by rw [hx]; exact HIX.out.at_ (by rw [HLZ.out]; omega)) (by rw [hy]; exact HIX.out.at_ (by rw [HLZ.out]; omega))
          rw [← hx] at c1
          rw [← hy] at c2
          have HX := Aside0.mk hx
          have HY := Aside0.mk hy
          clear hx hy HIX
          have hw1 : IntKind.i64.wrap ((j : Int) - 1) = (j : Int) - 1 := by rw [IntKind.wrap_i64]; omega
          have ht1 : ((j : Int) - 1).toNat = j - 1 := by omega
          have hp1 : (0 : Int) ≤ (j : Int) - 1 := by omega
          have hp0 : (1 : Int) ≤ (j : Int) := by omega
          have hp2 : (j : Int) - 1 < (n : Int) := by omega
          have hp3 : (j : Int) < (n : Int) := by omega
          obtain ⟨o, ho⟩ : ∃ o, o = ordV act x y := ⟨_, rfl⟩
          rw [← ho] at hcmp
          have HO := Aside0.mk ho
          clear ho
          by_cases ho : o < 0
          · have HOL := Aside0.mk ho
            have hod : decide (o < 0) = true := decide_eq_true ho
            go_wp2_with fail
            go_region_held3 (fun w' => w'.cell? ⟨g, j, none⟩ = some (.int .i64 x) ∧ w'.cell? ⟨g, j - 1, none⟩ = some (.int .i64 y)) (first | go_keep | exact ⟨by assumption, by assumption⟩) (first | (go_at_fn 151; refine hcmp.mono ?_; rintro e w3 ⟨rfl, _, hb3⟩; have HB3 := Aside0.mk hb3; have c1' : w3.cell? ⟨g, j, none⟩ = some (.int .i64 x) := pw_cell_below (below_drew1 (Below.refl _ wr) |>.trans (hb3.mono (Nat.le_refl _))) c1; have c2' : w3.cell? ⟨g, j - 1, none⟩ = some (.int .i64 y) := pw_cell_below (below_drew1 (Below.refl _ wr) |>.trans (hb3.mono (Nat.le_refl _))) c2; clear hb3))
            have HST3 := Aside0.mk ((HST.out.below (below_drew1 (Below.refl _ wr))).below HB3.out)
            have f1' : w3.frozen? ⟨g, j, none⟩ = false := (HST3.out.cell j (by omega)).2
            have f2' : w3.frozen? ⟨g, j - 1, none⟩ = false := (HST3.out.cell (j - 1) (by omega)).2
            have c3' : (w3.setCell ⟨g, j, none⟩ (.int .i64 y)).cell? ⟨g, j - 1, none⟩ = some (.int .i64 y) := by
              rw [World.cell?_setCell_other _ _ _ _ (by intro e; injection e with _ e; omega)]
              exact c2'
            have HSW := Aside0.mk (HST3.out.swapped j (j - 1))
            rw [← HX.out, ← HY.out] at HSW
            clear c1 c2 f1 f2 hcmp HB3
            go_wp2_with fail
            go_region
            generalize ((w3.setCell ⟨g, j, none⟩ (.int .i64 y)).setCell ⟨g, j - 1, none⟩ (.int .i64 x)).drew = w4 at HSW ⊢
            have HNX := Aside0.mk (HBO.out.step hja hji (by rw [HLZ.out]; omega) (by rw [← HX.out, ← HY.out]; unfold aheadP; rw [← HO.out]; exact HOL.out))
            have HNW := Aside0.mk (HW.out.swap (i := j) (j := j - 1) (by rw [HLZ.out]; omega) (by rw [HLZ.out]; omega) (by omega) (by omega))
            clear c1' c2' c3' f1' f2'
            go_wp2
            go_roundg (j - 1)
            case measure => omega
            case rel => exact ⟨j - 1, swapV zs j (j - 1), by congr 1; omega, by omega, by omega, Nat.le_refl _, HNW, HNX, HSW⟩
          · have hod : decide (o < 0) = false := decide_eq_false ho
            have hoge : (0 : Int) ≤ o := by omega
            have HSTOP := Aside0.mk (HBO.out.stop haj hji (.inr (by rw [← HX.out, ← HY.out]; unfold aheadP; rw [← HO.out]; exact ho)))
            clear ho
            go_wp2_with fail
            go_region_held3 (fun w' => w'.cell? ⟨g, j, none⟩ = some (.int .i64 x) ∧ w'.cell? ⟨g, j - 1, none⟩ = some (.int .i64 y)) (first | go_keep | exact ⟨by assumption, by assumption⟩) (first | (go_at_fn 151; refine hcmp.mono ?_; rintro e w3 ⟨rfl, _, hb3⟩; have HB3 := Aside0.mk hb3; have c1' : w3.cell? ⟨g, j, none⟩ = some (.int .i64 x) := pw_cell_below (below_drew1 (Below.refl _ wr) |>.trans (hb3.mono (Nat.le_refl _))) c1; have c2' : w3.cell? ⟨g, j - 1, none⟩ = some (.int .i64 y) := pw_cell_below (below_drew1 (Below.refl _ wr) |>.trans (hb3.mono (Nat.le_refl _))) c2; clear hb3))
            have HST3 := Aside0.mk ((HST.out.below (below_drew1 (Below.refl _ wr))).below HB3.out)
            clear c1 c2 f1 f2 hcmp HB3 c1' c2'
            go_wp2
            go_roundg (b - (i + 1))
            case measure => omega
            case rel => exact ⟨i + 1, zs, by go_num, by omega, by omega, by omega, HW, ⟨fun _ => HSTOP.out⟩, ⟨fun h => absurd h (by have := HLI.out; omega)⟩, HST3⟩
        · obtain rfl : a = j := by omega
          have hjd : decide ((a : Int) > (a : Int)) = false := decide_eq_false (by omega)
          have HSTOP := Aside0.mk (HBO.out.stop haj hji (.inl rfl))
          go_wp2_with fail
          go_region
          have HST3 := Aside0.mk (HST.out.below (below_drew1 (Below.refl _ wr)))
          go_wp2
          go_roundg (b - (i + 1))
          case measure => omega
          case rel => exact ⟨i + 1, zs, by go_num, by omega, by omega, by omega, HW, ⟨fun _ => HSTOP.out⟩, ⟨fun h => absurd h (by have := HLI.out; omega)⟩, HST3⟩
    · have hltz : ¬ (i : Int) < (b : Int) := by omega
      have HFIN := Aside0.mk (show SortedTo act a b ys by
        by_cases h : i ≤ b
        · obtain rfl : i = b := by omega
          exact HO.out h
        · exact HO2.out (by omega))
      go_wp2
      go_end0
      exact ⟨rfl, ys, HW.out, HFIN.out, HST.out⟩
end Go.Proofs.Ytobadajeekdakaa.Print
