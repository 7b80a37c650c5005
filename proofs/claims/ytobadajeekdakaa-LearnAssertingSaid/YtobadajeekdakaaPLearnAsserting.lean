/- LearnAsserting in plain Lean: the clause that First tells is sorted, false, and has one literal at the last level. -/
import Derived.Test.YtobadajeekdakaaY
import Derived.Test.YtobadajeekdakaaH2
import Derived.Test.YtobadajeekdakaaF5
namespace Go.Proofs.Ytobadajeekdakaa.Pure
open Go.RowKit Go.Proofs.Ytobadajeekdakaa.Print Go.Proofs.YtobadajeekdakaaW.PrintWords Go.Proofs.YtobadajeekdakaaW.PrintLast Go.Proofs.YtobadajeekdakaaW.PrintMore
set_option linter.unusedVariables false
set_option linter.unusedSimpArgs false
def mostOf (t : List S41) (last : Int) (l : List Int) (m : Int) : Int := l.foldl (fun m y => if lvlOf t y = last then m else mx m (lvlOf t y)) m
theorem mostOf_char (t : List S41) (last : Int) : ∀ (l : List Int) (m : Int), m ≤ mostOf t last l m ∧ (∀ y ∈ l, lvlOf t y ≠ last → lvlOf t y ≤ mostOf t last l m) ∧ (mostOf t last l m = m ∨ ∃ y ∈ l, lvlOf t y ≠ last ∧ lvlOf t y = mostOf t last l m)
  | [], m => ⟨Int.le_refl _, by simp, Or.inl rfl⟩
  | x :: l, m => by
    have e : mostOf t last (x :: l) m = mostOf t last l (if lvlOf t x = last then m else mx m (lvlOf t x)) := rfl
    rw [e]
    obtain ⟨h1, h2, h3⟩ := mostOf_char t last l (if lvlOf t x = last then m else mx m (lvlOf t x))
    by_cases hx : lvlOf t x = last
    · rw [if_pos hx] at h1 h2 h3 ⊢
      refine ⟨h1, fun y hy hn => ?_, ?_⟩
      · rcases List.mem_cons.1 hy with rfl | hy
        · exact absurd hx hn
        · exact h2 y hy hn
      · rcases h3 with h3 | ⟨y, hy, h4⟩
        · exact Or.inl h3
        · exact Or.inr ⟨y, List.mem_cons_of_mem _ hy, h4⟩
    · rw [if_neg hx] at h1 h2 h3 ⊢
      have hm1 : m ≤ mx m (lvlOf t x) := by unfold mx; split <;> omega
      have hm2 : lvlOf t x ≤ mx m (lvlOf t x) := by unfold mx; split <;> omega
      have hm3 : mx m (lvlOf t x) = m ∨ mx m (lvlOf t x) = lvlOf t x := by unfold mx; split <;> omega
      refine ⟨Int.le_trans hm1 h1, fun y hy hn => ?_, ?_⟩
      · rcases List.mem_cons.1 hy with rfl | hy
        · exact Int.le_trans hm2 h1
        · exact h2 y hy hn
      · rcases h3 with h3 | ⟨y, hy, h4⟩
        · rcases hm3 with h5 | h5
          · exact Or.inl (h3.trans h5)
          · exact Or.inr ⟨x, List.mem_cons_self, hx, by rw [h3, h5]⟩
        · exact Or.inr ⟨y, List.mem_cons_of_mem _ hy, h4⟩
theorem mostOf_snoc (t : List S41) (last : Int) (l : List Int) (x m : Int) : mostOf t last (l ++ [x]) m = if lvlOf t x = last then mostOf t last l m else mx (mostOf t last l m) (lvlOf t x) := by
  unfold mostOf; rw [List.foldl_append]; rfl
theorem cnt_perm (t : List S41) (last : Int) {l m : List Int} (h : l.Perm m) : cnt t last l = cnt t last m := (h.filter _).length_eq
theorem w_succ (i : Nat) (h : i < 1000000) : wrap64 ((i : Int) + 1) = ((i + 1 : Nat) : Int) := by unfold wrap64; omega
theorem w_succI (x : Int) (h0 : -5 ≤ x) (h1 : x ≤ 1000000) : wrap64 (x + 1) = x + 1 := by unfold wrap64; omega
theorem w_pred (i : Nat) (h0 : 0 < i) (h : i < 1000000) : wrap64 ((i : Int) - 1) = ((i - 1 : Nat) : Int) := by unfold wrap64; omega
section
variable {n : Int} {L : List (List Int)} {t : List S41}
/-- The law's loop over the clause. -/
theorem asserting_run (h : Sane n L t) (ht : t.length ≤ 30) (last back : Int) (l : List Int) (hl : l.length ≤ 1000) (h1 : ∀ y ∈ l, I64 y ∧ knownB t y = true ∧ 0 < lvlOf t y) (h2 : l.Pairwise fun a b => varOf a < varOf b)
    (hend : Aside0 (cnt t last l = 1 ∧ back = mostOf t last l 0 ∧ back < last)) (d : Nat) : ∀ (k i : Nat), l.length - i = d → 100 + 2 * d ≤ k → i ≤ l.length → ∀ high most : Int, high = (cnt t last (l.take i) : Int) → most = mostOf t last (l.take i) 0 →
      chalklinelaw20_LearnAsserting.l0 k t l back last high most (i : Int) = some true := by
  induction d with
  | zero =>
    intro k i hd hk hi high most eh em
    have EH := Aside0.mk eh
    have EM := Aside0.mk em
    clear eh em
    obtain ⟨k, rfl⟩ : ∃ m, k = m + 1 := ⟨k - 1, by omega⟩
    obtain rfl : i = l.length := by omega
    rw [List.take_length] at EH EM
    have hn : ¬ (l.length : Int) < (l.length : Int) := by omega
    rw [chalklinelaw20_LearnAsserting.l0, if_neg hn, if_pos (by rw [EH.out, hend.out.1]; rfl), if_pos (by rw [EM.out]; exact hend.out.2.1), decide_eq_true hend.out.2.2]
  | succ d ih =>
    intro k i hd hk hi high most eh em
    have EH := Aside0.mk eh
    have EM := Aside0.mk em
    clear eh em
    obtain ⟨k, rfl⟩ : ∃ m, k = m + 2 := ⟨k - 2, by omega⟩
    have hlt : i < l.length := by omega
    have hltz : (i : Int) < (l.length : Int) := by omega
    have hz : (0 : Int) ≤ (i : Int) := by omega
    have hk2 : 2 * t.length + 2 ≤ k + 1 := by omega
    have hl3 : t.length ≤ 1000000 := by omega
    have hw : wrap64 ((i : Int) + 1) = ((i + 1 : Nat) : Int) := w_succ i (by omega)
    have hhi : wrap64 (high + 1) = high + 1 := by
      have h3 : cnt t last (l.take i) ≤ (l.take i).length := by unfold cnt; exact List.length_filter_le _ _
      have h4 := List.length_take_le i l
      have h5 := EH.out
      exact w_succI high (by omega) (by omega)
    have ihk := ih k (i + 1) (by omega) (by omega) (by omega)
    have hx : rd l (i : Int) = l[i] := by simp [rd, List.getElem?_eq_getElem hlt]
    have hm := List.getElem_mem hlt
    obtain ⟨q1, q2, q3⟩ := h1 _ hm
    have htk : l.take (i + 1) = l.take i ++ [l[i]] := List.take_succ_eq_append_getElem hlt
    have hcn : (cnt t last (l.take (i + 1)) : Int) = high + (if lvlOf t l[i] = last then 1 else 0) := by rw [htk, cnt_snoc, EH.out]; split <;> simp
    have hmn : mostOf t last (l.take (i + 1)) 0 = if lvlOf t l[i] = last then most else mx most (lvlOf t l[i]) := by rw [htk, mostOf_snoc, EM.out]
    rw [chalklinelaw20_LearnAsserting.l0, if_pos hltz, if_pos hz, hx, level_tells h hl3 _ (k + 1) hk2, if_pos q2]
    simp only [Option.bind_some]
    have q4 : ¬ lvlOf t l[i] ≤ 0 := by omega
    rw [if_neg q4]
    have hj : chalklinelaw20_LearnAsserting.j2 (k + 1) t l back last high most (i : Int) (lvlOf t l[i]) false = some true := by
      rw [chalklinelaw20_LearnAsserting.j2, if_neg (by simp), hw]
      by_cases hq : lvlOf t l[i] = last
      · rw [if_pos hq] at hcn hmn ⊢
        rw [hhi]
        exact ihk _ _ hcn.symm hmn.symm
      · rw [if_neg hq] at hcn hmn ⊢
        exact ihk _ _ (by rw [hcn, Int.add_zero]) hmn.symm
    by_cases h0 : (i : Int) > 0
    · have hw1 : wrap64 ((i : Int) - 1) = ((i - 1 : Nat) : Int) := w_pred i (by omega) (by omega)
      have hi1 : i - 1 < l.length := by omega
      have hi2 : (0 : Int) ≤ ((i - 1 : Nat) : Int) := by omega
      have hi3 : ((i - 1 : Nat) : Int) < (l.length : Int) := by omega
      have hxp : rd l ((i - 1 : Nat) : Int) = l[i - 1] := by simp [rd, List.getElem?_eq_getElem hi1]
      have hv := (List.pairwise_iff_getElem.1 h2) (i - 1) i hi1 hlt (by omega)
      unfold varOf at hv
      rw [if_pos h0, hw1, if_pos hi2, if_pos hi3, hxp, decide_eq_false (Int.not_le.2 hv)]
      exact hj
    · rw [if_neg h0]; exact hj
theorem nodup_le : ∀ (l m : List Int), l.Nodup → (∀ x ∈ l, x ∈ m) → l.length ≤ m.length
  | [], m, _, _ => Nat.zero_le _
  | x :: l, m, hn, hs => by
    obtain ⟨h1, h2⟩ := List.nodup_cons.1 hn
    have hx := hs x List.mem_cons_self
    have := nodup_le l (m.erase x) h2 fun y hy => (List.mem_erase_of_ne (fun e => h1 (by rw [← e]; exact hy))).2 (hs y (List.mem_cons_of_mem _ hy))
    rw [List.length_erase_of_mem hx] at this
    have : 0 < m.length := List.length_pos_of_mem hx
    simp only [List.length_cons]
    omega
theorem walk_len {m : Nat} {l : List Int} (h : WalkInv t (lastOf t) m l) (hm : m ≤ t.length) : l.length ≤ t.length := by
  have := nodup_le l ((List.range t.length).map fun k => -(litAt t k)) h.nd fun x hx => by
    obtain ⟨k, hk, rfl⟩ := h.kn x hx
    exact List.mem_map.2 ⟨k, List.mem_range.2 (by omega), rfl⟩
  simpa using this
end
theorem only_one {t : List S41} {last : Int} {x y : Int} : ∀ {l : List Int}, l.Nodup → cnt t last l = 1 → x ∈ l → y ∈ l → lvlOf t x = last → lvlOf t y = last → x = y := by
  intro l hn hc hx hy h1 h2
  by_cases e : x = y
  · exact e
  · exfalso
    have h3 := dropL_cnt t last x l hn hx h1
    have h4 : y ∈ dropL x l := dropL_mem.2 ⟨hy, fun q => e q.symm⟩
    have h5 : 0 < cnt t last (dropL x l) := List.length_pos_of_mem (List.mem_filter.2 ⟨h4, decide_eq_true h2⟩)
    omega
theorem LearnAsserting (a0_0 : Int) (l0_1 : List (List Int)) (l1 : List S41) (a2 : Int) (w0_0 : (Lit.int .i64 a0_0).wf = true) (hw0_1 : ∀ r ∈ l0_1, ∀ x ∈ r, (Lit.int .i64 x).wf = true)
    (hw1 : ∀ x ∈ l1, (Lit.int .i64 x.f0).wf = true ∧ (Lit.int .i64 x.f1).wf = true) (w2 : (Lit.int .i64 a2).wf = true) : ∃ k, chalklinelaw20_LearnAsserting.f k a0_0 l0_1 l1 a2 = some true := by
  obtain ⟨K, hK⟩ : ∃ K : Nat, 9999 ≤ K := ⟨9999, Nat.le_refl _⟩
  refine ⟨K + 1, ?_⟩
  obtain ⟨b, hb, hsm⟩ := few_tells a0_0 l0_1 l1 (K + 1) (by omega)
  unfold chalklinelaw20_LearnAsserting.f chalklinelaw20_live.f
  simp only [Option.bind_some, if_true]
  rw [hb]
  simp only [Option.bind_some]
  cases b with
  | false => simp
  | true =>
    have hs := hsm rfl
    rw [if_pos rfl]
    by_cases hc : propCheckV a0_0 l0_1 l1 = 0
    · have hS := sane_of hc
      by_cases hr : a2 < 0 ∨ (l0_1.length : Int) ≤ a2 ∨ (rd_L1 l0_1 a2).all (knownB l1) = false
      · rw [first_arg hc hs.fit hr]; simp
      · have h0 : 0 ≤ a2 := by omega
        have h1 : a2 < (l0_1.length : Int) := by omega
        have hk : (rd_L1 l0_1 a2).all (knownB l1) = true := by simp only [not_or, Bool.not_eq_false] at hr; exact hr.2.2
        rcases first_value hS hc hs.fit h0 h1 hk (fun _ => True) trivial (fun _ _ _ _ _ _ _ _ _ => trivial) with ⟨e, _⟩ | ⟨hl0, l', k, hkl, e, hI, hcn, hm, hlv, _⟩
        · rw [e]; simp
        · rw [e, levels_at_k l1 (by have := hs.2.2; omega) (K + 1) (by have := hs.2.2; omega)]
          simp only [Option.bind_some, if_true]
          have hlen : (levelsFrom 0 l1).length = l1.length := levelsFrom_length 0 l1
          have hpos : 0 < l1.length := by omega
          rw [if_neg (by omega), hlen, show (((l1.length : Int) != (l1.length : Int))) = false by simp, chalklinelaw20_LearnAsserting.j0, if_neg (by simp), hlen]
          have hw1 : wrap64 ((l1.length : Int) - 1) = (l1.length : Int) - 1 := by have := hs.2.2; unfold wrap64; omega
          rw [hw1, if_pos (by omega), if_pos (by omega)]
          have hlast : rd (levelsFrom 0 l1) ((l1.length : Int) - 1) = lastOf l1 := by unfold lastOf; rw [if_pos hpos]; rfl
          rw [hlast]
          have hnl : ∀ y ∈ l', 0 ≤ lvlOf l1 y := fun y hy => by obtain ⟨j, hj, rfl⟩ := hI.kn y hy; rw [hS.lvl (by omega)]; omega
          have hle : ∀ y ∈ l', lvlOf l1 y ≤ lastOf l1 := fun y hy => by
            obtain ⟨j, hj, rfl⟩ := hI.kn y hy
            rw [hS.lvl (by omega), lastOf_eq]
            have := decs_mono l1 (show j + 1 ≤ l1.length by omega)
            omega
          have hperm := sortV_perm (l'.filter fun y => decide (lvlOf l1 y ≠ 0))
          have hmem : ∀ y, y ∈ sortV (l'.filter fun y => decide (lvlOf l1 y ≠ 0)) ↔ y ∈ l' ∧ lvlOf l1 y ≠ 0 := fun y => by rw [hperm.mem_iff]; simp
          have hcnt : cnt l1 (lastOf l1) (sortV (l'.filter fun y => decide (lvlOf l1 y ≠ 0))) = 1 := by
            rw [cnt_perm _ _ hperm, ← hcn]
            unfold cnt
            rw [List.filter_filter]
            congr 1
            apply List.filter_congr
            intro y _
            by_cases q : lvlOf l1 y = lastOf l1
            · simp [q, hl0]
            · simp [q]
          have hln : (sortV (l'.filter fun y => decide (lvlOf l1 y ≠ 0))).length ≤ 1000 := by
            rw [hperm.length_eq]
            have := List.length_filter_le (fun y => decide (lvlOf l1 y ≠ 0)) l'
            have := walk_len hI (by omega)
            have := hs.2.2
            omega
          have hnd := outOf_vars hS hI (by omega)
          have hndv : ((sortV (l'.filter fun y => decide (lvlOf l1 y ≠ 0))).map varOf).Nodup := (hperm.map varOf).nodup_iff.2 hnd
          have hasc := sortV_asc (l'.filter fun y => decide (lvlOf l1 y ≠ 0))
          have hstrict : (sortV (l'.filter fun y => decide (lvlOf l1 y ≠ 0))).Pairwise fun a b => varOf a < varOf b := by
            rw [List.nodup_iff_pairwise_ne, List.pairwise_map] at hndv
            exact (hasc.and hndv).imp (fun {a b} hab => by have := hab.1; have := hab.2; omega)
          have hbc := backOf_char l1 (-(litAt l1 k)) (l'.filter fun y => decide (lvlOf l1 y ≠ 0)) 0
          have hbe : backOf l1 (-(litAt l1 k)) (l'.filter fun y => decide (lvlOf l1 y ≠ 0)) = (l'.filter fun y => decide (lvlOf l1 y ≠ 0)).foldl (fun b y => if y = -(litAt l1 k) then b else mx b (lvlOf l1 y)) 0 := rfl
          dsimp only at hbc
          rw [← hbe] at hbc
          have hmc := mostOf_char l1 (lastOf l1) (sortV (l'.filter fun y => decide (lvlOf l1 y ≠ 0))) 0
          have hfirst : ∀ y ∈ l', (y = -(litAt l1 k) ↔ lvlOf l1 y = lastOf l1) := fun y hy => ⟨fun q => by rw [q]; exact hlv, fun q => only_one hI.nd hcn hy hm q hlv⟩
          obtain ⟨b1, b2, b3⟩ := hbc
          obtain ⟨m1, m2, m3⟩ := hmc
          have hbm : backOf l1 (-(litAt l1 k)) (l'.filter fun y => decide (lvlOf l1 y ≠ 0)) = mostOf l1 (lastOf l1) (sortV (l'.filter fun y => decide (lvlOf l1 y ≠ 0))) 0 := by
            apply Int.le_antisymm
            · rcases b3 with b3 | ⟨y, hy, hne, he⟩
              · rw [b3]; exact m1
              · have hy' := hperm.mem_iff.2 hy
                rw [← he]
                exact m2 y hy' fun q => hne ((hfirst y ((hmem y).1 hy').1).2 q)
            · rcases m3 with m3 | ⟨y, hy, hne, he⟩
              · rw [m3]; exact b1
              · rw [← he]
                exact b2 y (hperm.mem_iff.1 hy) fun q => hne ((hfirst y ((hmem y).1 hy).1).1 q)
          have hblt : backOf l1 (-(litAt l1 k)) (l'.filter fun y => decide (lvlOf l1 y ≠ 0)) < lastOf l1 := by
            rcases b3 with b3 | ⟨y, hy, hne, he⟩
            · rw [b3]
              have : 0 ≤ lastOf l1 := by rw [lastOf_eq]; omega
              omega
            · have hy' := (hmem y).1 (hperm.mem_iff.2 hy)
              rw [← he]
              have q1 := hle y hy'.1
              have q2 : lvlOf l1 y ≠ lastOf l1 := fun q => hne ((hfirst y hy'.1).2 q)
              omega
          have hrun := asserting_run hS hs.2.2 (lastOf l1) (backOf l1 (-(litAt l1 k)) (l'.filter fun y => decide (lvlOf l1 y ≠ 0))) (sortV (l'.filter fun y => decide (lvlOf l1 y ≠ 0))) hln
            (fun y hy => by
              obtain ⟨q1, q2⟩ := (hmem y).1 hy
              have q3 := hnl y q1
              obtain ⟨j, hj, rfl⟩ := hI.kn y q1
              have q4 := hS.lit' (show j < l1.length by omega)
              have q5 := hS.n1
              exact ⟨i64_of (by omega) (by omega), hS.known (by omega), by omega⟩) hstrict ⟨hcnt, hbm, hblt⟩ _ K 0 rfl (by omega) (by omega) 0 0 rfl rfl
          exact hrun
    · rw [first_bad hc]
      simp only [Option.bind_some]
      rw [if_neg hc]
      simp
end Go.Proofs.Ytobadajeekdakaa.Pure
