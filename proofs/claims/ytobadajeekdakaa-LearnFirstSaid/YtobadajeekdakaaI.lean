/- learn.Less: its inner functions, a literal implied by others: their contracts. -/
import Derived.Test.YtobadajeekdakaaH1
import Derived.Test.YtobadajeekdakaaV
namespace Go.Proofs.Ytobadajeekdakaa.Print
open Go.RowKit Go.Proofs.YtobadajeekdakaaW.PrintWords Go.Proofs.YtobadajeekdakaaW.PrintLast Go.Proofs.YtobadajeekdakaaW.PrintMore
set_option linter.unusedVariables false
set_option linter.unusedSimpArgs false

/-- How many literals of the trail the map knows. -/
def cntK (t : List S41) (f : Int → Option Bool) : Nat → Nat
  | 0 => 0
  | k + 1 => cntK t f k + if (f (-(litAt t k))).isSome then 1 else 0
theorem cntK_le (t : List S41) (f : Int → Option Bool) : ∀ k, cntK t f k ≤ k
  | 0 => Nat.le_refl _
  | k + 1 => by have := cntK_le t f k; unfold cntK; split <;> omega
theorem cntK_upd {n : Int} {L : List (List Int)} {t : List S41} (h : Sane n L t) {f : Int → Option Bool} {j : Nat} (hj : j < t.length) (hf : f (-(litAt t j)) = none) (b : Bool) :
    ∀ k, k ≤ t.length → cntK t (upd f (-(litAt t j)) (some b)) k = cntK t f k + if j < k then 1 else 0
  | 0, _ => by simp [cntK]
  | k + 1, hk => by
    have ih := cntK_upd h hj hf b k (by omega)
    unfold cntK
    rw [ih]
    by_cases e : k = j
    · subst e
      have e1 : upd f (-(litAt t k)) (some b) (-(litAt t k)) = some b := by simp [upd]
      rw [e1, hf]
      simp
    · have hne : -(litAt t k) ≠ -(litAt t j) := fun q => e (h.inj (by omega) hj (by omega))
      have e1 : upd f (-(litAt t j)) (some b) (-(litAt t k)) = f (-(litAt t k)) := by simp [upd, hne]
      rw [e1]
      by_cases h2 : j < k
      · have h3 : j < k + 1 := by omega
        simp only [h2, h3, if_true]
        try omega
      · have h3 : ¬ j < k + 1 := by omega
        simp only [h2, h3, if_false]
        try omega
def impV (gk gx gt gb gin gf : Nat) : Value := .func (.func 98) #[] #[.pointer (some ⟨gk, 0, none⟩), .pointer (some ⟨gx, 0, none⟩), .pointer (some ⟨gt, 0, none⟩), .pointer (some ⟨gb, 0, none⟩), .pointer (some ⟨gin, 0, none⟩), .pointer (some ⟨gf, 0, none⟩)]
/-- What lies ahead: learn.look's answer, the boxes of the trail and of the clauses. -/
structure IHead (w4 : World) (nn : Int) (AL : Option Addr) (cL : Nat) (L : List (List Int)) (A1 : Option Addr) (c1 : Nat) (l1 : List S41) (Av : Option Addr) (cv bm gx gt gb : Nat) : Prop where
  h : FHead w4 nn AL L.length cL A1 c1 l1 Av cv bm gx
  hgt : w4.heap[gt]? = some (.cells #[.slice A1 l1.length c1] 25 (0, 0))
  hgb : w4.heap[gb]? = some (.cells #[.int .i64 nn, .slice AL L.length cL] 24 (0, 0))
  hT : Kd.C k41 w4 A1 l1.length l1
  hL : Kd.C (Kd.slice 3 (Kd.int .i64)) w4 AL L.length L
/-- Between two calls. -/
structure ISt (w4 : World) (gk gx gt gb gin gf bk bin nb : Nat) (L : List (List Int)) (t : List S41) (l : List Int) (f : Int → Option Bool) (W : World) : Prop where
  b : Below w4.heap.size w4 W
  hin : W.heap[gin]? = some (.cells #[.map (some bin)] 93 (0, 0))
  min : MapOf boolE W bin nb (dset l)
  hk : W.heap[gk]? = some (.cells #[.map (some bk)] 93 (0, 0))
  mkn : MapOf boolE W bk (cntK t f t.length) f
  hf : W.heap[gf]? = some (.cells #[impV gk gx gt gb gin gf] 106 (0, 0))
  ok : ∀ k, k < t.length → ∀ b, f (-(litAt t k)) = some b → b = implB L t l (-(litAt t k))
  far : bin ≠ bk ∧ w4.heap.size ≤ bk
section
variable {w4 W W' : World} {gk gx gt gb gin gf bk bin nb : Nat} {L : List (List Int)} {t : List S41} {l : List Int} {f f' : Int → Option Bool}
theorem ISt.below (h : ISt w4 gk gx gt gb gin gf bk bin nb L t l f W) (hb : Below W.heap.size W W') : ISt w4 gk gx gt gb gin gf bk bin nb L t l f W' :=
  ⟨below_step h.b hb, blk_below h.hin hb, h.min.below hb, blk_below h.hk hb, h.mkn.below hb, blk_below h.hf hb, h.ok, h.far⟩
theorem ISt.store (h : ISt w4 gk gx gt gb gin gf bk bin nb L t l f W) (hg : W.grownBy W' (some bk)) (hm : MapOf boolE W' bk (cntK t f' t.length) f')
    (hok : ∀ k, k < t.length → ∀ b, f' (-(litAt t k)) = some b → b = implB L t l (-(litAt t k))) : ISt w4 gk gx gt gb gin gf bk bin nb L t l f' W' := by
  refine ⟨h.b.grown hg h.b.size (fun k e => by cases e; exact h.far.2), blk_grown h.hin hg ?_, h.min.kept hg ?_, blk_grown h.hk hg ?_, hm, blk_grown h.hf hg ?_, hok, h.far⟩
  · intro e; exact blk_map h.hin h.mkn (Option.some.inj e)
  · intro e; exact h.far.1 (Option.some.inj e)
  · intro e; exact blk_map h.hk h.mkn (Option.some.inj e)
  · intro e; exact blk_map h.hf h.mkn (Option.some.inj e)
theorem ISt.other {bo n : Nat} {g : Int → Option Bool} (h : ISt w4 gk gx gt gb gin gf bk bin nb L t l f W) (hm : MapOf boolE W bo n g) (hg : W.grownBy W' (some bo)) (h1 : bo ≠ bin) (h2 : bo ≠ bk) (h3 : w4.heap.size ≤ bo) : ISt w4 gk gx gt gb gin gf bk bin nb L t l f W' := by
  refine ⟨h.b.grown hg h.b.size (fun k e => by cases e; exact h3), blk_grown h.hin hg ?_, h.min.kept hg ?_, blk_grown h.hk hg ?_, h.mkn.kept hg ?_, blk_grown h.hf hg ?_, h.ok, h.far⟩
  · intro e; exact blk_map h.hin hm (Option.some.inj e)
  · intro e; exact h1 (Option.some.inj e).symm
  · intro e; exact blk_map h.hk hm (Option.some.inj e)
  · intro e; exact h2 (Option.some.inj e).symm
  · intro e; exact blk_map h.hf hm (Option.some.inj e)
end
/-- What a call at step m - 1 leaves: steps from m on are known as before. -/
def IPost (w4 : World) (gk gx gt gb gin gf bk bin nb : Nat) (L : List (List Int)) (t : List S41) (l : List Int) (W : World) (f : Int → Option Bool) (m : Nat) (b : Bool) (e : Ending) (W' : World) : Prop :=
  e = .returned (.bool b) ∧ (∃ f', ISt w4 gk gx gt gb gin gf bk bin nb L t l f' W' ∧ ∀ j, m ≤ j → j < t.length → f' (-(litAt t j)) = f (-(litAt t j))) ∧ Twice W W' (fun k => k = bk)
section
variable {w4 : World} {nn : Int} {AL A1 Av : Option Addr} {cL c1 cv bm gx gt gb gk gin gf bk bin nb : Nat} {L : List (List Int)} {t : List S41} {l : List Int}
theorem imp_fin (hS : Sane nn L t) {k : Nat} (hk : k < t.length) {W wX wz : World} {f fX : Int → Option Bool} {bv : Bool} (hX : ISt w4 gk gx gt gb gin gf bk bin nb L t l fX wX) (hK : f (-(litAt t k)) = none)
    (hJ : ∀ j, k ≤ j → j < t.length → fX (-(litAt t j)) = f (-(litAt t j))) (hT : Twice W wX (fun q => q = bk)) (hM : MapOf boolE wz bk (cntK t fX t.length + 1) (upd fX (-(litAt t k)) (some bv))) (hg : wX.grownBy wz (some bk)) (hb : bv = implB L t l (-(litAt t k))) :
    IPost w4 gk gx gt gb gin gf bk bin nb L t l W f (k + 1) (implB L t l (-(litAt t k))) (.returned (.bool bv)) wz := by
  have hX0 : fX (-(litAt t k)) = none := (hJ k (Nat.le_refl _) hk).trans hK
  have hc := cntK_upd hS hk hX0 bv t.length (Nat.le_refl _)
  rw [if_pos hk] at hc
  refine ⟨ret_b hb, ⟨_, hX.store hg (by rw [hc]; exact hM) ?_, ?_⟩, hT.grown hg (by intro q hq; cases hq; rfl)⟩
  · intro j hj b hjb
    unfold upd at hjb
    split at hjb
    · rename_i e
      injection hjb with hjb
      rw [e, ← hjb, hb]
    · exact hX.ok j hj b hjb
  · intro j hj hj2
    unfold upd
    rw [if_neg (fun e => by have := hS.inj hj2 hk (by omega); omega)]
    exact hJ j (by omega) hj2
/-- The inner predicate: a literal of a reason that stands for its step's literal, lies in l, or is implied. -/
def predB (L : List (List Int)) (t : List S41) (l : List Int) (lit y : Int) : Bool := decide (y ≠ lit) && (!l.contains y && !implB L t l y)
theorem inner_any (hh : IHead w4 nn AL cL L A1 c1 t Av cv bm gx gt gb) (k : Nat) (y : Int) (hy : I64 y)
    (ih : ∀ i, i < k → ∀ W f, ISt w4 gk gx gt gb gin gf bk bin nb L t l f W → Calls Try.prog 98 #[.int .i64 (-(litAt t i)), .pointer (some ⟨gk, 0, none⟩), .pointer (some ⟨gx, 0, none⟩), .pointer (some ⟨gt, 0, none⟩), .pointer (some ⟨gb, 0, none⟩), .pointer (some ⟨gin, 0, none⟩), .pointer (some ⟨gf, 0, none⟩)] W (IPost w4 gk gx gt gb gin gf bk bin nb L t l W f (i + 1) (implB L t l (-(litAt t i)))))
    (lit why : Int) (hor : y = lit ∨ ∃ i, i < k ∧ y = -(litAt t i)) (gs : Nat) (W : World) (f : Int → Option Bool) (hI : ISt w4 gk gx gt gb gin gf bk bin nb L t l f W)
    (hs : W.heap[gs]? = some (.cells #[.int .i64 lit, .int .i64 why] 41 (0, 0))) :
    Calls Try.prog 101 #[.int .i64 y, .pointer (some ⟨gs, 0, none⟩), .pointer (some ⟨gin, 0, none⟩), .pointer (some ⟨gf, 0, none⟩)] W (IPost w4 gk gx gt gb gin gf bk bin nb L t l W f k (predB L t l lit y)) := by
  have HI := Aside0.mk hI
  have d0 : W.cell? ⟨gs, 0, none⟩ = some (.int .i64 lit) := cell_in hs 0 rfl
  have d1 : W.cell? ⟨gin, 0, none⟩ = some (.map (some bin)) := cell_in hI.hin 0 rfl
  have d2 : W.cell? ⟨gf, 0, none⟩ = some (.func (.func 98) #[] #[.pointer (some ⟨gk, 0, none⟩), .pointer (some ⟨gx, 0, none⟩), .pointer (some ⟨gt, 0, none⟩), .pointer (some ⟨gb, 0, none⟩), .pointer (some ⟨gin, 0, none⟩), .pointer (some ⟨gf, 0, none⟩)]) := cell_in hI.hf 0 rfl
  have hl := hI.min.look Try.underlying93 hy
  replace hl : (Instr.lookup 93 (.map (some bin)) (.int .i64 y) false).run Try.prog W = .ok (.bool (l.contains y)) W := by rw [← dset_getD]; exact hl
  by_cases e1 : y = lit
  · have HP := Aside0.mk (show predB L t l lit y = false by simp [predB, e1])
    have b1 : (y != lit) = false := by simp [e1]
    clear hI hs hl hor e1 ih
    go_enter Try.func101, Try.ntmps101
    go_wp2
    go_ret
    exact ⟨ret_b (by rw [HP.out]), ⟨f, HI.out, fun _ _ _ => rfl⟩, Twice.refl _ _⟩
  · have b1 : (y != lit) = true := by simp [e1]
    cases hc : l.contains y with
    | true =>
      rw [hc] at hl
      have HP := Aside0.mk (show predB L t l lit y = false by simp only [predB, hc]; simp)
      clear hI hs hor e1 ih hc
      go_enter Try.func101, Try.ntmps101
      go_wp2
      go_ret
      exact ⟨ret_b (by rw [HP.out]), ⟨f, HI.out, fun _ _ _ => rfl⟩, Twice.refl _ _⟩
    | false =>
      rw [hc] at hl
      obtain ⟨i, hi, hyi⟩ := hor.resolve_left e1
      have hcall := ih i hi W f hI
      rw [← hyi] at hcall
      have HIK := Aside0.mk hi
      have HP := Aside0.mk (show predB L t l lit y = !implB L t l y by simp only [predB, hc]; simp [e1])
      generalize implB L t l y = bb at hcall HP
      have eg98 : ∀ args w, (callFunc 98 args).run Try.prog w = .ok (.enter 98 args) w := enters_of Try.func98 (by kernel_rfl) rfl
      clear hI hs hor e1 ih hc hyi hi
      go_enter Try.func101, Try.ntmps101
      go_wp2_with (go_at_fn 98; refine hcall.mono ?_; rintro e w' ⟨rfl, hI2, ht2⟩; have HI2 := Aside0.mk hI2; have HT2 := Aside0.mk ht2; clear hI2 ht2)
      all_goals
        go_ret
        obtain ⟨f', q1, q2⟩ := HI2.out
        exact ⟨ret_b (by rw [HP.out]), ⟨f', q1, fun j hj hj2 => q2 j (by have := HIK.out; omega) hj2⟩, HT2.out⟩

set_option maxHeartbeats 2000000 in
set_option maxRecDepth 100000 in
theorem implied_any (hS : Sane nn L t) (hT5 : t.length ≤ 5000) (hh : IHead w4 nn AL cL L A1 c1 t Av cv bm gx gt gb) : ∀ k, k < t.length → ∀ W f, ISt w4 gk gx gt gb gin gf bk bin nb L t l f W →
    Calls Try.prog 98 #[.int .i64 (-(litAt t k)), .pointer (some ⟨gk, 0, none⟩), .pointer (some ⟨gx, 0, none⟩), .pointer (some ⟨gt, 0, none⟩), .pointer (some ⟨gb, 0, none⟩), .pointer (some ⟨gin, 0, none⟩), .pointer (some ⟨gf, 0, none⟩)] W (IPost w4 gk gx gt gb gin gf bk bin nb L t l W f (k + 1) (implB L t l (-(litAt t k)))) := by
  intro k
  induction k using Nat.strongRecOn with
  | _ k ih =>
  intro hk W f hI
  have hlit := hS.lit' hk
  have hn1 := hS.n1
  have hkey : I64 (-(litAt t k)) := i64_of (by omega) (by omega)
  have HI := Aside0.mk hI
  have d0 : W.cell? ⟨gk, 0, none⟩ = some (.map (some bk)) := cell_in hI.hk 0 rfl
  have hl := hI.mkn.look_ok Try.underlying93 hkey
  cases hf : f (-(litAt t k)) with
  | some b =>
    rw [hf] at hl
    replace hl : (Instr.lookup 93 (.map (some bk)) (.int .i64 (-(litAt t k))) true).run Try.prog W = .ok (.tuple #[.bool b, .bool true]) W := hl
    have HB := Aside0.mk (hI.ok k hk b hf)
    generalize -(litAt t k) = key at hl HB ⊢
    clear hI hf ih hlit hkey
    go_enter Try.func98, Try.ntmps98
    go_wp2
    go_ret
    exact ⟨ret_b (by rw [HB.out]), ⟨f, HI.out, fun _ _ _ => rfl⟩, Twice.refl _ _⟩
  | none =>
    rw [hf] at hl
    replace hl : (Instr.lookup 93 (.map (some bk)) (.int .i64 (-(litAt t k))) true).run Try.prog W = .ok (.tuple #[.bool false, .bool false]) W := hl
    have HF := Aside0.mk hf
    have HH := Aside0.mk hh
    have HS := Aside0.mk hS
    have HIH := Aside0.mk ih
    have hIB := implB_at hS l hk
    have hwhy := hS.whyR hk
    have hds := decs_succ t k hk
    have hlv := lv_at hk
    have hneg := hS.neg hk
    have hat := hS.at hk
    obtain ⟨key, hkeyE⟩ : ∃ key, key = -(litAt t k) := ⟨_, rfl⟩
    have HKEY := Aside0.mk hkeyE
    have HKI := Aside0.mk hkey
    have HLV := Aside0.mk hlv
    have HNEG := Aside0.mk hneg
    have HAT := Aside0.mk hat
    have HIB := Aside0.mk hIB
    have HDS := Aside0.mk hds
    rw [← hkeyE] at hl ⊢
    have hkl : (k : Int) < (t.length : Int) := by omega
    have hm : t.length ≤ 9223372036854775807 := by omega
    have hstep : ∀ W', Below w4.heap.size w4 W' → Calls Try.prog 99 #[.agg #[.int .i64 nn, .slice AL L.length cL, .slice A1 t.length c1, .slice Av t.length cv, .map (some bm)], .int .i64 key] W' fun e w' => e = .returned (.tuple #[.int .i64 (k : Int), .bool true]) ∧ Below W'.heap.size W' w' := fun W' hb' => by
      have := look_step nn AL A1 Av L.length cL t.length c1 t.length cv bm t.length (atT t) key W' (HH.out.h.ma.below hb')
      rw [HKEY.out, HNEG.out, HAT.out] at this
      rw [HKEY.out]
      exact this
    have d1 : W.cell? ⟨gx, 0, none⟩ = some (.int .i64 nn) := cell_in (blk_below hh.h.hgx hI.b) 0 rfl
    have d2 : W.cell? ⟨gx, 1, none⟩ = some (.slice AL L.length cL) := cell_in (blk_below hh.h.hgx hI.b) 1 rfl
    have d3 : W.cell? ⟨gx, 2, none⟩ = some (.slice A1 t.length c1) := cell_in (blk_below hh.h.hgx hI.b) 2 rfl
    have d4 : W.cell? ⟨gx, 3, none⟩ = some (.slice Av t.length cv) := cell_in (blk_below hh.h.hgx hI.b) 3 rfl
    have d5 : W.cell? ⟨gx, 4, none⟩ = some (.map (some bm)) := cell_in (blk_below hh.h.hgx hI.b) 4 rfl
    clear hI hf ih hlit hkey hh hS hIB hds hlv hneg hat hkeyE
    go_enter Try.func98, Try.ntmps98
    go_upto_region 5 with (go_at_call 99; refine (hstep _ HI.out.b).mono ?_; rintro e w5 ⟨rfl, hb5⟩; have HI5 := Aside0.mk (HI.out.below hb5); have HT5 := Aside0.mk ((Twice.refl W (fun q => q = bk)).below hb5); clear hb5)
    obtain ⟨lit, hlitE⟩ : ∃ lit, lit = litAt t k := ⟨_, rfl⟩
    obtain ⟨why, hwhyE⟩ : ∃ why, why = whyAt t k := ⟨_, rfl⟩
    obtain ⟨adt, e1, hx0, hx1⟩ := at_T41 HH.out.hT (k : Int) (by omega) hkl
    cases e1
    rw [Int.toNat_natCast] at hx0 hx1
    replace hx0 := (HI5.out.b.cell (World.block_lt_of_cell? w4 _ hx0)).trans hx0
    replace hx1 := (HI5.out.b.cell (World.block_lt_of_cell? w4 _ hx1)).trans hx1
    have ex0 : (rd_T41 t (k : Int)).f0 = lit := hlitE.symm
    have ex1 : (rd_T41 t (k : Int)).f1 = why := hwhyE.symm
    rw [ex0] at hx0
    rw [ex1] at hx1
    have HLITE := Aside0.mk hlitE
    have HWHYE := Aside0.mk hwhyE
    rw [← hwhyE] at hwhy
    obtain ⟨hw1, hw2⟩ := hwhy
    have c1' : w5.cell? ⟨gt, 0, none⟩ = some (.slice (some adt) t.length c1) := cell_in (blk_below HH.out.hgt HI5.out.b) 0 rfl
    clear d1 d2 d3 d4 d5 d0 hl hlitE hwhyE ex0 ex1 hw1 hw2
    go_upto_region 6 with (fail)
    have HI6 := Aside0.mk (HI5.out.below (below_alloc (Below.refl _ w5) (.cells #[.int .i64 lit, .int .i64 why] 41 (0, 0))))
    have HT6 := Aside0.mk (HT5.out.below (below_alloc (Below.refl _ w5) (.cells #[.int .i64 lit, .int .i64 why] 41 (0, 0))))
    have HS6 := Aside0.mk (blk_new w5 (.cells #[.int .i64 lit, .int .i64 why] 41 (0, 0)))
    have HGS := Aside0.mk (show w4.heap.size ≤ w5.heap.size ∧ bk < w5.heap.size from ⟨HI5.out.b.size, HI5.out.mkn.lt⟩)
    clear hx0 hx1 c1' HI5 HT5
    generalize w5.alloc (.cells #[.int .i64 lit, .int .i64 why] 41 (0, 0)) = w6 at HI6 HT6 HS6 ⊢
    generalize w5.heap.size = gs at HS6 HGS ⊢
    clear w5
    obtain ⟨adv, e2, hlv0⟩ := Kd.at_int HH.out.h.lv (k : Int) (by omega) hkl
    cases e2
    rw [Int.toNat_natCast, HLV.out] at hlv0
    have HL0 := Aside0.mk ((HI6.out.b.cell (World.block_lt_of_cell? w4 _ hlv0)).trans hlv0)
    clear hlv0
    have g0 : w6.cell? ⟨gs, 0, none⟩ = some (.int .i64 lit) := cell_in HS6.out 0 rfl
    have g1 : w6.cell? ⟨gs, 1, none⟩ = some (.int .i64 why) := cell_in HS6.out 1 rfl
    have g3 : w6.cell? ⟨gx, 3, none⟩ = some (.slice (some adv) t.length cv) := cell_in (blk_below HH.out.h.hgx HI6.out.b) 3 rfl
    by_cases hw0 : why < 0
    · have hdp : decs t (k + 1) ≠ 0 := by
        have h1 := HDS.out
        have h2 := HS.out.whyR hk
        have h3 := HWHYE.out
        rw [if_pos (by omega)] at h1
        omega
      have HIV := Aside0.mk (show implB L t l (-(litAt t k)) = false by rw [HIB.out, if_neg hdp, if_pos (by have := HWHYE.out; omega)])
      have hl1 := HL0.out
      obtain ⟨dv, hdv⟩ : ∃ dv : Int, dv = (decs t (k + 1) : Int) := ⟨_, rfl⟩
      rw [← hdv] at hl1
      have b1 : (dv == 0) = false := by simp; omega
      have b2 : decide (why ≥ 0) = false := decide_eq_false (by omega)
      have b3 : decide (0 ≤ why) = false := decide_eq_false (by omega)
      clear hdv hdp
      go_upto_region 9 with (fail)
      have HBV : Aside0 (false = implB L t l (-(litAt t k))) := ⟨HIV.out.symm⟩
      obtain ⟨wz, hrun, hMz, htz⟩ := HI6.out.mkn.store (x := key) Try.underlying93 (by have := cntK_le t f t.length; unfold maxLen; omega) (by rw [HKEY.out]; exact HKI.out) false trivial
      replace hrun : (Instr.mapUpdate 93 (.map (some bk)) (.int .i64 key) (.bool false)).run Try.prog w6 = .ok () wz := hrun
      have HMZ := Aside0.mk hMz
      have HGZ := Aside0.mk htz.grown
      have dk : w6.cell? ⟨gk, 0, none⟩ = some (.map (some bk)) := cell_in HI6.out.hk 0 rfl
      clear hMz htz
      go_wp2
      go_ret
      have hfin := imp_fin (f := f) (W := W) HS.out hk HI6.out HF.out (fun _ _ _ => rfl) HT6.out (by rw [← HKEY.out]; exact HMZ.out) HGZ.out HBV.out
      rw [← HKEY.out] at hfin
      exact hfin
    · have hw1 : 0 ≤ why := by omega
      by_cases hd0 : decs t (k + 1) = 0
      · have HIV := Aside0.mk (show implB L t l (-(litAt t k)) = true by rw [HIB.out, if_pos hd0])
        have hl1 := HL0.out
        rw [hd0] at hl1
        clear hd0
        go_upto_region 9 with (fail)
        have HBV : Aside0 (true = implB L t l (-(litAt t k))) := ⟨HIV.out.symm⟩
        obtain ⟨wz, hrun, hMz, htz⟩ := HI6.out.mkn.store (x := key) Try.underlying93 (by have := cntK_le t f t.length; unfold maxLen; omega) (by rw [HKEY.out]; exact HKI.out) true trivial
        replace hrun : (Instr.mapUpdate 93 (.map (some bk)) (.int .i64 key) (.bool true)).run Try.prog w6 = .ok () wz := hrun
        have HMZ := Aside0.mk hMz
        have HGZ := Aside0.mk htz.grown
        have dk : w6.cell? ⟨gk, 0, none⟩ = some (.map (some bk)) := cell_in HI6.out.hk 0 rfl
        clear hMz htz
        go_wp2
        go_ret
        have hfin := imp_fin (f := f) (W := W) HS.out hk HI6.out HF.out (fun _ _ _ => rfl) HT6.out (by rw [← HKEY.out]; exact HMZ.out) HGZ.out HBV.out
        rw [← HKEY.out] at hfin
        exact hfin
      · have hl1 := HL0.out
        obtain ⟨dv, hdv⟩ : ∃ dv : Int, dv = (decs t (k + 1) : Int) := ⟨_, rfl⟩
        rw [← hdv] at hl1
        have hdp : 0 < dv := by omega
        have HIV := Aside0.mk (show implB L t l (-(litAt t k)) = !((rd_L1 L why).any fun y => predB L t l lit y) by rw [HIB.out, if_neg hd0, if_neg (by have := HWHYE.out; omega), HWHYE.out, HLITE.out]; rfl)
        clear hdv hd0
        have hwL : why < (L.length : Int) := by have := (HS.out.whyR hk).2; have := HWHYE.out; omega
        obtain ⟨ad3, Ar, cr, e3, hcell, hcr, hrow⟩ := at_L1 HH.out.hL why hw1 hwL
        have HROW := Aside0.mk hrow
        cases e3
        replace hcell := (HI6.out.b.cell (World.block_lt_of_cell? w4 _ hcell)).trans hcell
        have g4 : w6.cell? ⟨gb, 1, none⟩ = some (.slice (some ad3) L.length cL) := cell_in (blk_below HH.out.hgb HI6.out.b) 1 rfl
        have hrsn := HS.out.reason hk (by have := HWHYE.out; omega)
        rw [← HWHYE.out, ← HLITE.out] at hrsn
        have HRSN := Aside0.mk hrsn
        have hrd := HS.out.row _ (rd_L1_mem hw1 hwL)
        have HRD := Aside0.mk hrd
        obtain ⟨row, hrowE⟩ : ∃ row, row = rd_L1 L why := ⟨_, rfl⟩
        rw [← hrowE] at hcell HROW HIV HRSN HRD hcr
        have eg101 : ∀ args w, (callFunc 101 args).run Try.prog w = .ok (.enter 101 args) w := enters_of Try.func101 (by kernel_rfl) rfl
        have hcall := containsFunc_any 101 #[.pointer (some ⟨gs, 0, none⟩), .pointer (some ⟨gin, 0, none⟩), .pointer (some ⟨gf, 0, none⟩)] eg101 Ar cr row
          (fun i W' => (∃ f', ISt w4 gk gx gt gb gin gf bk bin nb L t l f' W' ∧ ∀ j, k ≤ j → j < t.length → f' (-(litAt t j)) = f (-(litAt t j))) ∧ Twice W W' (fun q => q = bk) ∧ predB L t l lit (rd row i) = true)
          (fun i W' => (∃ f', ISt w4 gk gx gt gb gin gf bk bin nb L t l f' W' ∧ ∀ j, k ≤ j → j < t.length → f' (-(litAt t j)) = f (-(litAt t j))) ∧ Twice W W' (fun q => q = bk) ∧ W'.heap[gs]? = some (.cells #[.int .i64 lit, .int .i64 why] 41 (0, 0)) ∧ ∀ j, j < i → predB L t l lit (rd row j) = false)
          w6 (fun i W' ⟨⟨f', h1, _⟩, _⟩ => Kd.C_below HROW.out h1.b) (fun i W' hi ⟨⟨f', h1, h2⟩, h3, h4, h5⟩ => by
            have hym : rd row i ∈ row := by rw [show rd row (i : Int) = row[i] by simp [rd, List.getElem?_eq_getElem hi]]; exact List.getElem_mem _
            have hyr := HRD.out _ hym
            have hor : rd row (i : Int) = lit ∨ ∃ i', i' < k ∧ rd row (i : Int) = -(litAt t i') := by
              by_cases e : rd row (i : Int) = lit
              · exact Or.inl e
              · exact Or.inr (HRSN.out.2 _ hym e)
            have hin := inner_any HH.out k (rd row i) (i64_of (by omega) (by omega)) (fun i' hi' W'' f'' hI'' => HIH.out i' hi' (by omega) W'' f'' hI'') lit why hor gs W' f' h1 h4
            refine hin.mono ?_
            rintro e W'' ⟨rfl, ⟨f2, q1, q2⟩, q3⟩
            have q4 := q3.cells h4 (by have := HGS.out; omega)
            cases hpb : predB L t l lit (rd row (i : Int)) with
            | true => exact Or.inl ⟨rfl, ⟨f2, q1, fun j hj hj2 => (q2 j hj hj2).trans (h2 j hj hj2)⟩, h3.trans q3, by first | exact hpb | rfl⟩
            | false =>
              refine Or.inr ⟨rfl, ⟨f2, q1, fun j hj hj2 => (q2 j hj hj2).trans (h2 j hj hj2)⟩, h3.trans q3, q4, fun j hj => ?_⟩
              by_cases e : j = i
              · subst e; exact hpb
              · exact h5 j (by omega))
          ⟨⟨f, HI6.out, fun _ _ _ => rfl⟩, HT6.out, HS6.out, fun j hj => absurd hj (Nat.not_lt_zero _)⟩
        have HCALL := Aside0.mk hcall
        have hall : ∀ m, row.length = m → Calls Try.prog 100 #[.slice Ar m cr, .func (.func 101) #[] #[.pointer (some ⟨gs, 0, none⟩), .pointer (some ⟨gin, 0, none⟩), .pointer (some ⟨gf, 0, none⟩)]] w6 fun e W' => e = .returned (.bool (row.any fun y => predB L t l lit y)) ∧ (∃ f', ISt w4 gk gx gt gb gin gf bk bin nb L t l f' W' ∧ ∀ j, k ≤ j → j < t.length → f' (-(litAt t j)) = f (-(litAt t j))) ∧ Twice W W' (fun q => q = bk) := by
          rintro m rfl
          refine HCALL.out.mono ?_
          rintro e W' (⟨i, hi, rfl, h1, h2, h3⟩ | ⟨rfl, h1, h2, _, h3⟩)
          · exact ⟨ret_b (any_rd_hit _ row i hi h3).symm, h1, h2⟩
          · exact ⟨ret_b (any_rd_none _ row h3).symm, h1, h2⟩
        have HALL := Aside0.mk hall
        clear hcall hall hrsn hrd hrow hrowE hcr
        obtain ⟨nr, hnr⟩ : ∃ nr, nr = row.length := ⟨_, rfl⟩
        rw [← hnr] at hcell
        have HNR := Aside0.mk hnr
        clear hnr HCALL
        generalize (row.any fun y => predB L t l lit y) = ab at HALL HIV
        go_upto_region 9 with (go_at_call 100; refine (HALL.out nr HNR.out.symm).mono ?_; rintro e w9 ⟨rfl, ⟨f9, q1, q2⟩, q3⟩; have HI9 := Aside0.mk q1; have HJ9 := Aside0.mk q2; have HT9 := Aside0.mk q3; clear q1 q2 q3)
        have HBV : Aside0 ((!ab) = implB L t l (-(litAt t k))) := ⟨HIV.out.symm⟩
        obtain ⟨wz, hrun, hMz, htz⟩ := HI9.out.mkn.store (x := key) Try.underlying93 (by have := cntK_le t f9 t.length; unfold maxLen; omega) (by rw [HKEY.out]; exact HKI.out) (!ab) trivial
        replace hrun : (Instr.mapUpdate 93 (.map (some bk)) (.int .i64 key) (.bool (!ab))).run Try.prog w9 = .ok () wz := hrun
        have HMZ := Aside0.mk hMz
        have HGZ := Aside0.mk htz.grown
        have dk : w9.cell? ⟨gk, 0, none⟩ = some (.map (some bk)) := cell_in HI9.out.hk 0 rfl
        clear hMz htz
        go_wp2
        go_ret
        have hfin := imp_fin (f := f) (W := W) HS.out hk HI9.out HF.out HJ9.out HT9.out (by rw [← HKEY.out]; exact HMZ.out) HGZ.out HBV.out
        rw [← HKEY.out] at hfin
        exact hfin
end
end Go.Proofs.Ytobadajeekdakaa.Print
