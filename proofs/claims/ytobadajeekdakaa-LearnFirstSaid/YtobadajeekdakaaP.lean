/- learn.First's inner function: its contract. -/
import Derived.Test.YtobadajeekdakaaT
namespace Go.Proofs.Ytobadajeekdakaa.Print
open Go.RowKit Go.Proofs.YtobadajeekdakaaW.PrintWords Go.Proofs.YtobadajeekdakaaW.PrintLast Go.Proofs.YtobadajeekdakaaW.PrintMore
open Go.Maps (Keyed int_keyed keyOf_int_mk)
set_option linter.unusedVariables false
set_option linter.unusedSimpArgs false

/-- From w to W nothing has turned but the blocks of S. -/
structure Twice (w W : World) (S : Nat → Prop) : Prop where
  os : W.os = w.os
  tape : W.tape = w.tape
  output : W.output = w.output
  size : w.heap.size ≤ W.heap.size
  block : ∀ i, i < w.heap.size → ¬ S i → W.heap[i]? = w.heap[i]?
section
variable {w W W2 : World} {S : Nat → Prop}
theorem Twice.refl (w : World) (S : Nat → Prop) : Twice w w S := ⟨rfl, rfl, rfl, Nat.le_refl _, fun _ _ _ => rfl⟩
theorem Twice.grown (h : Twice w W S) {row : Option Nat} (hg : W.grownBy W2 row) (hr : ∀ k, row = some k → S k) : Twice w W2 S :=
  ⟨hg.os.trans h.os, hg.tape.trans h.tape, hg.output.trans h.output, Nat.le_trans h.size hg.size, fun i hi hn => (hg.block i (Nat.lt_of_lt_of_le hi h.size) (fun e => hn (hr i e.symm))).trans (h.block i hi hn)⟩
theorem Twice.trans (h : Twice w W S) (k : Twice W W2 S) : Twice w W2 S :=
  ⟨k.os.trans h.os, k.tape.trans h.tape, k.output.trans h.output, Nat.le_trans h.size k.size, fun i hi hn => (k.block i (Nat.lt_of_lt_of_le hi h.size) hn).trans (h.block i hi hn)⟩
theorem Twice.below (h : Twice w W S) (hb : Below W.heap.size W W2) : Twice w W2 S := h.grown (grown_of_below hb none) (by simp)
theorem Twice.base {n : Nat} (h : Twice w W S) (hS : ∀ k, S k → n ≤ k) (hn : n ≤ w.heap.size) : Below n w W :=
  ⟨h.os, h.tape, h.output, h.size, fun i hi => h.block i (Nat.lt_of_lt_of_le hi hn) (fun hs => by have := hS i hs; omega)⟩
theorem Twice.map {α : Type} {e : TypeId} {E : ElemK α e} {b n : Nat} {f : Int → Option α} (h : Twice w W S) (hM : MapOf E w b n f) (hb : ¬ S b) : MapOf E W b n f := hM.move (h.block b hM.lt hb)
theorem Twice.cells {g : Nat} {o : Obj} (h : Twice w W S) (hX : w.heap[g]? = some o) (hb : ¬ S g) : W.heap[g]? = some o := (h.block g (blk_lt hX) hb).trans hX
end

theorem grown_setCell (w : World) (a : Addr) (u : Value) : w.grownBy (w.setCell a u) (some a.block) := by
  refine ⟨rfl, rfl, rfl, by simp [World.setCell], fun k hk hne => ?_⟩
  have : a.block ≠ k := fun e => hne (by rw [e])
  simp [World.setCell, Array.getElem?_modify, this]
/-- The level of a false literal, as the index tells it. -/
def lvOf (f : Int → Option Int) (lv : List Int) (x : Int) : Int := rd lv ((f (wrap64 (-x))).getD 0)
def putStep (lvl : Int → Int) (last but : Int) (s : (Int → Option Bool) × Int) (x : Int) : (Int → Option Bool) × Int :=
  if x = but ∨ (s.1 x).getD false = true then s else (upd s.1 x (some true), if lvl x = last then s.2 + 1 else s.2)
def putAll (lvl : Int → Int) (last but : Int) (l : List Int) (s : (Int → Option Bool) × Int) : (Int → Option Bool) × Int := l.foldl (putStep lvl last but) s
theorem putAll_take (lvl : Int → Int) (last but : Int) (l : List Int) (s : (Int → Option Bool) × Int) (k : Nat) (hk : k < l.length) :
    putAll lvl last but (l.take (k + 1)) s = putStep lvl last but (putAll lvl last but (l.take k) s) (rd l (k : Int)) := by
  unfold putAll
  rw [show rd l (k : Int) = l[k] by simp [rd, List.getElem?_eq_getElem hk], List.take_succ_eq_append_getElem hk, List.foldl_append]
  rfl
theorem putStep_hi (lvl : Int → Int) (last but : Int) (s : (Int → Option Bool) × Int) (x : Int) : s.2 ≤ (putStep lvl last but s x).2 ∧ (putStep lvl last but s x).2 ≤ s.2 + 1 := by
  unfold putStep
  split
  · exact ⟨Int.le_refl _, by omega⟩
  · dsimp only; split <;> exact ⟨by omega, by omega⟩
theorem putAll_hi (lvl : Int → Int) (last but : Int) (l : List Int) : ∀ s, s.2 ≤ (putAll lvl last but l s).2 ∧ (putAll lvl last but l s).2 ≤ s.2 + l.length := by
  induction l with
  | nil => intro s; exact ⟨Int.le_refl _, by simp [putAll]⟩
  | cons x r ih =>
    intro s
    have h1 := putStep_hi lvl last but s x
    have h2 := ih (putStep lvl last but s x)
    simp only [putAll, List.foldl_cons, List.length_cons] at h2 ⊢
    exact ⟨by omega, by omega⟩

section
variable {ops : Array Oper} {rest : List Oper} {o : Oper} {a : Act} {Q : Exit → Act → World → Prop} {W : World} {b n : Nat} {α : Type} {e : TypeId} {E : ElemK α e} {f : Int → Option α}
theorem map_lookg_event {f : Int → Option Bool} {v : Bool} (hw : Region.wanted o (yielded ops a.tmps) = true) (m x : Operand) {t : TypeId} (ho : o.op = .lookup t m x false) (ht : Try.prog.underlying t = some (.map 3 4)) (hm : a.eval m = .map (some b)) (hM : MapOf boolE W b n f) {key : Int} (hx : a.eval x = .int .i64 key) (hk : I64 key) (hv : (f key).getD false = v)
    (h : wpList Try.prog ops Q rest (a.put o.dst (.bool v)) W) : wpList Try.prog ops Q (o :: rest) a W := by
  refine wpList_step fun K' hK' => ?_
  rw [if_pos hw]
  unfold Oper.wp
  subst hv
  simp [execOp, ho, hm, hx, hM.look ht hk, Result.andThen]
  exact hK' _ _ h
end

def PutS (bin bh : Nat) : Nat → Prop := fun k => k = bin ∨ k = bh
def PutPost (bin bh n : Nat) (r : (Int → Option Bool) × Int) (w : World) (e : Ending) (w' : World) : Prop :=
  e = .returned (.tuple #[]) ∧ MapOf boolE w' bin n r.1 ∧ w'.heap[bh]? = some (.cells #[.int .i64 r.2] 3 (0, 0)) ∧ Twice w w' (PutS bin bh)

section
variable (nn : Int) (AL AT AV : Option Addr) (nL cL nT cT cV bat na tin bx bl bh bin n : Nat) (fa : Int → Option Int) (lv : List Int) (last but hi : Int) (f : Int → Option Bool)
set_option maxHeartbeats 4000000 in
set_option maxRecDepth 100000 in
theorem first_put (A : Option Addr) (c : Nat) (l : List Int) (w : World) (hA : MapOf intE w bat na fa) (hM : MapOf boolE w bin n f) (hI : w.heap[tin]? = some (.cells #[.map (some bin)] 93 (0, 0)))
    (hX : w.heap[bx]? = some (.cells #[.int .i64 nn, .slice AL nL cL, .slice AT nT cT, .slice AV lv.length cV, .map (some bat)] 90 (0, 0)))
    (hL : w.heap[bl]? = some (.cells #[.int .i64 last] 3 (0, 0))) (hH : w.heap[bh]? = some (.cells #[.int .i64 hi] 3 (0, 0))) (hne1 : bat ≠ bin) (hne2 : bl ≠ bh)
    (hV : ∀ W, Twice w W (PutS bin bh) → Kd.C (Kd.int .i64) W AV lv.length lv) (hC : ∀ W, Twice w W (PutS bin bh) → Kd.C (Kd.int .i64) W A l.length l)
    (hwf : ∀ x ∈ l, I64 x) (hk : ∀ x ∈ l, x ≠ but → ∃ i : Int, fa (wrap64 (-x)) = some i ∧ 0 ≤ i ∧ i < lv.length) (h0 : -4611686018427387904 ≤ hi) (h1 : hi + l.length ≤ 4611686018427387904) (hn : n + l.length ≤ 17592186044416) :
    Calls Try.prog 84 #[.slice A l.length c, .int .i64 but, .pointer (some ⟨tin, 0, none⟩), .pointer (some ⟨bx, 0, none⟩), .pointer (some ⟨bl, 0, none⟩), .pointer (some ⟨bh, 0, none⟩)] w (PutPost bin bh (n + l.length) (putAll (lvOf fa lv) last but l (f, hi)) w) := by
  have e1 : tin ≠ bh := by rintro rfl; rw [hI] at hH; cases hH
  have e2 : bx ≠ bh := by rintro rfl; rw [hX] at hH; cases hH
  have e3 : bh ≠ bin := blk_map hH hM
  have e4 : tin ≠ bin := blk_map hI hM
  have e5 : bx ≠ bin := blk_map hX hM
  have e6 : bl ≠ bin := blk_map hL hM
  have e7 : bh ≠ bat := blk_map hH hA
  have HE1 := Aside0.mk (show ¬ PutS bin bh tin by unfold PutS; omega)
  have HE2 := Aside0.mk (show ¬ PutS bin bh bx by unfold PutS; omega)
  have HE3 := Aside0.mk (show ¬ PutS bin bh bl by unfold PutS; omega)
  have HE4 := Aside0.mk (show ¬ PutS bin bh bat by unfold PutS; omega)
  have HE5 := Aside0.mk e3
  have HA := Aside0.mk hA
  have HI := Aside0.mk hI
  have HX := Aside0.mk hX
  have HL := Aside0.mk hL
  have HV := Aside0.mk hV
  have HC := Aside0.mk hC
  have HK := Aside0.mk hk
  have HW := Aside0.mk hwf
  have HN := Aside0.mk hn
  have HH1 := Aside0.mk h1
  have HH0 := Aside0.mk h0
  have HM := Aside0.mk hM
  have HH := Aside0.mk hH
  have hm : l.length ≤ 9223372036854775807 := by omega
  clear hA hI hX hL hV hC hk hwf hn h1 h0 hM hH e1 e2 e3 e4 e5 e6 e7 hne1 hne2
  generalize hr : putAll (lvOf fa lv) last but l (f, hi) = r
  have HR := Aside0.mk hr
  clear hr
  go_enter Try.func84, Try.ntmps84
  go_wp2
  go_loopg [12] l.length (fun gg s12 wr => ∃ k : Nat, k ≤ l.length ∧ l.length - k ≤ gg ∧ s12 = .int .i64 k ∧ Aside0 (Twice w wr (PutS bin bh)) ∧ Aside0 (∃ s, s = putAll (lvOf fa lv) last but (l.take k) (f, hi) ∧ MapOf boolE wr bin (n + k) s.1 ∧ wr.heap[bh]? = some (.cells #[.int .i64 s.2] 3 (0, 0))))
  case atStart => exact ⟨0, Nat.zero_le _, by omega, rfl, ⟨Twice.refl _ _⟩, ⟨_, rfl, HM.out, HH.out⟩⟩
  case round =>
    obtain ⟨k, hk, hg, rfl, HT, ⟨s, es, hM, hH⟩⟩ := hrel
    by_cases hlt : k < l.length
    · have hltz : (k : Int) < (l.length : Int) := by omega
      obtain ⟨ad, e1, hcell⟩ := Kd.at_int (HC.out _ HT.out) (k : Int) (by omega) hltz
      cases e1
      rw [Int.toNat_natCast] at hcell
      have HR2 := Aside0.mk (show rd l (k : Int) = l[k] by simp [rd, List.getElem?_eq_getElem hlt])
      have HP := Aside0.mk (putAll_take (lvOf fa lv) last but l (f, hi) k hlt)
      rw [← es] at HP
      have hsb := putAll_hi (lvOf fa lv) last but (l.take k) (f, hi)
      rw [← es] at hsb
      have hs0 : -4611686018427387904 ≤ s.2 := by have := HH0.out; exact Int.le_trans this hsb.1
      have hs1 : s.2 ≤ 4611686018427387904 := by have := HH1.out; have := hsb.2; have := List.length_take_le k l; dsimp only at *; omega
      have HES := Aside0.mk es
      clear es hsb
      obtain ⟨f1, hi1⟩ := s
      dsimp only at hM hH hs0 hs1 HP
      have HWY : Aside0 (I64 (rd l (k : Int))) := ⟨by rw [HR2.out]; exact HW.out _ (List.getElem_mem _)⟩
      have HKY : Aside0 (rd l (k : Int) ≠ but → ∃ i : Int, fa (wrap64 (-(rd l (k : Int)))) = some i ∧ 0 ≤ i ∧ i < lv.length) := ⟨by rw [HR2.out]; exact HK.out _ (List.getElem_mem _)⟩
      have HM1 := Aside0.mk hM
      have HH2 := Aside0.mk hH
      clear hM hH
      generalize rd l (k : Int) = y at hcell HP HWY HKY HR2
      have hcI : wr.cell? ⟨tin, 0, none⟩ = some (.map (some bin)) := cell_in (HT.out.cells HI.out HE1.out) 0 rfl
      by_cases hyb : y = but
      · subst hyb
        go_wp2
        go_roundg (l.length - (k + 1))
        case measure => omega
        case rel =>
          refine ⟨k + 1, by omega, by omega, by go_num, HT, ⟨(f1, hi1), ?_, HM1.out.mono (by omega), HH2.out⟩⟩
          rw [HP.out]; unfold putStep; rw [if_pos (Or.inl rfl)]
      · by_cases hin : (f1 y).getD false = true
        · go_wp2_with ((with_reducible refine gate_dst (N := 22) rfl ?_); refine map_lookg_event ?_ (.tmp 20) (.tmp 21) (t := 93) rfl Try.underlying93 rfl HM1.out rfl HWY.out hin ?_)
          all_goals try rfl
          go_roundg (l.length - (k + 1))
          case measure => omega
          case rel =>
            refine ⟨k + 1, by omega, by omega, by go_num, HT, ⟨(f1, hi1), ?_, HM1.out.mono (by omega), HH2.out⟩⟩
            rw [HP.out]; unfold putStep; rw [if_pos (Or.inr hin)]
        · have hin2 : (f1 y).getD false = false := by simpa using hin
          obtain ⟨w9, hrun, hM9, ht9⟩ := HM1.out.store Try.underlying93 (by have := HN.out; unfold maxLen; omega) HWY.out true trivial
          replace hrun : (Instr.mapUpdate 93 (.map (some bin)) (.int .i64 y) (.bool true)).run Try.prog wr = .ok () w9 := hrun
          have HT9 := Aside0.mk (HT.out.grown ht9.grown (by intro q hq; cases hq; exact Or.inl rfl))
          have HM9 := Aside0.mk hM9
          have HH9 := Aside0.mk (blk_grown HH2.out ht9.grown (by intro e; exact HE5.out (Option.some.inj e)))
          clear ht9 hM9
          obtain ⟨i, hi1', hi2, hi3⟩ := HKY.out hyb
          have hcall := fun W (hb : Below w9.heap.size w9 W) => look_level nn AL AT AV nL cL nT cT cV bat na fa lv y i W (((HT9.out.below hb).map HA.out HE4.out)) (HV.out _ (HT9.out.below hb)) hi1' hi2 hi3
          go_upto_region 5 with ((with_reducible refine gate_dst (N := 22) rfl ?_); refine map_lookg_event ?_ (.tmp 20) (.tmp 21) (t := 93) rfl Try.underlying93 rfl HM1.out rfl HWY.out hin2 ?_)
          all_goals try rfl
          have HX9 := Aside0.mk (HT9.out.cells HX.out HE2.out)
          have HL9 := Aside0.mk (HT9.out.cells HL.out HE3.out)
          have d0 : w9.cell? ⟨bx, 0, none⟩ = some (.int .i64 nn) := cell_in HX9.out 0 rfl
          have d1 : w9.cell? ⟨bx, 1, none⟩ = some (.slice AL nL cL) := cell_in HX9.out 1 rfl
          have d2 : w9.cell? ⟨bx, 2, none⟩ = some (.slice AT nT cT) := cell_in HX9.out 2 rfl
          have d3 : w9.cell? ⟨bx, 3, none⟩ = some (.slice AV lv.length cV) := cell_in HX9.out 3 rfl
          have d4 : w9.cell? ⟨bx, 4, none⟩ = some (.map (some bat)) := cell_in HX9.out 4 rfl
          have d5 : w9.cell? ⟨bl, 0, none⟩ = some (.int .i64 last) := cell_in HL9.out 0 rfl
          clear hcell hcI hrun
          have HLV := Aside0.mk (show lvOf fa lv y = rd lv i by unfold lvOf; rw [hi1']; rfl)
          clear hi1' hi2 hi3
          generalize rd lv i = lvl at hcall HLV
          go_cut [30] from 13 to 33 (fun v30 wc => v30 = .bool (decide (lvl = last)) ∧ Aside0 (Below w9.heap.size w9 wc))
          case first =>
            go_region_held3 (fun w' => w'.cell? ⟨bl, 0, none⟩ = some (.int .i64 last) ∧ w'.cell? ⟨bx, 0, none⟩ = some (.int .i64 nn) ∧ w'.cell? ⟨bx, 1, none⟩ = some (.slice AL nL cL) ∧ w'.cell? ⟨bx, 2, none⟩ = some (.slice AT nT cT) ∧ w'.cell? ⟨bx, 3, none⟩ = some (.slice AV lv.length cV) ∧ w'.cell? ⟨bx, 4, none⟩ = some (.map (some bat))) (first | go_keep | (refine ⟨?_, ?_, ?_, ?_, ?_, ?_⟩ <;> assumption)) (first | (go_at_call 85; refine (hcall _ (by first | exact Below.refl _ _ | (repeat (first | exact Below.refl _ _ | apply pw_below_drewN | apply below_drew1)))).mono ?_; rintro e w2 ⟨rfl, hb2⟩; have HB2 : Aside0 (Below w9.heap.size w9 w2) := ⟨below_step (by repeat (first | exact Below.refl _ _ | apply pw_below_drewN | apply below_drew1)) hb2⟩; have e5 : w2.cell? ⟨bl, 0, none⟩ = some (.int .i64 last) := cell_in (blk_below HL9.out HB2.out) 0 rfl; have e0 : w2.cell? ⟨bx, 0, none⟩ = some (.int .i64 nn) := cell_in (blk_below HX9.out HB2.out) 0 rfl; have e1 : w2.cell? ⟨bx, 1, none⟩ = some (.slice AL nL cL) := cell_in (blk_below HX9.out HB2.out) 1 rfl; have e2 : w2.cell? ⟨bx, 2, none⟩ = some (.slice AT nT cT) := cell_in (blk_below HX9.out HB2.out) 2 rfl; have e3 : w2.cell? ⟨bx, 3, none⟩ = some (.slice AV lv.length cV) := cell_in (blk_below HX9.out HB2.out) 3 rfl; have e4 : w2.cell? ⟨bx, 4, none⟩ = some (.map (some bat)) := cell_in (blk_below HX9.out HB2.out) 4 rfl; clear hb2))
            all_goals
              go_wp2_with fail
              go_meet
              exact ⟨rfl, ⟨by repeat (first | exact HB2.out | apply pw_below_drewN | apply below_drew1)⟩⟩
          case rest =>
            obtain ⟨rfl, HB9⟩ := hcut
            have HHc := Aside0.mk (blk_below HH9.out HB9.out)
            have HTc := Aside0.mk (HT9.out.below HB9.out)
            have HMc := Aside0.mk (HM9.out.below HB9.out)
            have e6 : wc.cell? ⟨bh, 0, none⟩ = some (.int .i64 hi1) := cell_in HHc.out 0 rfl
            have e7 : wc.frozen? ⟨bh, 0, none⟩ = false := blk_frozen HHc.out 0
            clear d0 d1 d2 d3 d4 d5 hcall HX9 HL9
            by_cases hlast : lvl = last
            · have hd : decide (lvl = last) = true := decide_eq_true hlast
              rw [hd]
              go_wp2
              all_goals
                go_roundg (l.length - (k + 1))
                case measure => omega
                case rel =>
                  refine ⟨k + 1, by omega, by omega, by go_num, ⟨HTc.out.grown (grown_setCell wc ⟨bh, 0, none⟩ (.int .i64 (hi1 + 1))) (by intro q hq; cases hq; exact Or.inr rfl)⟩, ⟨(upd f1 y (some true), hi1 + 1), ?_, HMc.out.setCell (fun e => HE5.out e.symm) _, blk_put HHc.out 0 _ rfl⟩⟩
                  rw [HP.out]; unfold putStep; rw [if_neg (by rintro (h | h); exact hyb h; exact hin h)]; dsimp only; rw [HLV.out, if_pos hlast]
            · have hd : decide (lvl = last) = false := decide_eq_false hlast
              rw [hd]
              go_wp2
              go_roundg (l.length - (k + 1))
              case measure => omega
              case rel =>
                refine ⟨k + 1, by omega, by omega, by go_num, HTc, ⟨(upd f1 y (some true), hi1), ?_, HMc.out, HHc.out⟩⟩
                rw [HP.out]; unfold putStep; rw [if_neg (by rintro (h | h); exact hyb h; exact hin h)]; dsimp only; rw [HLV.out, if_neg hlast]
    · have hltz : ¬ (k : Int) < (l.length : Int) := by omega
      obtain rfl : k = l.length := by omega
      go_wp2
      go_end0
      rw [List.take_length, HR.out] at es
      subst es
      exact ⟨rfl, hM, hH, HT.out⟩
end
end Go.Proofs.Ytobadajeekdakaa.Print
