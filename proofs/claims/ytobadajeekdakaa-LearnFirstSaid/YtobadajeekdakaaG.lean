/- A range over a function whose rounds come in one known order: the body's round is owed at the next element alone. -/
import Derived.RangeFuncNested
import Derived.RangeFuncBound
import Derived.RangeFuncCalls
import Derived.RangeFuncLeaves
import Derived.Shelf.Abstract
import Derived.Shelf.RegionOpen
import Derived.WalkKit
import Derived.OwnWalkIn
import Derived.TacticsInMore
import Derived.LoopNIn
import Derived.LoopIn
import Derived.Test.YtobadajeekdakaaP
import Derived.Test.YtobadajeekdakaaS
namespace Go.Proofs.Ytobadajeekdakaa.Print
open Go.RowKit Go.Proofs.YtobadajeekdakaaW.PrintWords Go.Proofs.YtobadajeekdakaaW.PrintLast Go.Proofs.YtobadajeekdakaaW.PrintMore
open Go.Shelf
set_option linter.unusedVariables false
set_option linter.unusedSimpArgs false
attribute [local go_sem] Oper.semAt_some
variable {F : Fence} {n : Nat} {P : Program}

/-- An iterator that hands over seq's elements one by one, or stops behind a part of them. -/
def SeqNext {α : Type} (F : Fence) (n : Nat) (P : Program) (g : Nat) (lb : Array Value) (encs : α → Array Value) (Kp : World → World → Prop) (seq : List α) (w : World) : Prop :=
  ∀ (l : Nat) (J Jx : List α → World → Prop) (W : World), Below w.heap.size w W → AbidesFrom W.heap.size J → AbidesFrom W.heap.size Jx →
    (∀ pre x W1, J pre W1 → (pre ++ [x]) <+: seq → YieldAt F (n - 1) P l (encs x) W1 fun e W' => (e = .returned (.bool true) ∧ J (pre ++ [x]) W' ∧ Kp W1 W') ∨ (e = .returned (.bool false) ∧ Jx (pre ++ [x]) W')) →
    J [] W → CallsIn F n P g (#[.func (.yield l) #[] #[]] ++ lb) W fun e W' => (∃ v, e = .returned v) ∧ (J seq W' ∨ ∃ pre, pre <+: seq ∧ Jx pre W')

theorem wpIn_rangeFunc_next {α : Type} {g : Operand} {ps : Array Tmp} {assign body : Code} {Q : Exit → Act → World → Prop} {a : Act} {w : World}
    (hro : F.round = none) (h1 : 1 ≤ n) {gf : Nat} {lb : Array Value} (hg : a.eval g = .func (.func gf) #[] lb) (hFg : F.fn gf) (eg : ∀ args w, (callFunc gf args).run P w = .ok (.enter gf args) w)
    {encs : α → Array Value} {Kp : World → World → Prop} {seq : List α} (hseq : SeqNext F (n - 1) P gf lb encs Kp seq w)
    (hKt : ∀ {A B C : World}, Kp A B → Kp B C → Kp A C) (hKb : ∀ (W : World) (l : Nat) (o o' : Obj), w.heap.size ≤ l → W.heap[l]? = some o → o.isCells = false → o.isWalk = false → Kp W (W.putObj l o')) (hps : ∀ x, (encs x).size = ps.size)
    (I : List α → World → Prop) (Ix : Code → List α → World → Prop) (hI : OwnFrom w.heap.size I) (hIx : ∀ c, OwnFrom w.heap.size (Ix c)) (h0 : I [] w) (Ax : α → Act → World → Prop) (hAx : ∀ x a', OwnFrom w.heap.size (fun (_ : Unit) W => Ax x a' W))
    (hassign : ∀ (l : Nat) (pre : List α) (x : α) (W : World) (K : Act → World → Prop), w.heap.size ≤ W.heap.size → I pre W → (∀ a' W', KeepsFrom w.heap.size W W' → Kp W W' → I pre W' → Ax x a' W' → K a' W') →
      assign.wpIn (F.inRound l) (n - 1 - 1) P (Exit.then K (fun _ _ _ => False)) { tmps := (ps.zip (encs x)).foldl (fun t (p, v) => t.setIfInBounds p v) a.tmps, defers := [] } W)
    (hbody : ∀ (l : Nat) (pre : List α) (x : α) (a' : Act) (W : World), w.heap.size ≤ W.heap.size → I pre W → Ax x a' W → (pre ++ [x]) <+: seq → body.wpIn (F.inRound l) (n - 1 - 1) P (ownPostG w.heap.size Kp I Ix (pre ++ [x]) W) a' W)
    (hdone : ∀ (D : Nat) (W : World), w.heap.size ≤ D → I seq W → W.heap[D]? = some (.deferred (some [])) → Q .normal { a with defers := { target := .collected D, args := #[] } :: a.defers } W)
    (hstop : ∀ (D : Nat) (c : Code) (pre : List α) (W : World), w.heap.size ≤ D → pre <+: seq → Ix c pre W → W.heap[D]? = some (.deferred (some [])) → c.wpIn F n P Q { a with defers := { target := .collected D, args := #[] } :: a.defers } W) :
    (Code.rangeFunc g ps assign body).wpIn F n P Q a w := by
  refine wpIn_rangeFunc fun fn hfn => ?_
  rw [hro]
  let D := w.heap.size
  let L := w.heap.size + 1
  let rec_ : LoopState → Option Code → Loop := fun st pe => { state := st, pending := pe, fn, tmps := a.tmps, params := ps, assign, body, defers := w.heap.size }
  obtain ⟨W1, hW1⟩ : ∃ W1, (w.alloc (.deferred (some []))).alloc (.loop (rec_ .ready none)) = W1 := ⟨_, rfl⟩
  have hs1 : W1.heap.size = w.heap.size + 2 := by rw [← hW1]; simp
  have hL1 : W1.heap[L]? = some (.loop (rec_ .ready none)) := by
    have := World.alloc_heap_new (w.alloc (.deferred (some []))) (.loop (rec_ .ready none))
    rw [World.size_alloc, hW1] at this; exact this
  have hD1 : W1.heap[D]? = some (.deferred (some [])) := by
    rw [← hW1]; exact (Below.heap_alloc _ _ _ (by simp [D])).trans (World.alloc_heap_new w _)
  have hI1 : I [] W1 := by rw [← hW1]; exact hI.alloc _ (hI.alloc _ h0)
  have hb1 : Below w.heap.size w W1 := by
    rw [← hW1]; exact ((Below.refl _ w).alloc (Nat.le_refl _) _).alloc (by simp) _
  refine ⟨L, [{ target := .collected D, args := #[] }], W1, { target := .fn (.func gf) lb, args := #[.func (.yield L) #[] #[]] }, W1, gf, #[.func (.yield L) #[] #[]] ++ lb, W1, ?_, ?_, ?_, ?_, fun _ => h1, ?_⟩
  · rw [← hW1]; exact run_enterLoop_outer _ _ _ _ _
  · simp only [resolve, hg]
    simp [go_sem]
  · intro f' hf'; simp [Target.leads] at hf'; subst hf'; exact hFg
  · simp [invoke, go_sem, eg]
  · have hnw : ∀ {A : World} {row : Option Nat}, (∀ r, row = some r → W1.heap.size ≤ r ∧ ∃ o : Obj, A.heap[r]? = some o ∧ o.isWalk = true) → (∀ r, row = some r → w.heap.size ≤ r ∧ ∃ o : Obj, A.heap[r]? = some o ∧ o.isCells = false) :=
      fun hr r e => by obtain ⟨hB, o, ho, hw⟩ := hr r e; exact ⟨by omega, o, ho, Obj.not_cells_of_walk hw⟩
    have keep : ∀ {A B : World} {row : Option Nat} {k : Nat} {o : Obj}, A.grownBy B row → (∀ r, row = some r → W1.heap.size ≤ r ∧ ∃ o : Obj, A.heap[r]? = some o ∧ o.isWalk = true) → A.heap[k]? = some o → o.isWalk = false → B.heap[k]? = some o :=
      fun hg' hr hk ho => (grownBy_keeps hg' (fun r e => (hr r e).2) hk ho).trans hk
    refine (hseq L
      (fun pre W => I pre W ∧ W.heap[L]? = some (.loop (rec_ .ready none)) ∧ W.heap[D]? = some (.deferred (some [])))
      (fun pre W => ∃ c, Ix c pre W ∧ W.heap[L]? = some (.loop (rec_ .done (some c))) ∧ W.heap[D]? = some (.deferred (some [])))
      W1 hb1
      (fun s A B row hs hg' hr => ⟨hI s A B row hs.1 hg' (hnw hr), keep hg' hr hs.2.1 rfl, keep hg' hr hs.2.2 rfl⟩)
      (fun s A B row hs hg' hr => by
        obtain ⟨c, hc, hl, hk⟩ := hs
        exact ⟨c, hIx c s A B row hc hg' (hnw hr), keep hg' hr hl rfl, keep hg' hr hk rfl⟩)
      ?_ ⟨hI1, hL1, hD1⟩).mono ?_
    · rintro pre x W ⟨hi, hl, hk⟩ hpre
      have hltL : L < W.heap.size := (Array.getElem?_eq_some_iff.1 hl).1
      refine ⟨fn, _, assign, body, run_yield (P := P) (args := encs x) hl (hps x), roundIn_of_wpIn hfn (hassign _ pre x W _ (by omega) hi ?_)⟩
      intro a' Wa hkfa hkpa hia hax
      have hla := hkfa.same _ _ (by omega) hl rfl
      have hka := hkfa.same _ _ (Nat.le_refl _) hk rfl
      have hlta : L < Wa.heap.size := (Array.getElem?_eq_some_iff.1 hla).1
      obtain ⟨Wb, hWb⟩ : ∃ Wb, Wa.putObj L (.loop { rec_ .ready none with state := .busy }) = Wb := ⟨_, rfl⟩
      refine ⟨Wb, by rw [← hWb]; exact run_beginRound hla rfl, ?_⟩
      have hlb : Wb.heap[L]? = some (.loop { rec_ .ready none with state := .busy }) := by rw [← hWb]; exact World.putObj_heap_same hlta
      have hkb : Wb.heap[D]? = some (.deferred (some [])) := by rw [← hWb]; exact (World.putObj_heap_other (by omega)).trans hka
      have hkpb : Kp W Wb := hKt hkpa (by rw [← hWb]; exact hKb _ _ _ _ (by omega) hla rfl rfl)
      have hib : I pre Wb := by rw [← hWb]; exact hI.putObj _ hia (by omega) hla rfl
      have haxb : Ax x a' Wb := by rw [← hWb]; exact (hAx x a').putObj (s := ()) _ hax (by omega) hla rfl
      have hszb : w.heap.size ≤ Wb.heap.size := by rw [← hWb]; simp; omega
      refine wpIn_mono (hbody _ pre x a' Wb hszb hib haxb hpre) ?_
      have fin : ∀ (jump : Option Code) (W3 : World), KeepsFrom w.heap.size Wb W3 →
          (Instr.endRound L jump).run P W3 = .ok (.bool jump.isNone) (W3.putObj L (.loop (rec_ (if jump.isNone then .ready else .done) jump))) ∧
          W3.heap[L]? = some (.loop { rec_ .ready none with state := .busy }) ∧
          (W3.putObj L (.loop (rec_ (if jump.isNone then .ready else .done) jump))).heap[L]? = some (.loop (rec_ (if jump.isNone then .ready else .done) jump)) ∧
          (W3.putObj L (.loop (rec_ (if jump.isNone then .ready else .done) jump))).heap[D]? = some (.deferred (some [])) := fun jump W3 hk3 => by
        have hl3 := hk3.same _ _ (by omega) hlb rfl
        exact ⟨run_endRound (P := P) jump hl3, hl3, World.putObj_heap_same (Array.getElem?_eq_some_iff.1 hl3).1, (World.putObj_heap_other (by omega)).trans (hk3.same _ _ (Nat.le_refl _) hkb rfl)⟩
      rintro e a3 W3 hp
      cases e with
      | normal =>
        obtain ⟨hk3, hkp3, hi3⟩ := hp
        obtain ⟨hr, hl3, hl4, hk4⟩ := fin none W3 hk3
        exact ⟨_, _, hr, .inl ⟨rfl, ⟨hI.putObj _ hi3 (by omega) hl3 rfl, hl4, hk4⟩, hKt hkpb (hKt hkp3 (hKb _ _ _ _ (by omega) hl3 rfl rfl))⟩⟩
      | ret =>
        obtain ⟨hk3, hi3⟩ := hp
        obtain ⟨hr, hl3, hl4, hk4⟩ := fin (some .ret) W3 hk3
        exact ⟨_, _, hr, .inr ⟨rfl, .ret, (hIx _).putObj _ hi3 (by omega) hl3 rfl, hl4, hk4⟩⟩
      | exit id =>
        obtain ⟨hk3, hi3⟩ := hp
        obtain ⟨hr, hl3, hl4, hk4⟩ := fin (some (.exit id)) W3 hk3
        exact ⟨_, _, hr, .inr ⟨rfl, .exit id, (hIx _).putObj _ hi3 (by omega) hl3 rfl, hl4, hk4⟩⟩
      | goto t =>
        obtain ⟨hk3, hi3⟩ := hp
        obtain ⟨hr, hl3, hl4, hk4⟩ := fin (some (.goto t)) W3 hk3
        exact ⟨_, _, hr, .inr ⟨rfl, .goto t, (hIx _).putObj _ hi3 (by omega) hl3 rfl, hl4, hk4⟩⟩
      | panic ch => exact hp.elim
      | outgrown => exact hp.elim
    · rintro e W2 ⟨⟨v, rfl⟩, (⟨hi, hl, hk⟩ | ⟨pre, hpre, c, hi, hl, hk⟩)⟩
      · exact ⟨none, _, run_endLoop (P := P) hl (by simp [rec_]), hdone D _ (Nat.le_refl _) (hI.putObj _ hi (by omega) hl rfl) ((World.putObj_heap_other (by omega)).trans hk)⟩
      · exact ⟨some c, _, run_endLoop (P := P) hl (by simp [rec_]), hstop D c pre _ (Nat.le_refl _) hpre ((hIx c).putObj _ hi (by omega) hl rfl) ((World.putObj_heap_other (by omega)).trans hk)⟩

/-- The same, where the loop's variable lies in a box of its own that the assign code lays in every round. -/
theorem wpIn_rangeFunc_box {α : Type} {g : Operand} {ps : Array Tmp} {assign body : Code} {Q : Exit → Act → World → Prop} {a : Act} {w : World}
    (hro : F.round = none) (h1 : 1 ≤ n) {gf : Nat} {lb : Array Value} (hg : a.eval g = .func (.func gf) #[] lb) (hFg : F.fn gf) (eg : ∀ args w, (callFunc gf args).run P w = .ok (.enter gf args) w)
    {encs : α → Array Value} {Kp : World → World → Prop} {seq : List α} (hseq : SeqNext F (n - 1) P gf lb encs Kp seq w)
    (hKt : ∀ {A B C : World}, Kp A B → Kp B C → Kp A C) (hKb : ∀ (W : World) (l : Nat) (o o' : Obj), w.heap.size ≤ l → W.heap[l]? = some o → o.isCells = false → o.isWalk = false → Kp W (W.putObj l o')) (hKa : ∀ (W : World) (o : Obj), w.heap.size ≤ W.heap.size → Kp W (W.alloc o)) (hps : ∀ x, (encs x).size = ps.size)
    (I : List α → World → Prop) (Ix : Code → List α → World → Prop) (hI : OwnFrom w.heap.size I) (hIx : ∀ c, OwnFrom w.heap.size (Ix c)) (h0 : I [] w) (put : Array Value → α → Array Value) (hput : ∀ tm x, (ps.zip (encs x)).foldl (fun t (p, v) => t.setIfInBounds p v) tm = put tm x) (slot : Nat) (ty : TypeId) (cells : α → Array Value)
    (hassign : ∀ (l : Nat) (x : α) (W : World) (K : Act → World → Prop), K { tmps := (put a.tmps x).setIfInBounds slot (.pointer (some ⟨W.heap.size, 0, none⟩)), defers := [] } (W.alloc (.cells (cells x) ty (0, 0))) →
      assign.wpIn (F.inRound l) (n - 1 - 1) P (Exit.then K (fun _ _ _ => False)) { tmps := put a.tmps x, defers := [] } W)
    (hbody : ∀ (l : Nat) (pre : List α) (x : α) (Bx : Nat) (W : World), w.heap.size ≤ W.heap.size → w.heap.size ≤ Bx → I pre W → W.heap[Bx]? = some (.cells (cells x) ty (0, 0)) → (pre ++ [x]) <+: seq →
      body.wpIn (F.inRound l) (n - 1 - 1) P (ownPostG w.heap.size Kp I Ix (pre ++ [x]) W) { tmps := (put a.tmps x).setIfInBounds slot (.pointer (some ⟨Bx, 0, none⟩)), defers := [] } W)
    (hdone : ∀ (D : Nat) (W : World), w.heap.size ≤ D → I seq W → W.heap[D]? = some (.deferred (some [])) → Q .normal { a with defers := { target := .collected D, args := #[] } :: a.defers } W)
    (hstop : ∀ (D : Nat) (c : Code) (pre : List α) (W : World), w.heap.size ≤ D → pre <+: seq → Ix c pre W → W.heap[D]? = some (.deferred (some [])) → c.wpIn F n P Q { a with defers := { target := .collected D, args := #[] } :: a.defers } W) :
    (Code.rangeFunc g ps assign body).wpIn F n P Q a w := by
  refine wpIn_rangeFunc_next hro h1 hg hFg eg hseq hKt hKb hps I Ix hI hIx h0
    (fun x a' W => ∃ Bx, w.heap.size ≤ Bx ∧ W.heap[Bx]? = some (.cells (cells x) ty (0, 0)) ∧ a' = { tmps := (put a.tmps x).setIfInBounds slot (.pointer (some ⟨Bx, 0, none⟩)), defers := [] }) ?_ ?_ ?_ hdone hstop
  · intro x a' s W W' row hs hg' hr
    obtain ⟨Bx, h1, h2, h3⟩ := hs
    refine ⟨Bx, h1, ?_, h3⟩
    refine (hg'.block Bx (blk_lt h2) (fun e => ?_)).trans h2
    obtain ⟨_, o, ho, hc⟩ := hr Bx e.symm
    rw [h2] at ho; cases ho; cases hc
  · intro l pre x W K hsz hi hK
    rw [hput]
    refine hassign l x W K (hK _ _ ((KeepsOthers.alloc _ _).from _) (hKa _ _ hsz) (hI.alloc _ hi) ⟨W.heap.size, hsz, blk_new _ _, rfl⟩)
  · rintro l pre x a' W hsz hi ⟨Bx, hB, hx, rfl⟩ hp
    exact hbody l pre x Bx W hsz hB hi hx hp
theorem back_any (At : Option Addr) (n ct : Nat) (w : World) : Calls Try.prog 86 #[.slice At n ct] w fun e w' => e = .returned (.func (.func 153) #[] #[.pointer (some ⟨w.heap.size, 0, none⟩)]) ∧ w' = w.alloc (.cells #[.slice At n ct] 25 (0, 0)) := by
  go_enter Try.func86, Try.ntmps86
  go_wp2
  go_ret
  exact ⟨rfl, rfl⟩
def encB (x : Nat × S41) : Array Value := #[.int .i64 (x.1 : Int), .agg #[.int .i64 x.2.f0, .int .i64 x.2.f1]]
def putB (tm : Array Value) (x : Nat × S41) : Array Value := (tm.setIfInBounds 74 (.int .i64 (x.1 : Int))).setIfInBounds 75 (.agg #[.int .i64 x.2.f0, .int .i64 x.2.f1])
theorem putB_eq (tm : Array Value) (x : Nat × S41) : ((#[74, 75] : Array Nat).zip (encB x)).foldl (fun t (p, v) => t.setIfInBounds p v) tm = putB tm x := by simp [encB, putB]
def backAt (t : List S41) (k : Nat) : Nat × S41 := (t.length - 1 - k, rd_T41 t ((t.length - 1 - k : Nat) : Int))
def backs (t : List S41) : List (Nat × S41) := (List.range t.length).map (backAt t)
theorem backs_take (t : List S41) (k : Nat) (hk : k ≤ t.length) : (backs t).take k = (List.range k).map (backAt t) := by
  unfold backs
  rw [← List.map_take, List.take_range, Nat.min_eq_left hk]
theorem backs_succ (t : List S41) (k : Nat) (hk : k < t.length) : (backs t).take (k + 1) = (backs t).take k ++ [backAt t k] := by
  rw [backs_take t (k + 1) hk, backs_take t k (by omega), List.range_succ, List.map_append]; rfl
theorem backs_length (t : List S41) : (backs t).length = t.length := by simp [backs]
theorem backs_prefix (t : List S41) (pre : List (Nat × S41)) (x : Nat × S41) (h : (pre ++ [x]) <+: backs t) : pre.length < t.length ∧ pre = (backs t).take pre.length ∧ x = backAt t pre.length := by
  have hl := h.length_le
  rw [List.length_append, List.length_singleton, backs_length] at hl
  have e := List.prefix_iff_eq_take.mp h
  rw [List.length_append, List.length_singleton, backs_succ t pre.length (by omega)] at e
  obtain ⟨e1, e2⟩ := List.append_inj' e rfl
  exact ⟨by omega, e1, by simpa using e2⟩
def KpB (n₀ Bs : Nat) (W W' : World) : Prop := Below n₀ W W' ∧ W'.heap[Bs]? = W.heap[Bs]?
theorem KpB.trans {n₀ Bs : Nat} {A B C : World} (h : KpB n₀ Bs A B) (k : KpB n₀ Bs B C) : KpB n₀ Bs A C := ⟨h.1.trans k.1, k.2.trans h.2⟩

set_option maxHeartbeats 4000000 in
set_option maxRecDepth 100000 in
theorem back_next (F : Fence) (n : Nat) (h153 : F.fn 153) (hro : F.round = none) (hn : 1 ≤ n) (w0 w : World) (At : Option Addr) (ct Bs : Nat) (t : List S41) (hC : Kd.C k41 w0 At t.length t) (hB : Below w0.heap.size w0 w)
    (hBs : w.heap[Bs]? = some (.cells #[.slice At t.length ct] 25 (0, 0))) (hl : t.length < 17592186044416) :
    SeqNext F n Try.prog 153 #[.pointer (some ⟨Bs, 0, none⟩)] encB (KpB w0.heap.size Bs) (backs t) w := by
  intro l J Jx W hW _ _ hY h0
  have HB := Aside0.mk (hB.trans (hW.mono hB.size))
  have HBS : Aside0 (W.heap[Bs]? = some (.cells #[.slice At t.length ct] 25 (0, 0))) := ⟨(hW.block Bs (blk_lt hBs)).trans hBs⟩
  have HC := Aside0.mk hC
  have HY := Aside0.mk hY
  have HL := Aside0.mk hl
  have H0 := Aside0.mk h0
  clear hB hW hBs hC hY h0 hl
  refine callsIn_of_wp Try.func153 rfl h153 ?_ hro
  simp only [Try.ntmps153, List.size_toArray, List.length_cons, List.length_nil, Nat.reduceAdd, Nat.reduceSub, Array.replicate_succ, Array.replicate_zero, List.push_toArray, List.append_toArray, List.nil_append, List.cons_append]
  have d0 : W.cell? ⟨Bs, 0, none⟩ = some (.slice At t.length ct) := cell_in HBS.out 0 rfl
  have hm : t.length ≤ 9223372036854775807 := by have := HL.out; omega
  gi_wp2
  gi_loopw [3] (fun i wr => ∃ m k : Nat, m + k = t.length ∧ i = .int .i64 ((m : Int) - 1) ∧ Aside0 (J ((backs t).take k) wr) ∧ Aside0 (KpB w0.heap.size Bs W wr)) (fun i _ => (intOf i + 1).toNat)
  case atStart => exact ⟨t.length, 0, rfl, by go_num, ⟨by simpa using H0.out⟩, ⟨⟨Below.refl _ _, rfl⟩⟩⟩
  case round =>
    obtain ⟨m, k, hmk, rfl, HJ, HK⟩ := hrel
    have HBW := Aside0.mk (HB.out.trans HK.out.1)
    have d1 : wr.cell? ⟨Bs, 0, none⟩ = some (.slice At t.length ct) := cell_in (HK.out.2.trans HBS.out) 0 rfl
    cases m with
    | zero =>
      gi_wp2
      go_end0
      refine ⟨⟨_, rfl⟩, .inl ?_⟩
      have := HJ.out
      rwa [show k = (backs t).length by rw [backs_length]; omega, List.take_length] at this
    | succ m =>
      have hmi : ((m + 1 : Nat) : Int) - 1 = (m : Int) := by omega
      rw [hmi]
      have hlt : m < t.length := by omega
      obtain ⟨ad, e1, hx0, hx1⟩ := at_T41 (Kd.C_below HC.out HBW.out) (m : Int) (by omega) (by omega)
      cases e1
      rw [Int.toNat_natCast] at hx0 hx1
      have hpre : ((backs t).take k ++ [backAt t k]) <+: backs t := by rw [← backs_succ t k (by omega)]; exact List.take_prefix _ _
      have hbk : backAt t k = (m, rd_T41 t (m : Int)) := by unfold backAt; rw [show t.length - 1 - k = m by omega]
      have hy0 := HY.out _ (backAt t k) wr HJ.out hpre
      have HSC := Aside0.mk (backs_succ t k (by omega))
      rw [hbk] at hy0 HSC
      obtain ⟨fn, tmps, assign, body, hy, hR⟩ := hy0
      dsimp only [encB] at hy
      have HR := Aside0.mk hR
      clear hR hpre
      generalize rd_T41 t (m : Int) = s at hx0 hx1 hy hbk
      gi_wp2
      refine HR.out.mono ?_
      rintro e W3 (⟨rfl, hJ3, hk3⟩ | ⟨rfl, hJx3⟩)
      · have HJ3 := Aside0.mk hJ3
        have HK3 := Aside0.mk (HK.out.trans hk3)
        clear hJ3 hk3
        gi_wp2
        go_roundw
        case rel => exact ⟨m, k + 1, by omega, by go_num, ⟨by rw [HSC.out]; exact HJ3.out⟩, HK3⟩
        case measure => simp [intOf]
      · have HJ3 := Aside0.mk hJx3
        clear hJx3
        gi_wp2
        refine bodyPost_ret (results_none rfl _ _ _) rfl ?_
        exact ⟨⟨_, rfl⟩, .inr ⟨(backs t).take (k + 1), List.take_prefix _ _, by rw [HSC.out]; exact HJ3.out⟩⟩
end Go.Proofs.Ytobadajeekdakaa.Print
