/- learn.First: the state of its walk, and the call of its inner function there. -/
import Derived.Test.YtobadajeekdakaaH0
namespace Go.Proofs.Ytobadajeekdakaa.Print
open Go.RowKit Go.Proofs.YtobadajeekdakaaW.PrintWords Go.Proofs.YtobadajeekdakaaW.PrintLast Go.Proofs.YtobadajeekdakaaW.PrintMore
set_option linter.unusedVariables false
set_option linter.unusedSimpArgs false

def cloV (gi gx gl gh : Nat) : Value := .func (.func 84) #[] #[.pointer (some ⟨gi, 0, none⟩), .pointer (some ⟨gx, 0, none⟩), .pointer (some ⟨gl, 0, none⟩), .pointer (some ⟨gh, 0, none⟩)]
/-- What lies ahead of the walk: the index of the trail, in the world w4. -/
structure FHead (w4 : World) (nn : Int) (AL : Option Addr) (nL cL : Nat) (A1 : Option Addr) (c1 : Nat) (l1 : List S41) (Av : Option Addr) (cv bm gx : Nat) : Prop where
  hgx : w4.heap[gx]? = some (.cells #[.int .i64 nn, .slice AL nL cL, .slice A1 l1.length c1, .slice Av l1.length cv, .map (some bm)] 90 (0, 0))
  ma : MapOf intE w4 bm l1.length (atT l1)
  lv : Kd.C (Kd.int .i64) w4 Av l1.length (lvT l1)
/-- The walk's own blocks. -/
structure FSt (w4 : World) (gx gl gi gh gf bin : Nat) (last : Int) (n : Nat) (s : List Int × Int) (W : World) : Prop where
  b : Below w4.heap.size w4 W
  hgl : W.heap[gl]? = some (.cells #[.int .i64 last] 3 (0, 0))
  hgi : W.heap[gi]? = some (.cells #[.map (some bin)] 93 (0, 0))
  hgh : W.heap[gh]? = some (.cells #[.int .i64 s.2] 3 (0, 0))
  hgf : W.heap[gf]? = some (.cells #[cloV gi gx gl gh] 94 (0, 0))
  m : MapOf boolE W bin n (dset s.1)
  far : gl ≠ gh ∧ w4.heap.size ≤ gh ∧ w4.heap.size ≤ bin
section
variable {w4 W W' : World} {nn : Int} {AL A1 Av : Option Addr} {nL cL c1 cv bm gx gl gi gh gf bin n n' : Nat} {l1 : List S41} {last : Int} {s s' : List Int × Int}
theorem FSt.below (h : FSt w4 gx gl gi gh gf bin last n s W) (hb : Below W.heap.size W W') : FSt w4 gx gl gi gh gf bin last n s W' :=
  ⟨below_step h.b hb, blk_below h.hgl hb, blk_below h.hgi hb, blk_below h.hgh hb, blk_below h.hgf hb, h.m.below hb, h.far⟩
theorem FSt.nes (h : FSt w4 gx gl gi gh gf bin last n s W) : ¬ PutS bin gh gl ∧ ¬ PutS bin gh gi ∧ ¬ PutS bin gh gf ∧ gh ≠ bin := by
  have e1 : gi ≠ gh := by have a := h.hgi; have b := h.hgh; rintro rfl; rw [a] at b; cases b
  have e2 : gf ≠ gh := by have a := h.hgf; have b := h.hgh; rintro rfl; rw [a] at b; cases b
  have e3 : gh ≠ bin := blk_map h.hgh h.m
  have e4 : gi ≠ bin := blk_map h.hgi h.m
  have e5 : gf ≠ bin := blk_map h.hgf h.m
  have e6 : gl ≠ bin := blk_map h.hgl h.m
  have e7 := h.far.1
  unfold PutS
  exact ⟨by omega, by omega, by omega, e3⟩
theorem FSt.twice (h : FSt w4 gx gl gi gh gf bin last n s W) (ht : Twice W W' (PutS bin gh)) (hm : MapOf boolE W' bin n' (dset s'.1)) (hh : W'.heap[gh]? = some (.cells #[.int .i64 s'.2] 3 (0, 0))) : FSt w4 gx gl gi gh gf bin last n' s' W' := by
  obtain ⟨e1, e2, e3, e4⟩ := h.nes
  refine ⟨h.b.trans (ht.base ?_ h.b.size), ht.cells h.hgl e1, ht.cells h.hgi e2, hh, ht.cells h.hgf e3, hm, h.far⟩
  rintro k (rfl | rfl)
  · exact h.far.2.2
  · exact h.far.2.1
theorem FSt.call (h : FSt w4 gx gl gi gh gf bin last n s W) (hh : FHead w4 nn AL nL cL A1 c1 l1 Av cv bm gx) (but : Int) (A : Option Addr) (c : Nat) (l : List Int) (hC : Kd.C (Kd.int .i64) w4 A l.length l) (hwf : ∀ x ∈ l, I64 x)
    (hk : ∀ x ∈ l, x ≠ but → knownB l1 x = true) (h0 : -4611686018427387904 ≤ s.2) (h1 : s.2 + l.length ≤ 4611686018427387904) (hn : n + l.length ≤ 17592186044416) :
    Calls Try.prog 84 #[.slice A l.length c, .int .i64 but, .pointer (some ⟨gi, 0, none⟩), .pointer (some ⟨gx, 0, none⟩), .pointer (some ⟨gl, 0, none⟩), .pointer (some ⟨gh, 0, none⟩)] W
      fun e W' => e = .returned (.tuple #[]) ∧ FSt w4 gx gl gi gh gf bin last (n + l.length) (putL l1 last but l s) W' ∧ Twice W W' (PutS bin gh) := by
  have hlen : (lvT l1).length = l1.length := by rw [lvT, levelsFrom_length]
  have hbm : bm < w4.heap.size := hh.ma.lt
  have hgx : gx < w4.heap.size := blk_lt hh.hgx
  have hb : ∀ {W'}, Twice W W' (PutS bin gh) → Below w4.heap.size w4 W' := fun ht => h.b.trans (ht.base (by rintro k (rfl | rfl); exact h.far.2.2; exact h.far.2.1) h.b.size)
  have hcall := first_put nn AL A1 Av nL cL l1.length c1 cv bm l1.length gi gx gl gh bin n (atT l1) (lvT l1) last but s.2 (dset s.1) A c l W (hh.ma.below h.b) h.m h.hgi
    (by rw [hlen]; exact blk_below hh.hgx h.b) h.hgl h.hgh (by have := h.far; omega) h.far.1
    (fun W' ht => by rw [hlen]; exact Kd.C_below hh.lv (hb ht)) (fun W' ht => Kd.C_below hC (hb ht)) hwf (fun x hx hne => known_at (hk x hx hne)) h0 h1 hn
  refine hcall.mono ?_
  rintro e W' ⟨rfl, hm, hgh, ht⟩
  rw [putL_set] at hm hgh
  exact ⟨rfl, h.twice ht hm hgh, ht⟩
end

section
variable {F : Fence} {nF : Nat} {ops : Array Oper} {rest : List Oper} {o : Oper} {a : Act} {Q : Exit → Act → World → Prop} {W : World} {b n : Nat} {f : Int → Option Bool}
theorem gateIn_dst {N : Tmp} (_hN : o.dst = some N) (h : wpListIn F nF Try.prog ops Q (o :: rest) a W) : wpListIn F nF Try.prog ops Q (o :: rest) a W := h
theorem gateIn_del {m x : Operand} {ts : Array TypeId} (_ho : o.op = .call { callee := .builtin .delete, args := #[m, x], argTypes := ts }) (h : wpListIn F nF Try.prog ops Q (o :: rest) a W) : wpListIn F nF Try.prog ops Q (o :: rest) a W := h
theorem mapIn_look_event (hgd : o.guard = none) (m x : Operand) {t : TypeId} (ho : o.op = .lookup t m x false) (ht : Try.prog.underlying t = some (.map 3 4)) (hm : a.eval m = .map (some b)) (hM : MapOf boolE W b n f) {key : Int} (hx : a.eval x = .int .i64 key) (hk : I64 key) {v : Bool} (hv : (f key).getD false = v)
    (h : wpListIn F nF Try.prog ops Q rest (a.put o.dst (.bool v)) W) : wpListIn F nF Try.prog ops Q (o :: rest) a W := by
  refine wpListIn_plain hgd fun K' hK' => ?_
  subst hv
  unfold Oper.wpIn
  refine ⟨by simp [Oper.about, ho], ?_⟩
  rw [Oper.semAt_plain F _ _ (by rw [ho]; intro c hc'; cases hc')]
  simp [execOp, ho, hm, hx, hM.look ht hk, Result.andThen]
  exact hK' _ _ h
theorem mapIn_drop_event (hgd : o.guard = none) (m x : Operand) {t : TypeId} (ho : o.op = .call { callee := .builtin .delete, args := #[m, x], argTypes := #[t, 3] }) (ht : Try.prog.underlying t = some (.map 3 4)) (hm : a.eval m = .map (some b)) (hM : MapOf boolE W b n f) {key : Int} (hx : a.eval x = .int .i64 key) (hk : I64 key)
    (h : ∀ w1, MapOf boolE w1 b n (upd f key none) → W.grownBy w1 (some b) → wpListIn F nF Try.prog ops Q rest (a.put o.dst (.tuple #[])) w1) : wpListIn F nF Try.prog ops Q (o :: rest) a W := by
  obtain ⟨w1, hrun, hM1, ht1⟩ := hM.drop ht hk o.type
  refine wpListIn_plain hgd fun K' hK' => ?_
  unfold Oper.wpIn
  refine ⟨by simp [Oper.about, ho, resolve, Target.leads], ?_⟩
  rw [Oper.semAt_plain F _ _ (by rw [ho]; intro c hc'; cases hc')]
  simp [execOp, ho, resolve, invoke, builtin, hm, hx, hrun, Result.andThen]
  exact hK' _ _ (h w1 hM1 ht1.grown)
end
theorem walk_skip {t : List S41} {L : List (List Int)} {last : Int} {x : Nat × S41} {r : List (Nat × S41)} {s : List Int × Int} (h : s.1.contains (wrap64 (-x.2.f0)) = false) : walkL t L last (x :: r) s = walkL t L last r s := by
  rw [walkL, if_pos h]
theorem walk_stop {t : List S41} {L : List (List Int)} {last : Int} {x : Nat × S41} {r : List (Nat × S41)} {s : List Int × Int} (h : ¬ s.1.contains (wrap64 (-x.2.f0)) = false) (h1 : s.2 = 1) : walkL t L last (x :: r) s = some (s, wrap64 (-x.2.f0)) := by
  rw [walkL, if_neg h, if_pos h1]
theorem walkGo {t : List S41} {L : List (List Int)} {last : Int} {x : Nat × S41} {r : List (Nat × S41)} {s : List Int × Int} {z : (List Int × Int) × Int} (h : ¬ s.1.contains (wrap64 (-x.2.f0)) = false) (h1 : ¬ s.2 = 1) (hz : walkL t L last (x :: r) s = some z) :
    okStep t L x.2 = true ∧ walkL t L last (x :: r) s = walkL t L last r (putL t last x.2.f0 (rd_L1 L x.2.f1) (s.1.filter fun y => decide (y ≠ wrap64 (-x.2.f0)), s.2 - 1)) := by
  rw [walkL, if_neg h, if_neg h1] at hz
  by_cases ho : okStep t L x.2 = true
  · exact ⟨ho, by rw [walkL, if_neg h, if_neg h1, if_pos ho]⟩
  · rw [if_neg ho] at hz; cases hz
theorem backs_drop (t : List S41) (k : Nat) (hk : k < t.length) : (backs t).drop k = backAt t k :: (backs t).drop (k + 1) := by
  rw [List.drop_eq_getElem_cons (by rw [backs_length]; exact hk)]
  simp [backs]
/-- Between two rounds of the walk: its blocks, the box of 'first', the box of the trail. -/
structure RSt (w4 : World) (gx gl gi gh gf bin : Nat) (last : Int) (B gs Bs : Nat) (At : Option Addr) (nt ct : Nat) (fv : Int) (N : Nat) (s : List Int × Int) (W : World) : Prop where
  f : FSt w4 gx gl gi gh gf bin last N s W
  hgs : W.heap[gs]? = some (.cells #[.int .i64 fv] 3 (0, 0))
  hbs : W.heap[Bs]? = some (.cells #[.slice At nt ct] 25 (0, 0))
  lt : gl < B ∧ gi < B ∧ gh < B ∧ gf < B ∧ bin < B ∧ w4.heap.size ≤ B ∧ gs < B ∧ Bs < B ∧ gh ≠ gs
  sz : B ≤ W.heap.size
section
variable {w4 W W' : World} {gx gl gi gh gf bin N N' B gs Bs nt ct : Nat} {At : Option Addr} {last fv fv' : Int} {s s' : List Int × Int}
theorem RSt.belowB (h : RSt w4 gx gl gi gh gf bin last B gs Bs At nt ct fv N s W) (hb : Below B W W') : RSt w4 gx gl gi gh gf bin last B gs Bs At nt ct fv N s W' := by
  obtain ⟨h1, h2, h3, h4, h5, h6, h7, h8, h9⟩ := h.lt
  have k : ∀ {g : Nat} {o : Obj}, g < B → W.heap[g]? = some o → W'.heap[g]? = some o := fun hg ho => (hb.block _ hg).trans ho
  exact ⟨⟨h.f.b.trans (hb.mono h6), k h1 h.f.hgl, k h2 h.f.hgi, k h3 h.f.hgh, k h4 h.f.hgf, h.f.m.move (hb.block _ h5), h.f.far⟩, k h7 h.hgs, k h8 h.hbs, h.lt, Nat.le_trans h.sz hb.size⟩
theorem RSt.mono (h : RSt w4 gx gl gi gh gf bin last B gs Bs At nt ct fv N s W) (hn : N ≤ N') : RSt w4 gx gl gi gh gf bin last B gs Bs At nt ct fv N' s W :=
  ⟨⟨h.f.b, h.f.hgl, h.f.hgi, h.f.hgh, h.f.hgf, h.f.m.mono hn, h.f.far⟩, h.hgs, h.hbs, h.lt, h.sz⟩
theorem RSt.twice (h : RSt w4 gx gl gi gh gf bin last B gs Bs At nt ct fv N s W) (ht : Twice W W' (PutS bin gh)) (hf : FSt w4 gx gl gi gh gf bin last N' s' W') : RSt w4 gx gl gi gh gf bin last B gs Bs At nt ct fv N' s' W' := by
  have e1 : gs ≠ bin := blk_map h.hgs h.f.m
  have e2 : Bs ≠ bin := blk_map h.hbs h.f.m
  have e3 : Bs ≠ gh := by have a := h.hbs; have b := h.f.hgh; rintro rfl; rw [a] at b; cases b
  have e4 := h.lt.2.2.2.2.2.2.2.2
  exact ⟨hf, ht.cells h.hgs (by unfold PutS; omega), ht.cells h.hbs (by unfold PutS; omega), h.lt, Nat.le_trans h.sz ht.size⟩
theorem RSt.first (h : RSt w4 gx gl gi gh gf bin last B gs Bs At nt ct fv N s W) (hg : w4.heap.size ≤ gs) (hne : gl ≠ gs) (v : Int) : RSt w4 gx gl gi gh gf bin last B gs Bs At nt ct v N s (W.setCell ⟨gs, 0, none⟩ (.int .i64 v)) := by
  have hgr := grown_setCell W ⟨gs, 0, none⟩ (.int .i64 v)
  have e1 : gi ≠ gs := by have a := h.f.hgi; have b := h.hgs; rintro rfl; rw [a] at b; cases b
  have e2 : gf ≠ gs := by have a := h.f.hgf; have b := h.hgs; rintro rfl; rw [a] at b; cases b
  have e3 : Bs ≠ gs := by have a := h.hbs; have b := h.hgs; rintro rfl; rw [a] at b; cases b
  have e4 := h.lt.2.2.2.2.2.2.2.2
  have e5 : gs ≠ bin := blk_map h.hgs h.f.m
  refine ⟨⟨h.f.b.setCell (p := ⟨gs, 0, none⟩) hg _, blk_grown h.f.hgl hgr (by intro e; cases e; exact hne rfl), blk_grown h.f.hgi hgr (by intro e; cases e; exact e1 rfl), blk_grown h.f.hgh hgr (by intro e; cases e; exact e4 rfl), blk_grown h.f.hgf hgr (by intro e; cases e; exact e2 rfl), h.f.m.setCell (fun e => e5 e.symm) _, h.f.far⟩, blk_put h.hgs 0 _ rfl, blk_grown h.hbs hgr (by intro e; cases e; exact e3 rfl), h.lt, ?_⟩
  have := h.sz
  have hz := hgr.size
  omega
/-- A round's writes, as the law of the loop wants them told. -/
theorem RSt.keeps (h : RSt w4 gx gl gi gh gf bin last B gs Bs At nt ct fv N s W) (ht : Twice W W' (PutS bin gh)) : KeepsFrom B W W' ∧ KpB w4.heap.size Bs W W' := by
  have e2 : Bs ≠ bin := blk_map h.hbs h.f.m
  have e3 : Bs ≠ gh := by have a := h.hbs; have b := h.f.hgh; rintro rfl; rw [a] at b; cases b
  have hl := h.lt
  refine ⟨⟨ht.size, fun k o hB hk ho => ?_⟩, ht.base ?_ h.f.b.size, ht.block Bs (blk_lt h.hbs) (by unfold PutS; omega)⟩
  · refine (ht.block k (Array.getElem?_eq_some_iff.1 hk).1 ?_).trans hk
    rintro (rfl | rfl)
    · omega
    · rw [h.f.hgh] at hk; cases hk; cases ho
  · rintro k (rfl | rfl)
    · exact h.f.far.2.2
    · exact h.f.far.2.1
end
theorem round_mid {w4 W w11 : World} {gx gl gi gh gf bin N B gs Bs nt ct : Nat} {At : Option Addr} {last fv key : Int} {s : List Int × Int} {d1 : List Int} (h : RSt w4 gx gl gi gh gf bin last B gs Bs At nt ct fv N s W)
    (hM : MapOf boolE w11 bin N (upd (dset s.1) key none)) (hg : W.grownBy w11 (some bin)) (hd : d1 = s.1.filter fun y => decide (y ≠ key)) :
    Aside0 (Twice W (w11.setCell ⟨gh, 0, none⟩ (.int .i64 (s.2 - 1))) (PutS bin gh)) ∧ Aside0 (FSt w4 gx gl gi gh gf bin last N (d1, s.2 - 1) (w11.setCell ⟨gh, 0, none⟩ (.int .i64 (s.2 - 1)))) := by
  have hne := h.f.nes.2.2.2
  have h1 : Twice W w11 (PutS bin gh) := (Twice.refl _ _).grown hg (by intro q hq; cases hq; exact Or.inl rfl)
  have h2 : Twice W (w11.setCell ⟨gh, 0, none⟩ (.int .i64 (s.2 - 1))) (PutS bin gh) := h1.grown (grown_setCell w11 ⟨gh, 0, none⟩ _) (by intro q hq; cases hq; exact Or.inr rfl)
  have hgh : w11.heap[gh]? = some (.cells #[.int .i64 s.2] 3 (0, 0)) := blk_grown h.f.hgh hg (by intro e; exact hne (Option.some.inj e))
  rw [dset_drop, ← hd] at hM
  exact ⟨⟨h2⟩, ⟨h.f.twice h2 (hM.setCell (fun e => hne e.symm) _) (blk_put hgh 0 _ rfl)⟩⟩
theorem below_of_grown {B : Nat} {W W' : World} {row : Option Nat} (hB : B ≤ W.heap.size) (hg : W.grownBy W' row) (hr : ∀ k, row = some k → B ≤ k) : Below B W W' := (Below.refl B W).grown hg hB hr
theorem putL_mem (t : List S41) (last but : Int) (l : List Int) : ∀ (s : List Int × Int) (y : Int), y ∈ (putL t last but l s).1 → y ∈ s.1 ∨ (y ∈ l ∧ y ≠ but) := by
  induction l with
  | nil => intro s y h; exact Or.inl h
  | cons x r ih =>
    intro s y h
    rcases ih (putLS t last but s x) y h with h1 | h1
    · unfold putLS at h1
      split at h1
      · exact Or.inl h1
      · rename_i hx
        rcases List.mem_append.1 h1 with h2 | h2
        · exact Or.inl h2
        · rw [List.mem_singleton] at h2; subst h2
          exact Or.inr ⟨List.mem_cons_self, fun e => hx (Or.inl e)⟩
    · exact Or.inr ⟨List.mem_cons_of_mem _ h1.1, h1.2⟩
theorem putL_hi (t : List S41) (last but : Int) (l : List Int) : ∀ s : List Int × Int, s.2 ≤ (putL t last but l s).2 ∧ (putL t last but l s).2 ≤ s.2 + l.length := by
  intro s
  have h := putAll_hi (lvOf (atT t) (lvT t)) last but l (dset s.1, s.2)
  rw [putL_set] at h
  exact h
def Seen (t : List S41) (s : List Int × Int) : Prop := ∀ y ∈ s.1, knownB t y = true ∧ I64 y
/-- What holds between two rounds of the walk back along the trail. -/
def WkI (w4 : World) (gx gl gi gh gf bin : Nat) (last : Int) (B gs Bs : Nat) (At : Option Addr) (ct : Nat) (L : List (List Int)) (t : List S41) (s0 : List Int × Int) (pre : List (Nat × S41)) (W : World) : Prop :=
  ∃ s, RSt w4 gx gl gi gh gf bin last B gs Bs At t.length ct 0 (100 * (pre.length + 1)) s W ∧ walkL t L last (backs t) s0 = walkL t L last ((backs t).drop pre.length) s ∧ -(pre.length : Int) ≤ s.2 ∧ s.2 ≤ 100 * ((pre.length : Int) + 1) ∧ Seen t s
/-- What holds where the walk has found the first of the last level. -/
def WkX (w4 : World) (gx gl gi gh gf bin : Nat) (last : Int) (B gs Bs : Nat) (At : Option Addr) (ct : Nat) (L : List (List Int)) (t : List S41) (s0 : List Int × Int) (W : World) : Prop :=
  ∃ s first, RSt w4 gx gl gi gh gf bin last B gs Bs At t.length ct first (100 * (t.length + 1)) s W ∧ walkL t L last (backs t) s0 = some (s, first) ∧ Seen t s
theorem wkI_own {w4 : World} {gx gl gi gh gf bin : Nat} {last : Int} {B gs Bs : Nat} {At : Option Addr} {ct : Nat} {L : List (List Int)} {t : List S41} {s0 : List Int × Int} :
    OwnFrom B (WkI w4 gx gl gi gh gf bin last B gs Bs At ct L t s0) := by
  rintro pre W W' row ⟨s, h1, h2⟩ hg hr
  exact ⟨s, h1.belowB (below_of_grown h1.sz hg (fun k e => (hr k e).1)), h2⟩
theorem wkX_own {w4 : World} {gx gl gi gh gf bin : Nat} {last : Int} {B gs Bs : Nat} {At : Option Addr} {ct : Nat} {L : List (List Int)} {t : List S41} {s0 : List Int × Int} (c : Code) :
    OwnFrom B (fun (_ : List (Nat × S41)) W => c = .exit 0 ∧ WkX w4 gx gl gi gh gf bin last B gs Bs At ct L t s0 W) := by
  rintro pre W W' row ⟨hc, s, first, h1, h2⟩ hg hr
  exact ⟨hc, s, first, h1.belowB (below_of_grown h1.sz hg (fun k e => (hr k e).1)), h2⟩
theorem range_then {P : Program} {a : Act} {c : Code} {Q : Exit → Act → World → Prop} {w : World} (Z : Nat → World → Prop)
    (h : c.wp P (fun e a' W => (e = .normal ∨ e = .exit 0) ∧ ∃ D, a' = { a with defers := { target := .collected D, args := #[] } :: a.defers } ∧ Z D W) a w)
    (t : ∀ D W, Z D W → Q .normal { a with defers := { target := .collected D, args := #[] } :: a.defers } W) : c.wp P (Exit.inBlock 0 Q) a w := by
  refine wp_mono h ?_
  rintro e a' W ⟨rfl | rfl, D, rfl, hz⟩
  · exact t D W hz
  · exact t D W hz
end Go.Proofs.Ytobadajeekdakaa.Print
