/- Maps from int to bool or int that the call makes: what they hold, key by key, as a function; the operations. -/
import Derived.Test.YtobadajeekdakaaB
import Derived.Maps.OwnSet
import Derived.OpenShut
import Derived.Maps.OwnOps
import Derived.Maps.RangeWalk
namespace Go.Proofs.Ytobadajeekdakaa.Print
open Go.RowKit Go.Proofs.YtobadajeekdakaaW.PrintWords Go.Proofs.YtobadajeekdakaaW.PrintLast Go.Proofs.YtobadajeekdakaaW.PrintMore
open Go.Maps (Keyed int_keyed keyOf_int_mk)
set_option linter.unusedVariables false
set_option linter.unusedSimpArgs false

abbrev I64 (x : Int) : Prop := (Lit.int .i64 x).wf = true
theorem keyLaw : Keyed Try.prog 3 := int_keyed Try.underlying3
theorem keyAt {x : Int} (h : I64 x) : keyOf Try.prog 3 (.int .i64 x) = some (.int .i64 x) := keyOf_int_mk Try.underlying3 h
theorem i64_range {x : Int} (h : I64 x) : -9223372036854775808 ≤ x ∧ x ≤ 9223372036854775807 := bounds_i64 h
theorem i64_of {x : Int} (h1 : -9223372036854775808 ≤ x) (h2 : x ≤ 9223372036854775807) : I64 x := WalkArith.wf_i64 ⟨h1, h2⟩
theorem i64_wrap (x : Int) : I64 (wrap64 x) := wrap64_wf x

theorem zero4 (w : World) : (zeroValue 4).run Try.prog w = .ok (.bool false) w := by kernel_rfl
theorem zero3 (w : World) : (zeroValue 3).run Try.prog w = .ok (.int .i64 0) w := by kernel_rfl

theorem zero_i64 : I64 0 := WalkArith.wf_i64 ⟨by omega, by omega⟩
theorem plainElem_bool_inv {P : Program} {e : TypeId} (he : P.underlying e = some .bool) {v : Value} {z : DataW Unit × List MemPlace} (h : plainElem P e v = some z) : ∃ a, v = .bool a ∧ z = (.lit (.bool a), []) := by
  unfold plainElem at h
  split at h
  · rename_i x _
    injection h with h
    exact ⟨x, rfl, h.symm⟩
  · rename_i h1; rw [he] at h1; cases h1
  · rename_i h1; rw [he] at h1; cases h1
  · cases h
/-- An element type of one cell: its values as data. -/
structure ElemK (α : Type) (e : TypeId) where
  val : α → Value
  dat : α → DataW Unit
  zero : α
  ok : α → Prop
  okz : ok zero
  reads : ∀ a, ok a → plainElem (H := Unit) Try.prog e (val a) = some (dat a, [])
  zrun : ∀ w, (zeroValue e).run Try.prog w = .ok (val zero) w
  inj : ∀ v a ps, plainElem (H := Unit) Try.prog e v = some (dat a, ps) → v = val a
def boolE : ElemK Bool 4 where
  val := Value.bool
  dat := fun b => .lit (.bool b)
  zero := false
  ok := fun _ => True
  okz := trivial
  reads := fun a _ => plainElem_bool Try.underlying4 a
  zrun := zero4
  inj := by
    intro v a ps h
    obtain ⟨b, rfl, hz⟩ := plainElem_bool_inv Try.underlying4 h
    simp at hz
    rw [hz.1]
def intE : ElemK Int 3 where
  val := Value.int .i64
  dat := fun b => .lit (.int .i64 b)
  zero := 0
  ok := I64
  okz := zero_i64
  reads := fun a h => plainElem_int Try.underlying3 h
  zrun := zero3
  inj := by
    intro v a ps h
    obtain ⟨b, rfl, hz, _⟩ := plainElem_int_inv Try.underlying3 h
    simp at hz
    rw [hz.1]

section
variable {α : Type} {e : TypeId}
/-- Block b of w is a map of at most n entries that holds f. -/
def MapOf (E : ElemK α e) (w : World) (b n : Nat) (f : Int → Option α) : Prop :=
  ∃ D : DataW Unit, w.ownsMap Try.prog 3 (plainElem Try.prog e) b n D ∧ ∀ x, I64 x → Maps.has D (.int .i64 x) = (f x).isSome ∧ ∀ a, f x = some a → E.ok a ∧ ∀ z, D.atKey (.int .i64 x) z = E.dat a
variable {E : ElemK α e} {w w1 : World} {b n : Nat} {f : Int → Option α}
theorem MapOf.made (E : ElemK α e) (w : World) : MapOf E (w.alloc (.map #[] 0)) w.heap.size 0 (fun _ => none) :=
  ⟨.map [], World.ownsMap_made _ _ _ _, fun x _ => ⟨by simp [Maps.has], fun a h => by simp at h⟩⟩
theorem MapOf.lt (h : MapOf E w b n f) : b < w.heap.size := by obtain ⟨D, h, _⟩ := h; exact h.lt
theorem MapOf.mono (h : MapOf E w b n f) {m : Nat} (hm : n ≤ m) : MapOf E w b m f := by obtain ⟨D, h, r⟩ := h; exact ⟨D, h.mono hm, r⟩
theorem MapOf.move (h : MapOf E w b n f) (hb : w1.heap[b]? = w.heap[b]?) : MapOf E w1 b n f := by
  obtain ⟨D, ⟨es, clock, hh, r⟩, q⟩ := h
  exact ⟨D, ⟨es, clock, hb.trans hh, r⟩, q⟩
theorem MapOf.kept (h : MapOf E w b n f) {row : Option Nat} (hg : w.grownBy w1 row) (hne : some b ≠ row) : MapOf E w1 b n f := by
  obtain ⟨D, h, r⟩ := h; exact ⟨D, h.kept hg hne, r⟩
theorem MapOf.below (h : MapOf E w b n f) (hb : Below w.heap.size w w1) : MapOf E w1 b n f := h.move (hb.block b h.lt)
theorem MapOf.alloc (h : MapOf E w b n f) (o : Obj) : MapOf E (w.alloc o) b n f := by obtain ⟨D, h, r⟩ := h; exact ⟨D, h.alloc o, r⟩
theorem MapOf.setCell (h : MapOf E w b n f) {a : Addr} (ha : b ≠ a.block) (u : Value) : MapOf E (w.setCell a u) b n f := by
  obtain ⟨D, h, r⟩ := h; exact ⟨D, h.setCell ha u, r⟩
theorem MapOf.congr (h : MapOf E w b n f) {g : Int → Option α} (hg : ∀ x, I64 x → f x = g x) : MapOf E w b n g := by
  obtain ⟨D, h, r⟩ := h
  exact ⟨D, h, fun x hx => by rw [← hg x hx]; exact r x hx⟩
theorem MapOf.ok (h : MapOf E w b n f) {x : Int} (hx : I64 x) {a : α} (ha : f x = some a) : E.ok a := by
  obtain ⟨D, h, r⟩ := h; exact ((r x hx).2 a ha).1
theorem MapOf.look (h : MapOf E w b n f) {t : TypeId} (ht : Try.prog.underlying t = some (.map 3 e)) {x : Int} (hx : I64 x) :
    (Instr.lookup t (.map (some b)) (.int .i64 x) false).run Try.prog w = .ok (E.val ((f x).getD E.zero)) w := by
  obtain ⟨D, h, r⟩ := h
  obtain ⟨v, ps, hrun, hv⟩ := h.lookup keyLaw ht (E.zrun w) (E.reads _ E.okz) (keyAt hx)
  rw [hrun]
  obtain ⟨r1, r2⟩ := r x hx
  cases hf : f x with
  | none =>
    rw [hf] at r1
    rw [Maps.atKey_of_not_has (by simpa using r1)] at hv
    rw [E.inj _ _ _ hv]; rfl
  | some a =>
    rw [(r2 a hf).2] at hv
    rw [E.inj _ _ _ hv]; rfl
theorem MapOf.look_ok (h : MapOf E w b n f) {t : TypeId} (ht : Try.prog.underlying t = some (.map 3 e)) {x : Int} (hx : I64 x) :
    (Instr.lookup t (.map (some b)) (.int .i64 x) true).run Try.prog w = .ok (.tuple #[E.val ((f x).getD E.zero), .bool (f x).isSome]) w := by
  obtain ⟨D, h, r⟩ := h
  obtain ⟨v, ps, hrun, hv⟩ := h.look_ok keyLaw ht (E.zrun w) (E.reads _ E.okz) (keyAt hx)
  rw [hrun]
  obtain ⟨r1, r2⟩ := r x hx
  rw [r1]
  cases hf : f x with
  | none =>
    rw [hf] at r1
    rw [Maps.atKey_of_not_has (by simpa using r1)] at hv
    rw [E.inj _ _ _ hv]; rfl
  | some a =>
    rw [(r2 a hf).2] at hv
    rw [E.inj _ _ _ hv]; rfl
def upd (f : Int → Option α) (x : Int) (v : Option α) : Int → Option α := fun y => if y = x then v else f y
theorem lit_ne {x y : Int} (h : y ≠ x) : (Lit.int .i64 y) ≠ Lit.int .i64 x := fun e => h (by injection e)
theorem MapOf.store (h : MapOf E w b n f) {t : TypeId} (ht : Try.prog.underlying t = some (.map 3 e)) (hn : n < maxLen) {x : Int} (hx : I64 x) (a : α) (ha : E.ok a) :
    ∃ w', (Instr.mapUpdate t (.map (some b)) (.int .i64 x) (E.val a)).run Try.prog w = .ok () w' ∧ MapOf E w' b (n + 1) (upd f x (some a)) ∧ w.mapTurned w' b := by
  obtain ⟨D, h, r⟩ := h
  obtain ⟨w', hrun, hown, ht⟩ := h.store keyLaw ht hn (keyAt hx) (E.reads a ha)
  refine ⟨w', hrun, ⟨_, hown, fun y hy => ?_⟩, ht⟩
  unfold upd
  have hk : WideAt.IsKeyLit (Lit.int .i64 x) := keyLaw.key (keyAt hx)
  by_cases hyx : y = x
  · subst hyx
    rw [if_pos rfl, Maps.has_put_same h.isMap hk]
    refine ⟨rfl, fun a' ha' => ?_⟩
    injection ha' with ha'
    subst ha'
    exact ⟨ha, fun z => Maps.atKey_put_same h.isMap hk _ _⟩
  · rw [if_neg hyx, Maps.has_put_other (lit_ne hyx)]
    refine ⟨(r y hy).1, fun a' ha' => ?_⟩
    obtain ⟨q1, q2⟩ := (r y hy).2 a' ha'
    exact ⟨q1, fun z => by rw [Maps.atKey_put_other (lit_ne hyx)]; exact q2 z⟩
theorem MapOf.drop (h : MapOf E w b n f) {t : TypeId} (ht : Try.prog.underlying t = some (.map 3 e)) {x : Int} (hx : I64 x) (ty : TypeId) :
    ∃ w', (Builtin.delete_ #[t, 3] ty #[.map (some b), .int .i64 x]).run Try.prog w = .ok (.tuple #[]) w' ∧ MapOf E w' b n (upd f x none) ∧ w.mapTurned w' b := by
  obtain ⟨D, h, r⟩ := h
  obtain ⟨w', hrun, hown, ht⟩ := h.drop keyLaw ht (keyAt hx) ty
  refine ⟨w', hrun, ⟨_, hown, fun y hy => ?_⟩, ht⟩
  unfold upd
  by_cases hyx : y = x
  · subst hyx
    rw [if_pos rfl, Maps.has_del_same]
    exact ⟨rfl, fun a' ha' => by simp at ha'⟩
  · rw [if_neg hyx, Maps.has_del_other (lit_ne hyx)]
    refine ⟨(r y hy).1, fun a' ha' => ?_⟩
    obtain ⟨q1, q2⟩ := (r y hy).2 a' ha'
    exact ⟨q1, fun z => by rw [Maps.atKey_del_other (lit_ne hyx)]; exact q2 z⟩
end
section
variable {α : Type} {e : TypeId} {E : ElemK α e} {ops : Array Oper} {rest : List Oper} {o : Oper} {a : Act} {Q : Exit → Act → World → Prop} {W : World} {b n : Nat} {f : Int → Option α}
/-- make(map[int]..): a letter for the world behind it. -/
theorem map_made_event (E : ElemK α e) (hgd : o.guard = none) {t : TypeId} (ho : o.op = .makeMap t none)
    (h : ∀ g, g = W.heap.size → ∀ w1, MapOf E w1 g 0 (fun _ => none) → Below W.heap.size W w1 → wpList Try.prog ops Q rest (a.put o.dst (.map (some g))) w1) : wpList Try.prog ops Q (o :: rest) a W := by
  refine wpList_plain hgd fun K' hK' => ?_
  unfold Oper.wp
  simp [execOp, ho, run_makeMap, Result.andThen]
  exact hK' _ _ (h _ rfl _ (MapOf.made E W) (below_alloc (Below.refl _ _) _))
theorem map_store_event (hgd : o.guard = none) (m x v : Operand) {t : TypeId} (ho : o.op = .mapUpdate t m x v) (ht : Try.prog.underlying t = some (.map 3 e)) (hm : a.eval m = .map (some b)) (hM : MapOf E W b n f) (hn : n < maxLen) {key : Int} (hx : a.eval x = .int .i64 key) (hk : I64 key) {val : α} (hv : a.eval v = E.val val) (hok : E.ok val)
    (h : ∀ w1, MapOf E w1 b (n + 1) (upd f key (some val)) → W.grownBy w1 (some b) → wpList Try.prog ops Q rest (a.put o.dst undef) w1) : wpList Try.prog ops Q (o :: rest) a W := by
  obtain ⟨w1, hrun, hM1, ht1⟩ := hM.store ht hn hk val hok
  refine wpList_plain hgd fun K' hK' => ?_
  unfold Oper.wp
  simp [execOp, ho, hm, hx, hv, hrun, Result.andThen]
  exact hK' _ _ (h w1 hM1 ht1.grown)
end
theorem blk_map {w : World} {g bm n : Nat} {α : Type} {e : TypeId} {E : ElemK α e} {f : Int → Option α} {t : TypeId} {cs : Array Value} (h : w.heap[g]? = some (.cells cs t (0, 0))) (hM : MapOf E w bm n f) : g ≠ bm := by
  obtain ⟨D, ⟨es, clock, hh, _⟩, _⟩ := hM
  rintro rfl
  rw [h] at hh
  cases hh
theorem cell_in {w : World} {g : Nat} {t : TypeId} {cs : Array Value} (h : w.heap[g]? = some (.cells cs t (0, 0))) (i : Nat) {v : Value} (hv : cs[i]? = some v) : w.cell? ⟨g, i, none⟩ = some v := (blk_cell h i).trans hv
end Go.Proofs.Ytobadajeekdakaa.Print
