/- Maps from int to bool or int that the call makes: what they hold, key by key, as a function; the operations. -/
import Derived.Test.YtobadajeekdakaaB
import Derived.Maps.OwnSet
import Derived.OpenShut
import Derived.Maps.OwnOps
import Derived.Maps.RangeWalk
namespace Go.Proofs.Ytobadajeekdakaa.Print
open Go.RowKit Go.Proofs.YtobadajeekdakaaW.PrintWords Go.Proofs.YtobadajeekdakaaW.PrintLast Go.Proofs.YtobadajeekdakaaW.PrintMore
open Go.Maps (Keyed int_keyed keyOf_int_mk)
set_option linter.unusedVariables false
set_option linter.unusedSimpArgs false

abbrev I64 (x : Int) : Prop := (Lit.int .i64 x).wf = true
theorem keyLaw : Keyed Try.prog 3 := int_keyed Try.underlying3
theorem keyAt {x : Int} (h : I64 x) : keyOf Try.prog 3 (.int .i64 x) = some (.int .i64 x) := keyOf_int_mk Try.underlying3 h
/-- An element type of one cell: its values as data. -/
structure ElemK (α : Type) (e : TypeId) where
  val : α → Value
  dat : α → DataW Unit
  zero : α
  ok : α → Prop
  okz : ok zero
  reads : ∀ a, ok a → plainElem (H := Unit) Try.prog e (val a) = some (dat a, [])
  zrun : ∀ w, (zeroValue e).run Try.prog w = .ok (val zero) w
  inj : ∀ v a ps, plainElem (H := Unit) Try.prog e v = some (dat a, ps) → v = val a
section
variable {α : Type} {e : TypeId}
/-- Block b of w is a map of at most n entries that holds f. -/
def MapOf (E : ElemK α e) (w : World) (b n : Nat) (f : Int → Option α) : Prop :=
  ∃ D : DataW Unit, w.ownsMap Try.prog 3 (plainElem Try.prog e) b n D ∧ ∀ x, I64 x → Maps.has D (.int .i64 x) = (f x).isSome ∧ ∀ a, f x = some a → E.ok a ∧ ∀ z, D.atKey (.int .i64 x) z = E.dat a
variable {E : ElemK α e} {w w1 : World} {b n : Nat} {f : Int → Option α}
theorem MapOf.made (E : ElemK α e) (w : World) : MapOf E (w.alloc (.map #[] 0)) w.heap.size 0 (fun _ => none) :=
  ⟨.map [], World.ownsMap_made _ _ _ _, fun x _ => ⟨by simp [Maps.has], fun a h => by simp at h⟩⟩
theorem MapOf.lt (h : MapOf E w b n f) : b < w.heap.size := by obtain ⟨D, h, _⟩ := h; exact h.lt
theorem MapOf.mono (h : MapOf E w b n f) {m : Nat} (hm : n ≤ m) : MapOf E w b m f := by obtain ⟨D, h, r⟩ := h; exact ⟨D, h.mono hm, r⟩
theorem MapOf.move (h : MapOf E w b n f) (hb : w1.heap[b]? = w.heap[b]?) : MapOf E w1 b n f := by
  obtain ⟨D, ⟨es, clock, hh, r⟩, q⟩ := h
  exact ⟨D, ⟨es, clock, hb.trans hh, r⟩, q⟩
theorem MapOf.kept (h : MapOf E w b n f) {row : Option Nat} (hg : w.grownBy w1 row) (hne : some b ≠ row) : MapOf E w1 b n f := by
  obtain ⟨D, h, r⟩ := h; exact ⟨D, h.kept hg hne, r⟩
theorem MapOf.below (h : MapOf E w b n f) (hb : Below w.heap.size w w1) : MapOf E w1 b n f := h.move (hb.block b h.lt)
theorem MapOf.alloc (h : MapOf E w b n f) (o : Obj) : MapOf E (w.alloc o) b n f := by obtain ⟨D, h, r⟩ := h; exact ⟨D, h.alloc o, r⟩
theorem MapOf.setCell (h : MapOf E w b n f) {a : Addr} (ha : b ≠ a.block) (u : Value) : MapOf E (w.setCell a u) b n f := by
  obtain ⟨D, h, r⟩ := h; exact ⟨D, h.setCell ha u, r⟩
theorem MapOf.congr (h : MapOf E w b n f) {g : Int → Option α} (hg : ∀ x, I64 x → f x = g x) : MapOf E w b n g := by
  obtain ⟨D, h, r⟩ := h
  exact ⟨D, h, fun x hx => by rw [← hg x hx]; exact r x hx⟩
theorem MapOf.ok (h : MapOf E w b n f) {x : Int} (hx : I64 x) {a : α} (ha : f x = some a) : E.ok a := by
  obtain ⟨D, h, r⟩ := h; exact ((r x hx).2 a ha).1
def upd (f : Int → Option α) (x : Int) (v : Option α) : Int → Option α := fun y => if y = x then v else f y
theorem lit_ne {x y : Int} (h : y ≠ x) : (Lit.int .i64 y) ≠ Lit.int .i64 x := fun e => h (by injection e)
theorem MapOf.store (h : MapOf E w b n f) {t : TypeId} (ht : Try.prog.underlying t = some (.map 3 e)) (hn : n < maxLen) {x : Int} (hx : I64 x) (a : α) (ha : E.ok a) :
    ∃ w', (Instr.mapUpdate t (.map (some b)) (.int .i64 x) (E.val a)).run Try.prog w = .ok () w' ∧ MapOf E w' b (n + 1) (upd f x (some a)) ∧ w.mapTurned w' b := by
  obtain ⟨D, h, r⟩ := h
  obtain ⟨w', hrun, hown, ht⟩ := h.store keyLaw ht hn (keyAt hx) (E.reads a ha)
  refine ⟨w', hrun, ⟨_, hown, fun y hy => ?_⟩, ht⟩
  unfold upd
  have hk : WideAt.IsKeyLit (Lit.int .i64 x) := keyLaw.key (keyAt hx)
  by_cases hyx : y = x
  · subst hyx
    rw [if_pos rfl, Maps.has_put_same h.isMap hk]
    refine ⟨rfl, fun a' ha' => ?_⟩
    injection ha' with ha'
    subst ha'
    exact ⟨ha, fun z => Maps.atKey_put_same h.isMap hk _ _⟩
  · rw [if_neg hyx, Maps.has_put_other (lit_ne hyx)]
    refine ⟨(r y hy).1, fun a' ha' => ?_⟩
    obtain ⟨q1, q2⟩ := (r y hy).2 a' ha'
    exact ⟨q1, fun z => by rw [Maps.atKey_put_other (lit_ne hyx)]; exact q2 z⟩
theorem MapOf.drop (h : MapOf E w b n f) {t : TypeId} (ht : Try.prog.underlying t = some (.map 3 e)) {x : Int} (hx : I64 x) (ty : TypeId) :
    ∃ w', (Builtin.delete_ #[t, 3] ty #[.map (some b), .int .i64 x]).run Try.prog w = .ok (.tuple #[]) w' ∧ MapOf E w' b n (upd f x none) ∧ w.mapTurned w' b := by
  obtain ⟨D, h, r⟩ := h
  obtain ⟨w', hrun, hown, ht⟩ := h.drop keyLaw ht (keyAt hx) ty
  refine ⟨w', hrun, ⟨_, hown, fun y hy => ?_⟩, ht⟩
  unfold upd
  by_cases hyx : y = x
  · subst hyx
    rw [if_pos rfl, Maps.has_del_same]
    exact ⟨rfl, fun a' ha' => by simp at ha'⟩
  · rw [if_neg hyx, Maps.has_del_other (lit_ne hyx)]
    refine ⟨(r y hy).1, fun a' ha' => ?_⟩
    obtain ⟨q1, q2⟩ := (r y hy).2 a' ha'
    exact ⟨q1, fun z => by rw [Maps.atKey_del_other (lit_ne hyx)]; exact q2 z⟩
end
section
variable {α : Type} {e : TypeId} {E : ElemK α e} {ops : Array Oper} {rest : List Oper} {o : Oper} {a : Act} {Q : Exit → Act → World → Prop} {W : World} {b n : Nat} {f : Int → Option α}
end
theorem cell_in {w : World} {g : Nat} {t : TypeId} {cs : Array Value} (h : w.heap[g]? = some (.cells cs t (0, 0))) (i : Nat) {v : Value} (hv : cs[i]? = some v) : w.cell? ⟨g, i, none⟩ = some v := (blk_cell h i).trans hv
end Go.Proofs.Ytobadajeekdakaa.Print
