/- Literal rows in new memory, read. -/
import Derived.Test.YtobadajeekdakaaM
namespace Go.Proofs.Ytobadajeekdakaa.Print
open Go.RowKit Go.Proofs.YtobadajeekdakaaW.PrintWords Go.Proofs.YtobadajeekdakaaW.PrintLast Go.Proofs.YtobadajeekdakaaW.PrintMore
set_option linter.unusedVariables false
set_option linter.unusedSimpArgs false
theorem C_ints {W : World} {g : Nat} {t : TypeId} (l : List Int) (hl : l.length ≤ 9223372036854775807) (h : W.heap[g]? = some (.cells (l.map (Value.int .i64)).toArray t (0, 0))) : Kd.C (Kd.int .i64) W (some ⟨g, 0, none⟩) l.length l := by
  refine ⟨rfl, hl, fun _ => ⟨_, rfl, fun j p hj => ⟨[.int .i64 p], rfl, rfl, fun i u hu => ?_⟩⟩⟩
  cases i with
  | zero =>
    have hu : Value.int .i64 p = u := by simpa using hu
    subst hu
    have : (Addr.add ⟨g, 0, none⟩ (j * 1 + 0)) = (⟨g, j, none⟩ : Addr) := by cases j <;> simp [Addr.add]
    have e : (Kd.int IntKind.i64).sz = 1 := rfl
    rw [e, this]
    exact cell_in h j (by simp [hj])
  | succ i => simp at hu
theorem C_rows {W : World} {g : Nat} {t : TypeId} (L : List (List Int)) (vs : List Value) (hl : L.length ≤ 9223372036854775807) (h : W.heap[g]? = some (.cells vs.toArray t (0, 0)))
    (hv : ∀ (j : Nat) (r : List Int), L[j]? = some r → ∃ (A : Option Addr) (c : Nat), vs[j]? = some (Value.slice A r.length c) ∧ r.length ≤ c ∧ Kd.C (Kd.int .i64) W A r.length r) : Kd.C (Kd.slice 3 (Kd.int .i64)) W (some ⟨g, 0, none⟩) L.length L := by
  refine ⟨rfl, hl, fun _ => ⟨_, rfl, fun j p hj => ?_⟩⟩
  obtain ⟨A, c, h1, h2, h3⟩ := hv j p hj
  refine ⟨[.slice A p.length c], rfl, ⟨A, c, rfl, h2, h3⟩, fun i u hu => ?_⟩
  cases i with
  | zero =>
    have hu : Value.slice A p.length c = u := by simpa using hu
    subst hu
    have : (Addr.add ⟨g, 0, none⟩ (j * 1 + 0)) = (⟨g, j, none⟩ : Addr) := by cases j <;> simp [Addr.add]
    have e : (Kd.slice 3 (Kd.int IntKind.i64)).sz = 1 := rfl
    rw [e, this]
    exact cell_in h j (by simpa using h1)
  | succ i => simp at hu
theorem C_steps {W : World} {g : Nat} {t : TypeId} (l : List S41) (vs : List Value) (hl : l.length ≤ 9223372036854775807) (h : W.heap[g]? = some (.cells vs.toArray t (0, 0)))
    (hv : ∀ (j : Nat) (p : S41), l[j]? = some p → vs[2 * j]? = some (.int .i64 p.f0) ∧ vs[2 * j + 1]? = some (.int .i64 p.f1)) : Kd.C k41 W (some ⟨g, 0, none⟩) l.length l := by
  refine ⟨rfl, hl, fun _ => ⟨_, rfl, fun j p hj => ⟨[.int .i64 p.f0, .int .i64 p.f1], rfl, k41_mk _ _, fun i u hu => ?_⟩⟩⟩
  obtain ⟨h1, h2⟩ := hv j p hj
  have hs : ∀ m, (Addr.add ⟨g, 0, none⟩ m) = (⟨g, m, none⟩ : Addr) := fun m => by cases m <;> simp [Addr.add]
  have e : k41.sz = 2 := rfl
  rw [e, hs]
  match i, hu with
  | 0, hu =>
    have hu : Value.int .i64 p.f0 = u := by simpa using hu
    subst hu
    exact cell_in h (j * 2 + 0) (by rw [List.getElem?_toArray, show j * 2 + 0 = 2 * j by omega]; exact h1)
  | 1, hu =>
    have hu : Value.int .i64 p.f1 = u := by simpa using hu
    subst hu
    exact cell_in h (j * 2 + 1) (by rw [List.getElem?_toArray, show j * 2 + 1 = 2 * j + 1 by omega]; exact h2)
  | i + 2, hu => simp at hu
theorem blk_keep_list {w : World} {g : Nat} {o : Obj} : ∀ (os : List Obj) {w : World}, w.heap[g]? = some o → (os.foldl World.alloc w).heap[g]? = some o
  | [], _, h => h
  | o' :: os, w, h => blk_keep_list (w := w) os (blk_alloc h o')
theorem blk_list : ∀ (os : List Obj) (w : World) (i : Nat) (o : Obj), os[i]? = some o → (os.foldl World.alloc w).heap[w.heap.size + i]? = some o
  | [], w, i, o, h => by simp at h
  | o' :: os, w, 0, o, h => by
    have h : o' = o := by simpa using h
    subst h
    exact blk_keep_list (w := w) os (blk_new w o')
  | o' :: os, w, i + 1, o, h => by
    have := blk_list os (w.alloc o') i o (by simpa using h)
    rw [World.size_alloc] at this
    rw [show w.heap.size + (i + 1) = w.heap.size + 1 + i by omega]
    exact this
theorem below_list : ∀ (os : List Obj) (n : Nat) (w W : World), Below n w W → n ≤ W.heap.size → Below n w (os.foldl World.alloc W)
  | [], n, w, W, h, _ => h
  | o :: os, n, w, W, h, hn => below_list os n w (W.alloc o) (h.alloc hn o) (by rw [World.size_alloc]; omega)
end Go.Proofs.Ytobadajeekdakaa.Print
