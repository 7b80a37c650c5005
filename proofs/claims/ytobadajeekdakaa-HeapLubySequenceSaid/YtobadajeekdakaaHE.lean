/- slices.Insert of one number into a row of one's own: its contract, out of the shelf's four roads. -/
import Derived.Test.YtobadajeekdakaaHD
import Derived.Test.YtobadajeekdakaaShIns
namespace Go.Proofs.Ytobadajeekdakaa.Print
open Go.RowKit Go.Proofs.YtobadajeekdakaaW.PrintWords Go.Proofs.YtobadajeekdakaaW.PrintLast Go.Proofs.YtobadajeekdakaaW.PrintMore
open Go.Sort (grow alloc_eq_grow)
set_option linter.unusedVariables false
set_option linter.unusedSimpArgs false

def insV (xs : List Int) (i : Nat) (x : Int) : List Int := xs.take i ++ x :: xs.drop i
theorem insV_length (xs : List Int) (i : Nat) (x : Int) (hi : i ≤ xs.length) : (insV xs i x).length = xs.length + 1 := by simp [insV]; omega
theorem encs_map (xs : List Int) : encs (Value.int .i64) xs = xs.map (Value.int .i64) := rfl
theorem one_ints {v : Value} {xs : List Int} (h : v ∈ xs.map (Value.int .i64)) : v.oneCell' = true := by
  obtain ⟨x, _, rfl⟩ := List.mem_map.1 h
  rfl
def InsPost (w : World) (base : Nat) (v : Value) (xs : List Int) (i : Nat) (x : Int) (e : Ending) (w' : World) : Prop :=
  ∃ v' : Value, e = .returned v' ∧ Kd.R (Kd.int .i64) 3 w' base (fun _ => True) v' (insV xs i x) ∧ w.grownBy w' v.ownBlock ∧ (v'.ownBlock = v.ownBlock ∨ ∃ b, v'.ownBlock = some b ∧ w.heap.size ≤ b)
/-- New memory that holds a row. -/
theorem R_fresh {W : World} {g base cap : Nat} {cur : Array Value} {ys : List Int} (hg : W.heap[g]? = some (.cells cur 3 (0, 0))) (hb : base ≤ g) (hc : ys.length ≤ cap) (hm : cap ≤ maxLen) (hs : cur.size = cap) (ht : cur.toList.take ys.length = ys.map (Value.int .i64)) :
    Kd.R (Kd.int .i64) 3 W base (fun _ => True) (.slice (some ⟨g, 0, none⟩) ys.length cap) ys :=
  Kd.R_of_own ⟨by simp [encs], .inr ⟨g, cap, cur, rfl, hb, hg, hc, hm, by omega, by rw [Nat.mul_one]; exact ht⟩⟩ (fun _ _ => trivial)
theorem grown_alloc (w : World) (o : Obj) (row : Option Nat) : w.grownBy (w.alloc o) row := grown_of_below (below_alloc (Below.refl _ w) o) row
theorem setCells_grown (w : World) (g o : Nat) (vs : List Value) : w.grownBy (w.setCells g o vs) (some g) := by
  obtain ⟨h1, h2, h3, h4⟩ := setCells_same g vs o w
  exact ⟨h1, h2, h3, by omega, fun k _ hk => setCells_far vs o k (by intro e; exact hk (by rw [e]))⟩
theorem below_setCells {w : World} {g : Nat} (hg : w.heap.size ≤ g) : ∀ (vs : List Value) (o : Nat) {W : World}, Below w.heap.size w W → Below w.heap.size w (W.setCells g o vs)
  | [], _, _, h => h
  | v :: r, o, W, h => by
    rw [World.setCells]
    exact below_setCells hg r (o + 1) (below_set h hg)
theorem grown_trans {w w1 w2 : World} {row : Option Nat} (h : w.grownBy w1 row) (k : w1.grownBy w2 row) : w.grownBy w2 row :=
  ⟨k.os.trans h.os, k.tape.trans h.tape, k.output.trans h.output, Nat.le_trans h.size k.size, fun i hi hr => (k.block i (Nat.lt_of_lt_of_le hi h.size) hr).trans (h.block i hi hr)⟩
theorem grown_drew (w : World) (row : Option Nat) : w.grownBy w.drew row := grown_of_below (below_drew (Below.refl _ w)) row

theorem insert_end (base c : Nat) (A : Option Addr) (xs : List Int) (x : Int) (w : World) (gx : Nat) (hR : Kd.R (Kd.int .i64) 3 w base (fun _ => True) (.slice A xs.length c) xs) (hbase : base ≤ w.heap.size) (hl : xs.length ≤ 100000) (hx : w.heap[gx]? = some (.cells #[.int .i64 x] 3 (0, 0))) :
    Calls Try.prog 152 #[.slice A xs.length c, .int .i64 xs.length, .slice (some ⟨gx, 0, none⟩) 1 1] w (InsPost w base (.slice A xs.length c) xs xs.length x) := by
  have hvs : ∀ j v, [Value.int .i64 x][j]? = some v → w.cell? ⟨gx, 0 + j, none⟩ = some v := fun j v hj => by
    cases j with
    | zero => exact (cell_in hx 0 rfl).trans hj
    | succ j => simp at hj
  have h1v : ∀ v ∈ [Value.int .i64 x], v.oneCell' = true := fun v hv => by simp at hv; subst hv; rfl
  have hins : insV xs xs.length x = xs ++ [x] := by simp [insV]
  have hown := Kd.own_of_R hR
  have hle : xs.length ≤ c := (Kd.R_reads' hR).2.1
  obtain ⟨hlen, h | ⟨g, cap, cur, e1, hb, hg, hn, hc, hsz, htk⟩⟩ := hown
  · -- nil
    obtain ⟨e, h0⟩ := h
    have hA : A = none ∧ c = 0 := by injection e with e1 _ e3; exact ⟨e1, e3⟩
    obtain ⟨rfl, rfl⟩ := hA
    have hxs : xs = [] := List.eq_nil_of_length_eq_zero h0
    subst hxs
    refine (Any2.slices_Insert_int_end_grow Try.laysIns none 0 0 gx 0 1 1 [] [.int .i64 x] w (by omega) (by omega) (by omega) (by omega) rfl rfl (fun _ => rfl) (fun a h => by cases h) hvs h1v).mono ?_
    rintro e w' ⟨rfl, rfl⟩
    refine ⟨_, rfl, ?_, grown_trans (grown_drew w _) (grown_alloc _ _ _), .inr ⟨w.heap.size, rfl, Nat.le_refl _⟩⟩
    have := R_fresh (W := w.drew.alloc _) (g := w.heap.size) (base := base) (ys := insV [] 0 x) (blk_new w.drew _) hbase (show (insV [] 0 x).length ≤ grownCap w (0 + 1) 0 3 from grownCap_ge w 1 0 3) (grownCap_le_maxLen w _ _ _ (by unfold maxLen; omega))
      (cur := ([] ++ [Value.int .i64 x]).toArray ++ Builtin.zeroCells (Value.int .i64 0).cells (grownCap w (0 + 1) 0 3 - (0 + 1))) (by
        have := grownCap_ge w 1 0 3
        simp [size_zeroCells, Value.cells]; omega) (by simp [insV])
    exact this
  · injection e1 with e1 _ e3
    subst e1 e3
    have hcs : ∀ j v, (xs.map (Value.int .i64))[j]? = some v → w.cell? ⟨g, 0 + j, none⟩ = some v := fun j v hj => by
      rw [Nat.zero_add]
      refine (blk_cell hg j).trans ?_
      rw [← encs_map, ← htk, Nat.mul_one] at hj
      rw [List.getElem?_take] at hj
      split at hj
      · simpa using hj
      · cases hj
    by_cases hroom : xs.length + 1 ≤ c
    · refine (Any2.slices_Insert_int_end_room Try.laysIns g 0 xs.length c gx 0 1 1 [.int .i64 x] w (by omega) hroom (by unfold maxLen at hc; omega) rfl (fun j hj => ?_) (fun j hj => ?_) hvs h1v).mono ?_
      · rw [blk_cell hg]
        rw [Array.getElem?_eq_getElem (by omega)]
        rfl
      · exact blk_frozen hg _
      · rintro e w' ⟨rfl, rfl⟩
        refine ⟨_, rfl, ?_, setCells_grown w g _ _, .inl rfl⟩
        obtain ⟨cur', hc1, hc2, hc3⟩ := setCells_row [Value.int .i64 x] (0 + xs.length) w cur hg (by simp; omega)
        have := R_fresh (ys := insV xs xs.length x) hc1 hb (by rw [insV_length _ _ _ (Nat.le_refl _)]; exact hroom) hc (by omega) (by
          rw [hc3, hins, Nat.zero_add, show cur.toList.take xs.length = xs.map (Value.int .i64) by rw [Nat.mul_one] at htk; rw [htk, encs_map]]
          rw [List.take_append_of_le_length (by simp)]
          rw [List.take_of_length_le (by simp)]
          simp)
        rw [insV_length _ _ _ (Nat.le_refl _)] at this
        exact this
    · refine (Any2.slices_Insert_int_end_grow Try.laysIns (some ⟨g, 0, none⟩) xs.length c gx 0 1 1 (xs.map (Value.int .i64)) [.int .i64 x] w (by omega) hn (by omega) (by omega) (by simp) rfl (fun h => by cases h) (fun a ha j v hj => by
          cases ha
          rw [show (Addr.add ⟨g, 0, none⟩ j) = (⟨g, 0 + j, none⟩ : Addr) from by cases j <;> simp [Addr.add]]
          exact hcs j v hj) hvs h1v).mono ?_
      rintro e w' ⟨rfl, rfl⟩
      refine ⟨_, rfl, ?_, grown_trans (grown_drew w _) (grown_alloc _ _ _), .inr ⟨w.heap.size, rfl, Nat.le_refl _⟩⟩
      have h2 := R_fresh (W := w.drew.alloc _) (g := w.heap.size) (base := base) (ys := insV xs xs.length x) (blk_new w.drew _) hbase (show (insV xs xs.length x).length ≤ grownCap w (xs.length + 1) c 3 by rw [insV_length _ _ _ (Nat.le_refl _)]; exact grownCap_ge w _ _ 3) (grownCap_le_maxLen w _ _ _ (by unfold maxLen; omega))
        (cur := (xs.map (Value.int .i64) ++ [Value.int .i64 x]).toArray ++ Builtin.zeroCells (Value.int .i64 0).cells (grownCap w (xs.length + 1) c 3 - (xs.length + 1))) (by
          have := grownCap_ge w (xs.length + 1) c 3
          simp [size_zeroCells, Value.cells]; omega) (by rw [hins, Array.toList_append, List.take_append_of_le_length (by simp), List.take_of_length_le (by simp)]; simp)
      rw [insV_length _ _ _ (Nat.le_refl _)] at h2
      exact h2

/-- A row, its tail moved up by one, and x put in. -/
theorem shift_list {α : Type} (cur cs : List α) (u : α) (i : Nat) (hi : i < cs.length) (hc : cs.length + 1 ≤ cur.length) (ht : cur.take cs.length = cs) :
    (((cur.take (i + 1) ++ cs.drop i ++ cur.drop (i + 1 + (cs.drop i).length)).take i ++ [u] ++ (cur.take (i + 1) ++ cs.drop i ++ cur.drop (i + 1 + (cs.drop i).length)).drop (i + [u].length)).take (cs.length + 1)) = cs.take i ++ u :: cs.drop i := by
  have h1 : (cur.take (i + 1) ++ cs.drop i ++ cur.drop (i + 1 + (cs.drop i).length)).take i = cs.take i := by
    rw [List.append_assoc, List.take_append_of_le_length (by simp; omega), List.take_take, show min i (i + 1) = i by omega]
    conv => rhs; rw [← ht]
    rw [List.take_take, show min i cs.length = i by omega]
  have h2 : (cur.take (i + 1) ++ cs.drop i ++ cur.drop (i + 1 + (cs.drop i).length)).drop (i + [u].length) = cs.drop i ++ cur.drop (i + 1 + (cs.drop i).length) := by
    rw [List.append_assoc, show i + [u].length = (cur.take (i + 1)).length by simp; omega, List.drop_left]
  rw [h1, h2, ← List.append_assoc, List.take_append_of_le_length (by simp; omega), List.take_of_length_le (by simp; omega)]
  simp
theorem put_list {α : Type} (cur cs : List α) (u : α) (i : Nat) (hi : i < cs.length) (hc : cs.length + 1 ≤ cur.length) (ht : cur.take i = cs.take i) :
    (((cur.take i ++ [u] ++ cur.drop (i + [u].length)).take (i + 1) ++ cs.drop i ++ (cur.take i ++ [u] ++ cur.drop (i + [u].length)).drop (i + 1 + (cs.drop i).length)).take (cs.length + 1)) = cs.take i ++ u :: cs.drop i := by
  have h1 : (cur.take i ++ [u] ++ cur.drop (i + [u].length)).take (i + 1) = cs.take i ++ [u] := by
    rw [List.take_append_of_le_length (by simp; omega), List.take_of_length_le (by simp; omega), ht]
  rw [h1, List.take_append_of_le_length (by simp; omega), List.take_of_length_le (by simp; omega)]
  simp

theorem insert_mid (base g c : Nat) (xs : List Int) (i : Nat) (x : Int) (w : World) (gx : Nat) (hR : Kd.R (Kd.int .i64) 3 w base (fun _ => True) (.slice (some ⟨g, 0, none⟩) xs.length c) xs) (hbase : base ≤ w.heap.size) (hi : i < xs.length) (hl : xs.length ≤ 100000) (hx : w.heap[gx]? = some (.cells #[.int .i64 x] 3 (0, 0))) (hne : gx ≠ g) :
    Calls Try.prog 152 #[.slice (some ⟨g, 0, none⟩) xs.length c, .int .i64 i, .slice (some ⟨gx, 0, none⟩) 1 1] w (InsPost w base (.slice (some ⟨g, 0, none⟩) xs.length c) xs i x) := by
  have hvs : ∀ j v, [Value.int .i64 x][j]? = some v → w.cell? ⟨gx, 0 + j, none⟩ = some v := fun j v hj => by
    cases j with
    | zero => exact (cell_in hx 0 rfl).trans hj
    | succ j => simp at hj
  have h1v : ∀ v ∈ [Value.int .i64 x], v.oneCell' = true := fun v hv => by simp at hv; subst hv; rfl
  have hown := Kd.own_of_R hR
  obtain ⟨hlen, h | ⟨g', cap, cur, e1, hb, hg, hn, hc, hsz, htk⟩⟩ := hown
  · omega
  · injection e1 with e1 _ e3
    injection e1 with e1
    injection e1 with e1
    subst e1 e3
    rw [Nat.mul_one] at htk hsz
    have hcs : ∀ j v, (xs.map (Value.int .i64))[j]? = some v → w.cell? ⟨g, 0 + j, none⟩ = some v := fun j v hj => by
      rw [Nat.zero_add]
      refine (blk_cell hg j).trans ?_
      rw [← encs_map, ← htk] at hj
      rw [List.getElem?_take] at hj
      split at hj
      · simpa using hj
      · cases hj
    have hmap : (insV xs i x).map (Value.int .i64) = (xs.map (Value.int .i64)).take i ++ Value.int .i64 x :: (xs.map (Value.int .i64)).drop i := by simp [insV, List.map_take, List.map_drop]
    have hil := insV_length xs i x (Nat.le_of_lt hi)
    have hdl : ((xs.map (Value.int .i64)).drop i).length = xs.length - i := by simp
    by_cases hroom : xs.length + 1 ≤ c
    · have hsa : w.shape? gx = some (3, 1) := by unfold World.shape?; rw [hx]; rfl
      have hsb : w.shape? g = some (3, c) := by unfold World.shape?; rw [hg]; simp [hsz]
      refine (Any2.slices_Insert_int_shift Try.laysIns g 0 xs.length c i gx 0 1 1 (xs.map (Value.int .i64)) [.int .i64 x] w hi (by omega) hroom (by unfold maxLen at hc; omega) hne (by simp) rfl hcs (fun j hj => ?_) (fun j hj => blk_frozen hg _) hvs (fun v hv => one_ints hv) h1v 3 3 1 c hsa hsb (by omega) (blk_frozen hx _) (blk_frozen hx _)).mono ?_
      · rw [blk_cell hg, Array.getElem?_eq_getElem (by omega)]
        rfl
      · rintro e w' ⟨rfl, rfl⟩
        refine ⟨_, rfl, ?_, grown_trans (grown_drew w _) (grown_trans (setCells_grown _ g _ _) (setCells_grown _ g _ _)), .inl rfl⟩
        obtain ⟨cur1, hc1, hc2, hc3⟩ := setCells_row ((xs.map (Value.int .i64)).drop i) (0 + (i + 1)) w.drew cur hg (by rw [hdl]; omega)
        obtain ⟨cur2, hd1, hd2, hd3⟩ := setCells_row [Value.int .i64 x] (0 + i) _ cur1 hc1 (by simp; omega)
        have := R_fresh (ys := insV xs i x) hd1 hb (by rw [hil]; exact hroom) hc (by omega) (by
          rw [hil, hmap, hd3, hc3, Nat.zero_add, Nat.zero_add]
          have := shift_list cur.toList (xs.map (Value.int .i64)) (Value.int .i64 x) i (by simpa using hi) (by simp; omega) (by rw [List.length_map]; exact htk)
          rwa [List.length_map] at this)
        rw [hil] at this
        exact this
    · refine (Any2.slices_Insert_int_grow Try.laysIns g 0 xs.length c i gx 0 1 1 (xs.map (Value.int .i64)) [.int .i64 x] w hi (by omega) hn (by omega) (by omega) (by simp) rfl hcs hvs (fun v hv => one_ints hv) h1v).mono ?_
      rintro e w' ⟨rfl, rfl⟩
      have hgc := grownCap_ge w (xs.length + 1) c 3
      have hz : ∀ k, (Builtin.zeroCells (Value.int .i64 0).cells k).size = k := fun k => by rw [size_zeroCells]; simp [Value.cells]
      refine ⟨_, rfl, ?_, grown_of_below (below_setCells (Nat.le_refl _) _ _ (below_drew1 (below_setCells (Nat.le_refl _) _ _ (below_drew1 (below_alloc (Below.refl _ w) _))))) _, .inr ⟨w.heap.size, rfl, Nat.le_refl _⟩⟩
      · have h0 := blk_drew (blk_new w (.cells (((xs.map (Value.int .i64)).take i).toArray ++ Builtin.zeroCells (Value.int .i64 0).cells (xs.length + 1 - i) ++ Builtin.zeroCells (Value.int .i64 0).cells (grownCap w (xs.length + 1) c 3 - (xs.length + 1))) 3 (0, 0)))
        obtain ⟨cur1, hc1, hc2, hc3⟩ := setCells_row [Value.int .i64 x] i _ _ h0 (by simp [hz]; omega)
        obtain ⟨cur2, hd1, hd2, hd3⟩ := setCells_row ((xs.map (Value.int .i64)).drop i) (i + 1) _ cur1 (blk_drew hc1) (by rw [hdl, hc2]; simp [hz]; omega)
        have := R_fresh (ys := insV xs i x) hd1 hbase (by rw [hil]; exact hgc) (grownCap_le_maxLen w _ _ _ (by unfold maxLen; omega)) (by rw [hd2, hc2]; simp [hz]; omega) (by
          rw [hil, hmap, hd3, hc3]
          have := put_list (((xs.map (Value.int .i64)).take i).toArray ++ Builtin.zeroCells (Value.int .i64 0).cells (xs.length + 1 - i) ++ Builtin.zeroCells (Value.int .i64 0).cells (grownCap w (xs.length + 1) c 3 - (xs.length + 1))).toList (xs.map (Value.int .i64)) (Value.int .i64 x) i (by simpa using hi) (by simp [hz]; omega) (by
            rw [Array.toList_append, Array.toList_append, List.append_assoc, List.take_append_of_le_length (by simp; omega), List.take_of_length_le (by simp; omega)])
          rwa [List.length_map] at this)
        rw [hil] at this
        exact this
end Go.Proofs.Ytobadajeekdakaa.Print
