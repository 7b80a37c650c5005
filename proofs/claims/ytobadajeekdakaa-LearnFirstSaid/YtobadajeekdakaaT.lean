/- Ranging over a map from ints to bools; learn.told: its contract. -/
import Derived.Test.YtobadajeekdakaaL
namespace Go.Proofs.Ytobadajeekdakaa.Print
open Go.RowKit Go.Proofs.YtobadajeekdakaaW.PrintWords Go.Proofs.YtobadajeekdakaaW.PrintLast Go.Proofs.YtobadajeekdakaaW.PrintMore
open Go.Maps (Keyed int_keyed keyOf_int_mk)
set_option linter.unusedVariables false
set_option linter.unusedSimpArgs false

/-- A range over the map in block b, under way: 'left': what is still to come. -/
def MapRange (w : World) (b r n : Nat) (f : Int → Option Bool) (left : Int → Bool) (cnt : Nat) : Prop :=
  ∃ (D : DataW Unit) (lf : Lit → Bool), w.ranges Try.prog 3 (plainElem Try.prog 4) b r n D lf cnt ∧ (∀ x, I64 x → Maps.has D (.int .i64 x) = (f x).isSome ∧ ∀ a, f x = some a → ∀ z, D.atKey (.int .i64 x) z = .lit (.bool a)) ∧ ∀ x, I64 x → lf (.int .i64 x) = left x
section
variable {w w1 : World} {b r n cnt : Nat} {f : Int → Option Bool} {left : Int → Bool}
theorem MapRange.map (h : MapRange w b r n f left cnt) : MapOf boolE w b n f := by
  obtain ⟨D, lf, h1, h2, _⟩ := h
  exact ⟨D, h1.owns, fun x hx => ⟨(h2 x hx).1, fun a ha => ⟨trivial, (h2 x hx).2 a ha⟩⟩⟩
theorem MapRange.kept (h : MapRange w b r n f left cnt) {row : Option Nat} (hg : w.grownBy w1 row) (h1 : some b ≠ row) (h2 : some r ≠ row) : MapRange w1 b r n f left cnt := by
  obtain ⟨D, lf, q, p⟩ := h
  exact ⟨D, lf, q.kept hg h1 h2, p⟩
theorem MapRange.lt (h : MapRange w b r n f left cnt) : r < w.heap.size := by
  obtain ⟨D, lf, q, p⟩ := h
  exact q.lt
theorem MapRange.iter (h : MapRange w b r n f left cnt) : ∃ a s k c, w.heap[r]? = some (.mapIter a s k c) := by
  obtain ⟨D, lf, ⟨es, clock, since, seen, c0, _, _, _, _, hr, _⟩, p⟩ := h
  exact ⟨_, _, _, _, hr⟩
theorem MapRange.below (h : MapRange w b r n f left cnt) (hb : Below w.heap.size w w1) : MapRange w1 b r n f left cnt :=
  h.kept (grown_of_below hb none) (by simp) (by simp)
theorem sameKey_int (x y : Int) : (Lit.int .i64 y).sameKey (.int .i64 x) = decide (y = x) := by
  by_cases h : y = x
  · subst h; simp [Lit.sameKey]
  · rw [Maps.sameKey_ne (lit_ne h)]; simp [h]
end
theorem bool_inj {y : DataW Unit × List MemPlace} {c c2 : Bool} (hy : y = (.lit (.bool c), [])) (h3 : y.1 = .lit (.bool c2)) : c2 = c := by
  subst hy
  injection h3 with h3
  injection h3 with h3
  exact h3.symm
section
variable {ops : Array Oper} {rest : List Oper} {o : Oper} {a : Act} {Q : Exit → Act → World → Prop} {W : World} {b r n cnt : Nat} {f : Int → Option Bool} {left : Int → Bool}
theorem map_range_event (hgd : o.guard = none) (m : Operand) {t : TypeId} (ho : o.op = .range t m) (ht : Try.prog.underlying t = some (.map 3 4)) (hm : a.eval m = .map (some b)) (hM : MapOf boolE W b n f)
    (h : ∀ r, r = W.heap.size → ∀ w1 cnt, cnt ≤ n → MapRange w1 b r n f (fun x => (f x).isSome) cnt → Below W.heap.size W w1 → wpList Try.prog ops Q rest (a.put o.dst (.pointer (some ⟨r, 0, none⟩))) w1) : wpList Try.prog ops Q (o :: rest) a W := by
  obtain ⟨D, hown, hD⟩ := hM
  refine wpList_range_own W hgd m t ho 3 4 keyLaw ht (plainElem Try.prog 4) b n D hm hown ?_
  intro w' hr hg hs
  have hb : Below W.heap.size W w' := ⟨hg.os, hg.tape, hg.output, by omega, fun i hi => hg.block i hi (by simp)⟩
  exact h _ rfl w' _ hown.size_le ⟨D, _, hr, fun x hx => ⟨(hD x hx).1, fun a ha => ((hD x hx).2 a ha).2⟩, fun x hx => (hD x hx).1⟩ hb
theorem map_next_event (hgd : o.guard = none) (it : Operand) (ho : o.op = .next it false) (hit : a.eval it = .pointer (some ⟨r, 0, none⟩)) (hM : MapRange W b r n f left cnt)
    (hDone : (∀ x, I64 x → left x = false) → wpList Try.prog ops Q rest (a.put o.dst (.tuple #[.bool false])) W)
    (hMore : ∀ (x : Int) (c : Bool) (w1 : World) (cnt1 : Nat), I64 x → left x = true → f x = some c → cnt1 < cnt → MapRange w1 b r n f (fun y => left y && decide (y ≠ x)) cnt1 → W.grownBy w1 (some r) → w1.heap.size = W.heap.size → (Instr.entry (.pointer (some ⟨r, 0, none⟩))).run Try.prog w1 = .ok (.tuple #[.int .i64 x, .bool c]) w1 → wpList Try.prog ops Q rest (a.put o.dst (.tuple #[.bool true, .int .i64 x, .bool c])) w1) : wpList Try.prog ops Q (o :: rest) a W := by
  obtain ⟨D, lf, hr, hD, hl⟩ := hM
  refine wpList_next_ranges W hgd it ho 3 keyLaw (plainElem Try.prog 4) (Value.int .i64) Value.bool (fun key kl hkey => ?_) (fun v y hv => ?_) b r n D lf cnt hit hr (fun _ h0 => hDone fun x hx => by rw [← hl x hx]; exact h0 _) ?_
  · obtain ⟨x, rfl, _⟩ := Maps.keyOf_int_inv Try.underlying3 hkey
    exact ⟨x, rfl⟩
  · obtain ⟨c, rfl, _⟩ := plainElem_bool_inv Try.underlying4 hv
    exact ⟨c, rfl⟩
  · intro x c kl y w' cnt' hkey hlk hv hat hrg hlt hgr hsz hen
    obtain ⟨x', ex, rfl, hwx⟩ := Maps.keyOf_int_inv Try.underlying3 hkey
    cases ex
    obtain ⟨c', ec, hy⟩ := plainElem_bool_inv Try.underlying4 hv
    cases ec
    have hx : I64 x := hwx
    have hf : f x = some c := by
      have hh : Maps.has D (.int .i64 x) = true := Maps.has_true_of_atKey hat
      rw [(hD x hx).1] at hh
      obtain ⟨c2, hc2⟩ := Option.isSome_iff_exists.mp hh
      have h3 := (hat (.lit (.bool false))).symm.trans ((hD x hx).2 c2 hc2 (.lit (.bool false)))
      rw [hc2, bool_inj hy h3]
    refine hMore x c w' cnt' hx (by rw [← hl x hx]; exact hlk) hf hlt ⟨D, _, hrg, hD, fun y hy => ?_⟩ hgr hsz hen
    show (lf (.int .i64 y) && !(Lit.int .i64 y).sameKey (.int .i64 x)) = _
    rw [hl y hy, sameKey_int]
    simp
theorem map_drop_range_event (hgd : o.guard = none) (m x : Operand) {t : TypeId} (ho : o.op = .call { callee := .builtin .delete, args := #[m, x], argTypes := #[t, 3] }) (ht : Try.prog.underlying t = some (.map 3 4)) (hm : a.eval m = .map (some b)) (hM : MapRange W b r n f left cnt) {key : Int} (hx : a.eval x = .int .i64 key) (hk : I64 key)
    (h : ∀ w1 cnt1, cnt1 ≤ cnt → MapRange w1 b r n (upd f key none) (fun y => left y && decide (y ≠ key)) cnt1 → W.grownBy w1 (some b) → wpList Try.prog ops Q rest (a.put o.dst (.tuple #[])) w1) : wpList Try.prog ops Q (o :: rest) a W := by
  obtain ⟨D, lf, hr, hD, hl⟩ := hM
  refine wpList_delete_ranges W hgd m x t 3 ho 4 keyLaw ht (plainElem Try.prog 4) b r n D lf cnt hm hr (.int .i64 key) (.int .i64 key) hx (keyAt hk) ?_
  intro w1 cnt1 hr1 hle ht1
  refine h w1 cnt1 hle ⟨_, _, hr1, fun y hy => ?_, fun y hy => ?_⟩ ht1.grown
  · unfold upd
    by_cases hyx : y = key
    · subst hyx
      rw [if_pos rfl, Maps.has_del_same]
      exact ⟨rfl, fun a' ha' => by simp at ha'⟩
    · rw [if_neg hyx, Maps.has_del_other (lit_ne hyx)]
      refine ⟨(hD y hy).1, fun a' ha' z => ?_⟩
      rw [Maps.atKey_del_other (lit_ne hyx)]
      exact (hD y hy).2 a' ha' z
  · show (lf (.int .i64 y) && !(Lit.int .i64 y).sameKey (.int .i64 key)) = _
    rw [hl y hy, sameKey_int]
    simp
end

theorem R_notiter {α : Type} {d : Kd α} {e base : Nat} {ok : Nat → Prop} {W : World} {v : Value} {xs : List α} {bm r n cnt : Nat} {f : Int → Option Bool} {left : Int → Bool} (h : d.R e W base ok v xs) (hM : MapRange W bm r n f left cnt) : d.R e W base (fun k => ok k ∧ k ≠ r) v xs :=
  Kd.R_mono (Kd.R_bound h) (fun k hk => ⟨hk.1, by
    obtain ⟨_, _, _, q, hq, cells, hc⟩ := hk
    rintro rfl
    obtain ⟨_, _, _, _, hh⟩ := hM.iter
    rw [hc] at hh
    cases hh⟩)
theorem R_neiter {α : Type} {d : Kd α} {e base : Nat} {ok : Nat → Prop} {W : World} {v : Value} {xs : List α} {bm r n cnt : Nat} {f : Int → Option Bool} {left : Int → Bool} (h : d.R e W base ok v xs) (hM : MapRange W bm r n f left cnt) : v.ownBlock ≠ some r :=
  fun e => ((R_notiter h hM).1 r e).2 rfl
theorem R_nemap {α β : Type} {d : Kd α} {e base : Nat} {ok : Nat → Prop} {W : World} {v : Value} {xs : List α} {te : TypeId} {E : ElemK β te} {bm n : Nat} {f : Int → Option β} (h : d.R e W base ok v xs) (hM : MapOf E W bm n f) : v.ownBlock ≠ some bm :=
  fun e => ((R_notmap h hM).1 bm e).2 rfl
/-- What told has gathered: the keys that have come. -/
structure Gath (f : Int → Option Bool) (left : Int → Bool) (l : List Int) : Prop where
  nd : l.Nodup
  mem : ∀ x, I64 x → (x ∈ l ↔ (f x).isSome = true ∧ left x = false)
  wf : ∀ x, x ∈ l → I64 x
theorem Gath.start (f : Int → Option Bool) : Gath f (fun x => (f x).isSome) [] := ⟨List.nodup_nil, fun x _ => ⟨fun h => by simp at h, fun h => by rw [h.1] at h; exact absurd h.2 (by simp)⟩, fun x hx => by simp at hx⟩
theorem Gath.step {f : Int → Option Bool} {left : Int → Bool} {l : List Int} (h : Gath f left l) {x : Int} (hx : I64 x) (hl : left x = true) {c : Bool} (hf : f x = some c) : Gath f (fun y => left y && decide (y ≠ x)) (l ++ [x]) := by
  have hn : x ∉ l := fun hm => by have := ((h.mem x hx).1 hm).2; rw [hl] at this; cases this
  refine ⟨List.nodup_append.mpr ⟨h.nd, by simp, fun a ha b hb => ?_⟩, fun y hy => ?_, fun y hy => ?_⟩
  · rw [List.mem_singleton.1 hb]; rintro rfl; exact hn ha
  · rw [List.mem_append, List.mem_singleton, h.mem y hy]
    by_cases e : y = x
    · subst e; simp [hf]
    · simp [e]
  · rcases List.mem_append.1 hy with hy | hy
    · exact h.wf y hy
    · rw [List.mem_singleton.1 hy]; exact hx
/-- What told hands back. -/
structure Told (f : Int → Option Bool) (ys : List Int) : Prop where
  nd : ys.Nodup
  mem : ∀ x, I64 x → (x ∈ ys ↔ (f x).isSome = true)
  wf : ∀ x, x ∈ ys → I64 x
  asc : ys.Pairwise (fun a b => varOf a ≤ varOf b)
theorem Told.of {f : Int → Option Bool} {left : Int → Bool} {l ys : List Int} (h : Gath f left l) (hd : ∀ x, I64 x → left x = false) (hp : ys.Perm l) (hs : ys.Pairwise (fun a b => varOf a ≤ varOf b)) : Told f ys :=
  ⟨hp.nodup_iff.mpr h.nd, fun x hx => by rw [hp.mem_iff, h.mem x hx, hd x hx]; simp, fun x hx => h.wf x (hp.mem_iff.1 hx), hs⟩

/-- The sort at a row of one's own (its proof: the text S). -/
def SortLaw : Prop := ∀ (base : Nat) (v : Value) (xs : List Int) (w : World), Kd.R (Kd.int .i64) 3 w base (fun _ => True) v xs → xs.length < 4611686018427387904 →
  Calls Try.prog 109 #[v, .func (.func 154) #[] #[]] w fun e w' => e = .returned (.tuple #[]) ∧ ∃ ys : List Int, ys.Perm xs ∧ ys.Pairwise (fun a b => varOf a ≤ varOf b) ∧ Kd.R (Kd.int .i64) 3 w' base (fun _ => True) v ys ∧ w.grownBy w' v.ownBlock

def ToldPost (w : World) (f : Int → Option Bool) (e : Ending) (w' : World) : Prop :=
  ∃ (v : Value) (ys : List Int), e = .returned v ∧ Told f ys ∧ Kd.R (Kd.int .i64) 3 w' w.heap.size (fun _ => True) v ys ∧ Below w.heap.size w w'

set_option maxHeartbeats 2000000 in
set_option maxRecDepth 100000 in
theorem told_any (hsort : SortLaw) (bm n : Nat) (f : Int → Option Bool) (w : World) (hM : MapOf boolE w bm n f) (hn : n ≤ 1000000) :
    Calls Try.prog 87 #[.map (some bm)] w (ToldPost w f) := by
  have HM := Aside0.mk hM
  have HB := Aside0.mk (Below.refl w.heap.size w)
  have HN := Aside0.mk hn
  clear hM hn
  go_enter Try.func87, Try.ntmps87
  go_wp2_with ((with_reducible refine gate_dst (N := 6) rfl ?_); refine map_range_event rfl (.tmp 5) (t := 93) rfl Try.underlying93 rfl HM.out ?_; intro r hr w1 cnt hcn hR hb1; have HR := Aside0.mk hR; have HB1 := Aside0.mk hb1; have HRL := Aside0.mk (show w.heap.size ≤ r by rw [hr]; exact Nat.le_refl _); have HCN := Aside0.mk hcn; clear hr hR hb1 hcn)
  go_frame
  go_loopg [3] cnt (fun gg v3 wr => ∃ (l : List Int) (left : Int → Bool) (c : Nat), Aside0 (c ≤ gg) ∧ Aside0 (l.length + c ≤ n) ∧ Aside0 (Gath f left l) ∧ Aside0 (MapRange wr bm r n f left c) ∧ Aside0 (Kd.R (Kd.int .i64) 3 wr w.heap.size (fun _ => True) v3 l) ∧ Aside0 (Below w.heap.size w wr))
  case atStart => exact ⟨[], fun x => (f x).isSome, cnt, ⟨Nat.le_refl _⟩, ⟨by have := HCN.out; simpa using this⟩, ⟨Gath.start f⟩, HR, ⟨Kd.R_nil _ _ _ _ _⟩, HB1⟩
  case round =>
    obtain ⟨l, left, c, HC, HL, HG, HR2, HV, HB2⟩ := hrel
    obtain ⟨Av, cv, ev⟩ := Kd.R_slice HV.out
    subst ev
    go_wp2_with (first
      | ((with_reducible refine gate_dst (N := 7) rfl ?_); refine map_next_event rfl (.tmp 6) rfl rfl HR2.out ?_ ?_; all_goals first | (intro x cc w3 cnt3 hx hlx hfx hlt hR3 hg3 hs3 hent; have HX := Aside0.mk hx; have HLX := Aside0.mk hlx; have HFX := Aside0.mk hfx; have HLT := Aside0.mk hlt; have HR3 := Aside0.mk hR3; have HB3 := Aside0.mk (pw_below_grown HB2.out _ HB2.out.size hg3 (fun k e => by cases e; exact HRL.out)); have HV3 := Aside0.mk (Kd.R_mono (Kd.R_grown (R_notiter HV.out HR2.out) hg3 (fun k hk e => hk.2 (Option.some.inj e))) (fun _ hk => hk.1)); clear hx hlx hfx hlt hR3 hg3 hs3) | (intro hd; have HD := Aside0.mk hd; clear hd))
      | ((with_reducible refine gate_builtin (b := .append) (xs := #[.tmp 11, .tmp 13]) rfl ?_); at_builtin; refine Kd.R_append (Kd.int .i64) (w0 := w) w.heap.size rfl (.tmp 11) (.tmp 13) 28 3 (.int .i64 0) 8 rfl Try.underlying28 info3 rfl (by decide) (by omega) _ l x [.int .i64 x] (fun _ => True) (fun _ => False) rfl rfl rfl (fun _ hk => hk.elim) (fun _ _ => trivial) HV3.out HB3.out HB3.out.size (by have := HL.out; have := HN.out; have := HLT.out; omega) ?_; intro v4 w4 ho hb hg hat; have HV4 := Aside0.mk ho; have HB4 := Aside0.mk hb; have HR4 := Aside0.mk (HR3.out.kept hg (fun e => R_nemap HV3.out HR3.out.map e.symm) (fun e => R_neiter HV3.out HR3.out e.symm)); clear ho hb hg hat))
    · have HS := hsort w.heap.size (.slice Av l.length cv) l wr HV.out (by have := HL.out; have := HN.out; omega)
      refine HS.mono ?_
      rintro e w5 ⟨rfl, ys, hp, hs, hR5, hg5⟩
      have HP := Aside0.mk hp
      have HSO := Aside0.mk hs
      have HR5 := Aside0.mk hR5
      have HB5 := Aside0.mk (pw_below_grown HB2.out _ HB2.out.size hg5 (fun k e => by obtain ⟨inner, ho⟩ := Kd.R_own HV.out; exact own_base ho k e))
      have HLEN := Aside0.mk (show ys.length = l.length from hp.length_eq)
      clear hp hs hR5 hg5
      go_wp2
      go_ret
      exact ⟨_, ys, rfl, Told.of HG.out HD.out HP.out HSO.out, HR5.out, HB5.out⟩
    · go_roundg cnt3
      case measure => have := HLT.out; have := HC.out; omega
      case rel => exact ⟨l ++ [x], _, cnt3, ⟨Nat.le_refl _⟩, ⟨by have := HL.out; have := HLT.out; simp; omega⟩, ⟨HG.out.step HX.out HLX.out HFX.out⟩, HR4, HV4, HB4⟩
end Go.Proofs.Ytobadajeekdakaa.Print
