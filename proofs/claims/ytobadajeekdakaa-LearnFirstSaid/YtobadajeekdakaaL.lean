/- prop.Levels as a list function; learn.looked: its contract. -/
import Derived.Test.YtobadajeekdakaaD
import Derived.Test.YtobadajeekdakaaF33
namespace Go.Proofs.Ytobadajeekdakaa.Print
open Go.RowKit Go.Proofs.YtobadajeekdakaaW.PrintWords Go.Proofs.YtobadajeekdakaaW.PrintLast Go.Proofs.YtobadajeekdakaaW.PrintMore
set_option linter.unusedVariables false
set_option linter.unusedSimpArgs false

def levelsFrom : Int → List S41 → List Int
  | _, [] => []
  | n, s :: t => (if s.f1 = -1 then n + 1 else n) :: levelsFrom (if s.f1 = -1 then n + 1 else n) t
theorem levelsFrom_length (n : Int) (t : List S41) : (levelsFrom n t).length = t.length := by
  induction t generalizing n with
  | nil => rfl
  | cons s t ih => simp [levelsFrom, ih]
theorem wrap_small {x : Int} (h1 : -9223372036854775808 ≤ x) (h2 : x ≤ 9223372036854775807) : wrap64 x = x := by
  unfold wrap64; omega
theorem rd_T41_nat (t : List S41) (k : Nat) (h : k < t.length) : rd_T41 t (k : Int) = t[k] := by simp [rd_T41, List.getElem?_eq_getElem h]
theorem levels_run (t : List S41) (hl : t.length < 17592186044416) (d : Nat) : ∀ (k : Nat) (acc : List Int) (n : Int) (i : Nat), t.length - i = d → i ≤ t.length → d < k → acc.length = i → 0 ≤ n → n ≤ i →
    prop_Levels.l0 k acc n t (t.length : Int) (i : Int) = some (acc ++ levelsFrom n (t.drop i)) := by
  induction d with
  | zero =>
    intro k acc n i hd hi hk ha h0 h1
    obtain ⟨k, rfl⟩ : ∃ m, k = m + 1 := ⟨k - 1, by omega⟩
    obtain rfl : i = t.length := by omega
    simp only [prop_Levels.l0]
    rw [if_neg (by omega), List.drop_length]
    simp [levelsFrom]
  | succ d ih =>
    intro k acc n i hd hi hk ha h0 h1
    obtain ⟨k, rfl⟩ : ∃ m, k = m + 1 := ⟨k - 1, by omega⟩
    have hlt : i < t.length := by omega
    simp only [prop_Levels.l0]
    rw [if_pos (by omega), if_pos (by omega), if_pos (by omega), rd_T41_nat t i hlt, List.drop_eq_getElem_cons hlt]
    have e2 : wrap64 ((i : Int) + 1) = ((i + 1 : Nat) : Int) := by rw [wrap_small (by omega) (by omega)]; omega
    have e1 : wrap64 (n + 1) = n + 1 := wrap_small (by omega) (by omega)
    by_cases hw : t[i].f1 = -1
    · rw [if_pos hw, if_pos (by omega), e1, e2, ih k _ (n + 1) (i + 1) (by omega) (by omega) (by omega) (by simp [ha]) (by omega) (by omega)]
      simp [levelsFrom, hw]
    · rw [if_neg hw, if_pos (by omega), e2, ih k _ n (i + 1) (by omega) (by omega) (by omega) (by simp [ha]) (by omega) (by omega)]
      simp [levelsFrom, hw]
theorem levels_pure (t : List S41) (hl : t.length < 17592186044416) : prop_Levels.f (t.length + 1) t = some (levelsFrom 0 t) := by
  unfold prop_Levels.f
  have := levels_run t hl t.length (t.length + 1) [] 0 0 (by omega) (by omega) (by omega) rfl (by omega) (by omega)
  simpa using this
theorem prop_Levels_any (A0 : Option Addr) (c0 : Nat) (l0 : List S41) (w : World) (hr0 : Kd.C k41 w A0 l0.length l0) (hc0 : l0.length ≤ c0) (hl : l0.length < 17592186044416) :
    Calls Try.prog 33 #[.slice A0 l0.length c0] w fun e w' => ∃ (Av : Option Addr) (cv : Nat), e = .returned (.slice Av l0.length cv) ∧ Kd.R (Kd.int .i64) 3 w' w.heap.size (fun _ => True) (.slice Av l0.length cv) (levelsFrom 0 l0) ∧ Below w.heap.size w w' := by
  refine (prop_Levels.calls _ A0 c0 l0 _ w hr0 hc0 (levels_pure l0 hl)).mono ?_
  rintro e w' ⟨v, rfl, hR, hb⟩
  obtain ⟨Av, cv, rfl⟩ := Kd.R_slice hR
  rw [levelsFrom_length] at hR ⊢
  exact ⟨Av, cv, rfl, hR, hb⟩

/-- What a map from literals to steps holds when the steps before k are in it. -/
def atTo (t : List S41) : Nat → Int → Option Int
  | 0 => fun _ => none
  | k + 1 => upd (atTo t k) (rd_T41 t k).f0 (some (k : Int))

theorem far_cell {w : World} {g g' i j : Nat} {u : Value} (h : g ≠ g') : (w.setCell ⟨g', j, none⟩ u).cell? ⟨g, i, none⟩ = w.cell? ⟨g, i, none⟩ := by
  simp [World.cell?, Below.heap_setCell w ⟨g', j, none⟩ u g h]
abbrev Z90 : Obj := .cells #[.int .i64 0, .slice none 0 0, .slice none 0 0, .slice none 0 0, .map none] 90 (0, 0)
theorem zero90 {W : World} {g : Nat} (h : W.heap[g]? = some Z90) : W.cell? ⟨g, 0, none⟩ = some (.int .i64 0) ∧ W.cell? ⟨g, 1, none⟩ = some (.slice none 0 0) ∧ W.cell? ⟨g, 2, none⟩ = some (.slice none 0 0) ∧ W.cell? ⟨g, 3, none⟩ = some (.slice none 0 0) ∧ W.cell? ⟨g, 4, none⟩ = some (.map none) ∧ ∀ o, W.frozen? ⟨g, o, none⟩ = false :=
  ⟨cell_in h 0 rfl, cell_in h 1 rfl, cell_in h 2 rfl, cell_in h 3 rfl, cell_in h 4 rfl, fun o => blk_frozen h o⟩
/-- The world behind looked's first statement. -/
def LkMid (w : World) (nn : Int) (AL : Option Addr) (nL cL : Nat) (At : Option Addr) (ct : Nat) (t : List S41) (g4 gx bm : Nat) (Av : Option Addr) (cv : Nat) (wc : World) : Prop :=
  wc.heap[gx]? = some (.cells #[.int .i64 nn, .slice AL nL cL, .slice At t.length ct, .slice Av t.length cv, .map (some bm)] 90 (0, 0)) ∧ MapOf intE wc bm 0 (fun _ => none) ∧ Kd.R (Kd.int .i64) 3 wc w.heap.size (fun _ => True) (.slice Av t.length cv) (levelsFrom 0 t) ∧
  wc.heap[g4]? = some (.cells #[.int .i64 0, .slice none 0 0, .slice none 0 0, .slice none 0 0, .map none] 90 (0, 0)) ∧ w.heap.size ≤ bm ∧ w.heap.size ≤ gx ∧ w.heap.size ≤ g4 ∧ gx ≠ g4 ∧ Below w.heap.size w wc
def LookPost (w : World) (nn : Int) (AL : Option Addr) (nL cL : Nat) (At : Option Addr) (ct : Nat) (t : List S41) (e : Ending) (w' : World) : Prop :=
  ∃ (Av : Option Addr) (cv bm : Nat), e = .returned (.agg #[.int .i64 nn, .slice AL nL cL, .slice At t.length ct, .slice Av t.length cv, .map (some bm)]) ∧ Kd.R (Kd.int .i64) 3 w' w.heap.size (fun _ => True) (.slice Av t.length cv) (levelsFrom 0 t) ∧ MapOf intE w' bm t.length (atTo t t.length) ∧ w.heap.size ≤ bm ∧ Below w.heap.size w w'

/-- A map's block is none of a row's. -/
theorem R_notmap {α β : Type} {d : Kd α} {e base : Nat} {ok : Nat → Prop} {W : World} {v : Value} {xs : List α} {te : TypeId} {E : ElemK β te} {bm n : Nat} {f : Int → Option β} (h : d.R e W base ok v xs) (hM : MapOf E W bm n f) : d.R e W base (fun k => ok k ∧ k ≠ bm) v xs :=
  Kd.R_mono (Kd.R_bound h) (fun k hk => ⟨hk.1, by
    obtain ⟨_, _, _, q, hq, cells, hc⟩ := hk
    rintro rfl
    obtain ⟨D, ⟨es, clock, hh, _⟩, _⟩ := hM
    rw [hc] at hh
    cases hh⟩)
section
variable {w w2 : World} {nn : Int} {AL : Option Addr} {nL cL : Nat} {At : Option Addr} {ct : Nat} {t : List S41} {g4 : Nat} {Av : Option Addr} {cv : Nat}
/-- What holds behind the call of Levels, whatever was made ahead of it. -/
structure LkIn (w : World) (t : List S41) (g4 : Nat) (Av : Option Addr) (cv : Nat) (w2 : World) : Prop where
  r : Kd.R (Kd.int .i64) 3 w2 w.heap.size (fun _ => True) (.slice Av t.length cv) (levelsFrom 0 t)
  z : w2.heap[g4]? = some Z90
  g : w.heap.size ≤ g4
  b : Below w.heap.size w w2
theorem LkIn.alloc (h : LkIn w t g4 Av cv w2) (o : Obj) : LkIn w t g4 Av cv (w2.alloc o) := ⟨Kd.R_alloc h.r o, blk_alloc h.z o, h.g, below_alloc h.b o⟩
theorem lk_alloc {bm gx : Nat} (h : LkIn w t g4 Av cv w2) (hM : MapOf intE w2 bm 0 (fun _ => none)) (hbm : w.heap.size ≤ bm) (hgx : gx = w2.heap.size) :
    LkMid w nn AL nL cL At ct t g4 gx bm Av cv (w2.alloc (.cells #[.int .i64 nn, .slice AL nL cL, .slice At t.length ct, .slice Av t.length cv, .map (some bm)] 90 (0, 0))) := by
  subst hgx
  exact ⟨blk_new _ _, hM.alloc _, Kd.R_alloc h.r _, blk_alloc h.z _, hbm, h.b.size, h.g, Nat.ne_of_gt (blk_lt h.z), below_alloc h.b _⟩
theorem lk_allocB (h : LkIn w t g4 Av cv w2) :
    LkMid w nn AL nL cL At ct t g4 w2.heap.size (w2.heap.size + 1) Av cv ((w2.alloc (.cells #[.int .i64 nn, .slice AL nL cL, .slice At t.length ct, .slice Av t.length cv, .map (some (w2.heap.size + 1))] 90 (0, 0))).alloc (.map #[] 0)) := by
  have hM := MapOf.made intE (w2.alloc (.cells #[.int .i64 nn, .slice AL nL cL, .slice At t.length ct, .slice Av t.length cv, .map (some (w2.heap.size + 1))] 90 (0, 0)))
  rw [World.size_alloc] at hM
  exact ⟨blk_alloc (blk_new _ _) _, hM, Kd.R_alloc (Kd.R_alloc h.r _) _, blk_alloc (blk_alloc h.z _) _, Nat.le_succ_of_le h.b.size, h.b.size, h.g, Nat.ne_of_gt (blk_lt h.z), below_alloc (below_alloc h.b _) _⟩
theorem put5 {W : World} {g : Nat} (a b c d e : Value) (h : W.heap[g]? = some Z90) :
    (((((W.setCell ⟨g, 0, none⟩ a).setCell ⟨g, 1, none⟩ b).setCell ⟨g, 2, none⟩ c).setCell ⟨g, 3, none⟩ d).setCell ⟨g, 4, none⟩ e).heap[g]? = some (.cells #[a, b, c, d, e] 90 (0, 0)) :=
  blk_put (cs := #[a, b, c, d, .map none]) (blk_put (cs := #[a, b, c, .slice none 0 0, .map none]) (blk_put (cs := #[a, b, .slice none 0 0, .slice none 0 0, .map none]) (blk_put (cs := #[a, .slice none 0 0, .slice none 0 0, .slice none 0 0, .map none]) (blk_put h 0 a rfl) 1 b rfl) 2 c rfl) 3 d rfl) 4 e rfl
theorem lk_put {gx bm : Nat} (h : LkIn w t g4 Av cv w2) (hz : w2.heap[gx]? = some Z90) (hgx : w.heap.size ≤ gx) (hne : gx ≠ g4) (hM : MapOf intE w2 bm 0 (fun _ => none)) (hbm : w.heap.size ≤ bm) :
    LkMid w nn AL nL cL At ct t g4 gx bm Av cv (((((w2.setCell ⟨gx, 0, none⟩ (.int .i64 nn)).setCell ⟨gx, 1, none⟩ (.slice AL nL cL)).setCell ⟨gx, 2, none⟩ (.slice At t.length ct)).setCell ⟨gx, 3, none⟩ (.slice Av t.length cv)).setCell ⟨gx, 4, none⟩ (.map (some bm))) := by
  have hb : bm ≠ gx := (blk_map hz hM).symm
  have hr := h.r
  have ht : ∀ q, q ∈ 3 :: (Kd.int IntKind.i64).E → q ≠ 90 := by
    intro q hq
    have : q = 3 := by simpa [Kd.int, Kd.scalar] using hq
    omega
  refine ⟨put5 _ _ _ _ _ hz, ?_, ?_, ?_, hbm, hgx, h.g, hne, ?_⟩
  · exact ((((hM.setCell hb _).setCell hb _).setCell hb _).setCell hb _).setCell hb _
  · exact Kd.R_mono (Kd.R_far (p := ⟨gx, 4, none⟩) (Kd.R_far (p := ⟨gx, 3, none⟩) (Kd.R_far (p := ⟨gx, 2, none⟩) (Kd.R_far (p := ⟨gx, 1, none⟩) (Kd.R_far (p := ⟨gx, 0, none⟩) (Kd.R_types hr hz ht) (fun _ hk => hk.2) _) (fun _ hk => hk.2) _) (fun _ hk => hk.2) _) (fun _ hk => hk.2) _) (fun _ hk => hk.2) _) (fun _ hk => hk.1)
  · exact blk_far (blk_far (blk_far (blk_far (blk_far h.z hne.symm _) hne.symm _) hne.symm _) hne.symm _) hne.symm _
  · exact below_set (below_set (below_set (below_set (below_set h.b hgx) hgx) hgx) hgx) hgx
end
set_option maxHeartbeats 1500000 in
set_option maxRecDepth 100000 in
theorem looked_any (nn : Int) (AL : Option Addr) (nL cL : Nat) (At : Option Addr) (ct : Nat) (t : List S41) (w : World) (hr : Kd.C k41 w At t.length t) (hc : t.length ≤ ct) (hl : t.length < 17592186044416) (hwf : ∀ k, k < t.length → I64 (rd_T41 t k).f0) :
    Calls Try.prog 82 #[.agg #[.int .i64 nn, .slice AL nL cL], .slice At t.length ct] w (LookPost w nn AL nL cL At ct t) := by
  have HR := Aside0.mk hr
  have HC := Aside0.mk hc
  have HL := Aside0.mk hl
  have HWF := Aside0.mk hwf
  have hm : t.length ≤ 9223372036854775807 := by omega
  have hu90 := Try.underlying90
  clear hr hc hl hwf
  go_enter Try.func82, Try.ntmps82
  go_upto_region 1 with (fail)
  have HX := Aside0.mk (blk_alloc (blk_new w (.cells #[.int .i64 nn, .slice AL nL cL] 24 (0, 0))) (.cells #[.int .i64 0, .slice none 0 0, .slice none 0 0, .slice none 0 0, .map none] 90 (0, 0)))
  have HG4 := Aside0.mk (blk_new (w.alloc (.cells #[.int .i64 nn, .slice AL nL cL] 24 (0, 0))) (.cells #[.int .i64 0, .slice none 0 0, .slice none 0 0, .slice none 0 0, .map none] 90 (0, 0)))
  have HB := Aside0.mk (below_alloc (below_alloc (Below.refl _ w) (.cells #[.int .i64 nn, .slice AL nL cL] 24 (0, 0))) (.cells #[.int .i64 0, .slice none 0 0, .slice none 0 0, .slice none 0 0, .map none] 90 (0, 0)))
  rw [World.size_alloc] at HG4
  generalize (w.alloc (.cells #[.int .i64 nn, .slice AL nL cL] 24 (0, 0))).alloc (.cells #[.int .i64 0, .slice none 0 0, .slice none 0 0, .slice none 0 0, .map none] 90 (0, 0)) = w1 at HX HG4 HB ⊢
  have c0 : w1.cell? ⟨w.heap.size, 0, none⟩ = some (.int .i64 nn) := cell_in HX.out 0 rfl
  have c1 : w1.cell? ⟨w.heap.size, 1, none⟩ = some (.slice AL nL cL) := cell_in HX.out 1 rfl
  have hmm := @run_makeMap Try.prog
  have hlt1 : w.heap.size < w1.heap.size := blk_lt HX.out
  have n1 : w.heap.size ≠ w1.heap.size := by omega
  have n2 : w.heap.size ≠ w1.heap.size + 1 := by omega
  have hlt4 : w.heap.size + 1 < w1.heap.size := blk_lt HG4.out
  have c2 : ∀ o, (w1.alloc o).cell? ⟨w.heap.size, 0, none⟩ = some (.int .i64 nn) := fun o => cell_in (blk_alloc HX.out o) 0 rfl
  have c3 : ∀ o, (w1.alloc o).cell? ⟨w.heap.size, 1, none⟩ = some (.slice AL nL cL) := fun o => cell_in (blk_alloc HX.out o) 1 rfl
  have c4 : ∀ o p, ((w1.alloc o).alloc p).cell? ⟨w.heap.size, 0, none⟩ = some (.int .i64 nn) := fun o p => cell_in (blk_alloc (blk_alloc HX.out o) p) 0 rfl
  have c5 : ∀ o p, ((w1.alloc o).alloc p).cell? ⟨w.heap.size, 1, none⟩ = some (.slice AL nL cL) := fun o p => cell_in (blk_alloc (blk_alloc HX.out o) p) 1 rfl
  go_cut [5] (fun v5 wc => ∃ (gx bm : Nat) (Av : Option Addr) (cv : Nat), v5 = .pointer (some ⟨gx, 0, none⟩) ∧ Aside0 (LkMid w nn AL nL cL At ct t (w.heap.size + 1) gx bm Av cv wc))
  case first =>
    go_region_held3 (fun w' => w'.cell? ⟨w.heap.size, 0, none⟩ = some (.int .i64 nn) ∧ w'.cell? ⟨w.heap.size, 1, none⟩ = some (.slice AL nL cL)) (first | go_keep | (refine ⟨?_, ?_⟩ <;> (repeat (rw [far_cell (by first | exact n1 | exact n2)])) <;> (first | assumption | exact e2 _ | exact e3 _))) (first | (go_at_call 33; refine (prop_Levels_any At ct t _ (Kd.C_below HR.out ?_) HC.out HL.out).mono ?_; exact (by repeat (first | (with_reducible first | exact HB.out | apply below_alloc | apply pw_below_drewN | apply below_drew1) | exact HB.out)); rintro e w2 ⟨Av, cv, rfl, hR, hb2⟩; have HX2 : Aside0 (w2.heap[w.heap.size]? = some (.cells #[.int .i64 nn, .slice AL nL cL] 24 (0, 0))) := ⟨blk_below (by repeat (first | (with_reducible first | exact HX.out | refine blk_drewN ?_ _ | refine blk_drew ?_ | refine blk_alloc ?_ _) | exact HX.out)) hb2⟩; have e0 : w2.cell? ⟨w.heap.size, 0, none⟩ = some (.int .i64 nn) := cell_in HX2.out 0 rfl; have e1 : w2.cell? ⟨w.heap.size, 1, none⟩ = some (.slice AL nL cL) := cell_in HX2.out 1 rfl; have e2 : ∀ o, (w2.alloc o).cell? ⟨w.heap.size, 0, none⟩ = some (.int .i64 nn) := fun o => cell_in (blk_alloc HX2.out o) 0 rfl; have e3 : ∀ o, (w2.alloc o).cell? ⟨w.heap.size, 1, none⟩ = some (.slice AL nL cL) := fun o => cell_in (blk_alloc HX2.out o) 1 rfl; have e4 : ∀ o p, ((w2.alloc o).alloc p).cell? ⟨w.heap.size, 0, none⟩ = some (.int .i64 nn) := fun o p => cell_in (blk_alloc (blk_alloc HX2.out o) p) 0 rfl; have e5 : ∀ o p, ((w2.alloc o).alloc p).cell? ⟨w.heap.size, 1, none⟩ = some (.slice AL nL cL) := fun o p => cell_in (blk_alloc (blk_alloc HX2.out o) p) 1 rfl; have HI2 : Aside0 (LkIn w t (w.heap.size + 1) Av cv w2) := ⟨⟨Kd.R_lower hR (below_size (by repeat (first | (with_reducible first | exact HB.out | apply below_alloc | apply pw_below_drewN | apply below_drew1) | exact HB.out))), blk_below (by repeat (first | (with_reducible first | exact HG4.out | refine blk_drewN ?_ _ | refine blk_drew ?_ | refine blk_alloc ?_ _) | exact HG4.out)) hb2, by omega, below_step (by repeat (first | (with_reducible first | exact HB.out | apply below_alloc | apply pw_below_drewN | apply below_drew1) | exact HB.out)) hb2⟩⟩; (try (have HZ := Aside0.mk (show w2.heap[w1.heap.size]? = some Z90 from blk_below (by first | exact blk_new w1.drew Z90 | exact blk_alloc (blk_new w1.drew Z90) _) hb2); obtain ⟨z0, z1, z2, z3, z4, z5⟩ := zero90 HZ.out; obtain ⟨y0, y1, y2, y3, y4, y5⟩ := zero90 (blk_alloc HZ.out (.map #[] 0)))); (try (have HZ := Aside0.mk (show w2.heap[w1.heap.size + 1]? = some Z90 from blk_below (by have h := blk_new (w1.drew.alloc (.map #[] 0)) Z90; rw [World.size_alloc] at h; exact h) hb2); obtain ⟨z0, z1, z2, z3, z4, z5⟩ := zero90 HZ.out)); (try (have HMP := Aside0.mk (show MapOf intE w2 w1.heap.size 0 (fun _ => none) from MapOf.below (by first | exact MapOf.made intE w1.drew | exact (MapOf.made intE w1.drew).alloc _) hb2))); (try (have HMP := Aside0.mk (show MapOf intE w2 (w1.heap.size + 1) 0 (fun _ => none) from MapOf.below (by have h := MapOf.made intE (w1.drew.alloc Z90); rw [World.size_alloc] at h; exact h) hb2))); clear hR hb2))
    all_goals
      go_wp2_with fail
      go_meet
    case rel => exact ⟨w2.heap.size + 1, w2.heap.size, Av, cv, rfl, ⟨lk_alloc (HI2.out.alloc (.map #[] 0)) (MapOf.made intE w2) HI2.out.b.size (World.size_alloc w2 _).symm⟩⟩
    case rel => exact ⟨w2.heap.size, w2.heap.size + 1, Av, cv, rfl, ⟨lk_allocB HI2.out⟩⟩
    case rel => exact ⟨w2.heap.size, w1.heap.size, Av, cv, rfl, ⟨lk_alloc HI2.out HMP.out HB.out.size rfl⟩⟩
    case rel => exact ⟨w1.heap.size + 1, w1.heap.size, Av, cv, rfl, ⟨lk_put HI2.out HZ.out (Nat.le_succ_of_le HB.out.size) (by omega) HMP.out HB.out.size⟩⟩
    case rel => exact ⟨w1.heap.size, w2.heap.size, Av, cv, rfl, ⟨lk_put (HI2.out.alloc (.map #[] 0)) (blk_alloc HZ.out _) HB.out.size (by omega) (MapOf.made intE w2) HI2.out.b.size⟩⟩
    case rel => exact ⟨w1.heap.size, w1.heap.size + 1, Av, cv, rfl, ⟨lk_put HI2.out HZ.out HB.out.size (by omega) HMP.out (Nat.le_succ_of_le HB.out.size)⟩⟩
  case rest =>
    obtain ⟨gx, bm, Av, cv, rfl, HK⟩ := hcut
    clear c0 c1 c2 c3 c4 c5 hmm hlt1 n1 n2 hlt4 HX HG4 HB w1
    have HGX := Aside0.mk HK.out.1
    have HM := Aside0.mk HK.out.2.1
    have HRV := Aside0.mk HK.out.2.2.1
    have HZ4 := Aside0.mk HK.out.2.2.2.1
    have HBM := Aside0.mk HK.out.2.2.2.2.1
    have HG := Aside0.mk HK.out.2.2.2.2.2.1
    have HG4 := Aside0.mk HK.out.2.2.2.2.2.2.1
    have HNE := Aside0.mk HK.out.2.2.2.2.2.2.2.1
    have HB := Aside0.mk HK.out.2.2.2.2.2.2.2.2
    clear HK
    generalize hg4 : w.heap.size + 1 = g4 at HZ4 HG4 HNE ⊢
    clear hg4
    go_wp2
    go_loopg [16] t.length (fun gg s16 wr => ∃ k : Nat, k ≤ t.length ∧ t.length - k ≤ gg ∧ s16 = .int .i64 k ∧ Aside0 (MapOf intE wr bm k (atTo t k)) ∧ Aside0 (wr.heap[gx]? = some (.cells #[.int .i64 nn, .slice AL nL cL, .slice At t.length ct, .slice Av t.length cv, .map (some bm)] 90 (0, 0))) ∧ Aside0 (wr.heap[g4]? = some Z90) ∧ Aside0 (Kd.R (Kd.int .i64) 3 wr w.heap.size (fun _ => True) (.slice Av t.length cv) (levelsFrom 0 t)) ∧ Aside0 (Below w.heap.size w wr))
    case atStart => exact ⟨0, Nat.zero_le _, by omega, rfl, HM, HGX, HZ4, HRV, HB⟩
    case round =>
      obtain ⟨k, hk, hg, rfl, HM1, HGX1, HZ1, HRV1, HB1⟩ := hrel
      clear HM HGX HZ4 HRV HB wc
      by_cases hlt : k < t.length
      · have hltz : (k : Int) < (t.length : Int) := by omega
        obtain ⟨ad, e1, hx0, hx1⟩ := at_T41 HR.out (k : Int) (by omega) hltz
        cases e1
        rw [Int.toNat_natCast] at hx0 hx1
        replace hx0 := (HB1.out.cell (World.block_lt_of_cell? w _ hx0)).trans hx0
        replace hx1 := (HB1.out.cell (World.block_lt_of_cell? w _ hx1)).trans hx1
        obtain ⟨w9, hrun, hM9, ht9⟩ := (HM1.out.alloc (.cells #[.int .i64 (rd_T41 t k).f0, .int .i64 (rd_T41 t k).f1] 41 (0, 0))).store Try.underlying88 (by have := HL.out; unfold maxLen; omega) (HWF.out k hlt) (k : Int) (i64_of (by omega) (by omega))
        replace hrun : (Instr.mapUpdate 88 (.map (some bm)) (.int .i64 (rd_T41 t k).f0) (.int .i64 (k : Int))).run Try.prog (wr.alloc (.cells #[.int .i64 (rd_T41 t k).f0, .int .i64 (rd_T41 t k).f1] 41 (0, 0))) = .ok () w9 := hrun
        have HM9 := Aside0.mk (show MapOf intE w9 bm (k + 1) (atTo t (k + 1)) from hM9)
        have HT9 := Aside0.mk ht9.grown
        have d4 : (wr.alloc (.cells #[.int .i64 (rd_T41 t k).f0, .int .i64 (rd_T41 t k).f1] 41 (0, 0))).cell? ⟨gx, 4, none⟩ = some (.map (some bm)) := cell_in (blk_alloc HGX1.out _) 4 rfl
        clear hM9 ht9
        have HS := Aside0.mk (rfl : rd_T41 t k = rd_T41 t k)
        generalize (rd_T41 t k).f0 = f0 at hx0 hrun HT9 d4
        generalize (rd_T41 t k).f1 = f1 at hx1 hrun HT9 d4
        go_wp2
        go_roundg (t.length - (k + 1))
        case measure => omega
        case rel =>
          exact ⟨k + 1, by omega, by omega, by go_num, HM9,
            ⟨blk_grown (blk_alloc HGX1.out _) HT9.out (fun e => blk_map HGX1.out HM1.out (Option.some.inj e))⟩,
            ⟨blk_grown (blk_alloc HZ1.out _) HT9.out (fun e => blk_map HZ1.out HM1.out (Option.some.inj e))⟩,
            ⟨Kd.R_mono (Kd.R_grown (R_notmap (Kd.R_alloc HRV1.out _) (HM1.out.alloc _)) HT9.out (fun j hj e => hj.2 (Option.some.inj e))) (fun _ hk => hk.1)⟩,
            ⟨pw_below_grown (below_alloc HB1.out _) _ (below_alloc HB1.out _).size HT9.out (fun j e => by cases e; exact HBM.out)⟩⟩
      · have hltz : ¬ (k : Int) < (t.length : Int) := by omega
        obtain rfl : k = t.length := by omega
        have a0 : wr.cell? ⟨gx, 0, none⟩ = some (.int .i64 nn) := cell_in HGX1.out 0 rfl
        have a1 : wr.cell? ⟨gx, 1, none⟩ = some (.slice AL nL cL) := cell_in HGX1.out 1 rfl
        have a2 : wr.cell? ⟨gx, 2, none⟩ = some (.slice At t.length ct) := cell_in HGX1.out 2 rfl
        have a3 : wr.cell? ⟨gx, 3, none⟩ = some (.slice Av t.length cv) := cell_in HGX1.out 3 rfl
        have a4 : wr.cell? ⟨gx, 4, none⟩ = some (.map (some bm)) := cell_in HGX1.out 4 rfl
        obtain ⟨z0, z1, z2, z3, z4, z5⟩ := zero90 HZ1.out
        go_wp2
        refine bodyPost_ret (results_single rfl (.cell g4 90 #[.int .i64 nn, .slice AL nL cL, .slice At t.length ct, .slice Av t.length cv, .map (some bm)] (0, 0) _ rfl (put5 _ _ _ _ _ HZ1.out) Try.underlying90 rfl (by kernel_rfl) .nil)) rfl ?_
        have hb : bm ≠ g4 := (blk_map HZ1.out HM1.out).symm
        have hr := HRV1.out
        have hM := HM1.out
        have ht : ∀ q, q ∈ 3 :: (Kd.int IntKind.i64).E → q ≠ 90 := by
          intro q hq
          have : q = 3 := by simpa [Kd.int, Kd.scalar] using hq
          omega
        have hgx := HG4.out
        exact ⟨Av, cv, bm, rfl, Kd.R_mono (Kd.R_far (p := ⟨g4, 4, none⟩) (Kd.R_far (p := ⟨g4, 3, none⟩) (Kd.R_far (p := ⟨g4, 2, none⟩) (Kd.R_far (p := ⟨g4, 1, none⟩) (Kd.R_far (p := ⟨g4, 0, none⟩) (Kd.R_types hr HZ1.out ht) (fun _ hk => hk.2) _) (fun _ hk => hk.2) _) (fun _ hk => hk.2) _) (fun _ hk => hk.2) _) (fun _ hk => hk.2) _) (fun _ hk => hk.1),
          ((((hM.setCell hb _).setCell hb _).setCell hb _).setCell hb _).setCell hb _, HBM.out, below_set (below_set (below_set (below_set (below_set HB1.out hgx) hgx) hgx) hgx) hgx⟩
end Go.Proofs.Ytobadajeekdakaa.Print
