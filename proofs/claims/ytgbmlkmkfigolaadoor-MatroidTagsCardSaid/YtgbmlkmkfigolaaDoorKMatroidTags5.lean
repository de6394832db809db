/- Texts of this claim's own repository, merged by wip/tool/pack.py: MatTg, Opn, TiedC, MatOpn. -/
import Derived.Deep.Slices
import Derived.ChangeArms
import Derived.ProofKit
import Derived.Test.YtgbmlkmkfigolaaDoorRows
import Derived.ChangeSame
import Derived.ChangeVars
import Derived.JoinedOf
import Derived.RowKit
import Derived.RowKitTokens
import Derived.LaidLaws
import Derived.LaidHandle
import Derived.Stop.Joined
import Derived.WideShapes
import Derived.Test.YtgbmlkmkfigolaaDoorKMatroidTags4
set_option linter.unusedVariables false
set_option linter.unusedSimpArgs false
/- The law MatroidTags, with no program in sight. -/
namespace Go.Proofs.YtgbmlkmkfigolaaDoor.P
open Go.RowKit Go.Proofs.YtgbmlkmkfigolaaDoorW.PrintWords Go.Proofs.YtgbmlkmkfigolaaDoorW.PrintLast Go.Proofs.YtgbmlkmkfigolaaDoorW.PrintMore NumTh
set_option linter.unusedVariables false
set_option linter.unusedSimpArgs false

theorem MatroidTags_ev (m : Mtr) (t : Int) (ho : OkS m) : Ev (fun k => greenwoodlaw09_MatroidTags.f k m.f0 m.f1 m.f2 m.f3 m.f4 m.f5 t) true := by
 unfold greenwoodlaw09_MatroidTags.f
 refine Ev.bnd ?_
 refine Ev.ifp rfl ?_
 obtain ⟨b, hb⟩ := small_ev m ho
 refine Ev.bind hb ?_
 have hyes : ∀ q, q = true → Ev (fun k => greenwoodlaw09_MatroidTags.j0 k t q m.f0 m.f1 m.f2 m.f3 m.f4 m.f5) true := fun q hq => by
  subst hq
  refine Ev.step (fun k => by rw [greenwoodlaw09_MatroidTags.j0]) ?_
  refine Ev.ifp rfl ?_
  exact Ev.bnd (Ev.val rfl)
 cases b with
 | false => exact Ev.ifn (by decide) (hyes _ rfl)
 | true =>
  refine Ev.ifp rfl ?_
  refine Ev.bnd ?_
  by_cases h : chkN m = 0
  ·have e0 : (chkN m != 0) = false := by rw [h]; rfl
   have hq : ∀ q, q = false → Ev (fun k => greenwoodlaw09_MatroidTags.j0 k t q m.f0 m.f1 m.f2 m.f3 m.f4 m.f5) true := fun q hq => by
    subst hq
    have hl := lens h
    refine Ev.step (fun k => by rw [greenwoodlaw09_MatroidTags.j0]) ?_
    refine Ev.ifn (by decide) ?_
    refine Ev.bnd ?_
    refine Ev.ifp (by simp only [List.length_nil]; omega) ?_
    refine Ev.bnd ?_
    refine Ev.bnd ?_
    refine Ev.ifp (by simp only [List.nil_append, List.length_cons, List.length_nil]; omega) ?_
    refine Ev.bnd ?_
    refine Ev.bnd ?_
    refine Ev.ifp (by simp only [List.length_nil]; omega) ?_
    refine Ev.bnd ?_
    refine Ev.ifp (by simp only [List.nil_append]; omega) ?_
    refine Ev.bnd ?_
    have hB := list_no m h
    have hC := inner_no m h ⟨0, 1, 1, 0, [], []⟩ rfl
    rw [List.nil_append, List.nil_append]
    have two : ∀ q, (q = true → t < 0 ∨ 9 < t) → Ev (fun k => greenwoodlaw09_MatroidTags.j1 k q t m.f1 m.f2 m.f3 m.f4 m.f5 m.f0 m.f1 m.f2 m.f3 (m.f4 ++ [[], [], []]) m.f5 m.f0 m.f1 m.f2 m.f3 m.f4 (m.f5 ++ [⟨0, 1, 1, 0, [], []⟩])) true := fun q hq => by
     refine Ev.step (fun k => by rw [greenwoodlaw09_MatroidTags.j1]) ?_
     have rest : Ev (fun k => (matroid_Check.f m.f0 m.f1 m.f2 m.f3 (m.f4 ++ [[], [], []]) m.f5).bind fun t393 => (if t393 = 0 then (some false) else ((matroid_Check.f m.f0 m.f1 m.f2 m.f3 m.f4 (m.f5 ++ [⟨0, 1, 1, 0, [], []⟩])).bind fun t394 => (some (t394 != 0))))) true := by
      refine Ev.bnd ?_
      refine Ev.ifn hB ?_
      refine Ev.bnd ?_
      refine Ev.val ?_
      exact bne_iff_ne.mpr hC
     cases q with
     | true =>
      refine Ev.ifp rfl ?_
      refine Ev.bnd ?_
      refine Ev.ifn (tag_no m t (hq rfl)) ?_
      exact rest
     | false =>
      refine Ev.ifn (by decide) ?_
      exact rest
    by_cases c : t < 0
    ·refine Ev.ifp c ?_
     exact two true (fun _ => .inl c)
    ·refine Ev.ifn c ?_
     exact two _ (fun e => .inr (of_decide_eq_true e))
   exact hq _ e0
  ·exact hyes _ (by show (chkN m != 0) = true; simp [h])
end Go.Proofs.YtgbmlkmkfigolaaDoor.P
/- What came in, opened kind by kind: an argument's reading tells a list (of lists ..) that its cells hold. -/
namespace Go.Proofs.YtgbmlkmkfigolaaDoor.P
open Go.RowKit Go.Proofs.YtgbmlkmkfigolaaDoorW.PrintWords Go.Proofs.YtgbmlkmkfigolaaDoorW.PrintLast Go.Proofs.YtgbmlkmkfigolaaDoorW.PrintMore
set_option linter.unusedVariables false
set_option linter.unusedSimpArgs false

structure Opens (P : Program) (t : TypeId) {α : Type} (d : Kd α) (q : α → Prop) : Prop where
 sz : P.cellsOf t = d.sz
 op : ∀ {H : Type} {enc : TypeId × Value → H} {w : World} {base fuel : Nat} {held : Bool} {cs : List Value} {x : DataW H × List MemPlace}, DataW.trod enc P w base (fun _ => true) held fuel t cs = some x → ∃ a : α, d.K w a cs ∧ q a
section
variable {P : Program} {α : Type} {d : Kd α} {q : α → Prop}
theorem opens_int {t : TypeId} {k : IntKind} (ht : P.underlying t = some (.int k)) (hs : P.cellsOf t = 1) : Opens P t (Kd.int k) (fun n => (Lit.int k n).wf = true) :=
 ⟨hs, fun h => by
  obtain ⟨n, rfl, _, hw⟩ := DataW.trod_int ht h
  exact ⟨n, rfl, hw⟩⟩
theorem Opens.mono {t : TypeId} {q' : α → Prop} (h : Opens P t d q) (hq : ∀ a, q a → q' a) : Opens P t d q' :=
 ⟨h.sz, fun ht => by obtain ⟨a, hk, ha⟩ := h.op ht; exact ⟨a, hk, hq a ha⟩⟩
theorem opens_slice {t e : TypeId} (e' : Nat) (ht : P.underlying t = some (.slice e)) (hs : P.cellsOf t = 1) (h : Opens P e d q) : Opens P t (Kd.slice e' d) (fun l => l.length ≤ maxLen ∧ ∀ x ∈ l, q x) :=
 ⟨hs, fun {H enc w base fuel held cs x} htr => by
  rcases Deep.open_slice ht htr with ⟨rfl, _⟩ | ⟨a, len, cap, m, n, D, Pl, rfl, hb, hl, hm, hmm, _, hx⟩
  ·exact ⟨[], ⟨none, 0, rfl, Nat.le_refl _, Kd.C_nil d w⟩, Nat.zero_le _, fun x hx => by cases hx⟩
  ·simp only [if_true] at hmm
   have each : ∀ i, i < len → ∃ y : α, (∃ cs', w.cells? base (a.add (i * P.cellsOf e)) (P.cellsOf e) = some cs' ∧ d.K w y cs') ∧ q y := by
    intro i hi
    obtain ⟨cs', h1, h2⟩ := hx i (by omega)
    obtain ⟨y, hy, hqy⟩ := h.op h2
    exact ⟨y, ⟨cs', h1, hy⟩, hqy⟩
   by_cases h0 : len = 0
   ·subst h0
    refine ⟨[], ⟨some a, cap, rfl, Nat.zero_le _, rfl, by simp, fun h => absurd h (Nat.lt_irrefl 0)⟩, Nat.zero_le _, fun x hx => by cases hx⟩
   ·obtain ⟨y0, _, _⟩ := each 0 (by omega)
    have : Inhabited α := ⟨y0⟩
    obtain ⟨f, hf⟩ := Deep.choose_lt each
    have hlen : ((List.range len).map f).length = len := by simp
    refine ⟨(List.range len).map f, ⟨some a, cap, by rw [hlen], by rw [hlen]; exact hl, ⟨rfl, by rw [hlen]; unfold maxLen at hm; omega, fun _ => ⟨a, rfl, fun j p hj => ?_⟩⟩⟩, by rw [hlen]; omega, fun x hx => ?_⟩
    ·have hjl := (List.getElem?_eq_some_iff.1 hj).1
     rw [hlen] at hjl
     rw [List.getElem?_map, List.getElem?_range hjl] at hj
     have hj' : f j = p := by simpa using hj
     subst hj'
     obtain ⟨⟨cs', h1, h2⟩, _⟩ := hf j hjl
     obtain ⟨_, hcl, hcell⟩ := World.cells?_some h1
     refine ⟨cs', by rw [hcl, h.sz], h2, fun i u hu => ?_⟩
     have hil := (List.getElem?_eq_some_iff.1 hu).1
     have := hcell i (by omega)
     rw [Deep.add_add, hu, h.sz] at this
     exact this
    ·obtain ⟨i, hi, rfl⟩ := List.mem_map.1 hx
     exact (hf i (List.mem_range.1 hi)).2⟩
end
/-- what came in is only read: it may be shared -/
theorem V_of_C {α : Type} {d : Kd α} (hd : Kd.Heap d) {e base c : Nat} {w : World} {A : Option Addr} {xs : List α} (h : d.C w A xs.length xs) (hc : xs.length ≤ c) : Kd.V d e w base (fun _ => True) (.slice A xs.length c) xs :=
 Kd.V_mk hc (fun W' hW => hd.C (fun k hk => hW k trivial hk) h)
end Go.Proofs.YtgbmlkmkfigolaaDoor.P
/- What a tied row's premise gives a walk: the one variable of the library's, laid; a world that meets it. (Turned from a worked proof of the kit.) -/
namespace Go.Proofs.YtgbmlkmkfigolaaDoor.P
open Go.ChangeShapes Go.WideShapes Go.RowKit
set_option linter.unusedVariables false
set_option linter.unusedSimpArgs false

theorem td_et : Tryd.prog.globalNamed "errors.errorType" = some 0 := by kernel_rfl
theorem td_rt : (Tryd.prog.cutTypes.find? (·.1 == "internal/reflectlite.rtype")).map (·.2) = some 76 := by kernel_rfl
theorem td_oneRow : ((List.range 129).filter fun t => Tryd.prog.rowNamed t [101, 114, 114, 111, 114]) = [45] := by kernel_rfl
theorem td_size : Tryd.prog.types.size = 129 := by kernel_rfl
def laidE {H : Type} : List (String × DataW H) := [("errors.errorType", Rows.laid_errors_errorType)]
theorem ev_of_laid {W : World} (h : laidMetH Tryd.prog laidE W) : EV W := by
 have h' : laidMet Tryd.prog [] W ∧ handlesMet Tryd.prog laidE W := h
 obtain ⟨name, u, ty, e1, e2, e3, e4, e5⟩ := h'.2 _ (List.mem_singleton.2 rfl)
 have en : name = [101, 114, 114, 111, 114] := (Option.some.inj e1).symm
 subst en
 obtain rfl := Option.some.inj (td_rt.symm.trans e2)
 have hm : ty ∈ (List.range 129).filter fun t => Tryd.prog.rowNamed t [101, 114, 114, 111, 114] := List.mem_filter.2 ⟨List.mem_range.2 (by rw [← td_size]; exact e3), e4⟩
 rw [td_oneRow] at hm
 obtain rfl := List.mem_singleton.1 hm
 have hh : typeHandle Tryd.prog 45 = .pointer (some ⟨1, 45, none⟩) := by kernel_rfl
 rw [hh] at e5
 have := World.var?_cell td_et e5 0
 unfold EV
 simpa using this
noncomputable def laidWorld (os : Os) : World :=
 let w0 := World.holding Tryd.prog os ⟨#[], #[], []⟩
 { w0 with heap := w0.heap.modify 0 fun
  | .cells _ t frozen => .cells #[.iface 76 (.agg #[.pointer (some ⟨1, 45, none⟩)])] t frozen
  | o => o }
theorem laidWorld_met (os : Os) (args : Array Value) : laidMetH Tryd.prog laidE ((laidWorld os).forCall (fun _ _ => 0) ⟨#[], args, []⟩).memory :=
 laidMetH_of_parts (laidMet_nil _ _) (by kernel_rfl)
end Go.Proofs.YtgbmlkmkfigolaaDoor.P
/- What came in, opened: a matroid, and what lies within it. -/
namespace Go.Proofs.YtgbmlkmkfigolaaDoor.P
open Go.RowKit Go.WideShapes Go.Proofs.YtgbmlkmkfigolaaDoorW.PrintWords Go.Proofs.YtgbmlkmkfigolaaDoorW.PrintLast Go.Proofs.YtgbmlkmkfigolaaDoorW.PrintMore
set_option linter.unusedVariables false
set_option linter.unusedSimpArgs false

section
variable {P : Program} {α : Type} {d : Kd α} {q : α → Prop}
/-- a slice opened, its elements known to open with so much fuel -/
theorem slice_at {t e : TypeId} {H : Type} {enc : TypeId × Value → H} {w : World} {base n : Nat} {held : Bool} {cs : List Value} {x : DataW H × List MemPlace} (ht : P.underlying t = some (.slice e)) (hsz : P.cellsOf e = d.sz)
 (op : ∀ m, m < n → ∀ cs' x', DataW.trod enc P w base (fun _ => true) held m e cs' = some x' → ∃ y : α, d.K w y cs' ∧ q y) (h : DataW.trod enc P w base (fun _ => true) held n t cs = some x) :
 ∃ (l : List α) (A : Option Addr) (c : Nat), cs = [.slice A l.length c] ∧ l.length ≤ c ∧ d.C w A l.length l ∧ l.length ≤ maxLen ∧ ∀ x ∈ l, q x := by
 rcases DataW.trod_slice ht h with ⟨rfl, _⟩ | ⟨a, len, cap, elems, rest, m, hn, rfl, _, hb, hl, hm, hlen, hel, _, _⟩
 ·exact ⟨[], none, 0, rfl, Nat.le_refl _, Kd.C_nil d w, Nat.zero_le _, fun x hx => by cases hx⟩
 ·have each : ∀ i, i < len → ∃ y : α, (∃ cs', w.cells? base (a.add (i * P.cellsOf e)) (P.cellsOf e) = some cs' ∧ d.K w y cs') ∧ q y := by
   intro i hi
   have h1 := hel i hi
   rw [List.getElem?_eq_getElem (by omega)] at h1
   obtain ⟨cs', h2, h3⟩ := Option.bind_eq_some_iff.mp h1
   obtain ⟨y, hy, hqy⟩ := op m (by omega) cs' _ h3
   exact ⟨y, ⟨cs', h2, hy⟩, hqy⟩
  by_cases h0 : len = 0
  ·subst h0
   exact ⟨[], some a, cap, rfl, Nat.zero_le _, ⟨rfl, by simp, fun h => absurd h (Nat.lt_irrefl 0)⟩, Nat.zero_le _, fun x hx => by cases hx⟩
  ·obtain ⟨y0, _, _⟩ := each 0 (by omega)
   have : Inhabited α := ⟨y0⟩
   obtain ⟨f, hf⟩ := Deep.choose_lt each
   have hlen' : ((List.range len).map f).length = len := by simp
   refine ⟨(List.range len).map f, some a, cap, by rw [hlen'], by rw [hlen']; exact hl, ⟨rfl, by rw [hlen']; unfold maxLen at hm; omega, fun _ => ⟨a, rfl, fun j p hj => ?_⟩⟩, by rw [hlen']; omega, fun x hx => ?_⟩
   ·have hjl := (List.getElem?_eq_some_iff.1 hj).1
    rw [hlen'] at hjl
    rw [List.getElem?_map, List.getElem?_range hjl] at hj
    have hj' : f j = p := by simpa using hj
    subst hj'
    obtain ⟨⟨cs', h1, h2⟩, _⟩ := hf j hjl
    obtain ⟨_, hcl, hcell⟩ := World.cells?_some h1
    refine ⟨cs', by rw [hcl, hsz], h2, fun i u hu => ?_⟩
    have hil := (List.getElem?_eq_some_iff.1 hu).1
    have := hcell i (by omega)
    rw [Deep.add_add, hu, hsz] at this
    exact this
   ·obtain ⟨i, hi, rfl⟩ := List.mem_map.1 hx
    exact (hf i (List.mem_range.1 hi)).2
end
theorem cells_mat : Tryd.prog.cellsOf 25 = 6 := by kernel_rfl
theorem opens_rows : Opens Tryd.prog 22 (Kd.slice 26 (Kd.slice 3 (Kd.int .i64))) (fun _ => True) :=
 (opens_slice 26 Tryd.underlying22 (by kernel_rfl) (opens_slice 3 Tryd.underlying26 (by kernel_rfl) (opens_int Tryd.underlying3 (by kernel_rfl)))).mono (fun _ _ => trivial)
set_option maxRecDepth 100000 in
theorem trod_mat {H : Type} {enc : TypeId × Value → H} {w : World} {base : Nat} {held : Bool} : ∀ (fuel : Nat) (cs : List Value) (x : DataW H × List MemPlace), DataW.trod enc Tryd.prog w base (fun _ => true) held fuel 25 cs = some x →
 ∃ (a0 a1 a2 a3 : Int) (A4 : Option Addr) (c4 : Nat) (l4 : List (List Int)) (A5 : Option Addr) (c5 : Nat) (l5 : List Mtr), cs = [.int .i64 a0, .int .i64 a1, .int .i64 a2, .int .i64 a3, .slice A4 l4.length c4, .slice A5 l5.length c5] ∧ (∀ a ∈ [a0, a1, a2, a3], (Lit.int .i64 a).wf = true) ∧ Kd.C (Kd.slice 3 (Kd.int .i64)) w A4 l4.length l4 ∧ l4.length ≤ c4 ∧ Kd.C k25 w A5 l5.length l5 ∧ l5.length ≤ c5 := by
 intro fuel
 induction fuel using Nat.strongRecOn with
 | _ fuel ih =>
  intro cs x h
  obtain ⟨xs, n, rfl, _, hl, hlen, hf⟩ := DataW.trod_struct Tryd.underlying25 h
  rw [cells_mat] at hl
  match cs, hl with
  | [v0, v1, v2, v3, v4, v5], _ =>
   match xs, hlen with
   | [y0, y1, y2, y3, y4, y5], _ =>
    have g0 : DataW.trod enc Tryd.prog w base (fun _ => true) held n 3 [v0] = some y0 := hf 0 _ rfl
    have g1 : DataW.trod enc Tryd.prog w base (fun _ => true) held n 3 [v1] = some y1 := hf 1 _ rfl
    have g2 : DataW.trod enc Tryd.prog w base (fun _ => true) held n 3 [v2] = some y2 := hf 2 _ rfl
    have g3 : DataW.trod enc Tryd.prog w base (fun _ => true) held n 3 [v3] = some y3 := hf 3 _ rfl
    have g4 : DataW.trod enc Tryd.prog w base (fun _ => true) held n 22 [v4] = some y4 := hf 4 _ rfl
    have g5 : DataW.trod enc Tryd.prog w base (fun _ => true) held n 23 [v5] = some y5 := hf 5 _ rfl
    obtain ⟨a0, e0, _, w0⟩ := DataW.trod_int Tryd.underlying3 g0
    obtain ⟨a1, e1, _, w1⟩ := DataW.trod_int Tryd.underlying3 g1
    obtain ⟨a2, e2, _, w2⟩ := DataW.trod_int Tryd.underlying3 g2
    obtain ⟨a3, e3, _, w3⟩ := DataW.trod_int Tryd.underlying3 g3
    obtain ⟨l4, ⟨A4, c4, e4, hc4, hr4⟩, _⟩ := opens_rows.op g4
    obtain ⟨l5, A5, c5, e5, hc5, hr5, _, _⟩ := slice_at (d := k25) (q := fun _ => True) Tryd.underlying23 (by rw [cells_mat]; rfl) (fun m hm cs' x' ht => by
     obtain ⟨b0, b1, b2, b3, B4, d4, k4, B5, d5, k5, rfl, _, q4, p4, q5, p5⟩ := ih m (by omega) cs' x' ht
     exact ⟨⟨b0, b1, b2, b3, k4, k5⟩, k25_mk w ⟨b0, b1, b2, b3, k4, k5⟩ p4 q4 p5 q5, trivial⟩) g5
    have e0 := List.head_eq_of_cons_eq e0
    have e1 := List.head_eq_of_cons_eq e1
    have e2 := List.head_eq_of_cons_eq e2
    have e3 := List.head_eq_of_cons_eq e3
    have e4 := List.head_eq_of_cons_eq e4
    have e5 := List.head_eq_of_cons_eq e5
    subst e0 e1 e2 e3 e4 e5
    refine ⟨a0, a1, a2, a3, A4, c4, l4, A5, c5, l5, rfl, fun a ha => ?_, hr4, hc4, hr5, hc5⟩
    simp only [List.mem_cons, List.not_mem_nil, or_false] at ha
    rcases ha with rfl | rfl | rfl | rfl <;> assumption
set_option maxRecDepth 100000 in
theorem mat_arg {r : Reach} {H : Type} {enc : TypeId × Value → H} {w W0 : World} {base b0 : Nat} {held : Bool} {v : Value} {dd : DataW H} {ps : List MemPlace} (hv : Value.okWide Tryd.prog W0 r b0 25 v)
 (ht : DataW.Trod enc Tryd.prog w base (fun _ => true) held 25 v dd ps) :
 ∃ (a0 a1 a2 a3 : Int) (A4 : Option Addr) (c4 : Nat) (l4 : List (List Int)) (A5 : Option Addr) (c5 : Nat) (l5 : List Mtr), v = .agg #[.int .i64 a0, .int .i64 a1, .int .i64 a2, .int .i64 a3, .slice A4 l4.length c4, .slice A5 l5.length c5] ∧ Kd.C (Kd.slice 3 (Kd.int .i64)) w A4 l4.length l4 ∧ l4.length ≤ c4 ∧ Kd.C k25 w A5 l5.length l5 ∧ l5.length ≤ c5 ∧ OkS ⟨a0, a1, a2, a3, l4, l5⟩ ∧ ∀ a ∈ [a0, a1, a2, a3], (Lit.int .i64 a).wf = true := by
 obtain ⟨cs, rfl, _⟩ := okWide_struct Tryd.underlying25 hv
 obtain ⟨fuel, hf⟩ := ht
 obtain ⟨a0, a1, a2, a3, A4, c4, l4, A5, c5, l5, e, hw, h4, p4, h5, p5⟩ := trod_mat fuel _ _ hf
 have e' : cs = #[.int .i64 a0, .int .i64 a1, .int .i64 a2, .int .i64 a3, .slice A4 l4.length c4, .slice A5 l5.length c5] := by
  apply Array.ext'
  exact e
 subst e'
 exact ⟨a0, a1, a2, a3, A4, c4, l4, A5, c5, l5, rfl, h4, p4, h5, p5, OkS_of (k25_mk w ⟨a0, a1, a2, a3, l4, l5⟩ p4 h4 p5 h5), hw⟩
end Go.Proofs.YtgbmlkmkfigolaaDoor.P
