/- Texts of this claim's own repository, merged by wip/tool/pack.py: MatTc, Opn, TiedC, MatOpn. -/
import Derived.Deep.Slices
import Derived.ChangeArms
import Derived.ProofKit
import Derived.Test.YtgbmlkmkfigolaaDoorRows
import Derived.ChangeSame
import Derived.ChangeVars
import Derived.JoinedOf
import Derived.RowKit
import Derived.RowKitTokens
import Derived.LaidLaws
import Derived.LaidHandle
import Derived.Stop.Joined
import Derived.WideShapes
import Derived.Test.YtgbmlkmkfigolaaDoorKMatroidTells5
set_option linter.unusedVariables false
set_option linter.unusedSimpArgs false
/- Layer 9: what an element of a part is, in closed words: the law MatroidTells, with no program in sight. -/
namespace Go.Proofs.YtgbmlkmkfigolaaDoor.P
open Go.RowKit Go.Proofs.YtgbmlkmkfigolaaDoorW.PrintWords Go.Proofs.YtgbmlkmkfigolaaDoorW.PrintLast Go.Proofs.YtgbmlkmkfigolaaDoorW.PrintMore NumTh
set_option linter.unusedVariables false
set_option linter.unusedSimpArgs false

/-! ### sets -/
theorem incB_iff : ∀ (l : List Int) (m : Int), incB m l = true ↔ (∀ x ∈ l, m < x ∧ x ≤ 1099511627776) ∧ l.Pairwise (· < ·) := by
 intro l
 induction l with
 | nil => intro m; simp [incB]
 | cons x r ih =>
  intro m
  unfold incB
  rw [Bool.and_eq_true, Bool.and_eq_true, decide_eq_true_eq, decide_eq_true_eq, ih, List.pairwise_cons]
  constructor
  ·rintro ⟨⟨h1, h2⟩, h3, h4⟩
   refine ⟨fun y hy => ?_, fun y hy => (h3 y hy).1, h4⟩
   rcases List.mem_cons.1 hy with rfl | hy
   ·exact ⟨h1, h2⟩
   ·have := h3 y hy; exact ⟨by omega, this.2⟩
  ·rintro ⟨h1, h2, h3⟩
   have h4 := h1 x (List.mem_cons_self ..)
   exact ⟨⟨h4.1, h4.2⟩, fun y hy => ⟨h2 y hy, (h1 y (List.mem_cons_of_mem _ hy)).2⟩, h3⟩
theorem mayB_iff (l : List Int) : mayB l = true ↔ (∀ x ∈ l, 0 ≤ x ∧ x ≤ 1099511627776) ∧ l.Pairwise (· < ·) := by
 unfold mayB
 rw [incB_iff]
 constructor
 ·rintro ⟨h, h'⟩
  exact ⟨fun x hx => by have := h x hx; omega, h'⟩
 ·rintro ⟨h, h'⟩
  exact ⟨fun x hx => by have := h x hx; omega, h'⟩
theorem last_max : ∀ (l : List Int) (h : l.Pairwise (· < ·)) (x : Int) (hx : x ∈ l), x ≤ rd l ((l.length : Int) - 1) := by
 intro l
 induction l with
 | nil => intro _ x hx; cases hx
 | cons y r ih =>
  intro h x hx
  rw [List.pairwise_cons] at h
  rcases r with _ | ⟨z, r⟩
  ·rcases List.mem_cons.1 hx with rfl | hx
   ·exact Int.le_refl _
   ·cases hx
  ·have e : rd (y :: z :: r) (((y :: z :: r).length : Int) - 1) = rd (z :: r) (((z :: r).length : Int) - 1) := by
    have e1 : (((y :: z :: r).length : Int) - 1) = ((r.length + 1 : Nat) : Int) := by simp
    have e2 : (((z :: r).length : Int) - 1) = ((r.length : Nat) : Int) := by simp
    rw [e1, e2, rd_at (show r.length + 1 < (y :: z :: r).length by simp), rd_at (show r.length < (z :: r).length by simp)]
    rfl
   rw [e]
   rcases List.mem_cons.1 hx with rfl | hx
   ·have := h.1 z (List.mem_cons_self ..)
    have := ih h.2 z (List.mem_cons_self ..)
    omega
   ·exact ih h.2 x hx
theorem setB_iff (l : List Int) (n : Int) (hn : n ≤ 1099511627776) : setB l n = true ↔ (∀ x ∈ l, 0 ≤ x ∧ x < n) ∧ l.Pairwise (· < ·) := by
 unfold setB
 rw [Bool.and_eq_true, mayB_iff, Bool.or_eq_true, decide_eq_true_eq, decide_eq_true_eq]
 constructor
 ·rintro ⟨⟨h1, h2⟩, h3⟩
  refine ⟨fun x hx => ⟨(h1 x hx).1, ?_⟩, h2⟩
  rcases h3 with h3 | h3
  ·have : l = [] := List.length_eq_zero_iff.1 (by omega)
   subst this; cases hx
  ·have := last_max l h2 x hx; omega
 ·rintro ⟨h1, h2⟩
  refine ⟨⟨fun x hx => by have := h1 x hx; omega, h2⟩, ?_⟩
  by_cases h : l = []
  ·left; subst h; rfl
  ·right
   have hl : 0 < l.length := List.length_pos_iff.2 h
   have e : ((l.length : Int) - 1) = ((l.length - 1 : Nat) : Int) := by omega
   rw [e, rd_at (show l.length - 1 < l.length by omega)]
   exact (h1 _ (List.getElem_mem _)).2
def allV (n : Int) : List Int := (List.range n.toNat).map (fun i : Nat => (i : Int))
def minusV (a b : List Int) : List Int := a.filter fun x => !b.contains x
theorem allV_len (n : Int) : (allV n).length = n.toNat := by simp [allV]
theorem allV_mem {n x : Int} : x ∈ allV n ↔ 0 ≤ x ∧ x < n := by
 unfold allV
 rw [List.mem_map]
 constructor
 ·rintro ⟨i, hi, rfl⟩
  have := List.mem_range.1 hi; omega
 ·rintro ⟨h1, h2⟩
  exact ⟨x.toNat, List.mem_range.2 (by omega), by omega⟩
theorem allV_pw (n : Int) : (allV n).Pairwise (· < ·) := by
 unfold allV
 rw [List.pairwise_map]
 exact List.pairwise_lt_range.imp (fun {a b} h => by omega)
theorem minus_len : ∀ (a b : List Int), a.Pairwise (· < ·) → b.Pairwise (· < ·) → (∀ x ∈ b, x ∈ a) → (minusV a b).length + b.length = a.length := by
 intro a
 induction a with
 | nil =>
  intro b _ _ h
  have : b = [] := by
   rcases b with _ | ⟨x, r⟩
   ·rfl
   ·exact absurd (h x (List.mem_cons_self ..)) (by simp)
  subst this; rfl
 | cons x a ih =>
  intro b ha hb h
  rw [List.pairwise_cons] at ha
  by_cases hx : x ∈ b
  ·obtain ⟨y, r, rfl⟩ : ∃ y r, b = y :: r := by
    rcases b with _ | ⟨y, r⟩
    ·cases hx
    ·exact ⟨y, r, rfl⟩
   rw [List.pairwise_cons] at hb
   have hy : y = x := by
    rcases List.mem_cons.1 hx with e | e
    ·exact e.symm
    ·have h1 := hb.1 x e
     rcases List.mem_cons.1 (h y (List.mem_cons_self ..)) with e' | e'
     ·exact e'
     ·have := ha.1 y e'; omega
   subst hy
   have hr : ∀ z ∈ r, z ∈ a := by
    intro z hz
    rcases List.mem_cons.1 (h z (List.mem_cons_of_mem _ hz)) with e | e
    ·have := hb.1 z hz; omega
    ·exact e
   have e1 : minusV (y :: a) (y :: r) = minusV a r := by
    unfold minusV
    rw [List.filter_cons_of_neg (by simp)]
    apply List.filter_congr
    intro z hz
    have := ha.1 z hz
    have hne : z ≠ y := by omega
    simp [List.contains_cons, hne]
   rw [e1, List.length_cons, List.length_cons]
   have := ih r ha.2 hb.2 hr
   omega
  ·have hr : ∀ z ∈ b, z ∈ a := by
    intro z hz
    rcases List.mem_cons.1 (h z hz) with e | e
    ·exact absurd (e ▸ hz) hx
    ·exact e
   have e1 : minusV (x :: a) b = x :: minusV a b := by
    unfold minusV
    rw [List.filter_cons_of_pos (by simpa using hx)]
   rw [e1, List.length_cons, List.length_cons]
   have := ih b ha.2 hb hr
   omega
theorem part_len {n : Int} {l : List Int} (h0 : 0 ≤ n) (hn : n ≤ 1099511627776) (h : setB l n = true) : ((minusV (allV n) l).length : Int) = n - (l.length : Int) ∧ (l.length : Int) ≤ n := by
 obtain ⟨h1, h2⟩ := (setB_iff l n hn).1 h
 have := minus_len (allV n) l (allV_pw n) h2 (fun x hx => allV_mem.2 (h1 x hx))
 rw [allV_len] at this
 omega

/-! ### set.All, set.Minus, and the reference's -/
theorem All_ev (n : Int) (hn : n ≤ 100000) : Ev (fun k => set_All.f k n) (allV n) := by
 unfold set_All.f
 by_cases h : n < 1
 ·refine Ev.ifp h (Ev.step (fun k => by rw [set_All.j0]) (Ev.ifp rfl (Ev.val ?_)))
  unfold allV
  rw [show n.toNat = 0 by omega]; rfl
 refine Ev.ifn h (Ev.step (fun k => by rw [set_All.j0]) (Ev.ifn (by simpa using hn) (Ev.ifp (by omega) (Ev.ifp (by omega) ?_))))
 have key : ∀ (d i : Nat) (x : List Int), n.toNat - i = d → i ≤ n.toNat → x.length = n.toNat → (∀ j, j < i → x[j]? = some (j : Int)) → Ev (fun k => set_All.l0 k x n (i : Int)) (allV n) := by
  intro d
  induction d with
  | zero =>
   intro i x h1 h2 h3 h4
   refine Ev.step (fun k => by rw [set_All.l0]) (Ev.ifn (by omega) (Ev.val ?_))
   apply List.ext_getElem?
   intro j
   by_cases hj : j < n.toNat
   ·rw [h4 j (by omega)]
    unfold allV
    rw [List.getElem?_map, List.getElem?_range hj]; rfl
   ·rw [List.getElem?_eq_none (by omega), List.getElem?_eq_none (by rw [allV_len]; omega)]
  | succ d ih =>
   intro i x h1 h2 h3 h4
   refine Ev.step (fun k => by rw [set_All.l0]) (Ev.ifp (by omega) (Ev.ifp (by omega) (Ev.ifp (by omega) ?_)))
   rw [w1b (show i < n.toNat by omega) (by omega)]
   refine ih (i + 1) _ (by omega) (by omega) (by rw [List.length_set]; exact h3) (fun j hj => ?_)
   rw [show ((i : Int)).toNat = i from rfl, List.getElem?_set]
   by_cases e : i = j
   ·subst e; rw [if_pos rfl, if_pos (by omega)]
   ·rw [if_neg e]; exact h4 j (by omega)
 exact key n.toNat 0 _ (by omega) (by omega) (by rw [List.length_replicate]) (fun j hj => by omega)
theorem rAll_ev (n : Int) (hn : n ≤ 100000) : Ev (fun k => greenwoodref02_All.f k n) (allV n) := by
 unfold greenwoodref02_All.f
 have key : ∀ (d i : Nat), n.toNat - i = d → i ≤ n.toNat → Ev (fun k => greenwoodref02_All.l0 k n (allV (i : Int)) (i : Int)) (allV n) := by
  intro d
  induction d with
  | zero =>
   intro i h1 h2
   refine Ev.step (fun k => by rw [greenwoodref02_All.l0]) (Ev.ifn (by omega) (Ev.val ?_))
   unfold allV
   rw [show n.toNat = ((i : Int)).toNat by omega]
  | succ d ih =>
   intro i h1 h2
   refine Ev.step (fun k => by rw [greenwoodref02_All.l0]) (Ev.ifp (by omega) (Ev.ifp (by omega) (Ev.ifp (by rw [allV_len]; omega) ?_)))
   rw [w1b (show i < n.toNat by omega) (by omega)]
   have e : allV (i : Int) ++ [(i : Int)] = allV ((i + 1 : Nat) : Int) := by
    unfold allV
    rw [show (((i + 1 : Nat) : Int)).toNat = i + 1 from rfl, show ((i : Int)).toNat = i from rfl, List.range_succ, List.map_append]; rfl
   rw [e]
   exact ih (i + 1) (by omega) (by omega)
 have := key n.toNat 0 (by omega) (by omega)
 simpa [allV] using this
theorem rin_ev (l : List Int) (x : Int) (hn : l.length ≤ 9223372036854775807) : Ev (fun k => greenwoodref02_in.f k l x) (l.contains x) := by
 unfold greenwoodref02_in.f
 have key : ∀ (d i : Nat), l.length - i = d → i ≤ l.length → Ev (fun k => greenwoodref02_in.l0 k l x (i : Int)) ((l.drop i).contains x) := by
  intro d
  induction d with
  | zero =>
   intro i h1 h2
   refine Ev.step (fun k => by rw [greenwoodref02_in.l0]) (Ev.ifn (by omega) (Ev.val ?_))
   rw [List.drop_of_length_le (by omega)]; rfl
  | succ d ih =>
   intro i h1 h2
   have hi : i < l.length := by omega
   refine Ev.step (fun k => by rw [greenwoodref02_in.l0]) (Ev.ifp (by omega) (Ev.ifp (by omega) ?_))
   rw [rd_at hi, List.drop_eq_getElem_cons hi, List.contains_cons, w1b hi hn]
   by_cases e : l[i] = x
   ·refine Ev.ifp e (Ev.val ?_)
    simp [e]
   ·refine Ev.ifn e ?_
    have e' : (x == l[i]) = false := by simp; omega
    rw [e', Bool.false_or]
    exact ih (i + 1) (by omega) (by omega)
 exact key l.length 0 (by omega) (by omega)
theorem rMinus_ev (a b : List Int) (ha : mayB a = true) (hb : mayB b = true) (la : a.length ≤ 1000000) (lb : b.length ≤ 9223372036854775807) : Ev (fun k => greenwoodref02_Minus.f k a b) (minusV a b) := by
 unfold greenwoodref02_Minus.f
 have key : ∀ (d i : Nat) (acc : List Int), a.length - i = d → i ≤ a.length → acc.length ≤ i → Ev (fun k => greenwoodref02_Minus.l0 k a b acc (i : Int)) (acc ++ minusV (a.drop i) b) := by
  intro d
  induction d with
  | zero =>
   intro i acc h1 h2 h3
   refine Ev.step (fun k => by rw [greenwoodref02_Minus.l0]) (Ev.ifn (by omega) (Ev.step (fun k => by rw [greenwoodref02_Minus.j1]) (Ev.ifn (by decide) (Ev.val ?_))))
   rw [List.drop_of_length_le (by omega)]; simp [minusV]
  | succ d ih =>
   intro i acc h1 h2 h3
   have hi : i < a.length := by omega
   refine Ev.step (fun k => by rw [greenwoodref02_Minus.l0]) (Ev.ifp (by omega) (Ev.bind (ref02_May_ev a (by omega)) ?_))
   rw [ha]
   refine Ev.ifp rfl (Ev.bind (ref02_May_ev b lb) ?_)
   rw [hb]
   refine Ev.step (fun k => by rw [greenwoodref02_Minus.j1]) (Ev.ifp rfl (Ev.ifp (by omega) (Ev.ifp (by omega) ?_)))
   rw [rd_at hi, List.drop_eq_getElem_cons hi, w1 hi la]
   refine Ev.bind (rin_ev b _ lb) ?_
   cases hc : b.contains a[i] with
   | true =>
    refine Ev.ifp rfl ?_
    have e : minusV (a[i] :: a.drop (i + 1)) b = minusV (a.drop (i + 1)) b := by
     unfold minusV; rw [List.filter_cons_of_neg (by simp only [hc]; decide)]
    rw [e]
    exact ih (i + 1) acc (by omega) (by omega) (by omega)
   | false =>
    refine Ev.ifn (by decide) (Ev.ifp (by omega) ?_)
    have e : minusV (a[i] :: a.drop (i + 1)) b = a[i] :: minusV (a.drop (i + 1)) b := by
     unfold minusV; rw [List.filter_cons_of_pos (by simp only [hc]; decide)]
    rw [e]
    have := ih (i + 1) (acc ++ [a[i]]) (by omega) (by omega) (by rw [List.length_append]; simp only [List.length_cons, List.length_nil]; omega)
    simpa using this
 have := key a.length 0 [] (by omega) (by omega) (Nat.le_refl _)
 simpa using this
theorem merge_ev : ∀ (d : Nat) (a b acc : List Int), a.length + b.length = d → a.Pairwise (· < ·) → b.Pairwise (· < ·) → acc.length + a.length ≤ 1000000 →
 Ev (fun k => set_merge.l0 k a b true false false acc) (acc ++ minusV a b) := by
 intro d
 induction d using Nat.strongRecOn with
 | _ d ih =>
  intro a b acc hd ha hb hl
  refine Ev.step (fun k => by rw [set_merge.l0]) ?_
  rcases a with _ | ⟨x, a⟩
  ·refine Ev.ifn (by simp) ?_
   rcases b with _ | ⟨y, b⟩
   ·refine Ev.step (fun k => by rw [set_merge.j2]) ?_
    refine Ev.ifn (by simp) ?_
    refine Ev.val ?_
    simp [minusV]
   ·refine Ev.step (fun k => by rw [set_merge.j2]) ?_
    refine Ev.ifp (by first | omega | (simp only [List.length_cons, List.length_nil, List.length_append]; omega) | (simp only [List.length_cons, List.length_nil, List.length_append] at *; omega) | (simp; done) | (simp; omega)) ?_
    refine Ev.ifn (by first | omega | (simp only [List.length_cons, List.length_nil, List.length_append]; omega) | (simp only [List.length_cons, List.length_nil, List.length_append] at *; omega) | (simp; done) | (simp; omega)) ?_
    refine Ev.ifn (by simp) ?_
    refine Ev.step (fun k => by rw [set_merge.j3]) ?_
    refine Ev.ifn (by decide) ?_
    refine Ev.ifp (by simp) ?_
    refine Ev.step (fun k => by rw [set_merge.j4]) ?_
    refine Ev.ifp rfl ?_
    refine Ev.ifp (by first | omega | (simp only [List.length_cons, List.length_nil, List.length_append]; omega) | (simp only [List.length_cons, List.length_nil, List.length_append] at *; omega) | (simp; done) | (simp; omega)) ?_
    refine Ev.ifp (by first | omega | (simp only [List.length_cons, List.length_nil, List.length_append]; omega) | (simp only [List.length_cons, List.length_nil, List.length_append] at *; omega) | (simp; done) | (simp; omega)) ?_
    refine Ev.bnd ?_
    refine Ev.ifn (by decide) ?_
    have := ih b.length (by simp at hd; omega) [] b acc (by simp) .nil (List.pairwise_cons.1 hb).2 hl
    simpa [minusV] using this
  ·refine Ev.ifp (by first | omega | (simp only [List.length_cons, List.length_nil, List.length_append]; omega) | (simp only [List.length_cons, List.length_nil, List.length_append] at *; omega) | (simp; done) | (simp; omega)) ?_
   rw [List.pairwise_cons] at ha
   simp only [List.length_cons] at hd hl
   rcases b with _ | ⟨y, b⟩
   ·refine Ev.step (fun k => by rw [set_merge.j2]) ?_
    refine Ev.ifp rfl ?_
    refine Ev.ifp (by simp) ?_
    refine Ev.step (fun k => by rw [set_merge.j3]) ?_
    refine Ev.ifp rfl ?_
    refine Ev.ifp (by first | omega | (simp only [List.length_cons, List.length_nil, List.length_append]; omega) | (simp only [List.length_cons, List.length_nil, List.length_append] at *; omega) | (simp; done) | (simp; omega)) ?_
    refine Ev.ifp (by first | omega | (simp only [List.length_cons, List.length_nil, List.length_append]; omega) | (simp only [List.length_cons, List.length_nil, List.length_append] at *; omega) | (simp; done) | (simp; omega)) ?_
    refine Ev.bnd ?_
    refine Ev.ifp rfl ?_
    refine Ev.ifp (by omega) ?_
    have := ih a.length (by simp at hd; omega) a [] (acc ++ [x]) (by simp) ha.2 .nil (by first | omega | (simp only [List.length_cons, List.length_nil, List.length_append]; omega) | (simp only [List.length_cons, List.length_nil, List.length_append] at *; omega) | (simp; done) | (simp; omega))
    have e : minusV (x :: a) [] = x :: minusV a [] := by simp [minusV]
    rw [e]
    simpa [rd] using this
   ·rw [List.pairwise_cons] at hb
    simp only [List.length_cons] at hd
    refine Ev.step (fun k => by rw [set_merge.j2]) ?_
    refine Ev.ifp rfl ?_
    refine Ev.ifn (by first | omega | (simp only [List.length_cons, List.length_nil, List.length_append]; omega) | (simp only [List.length_cons, List.length_nil, List.length_append] at *; omega) | (simp; done) | (simp; omega)) ?_
    refine Ev.ifp (by first | omega | (simp only [List.length_cons, List.length_nil, List.length_append]; omega) | (simp only [List.length_cons, List.length_nil, List.length_append] at *; omega) | (simp; done) | (simp; omega)) ?_
    refine Ev.ifp (by first | omega | (simp only [List.length_cons, List.length_nil, List.length_append]; omega) | (simp only [List.length_cons, List.length_nil, List.length_append] at *; omega) | (simp; done) | (simp; omega)) ?_
    refine Ev.ifp (by first | omega | (simp only [List.length_cons, List.length_nil, List.length_append]; omega) | (simp only [List.length_cons, List.length_nil, List.length_append] at *; omega) | (simp; done) | (simp; omega)) ?_
    have rx : rd (x :: a) 0 = x := rfl
    have ry : rd (y :: b) 0 = y := rfl
    rw [rx, ry]
    by_cases h1 : x < y
    ·rw [decide_eq_true h1]
     refine Ev.step (fun k => by rw [set_merge.j3]) ?_
     refine Ev.ifp rfl ?_
     refine Ev.ifp (by first | omega | (simp only [List.length_cons, List.length_nil, List.length_append]; omega) | (simp only [List.length_cons, List.length_nil, List.length_append] at *; omega) | (simp; done) | (simp; omega)) ?_
     refine Ev.ifp (by first | omega | (simp only [List.length_cons, List.length_nil, List.length_append]; omega) | (simp only [List.length_cons, List.length_nil, List.length_append] at *; omega) | (simp; done) | (simp; omega)) ?_
     refine Ev.bnd ?_
     refine Ev.ifp rfl ?_
     refine Ev.ifp (by omega) ?_
     have := ih (a.length + (b.length + 1)) (by omega) a (y :: b) (acc ++ [x]) (by simp) ha.2 (List.pairwise_cons.2 hb) (by first | omega | (simp only [List.length_cons, List.length_nil, List.length_append]; omega) | (simp only [List.length_cons, List.length_nil, List.length_append] at *; omega) | (simp; done) | (simp; omega))
     have e : minusV (x :: a) (y :: b) = x :: minusV a (y :: b) := by
      unfold minusV
      rw [List.filter_cons_of_pos ?_]
      have : ∀ z ∈ b, z ≠ x := fun z hz => by have := hb.1 z hz; omega
      simp
      exact ⟨by omega, fun hz => this x hz rfl⟩
     rw [e]
     simpa [rd] using this
    ·rw [decide_eq_false h1]
     refine Ev.step (fun k => by rw [set_merge.j3]) ?_
     refine Ev.ifn (by decide) ?_
     refine Ev.ifn (by first | omega | (simp only [List.length_cons, List.length_nil, List.length_append]; omega) | (simp only [List.length_cons, List.length_nil, List.length_append] at *; omega) | (simp; done) | (simp; omega)) ?_
     refine Ev.ifp (by first | omega | (simp only [List.length_cons, List.length_nil, List.length_append]; omega) | (simp only [List.length_cons, List.length_nil, List.length_append] at *; omega) | (simp; done) | (simp; omega)) ?_
     refine Ev.ifp (by first | omega | (simp only [List.length_cons, List.length_nil, List.length_append]; omega) | (simp only [List.length_cons, List.length_nil, List.length_append] at *; omega) | (simp; done) | (simp; omega)) ?_
     rw [rx, ry]
     by_cases h2 : y < x
     ·rw [decide_eq_true h2]
      refine Ev.step (fun k => by rw [set_merge.j4]) ?_
      refine Ev.ifp rfl ?_
      refine Ev.ifp (by first | omega | (simp only [List.length_cons, List.length_nil, List.length_append]; omega) | (simp only [List.length_cons, List.length_nil, List.length_append] at *; omega) | (simp; done) | (simp; omega)) ?_
      refine Ev.ifp (by first | omega | (simp only [List.length_cons, List.length_nil, List.length_append]; omega) | (simp only [List.length_cons, List.length_nil, List.length_append] at *; omega) | (simp; done) | (simp; omega)) ?_
      refine Ev.bnd ?_
      refine Ev.ifn (by decide) ?_
      have := ih (a.length + 1 + b.length) (by omega) (x :: a) b acc (by simp) (List.pairwise_cons.2 ha) hb.2 (by first | omega | (simp only [List.length_cons, List.length_nil, List.length_append]; omega) | (simp only [List.length_cons, List.length_nil, List.length_append] at *; omega) | (simp; done) | (simp; omega))
      have e : minusV (x :: a) (y :: b) = minusV (x :: a) b := by
       unfold minusV
       apply List.filter_congr
       intro z hz
       have hne : z ≠ y := by
        rcases List.mem_cons.1 hz with e | e
        ·omega
        ·have := ha.1 z e; omega
       simp [List.contains_cons, hne]
      rw [e]
      exact this
     ·rw [decide_eq_false h2]
      have hxy : x = y := by omega
      subst hxy
      refine Ev.step (fun k => by rw [set_merge.j4]) ?_
      refine Ev.ifn (by decide) ?_
      refine Ev.ifp (by first | omega | (simp only [List.length_cons, List.length_nil, List.length_append]; omega) | (simp only [List.length_cons, List.length_nil, List.length_append] at *; omega) | (simp; done) | (simp; omega)) ?_
      refine Ev.ifp (by first | omega | (simp only [List.length_cons, List.length_nil, List.length_append]; omega) | (simp only [List.length_cons, List.length_nil, List.length_append] at *; omega) | (simp; done) | (simp; omega)) ?_
      refine Ev.bnd ?_
      refine Ev.ifp (by first | omega | (simp only [List.length_cons, List.length_nil, List.length_append]; omega) | (simp only [List.length_cons, List.length_nil, List.length_append] at *; omega) | (simp; done) | (simp; omega)) ?_
      refine Ev.bnd ?_
      refine Ev.ifn (by decide) ?_
      have := ih (a.length + b.length) (by omega) a b acc (by simp) ha.2 hb.2 (by omega)
      have e : minusV (x :: a) (x :: b) = minusV a b := by
       unfold minusV
       rw [List.filter_cons_of_neg (by simp)]
       apply List.filter_congr
       intro z hz
       have := ha.1 z hz
       have hne : z ≠ x := by omega
       simp [List.contains_cons, hne]
      rw [e]
      exact this
theorem Minus_ev (a b : List Int) (ha : mayB a = true) (hb : mayB b = true) (la : a.length ≤ 1000000) (lb : b.length ≤ 9223372036854775807) : Ev (fun k => set_Minus.f k a b) (minusV a b) := by
 unfold set_Minus.f set_merge.f
 refine Ev.bind ?_ (Ev.now _)
 refine Ev.bind (set_May_ev a (by omega)) ?_
 rw [ha]
 refine Ev.ifp rfl (Ev.bind (set_May_ev b lb) ?_)
 rw [hb]
 refine Ev.step (fun k => by rw [set_merge.j0]) (Ev.ifn (by decide) ?_)
 have := merge_ev _ a b [] rfl ((mayB_iff a).1 ha).2 ((mayB_iff b).1 hb).2 (by simp; omega)
 simpa using this

/-! ### Image -/
theorem imgO_some (l : List Int) : ∀ (s acc : List Int), (∀ x ∈ s, 0 ≤ x ∧ x < (l.length : Int)) → acc.length + s.length ≤ 1000000 → imgO l acc s = some (acc ++ s.map (rd l)) := by
 intro s
 induction s with
 | nil => intro acc _ _; simp [imgO]
 | cons x r ih =>
  intro acc h1 h2
  have h3 := h1 x (List.mem_cons_self ..)
  simp only [List.length_cons] at h2
  unfold imgO
  rw [if_pos h3.1, if_pos h3.2, if_pos (by omega), ih _ (fun y hy => h1 y (List.mem_cons_of_mem _ hy)) (by simp; omega)]
  simp
/-- the list by which a part's elements are told -/
def rowV (m : Mtr) : List Int := if m.f0 = 6 then minusV (allV (rd_T25 m.f5 0).f1) (rd_L1 m.f4 0) else rd_L1 m.f4 0
def imgV (m : Mtr) (s : List Int) : List Int × Bool := if chkN m ≠ 0 ∨ (m.f0 ≠ 5 ∧ m.f0 ≠ 6) then ([], false) else if setB s m.f1 = false then ([], false) else (s.map (rd (rowV m)), true)
theorem chkN_zero {m : Mtr} : chkN m = 0 ↔ deepV 4 m ≤ 4 ∧ chkV 4 m = true := by
 unfold chkN
 by_cases h : 4 < deepV 4 m
 ·rw [if_pos h]; exact ⟨fun h => by omega, fun h' => by omega⟩
 ·rw [if_neg h]
  cases chkV 4 m with
  | true => rw [if_pos rfl]; exact ⟨fun _ => ⟨by omega, rfl⟩, fun _ => rfl⟩
  | false => rw [if_neg (by decide)]; exact ⟨fun h => by omega, fun h => by cases h.2⟩
theorem chkV_lcl {j : Nat} {m : Mtr} (h : chkV (j + 1) m = true) : lclB m = true ∧ ∀ x ∈ m.f5, chkV j x = true := by
 unfold chkV at h
 rw [Bool.and_eq_true, List.all_eq_true] at h
 exact h
theorem part_shape {m : Mtr} (h : lclB m = true) (h56 : m.f0 = 5 ∨ m.f0 = 6) : m.f4.length = 1 ∧ m.f5.length = 1 ∧ setB (rd_L1 m.f4 0) (rd_T25 m.f5 0).f1 = true ∧ (if m.f0 = 5 then m.f1 = ((rd_L1 m.f4 0).length : Int) else m.f1 = wrap64 ((rd_T25 m.f5 0).f1 - ((rd_L1 m.f4 0).length : Int))) := by
 unfold lclB at h
 have hn : nestsB m.f0 = true := nests_iff.2 (by omega)
 rw [if_pos hn, Bool.and_eq_true] at h
 have ho := h.2
 have hl : m.f5.length = 1 := by
  apply Classical.byContradiction
  intro hl
  unfold outerB at ho
  by_cases hc : m.f3 ≠ 0 ∨ (m.f0 ≠ 7 ∧ m.f2 ≠ 0) ∨ (7 ≤ m.f0 ∧ m.f4.length ≠ 0)
  ·rw [if_pos hc] at ho; cases ho
  ·rw [if_neg hc, if_neg (show ¬ m.f0 = 9 by omega), if_neg hl] at ho; cases ho
 have e3 : m.f3 = 0 := by
  apply Classical.byContradiction
  intro e
  unfold outerB at ho
  rw [if_pos (.inl e)] at ho; cases ho
 have e2 : m.f2 = 0 := by
  apply Classical.byContradiction
  intro e
  unfold outerB at ho
  rw [if_pos (.inr (.inl ⟨by omega, e⟩))] at ho; cases ho
 rw [outer_56 h56 e3 e2 hl] at ho
 by_cases h5 : m.f0 = 5
 ·rw [if_pos h5] at ho ⊢
  simp only [Bool.and_eq_true, decide_eq_true_eq] at ho
  exact ⟨ho.1.1, hl, ho.1.2, ho.2⟩
 ·rw [if_neg h5] at ho ⊢
  simp only [Bool.and_eq_true, decide_eq_true_eq] at ho
  exact ⟨ho.1.1, hl, ho.1.2, ho.2⟩
theorem rowV_len {m : Mtr} (h : chkN m = 0) (h56 : m.f0 = 5 ∨ m.f0 = 6) : ((rowV m).length : Int) = m.f1 ∧ 0 ≤ (rd_T25 m.f5 0).f1 ∧ (rd_T25 m.f5 0).f1 ≤ 64 := by
 obtain ⟨hd, hc⟩ := chkN_zero.1 h
 obtain ⟨hl, hx⟩ := chkV_lcl hc
 obtain ⟨h4, h5, hs, hq⟩ := part_shape hl h56
 have hm : rd_T25 m.f5 0 ∈ m.f5 := by have := rd_T_at (l := m.f5) (i := 0) (by omega); rw [show ((0 : Nat) : Int) = 0 from rfl] at this; rw [this]; exact List.getElem_mem _
 have hb := chk_n (hx _ hm)
 refine ⟨?_, hb⟩
 unfold rowV
 have hpl := part_len hb.1 (by omega) hs
 by_cases h5 : m.f0 = 5
 ·rw [if_pos h5] at hq
  rw [if_neg (by omega)]; exact hq.symm
 ·rw [if_neg h5] at hq
  rw [if_pos (by omega), hpl.1, hq]
  unfold wrap64; omega
theorem setB_no {s : List Int} {n : Int} : setB s n = false ↔ (mayB s = false ∨ (0 < s.length ∧ n ≤ rd s ((s.length : Int) - 1))) := by
 unfold setB
 cases mayB s with
 | false => simp
 | true =>
  by_cases h : s.length = 0
  ·have : decide ((s.length : Int) = 0) = true := decide_eq_true (by omega)
   rw [this]; simp [h]
  ·have : decide ((s.length : Int) = 0) = false := decide_eq_false (by omega)
   rw [this]
   simp
   omega
theorem img_ev (m : Mtr) (s : List Int) (hm : OkS m) (hs : s.length ≤ 1000) : Ev (fun k => matroid_Image.f k m.f0 m.f1 m.f2 m.f3 m.f4 m.f5 s) (imgV m s) := by
 unfold matroid_Image.f imgV
 by_cases h1 : chkN m ≠ 0 ∨ (m.f0 ≠ 5 ∧ m.f0 ≠ 6)
 ·rw [if_pos h1]
  exact Ev.ifp h1 (Ev.val rfl)
 rw [if_neg h1]
 refine Ev.ifn h1 ?_
 by_cases h2 : setB s m.f1 = false
 ·rw [if_pos h2]
  exact Ev.ifp (setB_no.1 h2) (Ev.val rfl)
 rw [if_neg h2]
 refine Ev.ifn (fun h => h2 (setB_no.2 h)) ?_
 have hc : chkN m = 0 := by omega
 have h56 : m.f0 = 5 ∨ m.f0 = 6 := by omega
 obtain ⟨hd, hcv⟩ := chkN_zero.1 hc
 obtain ⟨hl, hx⟩ := chkV_lcl hcv
 obtain ⟨h4, h5, hset, hq⟩ := part_shape hl h56
 obtain ⟨hrl, hb⟩ := rowV_len hc h56
 have hn1 := chk_n hcv
 have hs2 : setB s m.f1 = true := by simpa using h2
 have hin := ((setB_iff s m.f1 (by omega)).1 hs2).1
 have him := imgO_some (rowV m) s [] (fun x hx => by rw [hrl]; exact hin x hx) (by simp; omega)
 have hL := (setB_iff _ _ (show (rd_T25 m.f5 0).f1 ≤ 1099511627776 by omega)).1 hset
 refine Ev.ifn (by omega) ?_
 by_cases h6 : m.f0 = 6
 ·refine Ev.ifp h6 (Ev.ifn (by omega) (Ev.bind (All_ev _ (by omega)) (Ev.bind (Minus_ev _ _ ?_ ?_ ?_ ?_) ?_)))
  ·exact (mayB_iff _).2 ⟨fun x hx => by have := allV_mem.1 hx; omega, allV_pw _⟩
  ·exact (mayB_iff _).2 ⟨fun x hx => by have := hL.1 x hx; omega, hL.2⟩
  ·rw [allV_len]; omega
  ·have := (part_len hb.1 (by omega) hset).2; omega
  ·have e : rowV m = minusV (allV (rd_T25 m.f5 0).f1) (rd_L1 m.f4 0) := by unfold rowV; rw [if_pos h6]
   rw [← e, him]
   exact Ev.bnd (Ev.val rfl)
 ·refine Ev.ifn h6 ?_
  have e : rowV m = rd_L1 m.f4 0 := by unfold rowV; rw [if_neg h6]
  rw [← e, him]
  exact Ev.bnd (Ev.val rfl)
theorem rimg_ev (m : Mtr) (s : List Int) (hm : OkS m) (hs : s.length ≤ 1000) : Ev (fun k => greenwoodref09_Image.f k m.f0 m.f1 m.f2 m.f3 m.f4 m.f5 s) (imgV m s) := by
 unfold greenwoodref09_Image.f imgV
 refine Ev.bind (rCheck_ev m hm) ?_
 by_cases h1 : chkN m ≠ 0 ∨ (m.f0 ≠ 5 ∧ m.f0 ≠ 6)
 ·rw [if_pos h1]
  exact Ev.ifp h1 (Ev.val rfl)
 rw [if_neg h1]
 refine Ev.ifn h1 (Ev.bind (rSet_ev s m.f1 (by omega)) ?_)
 by_cases h2 : setB s m.f1 = false
 ·rw [if_pos h2]
  exact Ev.ifp h2 (Ev.val rfl)
 rw [if_neg h2]
 refine Ev.ifn h2 ?_
 have hc : chkN m = 0 := by omega
 have h56 : m.f0 = 5 ∨ m.f0 = 6 := by omega
 obtain ⟨hd, hcv⟩ := chkN_zero.1 hc
 obtain ⟨hl, hx⟩ := chkV_lcl hcv
 obtain ⟨h4, h5, hset, hq⟩ := part_shape hl h56
 obtain ⟨hrl, hb⟩ := rowV_len hc h56
 have hn1 := chk_n hcv
 have hs2 : setB s m.f1 = true := by simpa using h2
 have hin := ((setB_iff s m.f1 (by omega)).1 hs2).1
 have him := imgO_some (rowV m) s [] (fun x hx => by rw [hrl]; exact hin x hx) (by simp; omega)
 have hL := (setB_iff _ _ (show (rd_T25 m.f5 0).f1 ≤ 1099511627776 by omega)).1 hset
 refine Ev.ifn (by omega) ?_
 by_cases h6 : m.f0 = 6
 ·refine Ev.ifp h6 (Ev.ifn (by omega) (Ev.bind (rAll_ev _ (by omega)) (Ev.bind (rMinus_ev _ _ ?_ ?_ ?_ ?_) ?_)))
  ·exact (mayB_iff _).2 ⟨fun x hx => by have := allV_mem.1 hx; omega, allV_pw _⟩
  ·exact (mayB_iff _).2 ⟨fun x hx => by have := hL.1 x hx; omega, hL.2⟩
  ·rw [allV_len]; omega
  ·have := (part_len hb.1 (by omega) hset).2; omega
  ·have e : rowV m = minusV (allV (rd_T25 m.f5 0).f1) (rd_L1 m.f4 0) := by unfold rowV; rw [if_pos h6]
   rw [← e, him]
   exact Ev.bnd (Ev.val rfl)
 ·refine Ev.ifn h6 ?_
  have e : rowV m = rd_L1 m.f4 0 := by unfold rowV; rw [if_neg h6]
  rw [← e, him]
  exact Ev.bnd (Ev.val rfl)
theorem imgV_len (m : Mtr) (s : List Int) : (imgV m s).1.length ≤ s.length := by
 unfold imgV
 split
 ·simp
 ·split
  ·simp
  ·simp

/-! ### the law -/
theorem MatroidTells_ev (m : Mtr) (s : List Int) (hm : OkS m) : Ev (fun k => greenwoodlaw09_MatroidTells.f k m.f0 m.f1 m.f2 m.f3 m.f4 m.f5 s) true := by
 unfold greenwoodlaw09_MatroidTells.f
 obtain ⟨b, hb⟩ := small_ev m hm
 refine Ev.bind hb ?_
 have hyes : ∀ r, r = true → Ev (fun k => greenwoodlaw09_MatroidTells.j0 k s true m.f0 m.f1 m.f2 m.f3 m.f4 m.f5) r := fun r hr => by
  refine Ev.step (fun k => by rw [greenwoodlaw09_MatroidTells.j0]) ?_
  refine Ev.ifp rfl ?_
  refine Ev.bnd ?_
  exact Ev.val hr.symm
 cases b with
 | false => exact Ev.ifn (by decide) (hyes _ rfl)
 | true =>
  refine Ev.ifp rfl ?_
  by_cases hs : (s.length : Int) > 100
  ·rw [decide_eq_true hs]; exact hyes _ rfl
  rw [decide_eq_false hs]
  refine Ev.step (fun k => by rw [greenwoodlaw09_MatroidTells.j0]) ?_
  refine Ev.ifn (by decide) ?_
  refine Ev.bind (img_ev m s hm (by omega)) ?_
  refine Ev.bind (rimg_ev m s hm (by omega)) ?_
  refine Ev.bnd ?_
  refine Ev.ifp rfl ?_
  refine Ev.bnd ?_
  refine Ev.bind (rCheck_ev m hm) ?_
  refine Ev.ifp rfl ?_
  refine Ev.bind (Deep_ev m hm) ?_
  refine Ev.bind (rDeep_ev m hm) ?_
  refine Ev.ifp rfl ?_
  refine Ev.bind (same_ev _ _ (by have := imgV_len m s; omega)) ?_
  rw [decide_eq_true rfl]
  refine Ev.ifp rfl ?_
  exact Ev.val (by simp)
end Go.Proofs.YtgbmlkmkfigolaaDoor.P
/- What came in, opened kind by kind: an argument's reading tells a list (of lists ..) that its cells hold. -/
namespace Go.Proofs.YtgbmlkmkfigolaaDoor.P
open Go.RowKit Go.Proofs.YtgbmlkmkfigolaaDoorW.PrintWords Go.Proofs.YtgbmlkmkfigolaaDoorW.PrintLast Go.Proofs.YtgbmlkmkfigolaaDoorW.PrintMore
set_option linter.unusedVariables false
set_option linter.unusedSimpArgs false

structure Opens (P : Program) (t : TypeId) {α : Type} (d : Kd α) (q : α → Prop) : Prop where
 sz : P.cellsOf t = d.sz
 op : ∀ {H : Type} {enc : TypeId × Value → H} {w : World} {base fuel : Nat} {held : Bool} {cs : List Value} {x : DataW H × List MemPlace}, DataW.trod enc P w base (fun _ => true) held fuel t cs = some x → ∃ a : α, d.K w a cs ∧ q a
section
variable {P : Program} {α : Type} {d : Kd α} {q : α → Prop}
theorem opens_int {t : TypeId} {k : IntKind} (ht : P.underlying t = some (.int k)) (hs : P.cellsOf t = 1) : Opens P t (Kd.int k) (fun n => (Lit.int k n).wf = true) :=
 ⟨hs, fun h => by
  obtain ⟨n, rfl, _, hw⟩ := DataW.trod_int ht h
  exact ⟨n, rfl, hw⟩⟩
theorem Opens.mono {t : TypeId} {q' : α → Prop} (h : Opens P t d q) (hq : ∀ a, q a → q' a) : Opens P t d q' :=
 ⟨h.sz, fun ht => by obtain ⟨a, hk, ha⟩ := h.op ht; exact ⟨a, hk, hq a ha⟩⟩
theorem opens_slice {t e : TypeId} (e' : Nat) (ht : P.underlying t = some (.slice e)) (hs : P.cellsOf t = 1) (h : Opens P e d q) : Opens P t (Kd.slice e' d) (fun l => l.length ≤ maxLen ∧ ∀ x ∈ l, q x) :=
 ⟨hs, fun {H enc w base fuel held cs x} htr => by
  rcases Deep.open_slice ht htr with ⟨rfl, _⟩ | ⟨a, len, cap, m, n, D, Pl, rfl, hb, hl, hm, hmm, _, hx⟩
  ·exact ⟨[], ⟨none, 0, rfl, Nat.le_refl _, Kd.C_nil d w⟩, Nat.zero_le _, fun x hx => by cases hx⟩
  ·simp only [if_true] at hmm
   have each : ∀ i, i < len → ∃ y : α, (∃ cs', w.cells? base (a.add (i * P.cellsOf e)) (P.cellsOf e) = some cs' ∧ d.K w y cs') ∧ q y := by
    intro i hi
    obtain ⟨cs', h1, h2⟩ := hx i (by omega)
    obtain ⟨y, hy, hqy⟩ := h.op h2
    exact ⟨y, ⟨cs', h1, hy⟩, hqy⟩
   by_cases h0 : len = 0
   ·subst h0
    refine ⟨[], ⟨some a, cap, rfl, Nat.zero_le _, rfl, by simp, fun h => absurd h (Nat.lt_irrefl 0)⟩, Nat.zero_le _, fun x hx => by cases hx⟩
   ·obtain ⟨y0, _, _⟩ := each 0 (by omega)
    have : Inhabited α := ⟨y0⟩
    obtain ⟨f, hf⟩ := Deep.choose_lt each
    have hlen : ((List.range len).map f).length = len := by simp
    refine ⟨(List.range len).map f, ⟨some a, cap, by rw [hlen], by rw [hlen]; exact hl, ⟨rfl, by rw [hlen]; unfold maxLen at hm; omega, fun _ => ⟨a, rfl, fun j p hj => ?_⟩⟩⟩, by rw [hlen]; omega, fun x hx => ?_⟩
    ·have hjl := (List.getElem?_eq_some_iff.1 hj).1
     rw [hlen] at hjl
     rw [List.getElem?_map, List.getElem?_range hjl] at hj
     have hj' : f j = p := by simpa using hj
     subst hj'
     obtain ⟨⟨cs', h1, h2⟩, _⟩ := hf j hjl
     obtain ⟨_, hcl, hcell⟩ := World.cells?_some h1
     refine ⟨cs', by rw [hcl, h.sz], h2, fun i u hu => ?_⟩
     have hil := (List.getElem?_eq_some_iff.1 hu).1
     have := hcell i (by omega)
     rw [Deep.add_add, hu, h.sz] at this
     exact this
    ·obtain ⟨i, hi, rfl⟩ := List.mem_map.1 hx
     exact (hf i (List.mem_range.1 hi)).2⟩
/-- an argument that is a slice -/
theorem Opens.arg {t : TypeId} {e' : Nat} (h : Opens P t (Kd.slice e' d) (fun l => l.length ≤ maxLen ∧ ∀ x ∈ l, q x)) {H : Type} {enc : TypeId × Value → H} {w : World} {base : Nat} {held : Bool} {v : Value} {dd : DataW H} {ps : List MemPlace} {a : Option Addr} {len cap : Nat} (hv : v = .slice a len cap)
 (ht : DataW.Trod enc P w base (fun _ => true) held t v dd ps) : ∃ l : List α, len = l.length ∧ l.length ≤ cap ∧ d.C w a l.length l ∧ l.length ≤ maxLen ∧ ∀ x ∈ l, q x := by
 obtain ⟨fuel, hf⟩ := ht
 obtain ⟨l, ⟨A, c, hcs, hl, hC⟩, hq1, hq2⟩ := h.op hf
 subst hv
 simp only [Value.cells] at hcs
 have hcs' : Value.slice a len cap = Value.slice A l.length c := by simpa using hcs
 injection hcs' with e1 e2 e3
 subst e1 e2 e3
 exact ⟨l, rfl, hl, hC, hq1, hq2⟩
end
end Go.Proofs.YtgbmlkmkfigolaaDoor.P
/- What a tied row's premise gives a walk: the one variable of the library's, laid; a world that meets it. (Turned from a worked proof of the kit.) -/
namespace Go.Proofs.YtgbmlkmkfigolaaDoor.P
open Go.ChangeShapes Go.WideShapes Go.RowKit
set_option linter.unusedVariables false
set_option linter.unusedSimpArgs false

theorem td_et : Tryd.prog.globalNamed "errors.errorType" = some 0 := by kernel_rfl
theorem td_rt : (Tryd.prog.cutTypes.find? (·.1 == "internal/reflectlite.rtype")).map (·.2) = some 76 := by kernel_rfl
theorem td_oneRow : ((List.range 129).filter fun t => Tryd.prog.rowNamed t [101, 114, 114, 111, 114]) = [45] := by kernel_rfl
theorem td_size : Tryd.prog.types.size = 129 := by kernel_rfl
def laidE {H : Type} : List (String × DataW H) := [("errors.errorType", Rows.laid_errors_errorType)]
theorem ev_of_laid {W : World} (h : laidMetH Tryd.prog laidE W) : EV W := by
 have h' : laidMet Tryd.prog [] W ∧ handlesMet Tryd.prog laidE W := h
 obtain ⟨name, u, ty, e1, e2, e3, e4, e5⟩ := h'.2 _ (List.mem_singleton.2 rfl)
 have en : name = [101, 114, 114, 111, 114] := (Option.some.inj e1).symm
 subst en
 obtain rfl := Option.some.inj (td_rt.symm.trans e2)
 have hm : ty ∈ (List.range 129).filter fun t => Tryd.prog.rowNamed t [101, 114, 114, 111, 114] := List.mem_filter.2 ⟨List.mem_range.2 (by rw [← td_size]; exact e3), e4⟩
 rw [td_oneRow] at hm
 obtain rfl := List.mem_singleton.1 hm
 have hh : typeHandle Tryd.prog 45 = .pointer (some ⟨1, 45, none⟩) := by kernel_rfl
 rw [hh] at e5
 have := World.var?_cell td_et e5 0
 unfold EV
 simpa using this
noncomputable def laidWorld (os : Os) : World :=
 let w0 := World.holding Tryd.prog os ⟨#[], #[], []⟩
 { w0 with heap := w0.heap.modify 0 fun
  | .cells _ t frozen => .cells #[.iface 76 (.agg #[.pointer (some ⟨1, 45, none⟩)])] t frozen
  | o => o }
theorem laidWorld_met (os : Os) (args : Array Value) : laidMetH Tryd.prog laidE ((laidWorld os).forCall (fun _ _ => 0) ⟨#[], args, []⟩).memory :=
 laidMetH_of_parts (laidMet_nil _ _) (by kernel_rfl)
end Go.Proofs.YtgbmlkmkfigolaaDoor.P
/- What came in, opened: a matroid, and what lies within it. -/
namespace Go.Proofs.YtgbmlkmkfigolaaDoor.P
open Go.RowKit Go.WideShapes Go.Proofs.YtgbmlkmkfigolaaDoorW.PrintWords Go.Proofs.YtgbmlkmkfigolaaDoorW.PrintLast Go.Proofs.YtgbmlkmkfigolaaDoorW.PrintMore
set_option linter.unusedVariables false
set_option linter.unusedSimpArgs false

section
variable {P : Program} {α : Type} {d : Kd α} {q : α → Prop}
/-- a slice opened, its elements known to open with so much fuel -/
theorem slice_at {t e : TypeId} {H : Type} {enc : TypeId × Value → H} {w : World} {base n : Nat} {held : Bool} {cs : List Value} {x : DataW H × List MemPlace} (ht : P.underlying t = some (.slice e)) (hsz : P.cellsOf e = d.sz)
 (op : ∀ m, m < n → ∀ cs' x', DataW.trod enc P w base (fun _ => true) held m e cs' = some x' → ∃ y : α, d.K w y cs' ∧ q y) (h : DataW.trod enc P w base (fun _ => true) held n t cs = some x) :
 ∃ (l : List α) (A : Option Addr) (c : Nat), cs = [.slice A l.length c] ∧ l.length ≤ c ∧ d.C w A l.length l ∧ l.length ≤ maxLen ∧ ∀ x ∈ l, q x := by
 rcases DataW.trod_slice ht h with ⟨rfl, _⟩ | ⟨a, len, cap, elems, rest, m, hn, rfl, _, hb, hl, hm, hlen, hel, _, _⟩
 ·exact ⟨[], none, 0, rfl, Nat.le_refl _, Kd.C_nil d w, Nat.zero_le _, fun x hx => by cases hx⟩
 ·have each : ∀ i, i < len → ∃ y : α, (∃ cs', w.cells? base (a.add (i * P.cellsOf e)) (P.cellsOf e) = some cs' ∧ d.K w y cs') ∧ q y := by
   intro i hi
   have h1 := hel i hi
   rw [List.getElem?_eq_getElem (by omega)] at h1
   obtain ⟨cs', h2, h3⟩ := Option.bind_eq_some_iff.mp h1
   obtain ⟨y, hy, hqy⟩ := op m (by omega) cs' _ h3
   exact ⟨y, ⟨cs', h2, hy⟩, hqy⟩
  by_cases h0 : len = 0
  ·subst h0
   exact ⟨[], some a, cap, rfl, Nat.zero_le _, ⟨rfl, by simp, fun h => absurd h (Nat.lt_irrefl 0)⟩, Nat.zero_le _, fun x hx => by cases hx⟩
  ·obtain ⟨y0, _, _⟩ := each 0 (by omega)
   have : Inhabited α := ⟨y0⟩
   obtain ⟨f, hf⟩ := Deep.choose_lt each
   have hlen' : ((List.range len).map f).length = len := by simp
   refine ⟨(List.range len).map f, some a, cap, by rw [hlen'], by rw [hlen']; exact hl, ⟨rfl, by rw [hlen']; unfold maxLen at hm; omega, fun _ => ⟨a, rfl, fun j p hj => ?_⟩⟩, by rw [hlen']; omega, fun x hx => ?_⟩
   ·have hjl := (List.getElem?_eq_some_iff.1 hj).1
    rw [hlen'] at hjl
    rw [List.getElem?_map, List.getElem?_range hjl] at hj
    have hj' : f j = p := by simpa using hj
    subst hj'
    obtain ⟨⟨cs', h1, h2⟩, _⟩ := hf j hjl
    obtain ⟨_, hcl, hcell⟩ := World.cells?_some h1
    refine ⟨cs', by rw [hcl, hsz], h2, fun i u hu => ?_⟩
    have hil := (List.getElem?_eq_some_iff.1 hu).1
    have := hcell i (by omega)
    rw [Deep.add_add, hu, hsz] at this
    exact this
   ·obtain ⟨i, hi, rfl⟩ := List.mem_map.1 hx
    exact (hf i (List.mem_range.1 hi)).2
end
theorem cells_mat : Tryd.prog.cellsOf 25 = 6 := by kernel_rfl
theorem opens_rows : Opens Tryd.prog 22 (Kd.slice 26 (Kd.slice 3 (Kd.int .i64))) (fun _ => True) :=
 (opens_slice 26 Tryd.underlying22 (by kernel_rfl) (opens_slice 3 Tryd.underlying26 (by kernel_rfl) (opens_int Tryd.underlying3 (by kernel_rfl)))).mono (fun _ _ => trivial)
set_option maxRecDepth 100000 in
theorem trod_mat {H : Type} {enc : TypeId × Value → H} {w : World} {base : Nat} {held : Bool} : ∀ (fuel : Nat) (cs : List Value) (x : DataW H × List MemPlace), DataW.trod enc Tryd.prog w base (fun _ => true) held fuel 25 cs = some x →
 ∃ (a0 a1 a2 a3 : Int) (A4 : Option Addr) (c4 : Nat) (l4 : List (List Int)) (A5 : Option Addr) (c5 : Nat) (l5 : List Mtr), cs = [.int .i64 a0, .int .i64 a1, .int .i64 a2, .int .i64 a3, .slice A4 l4.length c4, .slice A5 l5.length c5] ∧ (∀ a ∈ [a0, a1, a2, a3], (Lit.int .i64 a).wf = true) ∧ Kd.C (Kd.slice 3 (Kd.int .i64)) w A4 l4.length l4 ∧ l4.length ≤ c4 ∧ Kd.C k25 w A5 l5.length l5 ∧ l5.length ≤ c5 := by
 intro fuel
 induction fuel using Nat.strongRecOn with
 | _ fuel ih =>
  intro cs x h
  obtain ⟨xs, n, rfl, _, hl, hlen, hf⟩ := DataW.trod_struct Tryd.underlying25 h
  rw [cells_mat] at hl
  match cs, hl with
  | [v0, v1, v2, v3, v4, v5], _ =>
   match xs, hlen with
   | [y0, y1, y2, y3, y4, y5], _ =>
    have g0 : DataW.trod enc Tryd.prog w base (fun _ => true) held n 3 [v0] = some y0 := hf 0 _ rfl
    have g1 : DataW.trod enc Tryd.prog w base (fun _ => true) held n 3 [v1] = some y1 := hf 1 _ rfl
    have g2 : DataW.trod enc Tryd.prog w base (fun _ => true) held n 3 [v2] = some y2 := hf 2 _ rfl
    have g3 : DataW.trod enc Tryd.prog w base (fun _ => true) held n 3 [v3] = some y3 := hf 3 _ rfl
    have g4 : DataW.trod enc Tryd.prog w base (fun _ => true) held n 22 [v4] = some y4 := hf 4 _ rfl
    have g5 : DataW.trod enc Tryd.prog w base (fun _ => true) held n 23 [v5] = some y5 := hf 5 _ rfl
    obtain ⟨a0, e0, _, w0⟩ := DataW.trod_int Tryd.underlying3 g0
    obtain ⟨a1, e1, _, w1⟩ := DataW.trod_int Tryd.underlying3 g1
    obtain ⟨a2, e2, _, w2⟩ := DataW.trod_int Tryd.underlying3 g2
    obtain ⟨a3, e3, _, w3⟩ := DataW.trod_int Tryd.underlying3 g3
    obtain ⟨l4, ⟨A4, c4, e4, hc4, hr4⟩, _⟩ := opens_rows.op g4
    obtain ⟨l5, A5, c5, e5, hc5, hr5, _, _⟩ := slice_at (d := k25) (q := fun _ => True) Tryd.underlying23 (by rw [cells_mat]; rfl) (fun m hm cs' x' ht => by
     obtain ⟨b0, b1, b2, b3, B4, d4, k4, B5, d5, k5, rfl, _, q4, p4, q5, p5⟩ := ih m (by omega) cs' x' ht
     exact ⟨⟨b0, b1, b2, b3, k4, k5⟩, k25_mk w ⟨b0, b1, b2, b3, k4, k5⟩ p4 q4 p5 q5, trivial⟩) g5
    have e0 := List.head_eq_of_cons_eq e0
    have e1 := List.head_eq_of_cons_eq e1
    have e2 := List.head_eq_of_cons_eq e2
    have e3 := List.head_eq_of_cons_eq e3
    have e4 := List.head_eq_of_cons_eq e4
    have e5 := List.head_eq_of_cons_eq e5
    subst e0 e1 e2 e3 e4 e5
    refine ⟨a0, a1, a2, a3, A4, c4, l4, A5, c5, l5, rfl, fun a ha => ?_, hr4, hc4, hr5, hc5⟩
    simp only [List.mem_cons, List.not_mem_nil, or_false] at ha
    rcases ha with rfl | rfl | rfl | rfl <;> assumption
set_option maxRecDepth 100000 in
theorem mat_arg {r : Reach} {H : Type} {enc : TypeId × Value → H} {w W0 : World} {base b0 : Nat} {held : Bool} {v : Value} {dd : DataW H} {ps : List MemPlace} (hv : Value.okWide Tryd.prog W0 r b0 25 v)
 (ht : DataW.Trod enc Tryd.prog w base (fun _ => true) held 25 v dd ps) :
 ∃ (a0 a1 a2 a3 : Int) (A4 : Option Addr) (c4 : Nat) (l4 : List (List Int)) (A5 : Option Addr) (c5 : Nat) (l5 : List Mtr), v = .agg #[.int .i64 a0, .int .i64 a1, .int .i64 a2, .int .i64 a3, .slice A4 l4.length c4, .slice A5 l5.length c5] ∧ Kd.C (Kd.slice 3 (Kd.int .i64)) w A4 l4.length l4 ∧ l4.length ≤ c4 ∧ Kd.C k25 w A5 l5.length l5 ∧ l5.length ≤ c5 ∧ OkS ⟨a0, a1, a2, a3, l4, l5⟩ ∧ ∀ a ∈ [a0, a1, a2, a3], (Lit.int .i64 a).wf = true := by
 obtain ⟨cs, rfl, _⟩ := okWide_struct Tryd.underlying25 hv
 obtain ⟨fuel, hf⟩ := ht
 obtain ⟨a0, a1, a2, a3, A4, c4, l4, A5, c5, l5, e, hw, h4, p4, h5, p5⟩ := trod_mat fuel _ _ hf
 have e' : cs = #[.int .i64 a0, .int .i64 a1, .int .i64 a2, .int .i64 a3, .slice A4 l4.length c4, .slice A5 l5.length c5] := by
  apply Array.ext'
  exact e
 subst e'
 exact ⟨a0, a1, a2, a3, A4, c4, l4, A5, c5, l5, rfl, h4, p4, h5, p5, OkS_of (k25_mk w ⟨a0, a1, a2, a3, l4, l5⟩ p4 h4 p5 h5), hw⟩
end Go.Proofs.YtgbmlkmkfigolaaDoor.P
