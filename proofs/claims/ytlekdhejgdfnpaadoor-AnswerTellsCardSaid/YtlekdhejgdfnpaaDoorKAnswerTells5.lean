/- Texts of this claim's own repository, merged by wip/tool/pack.py: AnsRa, AnsRb, AnsR, AnsNa, AnsTl, TiedC, AnsOpn. -/
import Derived.Deep.RegionLaw
import Derived.Deep.CutRange
import Derived.Deep.CutBlock
import Derived.Test.YtlekdhejgdfnpaaDoorRows
import Derived.ChangeSame
import Derived.ChangeVars
import Derived.JoinedOf
import Derived.RowKit
import Derived.RowKitTokens
import Derived.LaidLaws
import Derived.LaidHandle
import Derived.Stop.Joined
import Derived.WideShapes
import Derived.SizedLaws
import Derived.Test.YtlekdhejgdfnpaaDoorKAnswerTells4
set_option linter.unusedVariables false
set_option linter.unusedSimpArgs false
/- Layer 23: values of the document's Check and Encode. -/
namespace Go.Proofs.YtlekdhejgdfnpaaDoor.P
open Go.RowKit Go.Proofs.YtlekdhejgdfnpaaDoorW.PrintWords Go.Proofs.YtlekdhejgdfnpaaDoorW.PrintLast Go.Proofs.YtlekdhejgdfnpaaDoorW.PrintMore
open Wr

theorem wr3 {i n : Nat} (h : i < n) (hn : n ≤ 9223372036854775807) : wrap64 ((i : Int) + 1) = ((i + 1 : Nat) : Int) := by unfold wrap64; omega
theorem few_l0 (l : List Int) (hn : l.length ≤ 9223372036854775807) : ∀ (d i : Nat), l.length - i = d → i ≤ l.length → Ev (fun k => greenwoodref23_few.l0 k l (i : Int)) (!((l.drop i).any outA) && decide ((l.length : Int) ≤ 64)) := by
 intro d
 induction d with
 | zero =>
  intro i h1 h2
  refine Ev.step (fun k => by rw [greenwoodref23_few.l0]) (Ev.ifn (by omega) (Ev.val ?_))
  rw [List.drop_of_length_le (by omega)]; rfl
 | succ d ih =>
  intro i h1 h2
  have hi : i < l.length := by omega
  refine Ev.step (fun k => by rw [greenwoodref23_few.l0]) (Ev.ifp (by omega) (Ev.ifp (by omega) ?_))
  rw [rd_at hi, List.drop_eq_getElem_cons hi, List.any_cons]
  by_cases c1 : l[i] < -562949953421312
  ·refine Ev.ifp c1 (Ev.val ?_)
   have : outA l[i] = true := by simp [outA]; omega
   rw [this]; rfl
  refine Ev.ifn c1 ?_
  by_cases c2 : l[i] > 562949953421312
  ·refine Ev.ifp c2 (Ev.val ?_)
   have : outA l[i] = true := by simp [outA]; omega
   rw [this]; rfl
  refine Ev.ifn c2 ?_
  have : outA l[i] = false := by simp [outA]; omega
  rw [this, wr3 hi hn, Bool.false_or]
  exact ih (i + 1) (by omega) (by omega)
theorem few_ev (l : List Int) (hn : l.length ≤ 9223372036854775807) : Ev (fun k => greenwoodref23_few.f k l) (fewB l) := by
 have := few_l0 l hn l.length 0 (by omega) (by omega)
 rw [List.drop_zero] at this
 unfold greenwoodref23_few.f fewB
 rw [Bool.and_comm]
 exact this
def SB (y : Spl) : Bool := fewB y.f0 && (fewB y.f1 && fewB y.f2)
def CB (c : Cut) : Bool := fewB c.f0 && fewB [c.f1]
def OkI (S U : List Int) (Se : List (List Int)) (Sp : List Spl) (Cu : List Cut) : Prop := S.length ≤ 9223372036854775807 ∧ U.length ≤ 9223372036854775807 ∧ Se.length ≤ 9223372036854775807 ∧ (∀ l ∈ Se, l.length ≤ 9223372036854775807) ∧ Sp.length ≤ 9223372036854775807 ∧ (∀ y ∈ Sp, y.f0.length ≤ 9223372036854775807 ∧ y.f1.length ≤ 9223372036854775807 ∧ y.f2.length ≤ 9223372036854775807) ∧ Cu.length ≤ 9223372036854775807 ∧ ∀ c ∈ Cu, c.f0.length ≤ 9223372036854775807
def res (b : Bool) : Int := if b = true then 0 else 230
section
variable (kd : Int) (no : Bool) (S U : List Int) (Se : List (List Int)) (Sp : List Spl) (Cu : List Cut) (h : OkI S U Se Sp Cu)
include h
theorem rchk_l2 : ∀ (d i : Nat) (b : Bool), Cu.length - i = d → i ≤ Cu.length → Ev (fun k => greenwoodref23_Check.l2 k b (i : Int) kd no S U Se Sp Cu) (res (b && (Cu.drop i).all CB)) := by
 intro d
 induction d with
 | zero =>
  intro i b h1 h2
  refine Ev.step (fun k => by rw [greenwoodref23_Check.l2]) (Ev.ifn (by omega) ?_)
  rw [List.drop_of_length_le (by omega)]
  cases b with
  | true => exact Ev.ifp rfl (Ev.val rfl)
  | false => exact Ev.ifn (by decide) (Ev.val rfl)
 | succ d ih =>
  intro i b h1 h2
  have hi : i < Cu.length := by omega
  have hn := h.2.2.2.2.2.2.1
  refine Ev.step (fun k => by rw [greenwoodref23_Check.l2]) (Ev.ifp (by omega) ?_)
  rw [List.drop_eq_getElem_cons hi, List.all_cons, wr3 hi hn, rd_43 hi]
  cases b with
  | false =>
   refine Ev.ifn (by decide) ?_
   have := ih (i + 1) false (by omega) (by omega)
   simpa using this
  | true =>
   refine Ev.ifp rfl (Ev.ifp (by omega) (Ev.bind (few_ev _ (h.2.2.2.2.2.2.2 _ (List.getElem_mem hi))) ?_))
   cases hb : fewB Cu[i].f0 with
   | true =>
    refine Ev.ifp rfl (Ev.bind (few_ev [Cu[i].f1] (by simp)) ?_)
    have e : CB Cu[i] = fewB [Cu[i].f1] := by unfold CB; rw [hb, Bool.true_and]
    rw [e, Bool.true_and]
    exact ih (i + 1) _ (by omega) (by omega)
   | false =>
    refine Ev.ifn (by decide) ?_
    have e : CB Cu[i] = false := by unfold CB; rw [hb, Bool.false_and]
    rw [e]
    have := ih (i + 1) false (by omega) (by omega)
    simpa using this
theorem rchk_l1 : ∀ (d i : Nat) (b : Bool), Sp.length - i = d → i ≤ Sp.length → Ev (fun k => greenwoodref23_Check.l1 k b (i : Int) kd no S U Se Sp Cu) (res ((b && (Sp.drop i).all SB) && Cu.all CB)) := by
 intro d
 induction d with
 | zero =>
  intro i b h1 h2
  refine Ev.step (fun k => by rw [greenwoodref23_Check.l1]) (Ev.ifn (by omega) ?_)
  rw [List.drop_of_length_le (by omega)]
  have := rchk_l2 kd no S U Se Sp Cu h Cu.length 0 b (by omega) (by omega)
  rw [List.drop_zero] at this
  rw [List.all_nil, Bool.and_true]
  exact this
 | succ d ih =>
  intro i b h1 h2
  have hi : i < Sp.length := by omega
  have hn := h.2.2.2.2.1
  refine Ev.step (fun k => by rw [greenwoodref23_Check.l1]) (Ev.ifp (by omega) ?_)
  rw [List.drop_eq_getElem_cons hi, List.all_cons, wr3 hi hn, rd_41 hi]
  have ff := ih (i + 1) false (by omega) (by omega)
  rw [Bool.false_and] at ff
  obtain ⟨q0, q1, q2⟩ := h.2.2.2.2.2.1 _ (List.getElem_mem hi)
  cases b with
  | false => exact Ev.ifn (by decide) (by simpa using ff)
  | true =>
   refine Ev.ifp rfl (Ev.ifp (by omega) (Ev.bind (few_ev _ q0) ?_))
   cases hb : fewB Sp[i].f0 with
   | false =>
    refine Ev.ifn (by decide) ?_
    have e : SB Sp[i] = false := by unfold SB; rw [hb, Bool.false_and]
    rw [e]; simpa using ff
   | true =>
    refine Ev.ifp rfl (Ev.bind (few_ev _ q1) ?_)
    cases hb1 : fewB Sp[i].f1 with
    | false =>
     refine Ev.ifn (by decide) ?_
     have e : SB Sp[i] = false := by unfold SB; rw [hb, hb1]; rfl
     rw [e]; simpa using ff
    | true =>
     refine Ev.ifp rfl (Ev.bind (few_ev _ q2) ?_)
     have e : SB Sp[i] = fewB Sp[i].f2 := by unfold SB; rw [hb, hb1]; rfl
     rw [e, Bool.true_and]
     exact ih (i + 1) _ (by omega) (by omega)
theorem rchk_l0 : ∀ (d i : Nat) (b : Bool), Se.length - i = d → i ≤ Se.length → Ev (fun k => greenwoodref23_Check.l0 k b (i : Int) kd no S U Se Sp Cu) (res (((b && (Se.drop i).all fewB) && Sp.all SB) && Cu.all CB)) := by
 intro d
 induction d with
 | zero =>
  intro i b h1 h2
  refine Ev.step (fun k => by rw [greenwoodref23_Check.l0]) (Ev.ifn (by omega) ?_)
  rw [List.drop_of_length_le (by omega)]
  have := rchk_l1 kd no S U Se Sp Cu h Sp.length 0 b (by omega) (by omega)
  rw [List.drop_zero] at this
  rw [List.all_nil, Bool.and_true]
  exact this
 | succ d ih =>
  intro i b h1 h2
  have hi : i < Se.length := by omega
  have hn := h.2.2.1
  refine Ev.step (fun k => by rw [greenwoodref23_Check.l0]) (Ev.ifp (by omega) ?_)
  rw [List.drop_eq_getElem_cons hi, List.all_cons, wr3 hi hn, rdL hi]
  cases b with
  | false =>
   refine Ev.ifn (by decide) ?_
   have := ih (i + 1) false (by omega) (by omega)
   simpa using this
  | true =>
   refine Ev.ifp rfl (Ev.ifp (by omega) (Ev.bind (few_ev _ (h.2.2.2.1 _ (List.getElem_mem hi))) ?_))
   have := ih (i + 1) (fewB Se[i]) (by omega) (by omega)
   rw [Bool.true_and]
   exact this
theorem rchk_j0 (b : Bool) : Ev (fun k => greenwoodref23_Check.j0 k b kd no S U Se Sp Cu) (res (((b && Se.all fewB) && Sp.all SB) && Cu.all CB)) := by
 have := rchk_l0 kd no S U Se Sp Cu h Se.length 0 b (by omega) (by omega)
 rw [List.drop_zero] at this
 exact Ev.step (fun k => by rw [greenwoodref23_Check.j0]; rfl) this
omit h in
theorem few_iff (l : List Int) : fewB l = true ↔ LP l := by
 rw [← few_LP]
 unfold badA
 cases fewB l <;> simp
omit h in
theorem okAns_B : okAns kd S U Se Sp Cu = ((((decide (0 ≤ kd) && (decide (kd ≤ 5) && (fewB S && (fewB U && (decide ((Se.length : Int) ≤ 200) && (decide ((Sp.length : Int) ≤ 65) && decide ((Cu.length : Int) ≤ 200))))))) && Se.all fewB) && Sp.all SB) && Cu.all CB) := by
 have e : okAns kd S U Se Sp Cu = true ↔ ((((decide (0 ≤ kd) && (decide (kd ≤ 5) && (fewB S && (fewB U && (decide ((Se.length : Int) ≤ 200) && (decide ((Sp.length : Int) ≤ 65) && decide ((Cu.length : Int) ≤ 200))))))) && Se.all fewB) && Sp.all SB) && Cu.all CB) = true := by
  rw [show okAns kd S U Se Sp Cu = okV (mkV kd false S U Se Sp Cu) from rfl, ok_iff]
  simp only [Bool.and_eq_true, decide_eq_true_eq, List.all_eq_true, SB, CB, few_iff]
  have h1 : ∀ n : Int, LP [n] ↔ IntP n := fun n => ⟨fun h => h.2 n (by simp), fun h => ⟨by simp, fun z hz => by rw [List.mem_singleton.1 hz]; exact h⟩⟩
  simp only [h1]
  constructor
  ·rintro ⟨⟨a, b⟩, c, d, ⟨e, f⟩, ⟨g, i⟩, j, k⟩
   exact ⟨⟨⟨⟨a, by have : kd < 6 := b; omega, c, d, e, g, j⟩, f⟩, i⟩, k⟩
  ·rintro ⟨⟨⟨⟨a, b, c, d, e, g, j⟩, f⟩, i⟩, k⟩
   exact ⟨⟨a, show kd < 6 by omega⟩, c, d, ⟨e, f⟩, ⟨g, i⟩, j, k⟩
 cases ho : okAns kd S U Se Sp Cu with
 | true => exact (e.1 ho).symm
 | false =>
  cases hb : ((((decide (0 ≤ kd) && (decide (kd ≤ 5) && (fewB S && (fewB U && (decide ((Se.length : Int) ≤ 200) && (decide ((Sp.length : Int) ≤ 65) && decide ((Cu.length : Int) ≤ 200))))))) && Se.all fewB) && Sp.all SB) && Cu.all CB) with
  | false => rfl
  | true => rw [e.2 hb] at ho; cases ho
theorem refCheck_ev : Ev (fun k => greenwoodref23_Check.f k kd no S U Se Sp Cu) (if okAns kd S U Se Sp Cu = true then 0 else 230) := by
 rw [okAns_B]
 have ff := rchk_j0 kd no S U Se Sp Cu h false
 rw [Bool.false_and, Bool.false_and, Bool.false_and] at ff
 have ff' : Ev (fun k => greenwoodref23_Check.j0 k false kd no S U Se Sp Cu) 230 := ff
 unfold greenwoodref23_Check.f
 by_cases c0 : 0 ≤ kd
 ·rw [decide_eq_true c0, Bool.true_and]
  refine Ev.ifp c0 ?_
  by_cases c1 : kd ≤ 5
  ·rw [decide_eq_true c1, Bool.true_and]
   refine Ev.ifp c1 (Ev.bind (few_ev S h.1) ?_)
   cases hS : fewB S with
   | false => simp only [Bool.false_and]; exact Ev.ifn (by decide) ff'
   | true =>
    refine Ev.ifp rfl (Ev.bind (few_ev U h.2.1) ?_)
    cases hU : fewB U with
    | false => simp only [Bool.false_and, Bool.true_and]; exact Ev.ifn (by decide) ff'
    | true =>
     rw [Bool.true_and, Bool.true_and]
     refine Ev.ifp rfl ?_
     by_cases c2 : (Se.length : Int) ≤ 200
     ·rw [decide_eq_true c2, Bool.true_and]
      refine Ev.ifp c2 ?_
      by_cases c3 : (Sp.length : Int) ≤ 65
      ·rw [decide_eq_true c3, Bool.true_and]
       exact Ev.ifp c3 (rchk_j0 kd no S U Se Sp Cu h _)
      ·rw [decide_eq_false c3]; simp only [Bool.false_and]; exact Ev.ifn c3 ff'
     ·rw [decide_eq_false c2]; simp only [Bool.false_and]; exact Ev.ifn c2 ff'
  ·rw [decide_eq_false c1]; simp only [Bool.false_and]; exact Ev.ifn c1 ff'
 ·rw [decide_eq_false c0]; simp only [Bool.false_and]; exact Ev.ifn c0 ff'
end
/-! ### Encode -/
def QE (y : Spl) : List Int := encL encI y.f0 ++ encL encI y.f1 ++ encL encI y.f2
def WE (c : Cut) : List Int := encL encI c.f0 ++ encI c.f1
theorem encL_64 (l : List Int) (h : l.length ≤ 64) : (encL encI l).length ≤ 520 := by
 have := encA_len encI encI_len l (encN (l.length : Int))
 have h2 := encN_len (l.length : Int)
 unfold encL
 omega
theorem sz_app {a b : List Int} (h : a.length + b.length ≤ 1000000000) : (strOfNums a).size + (strOfNums b).size ≤ 9223372036854775807 := by rw [size_sn, size_sn]; omega
section
variable (kd : Int) (no : Bool) (S U : List Int) (Se : List (List Int)) (Sp : List Spl) (Cu : List Cut)
theorem renc_l2 (hc : Cu.length ≤ 200) (h64 : ∀ c ∈ Cu, c.f0.length ≤ 64) : ∀ (d i : Nat) (acc : List Int), Cu.length - i = d → i ≤ Cu.length → acc.length + 528 * d ≤ 100000000 → Ev (fun k => greenwoodref23_Encode.l2 k (strOfNums acc) (i : Int) kd no S U Se Sp Cu) (strOfNums (acc ++ (Cu.drop i).flatMap WE)) := by
 intro d
 induction d with
 | zero =>
  intro i acc h1 h2 h3
  refine Ev.step (fun k => by rw [greenwoodref23_Encode.l2]) (Ev.ifn (by omega) (Ev.val ?_))
  rw [List.drop_of_length_le (by omega)]; simp
 | succ d ih =>
  intro i acc h1 h2 h3
  have hi : i < Cu.length := by omega
  have l1 := encL_64 _ (h64 _ (List.getElem_mem hi))
  have l2 := encI_len Cu[i].f1
  have hin := h64 _ (List.getElem_mem hi)
  refine Ev.step (fun k => by rw [greenwoodref23_Encode.l2]) (Ev.ifp (by omega) (Ev.ifp (by omega) ?_))
  rw [rd_43 hi]
  refine Ev.bind (rints_ev Cu[i].f0 (by omega)) ?_
  refine Ev.bind (rint_ev Cu[i].f1) ?_
  refine Ev.ifp (sz_app (by omega)) ?_
  rw [sn_app]
  refine Ev.ifp (sz_app (by rw [List.length_append]; omega)) ?_
  rw [sn_app, wr1 hi (by omega), List.drop_eq_getElem_cons hi, List.flatMap_cons, show acc ++ (WE Cu[i] ++ (Cu.drop (i + 1)).flatMap WE) = (acc ++ (encL encI Cu[i].f0 ++ encI Cu[i].f1)) ++ (Cu.drop (i + 1)).flatMap WE by simp [WE]]
  refine ih (i + 1) _ (by omega) (by omega) ?_
  simp only [List.length_append]; omega
theorem renc_l1 (hp : Sp.length ≤ 65) (h64p : ∀ y ∈ Sp, y.f0.length ≤ 64 ∧ y.f1.length ≤ 64 ∧ y.f2.length ≤ 64) (hc : Cu.length ≤ 200) (h64 : ∀ c ∈ Cu, c.f0.length ≤ 64) : ∀ (d i : Nat) (acc : List Int), Sp.length - i = d → i ≤ Sp.length → acc.length + 1560 * d ≤ 10000000 →
 Ev (fun k => greenwoodref23_Encode.l1 k (strOfNums acc) (i : Int) kd no S U Se Sp Cu) (strOfNums ((acc ++ (Sp.drop i).flatMap QE) ++ encN (Cu.length : Int) ++ Cu.flatMap WE)) := by
 intro d
 induction d with
 | zero =>
  intro i acc h1 h2 h3
  have hz := encN_len (Cu.length : Int)
  refine Ev.step (fun k => by rw [greenwoodref23_Encode.l1]) (Ev.ifn (by omega) ?_)
  refine Ev.bind (rnum_ev _) ?_
  refine Ev.ifp (sz_app (by omega)) ?_
  rw [sn_app, List.drop_of_length_le (by omega), List.flatMap_nil, List.append_nil]
  have := renc_l2 kd no S U Se Sp Cu hc h64 Cu.length 0 (acc ++ encN (Cu.length : Int)) (by omega) (by omega) (by rw [List.length_append]; omega)
  rw [List.drop_zero] at this
  exact this
 | succ d ih =>
  intro i acc h1 h2 h3
  have hi : i < Sp.length := by omega
  obtain ⟨q0, q1, q2⟩ := h64p _ (List.getElem_mem hi)
  have l0 := encL_64 _ q0
  have l1 := encL_64 _ q1
  have l2 := encL_64 _ q2
  refine Ev.step (fun k => by rw [greenwoodref23_Encode.l1]) (Ev.ifp (by omega) (Ev.ifp (by omega) ?_))
  rw [rd_41 hi]
  refine Ev.bind (rints_ev Sp[i].f0 (by omega)) ?_
  refine Ev.bind (rints_ev Sp[i].f1 (by omega)) ?_
  refine Ev.ifp (sz_app (by omega)) ?_
  refine Ev.bind (rints_ev Sp[i].f2 (by omega)) ?_
  rw [sn_app]
  refine Ev.ifp (sz_app (by rw [List.length_append]; omega)) ?_
  rw [sn_app]
  refine Ev.ifp (sz_app (by rw [List.length_append, List.length_append]; omega)) ?_
  rw [sn_app, wr1 hi (by omega), List.drop_eq_getElem_cons hi, List.flatMap_cons, show acc ++ (QE Sp[i] ++ (Sp.drop (i + 1)).flatMap QE) = (acc ++ ((encL encI Sp[i].f0 ++ encL encI Sp[i].f1) ++ encL encI Sp[i].f2)) ++ (Sp.drop (i + 1)).flatMap QE by simp [QE]]
  refine ih (i + 1) _ (by omega) (by omega) ?_
  simp only [List.length_append]; omega
theorem renc_l0 (he : Se.length ≤ 200) (h64e : ∀ l ∈ Se, l.length ≤ 64) (hp : Sp.length ≤ 65) (h64p : ∀ y ∈ Sp, y.f0.length ≤ 64 ∧ y.f1.length ≤ 64 ∧ y.f2.length ≤ 64) (hc : Cu.length ≤ 200) (h64 : ∀ c ∈ Cu, c.f0.length ≤ 64) : ∀ (d i : Nat) (acc : List Int), Se.length - i = d → i ≤ Se.length → acc.length + 520 * d ≤ 1000000 →
 Ev (fun k => greenwoodref23_Encode.l0 k (strOfNums acc) (i : Int) kd no S U Se Sp Cu) (strOfNums (((acc ++ (Se.drop i).flatMap (encL encI)) ++ encN (Sp.length : Int) ++ Sp.flatMap QE) ++ encN (Cu.length : Int) ++ Cu.flatMap WE)) := by
 intro d
 induction d with
 | zero =>
  intro i acc h1 h2 h3
  have hz := encN_len (Sp.length : Int)
  refine Ev.step (fun k => by rw [greenwoodref23_Encode.l0]) (Ev.ifn (by omega) ?_)
  refine Ev.bind (rnum_ev _) ?_
  refine Ev.ifp (sz_app (by omega)) ?_
  rw [sn_app, List.drop_of_length_le (by omega), List.flatMap_nil, List.append_nil]
  have := renc_l1 kd no S U Se Sp Cu hp h64p hc h64 Sp.length 0 (acc ++ encN (Sp.length : Int)) (by omega) (by omega) (by rw [List.length_append]; omega)
  rw [List.drop_zero] at this
  exact this
 | succ d ih =>
  intro i acc h1 h2 h3
  have hi : i < Se.length := by omega
  have q0 := h64e _ (List.getElem_mem hi)
  have l0 := encL_64 _ q0
  refine Ev.step (fun k => by rw [greenwoodref23_Encode.l0]) (Ev.ifp (by omega) (Ev.ifp (by omega) ?_))
  rw [rdL hi]
  refine Ev.bind (rints_ev Se[i] (by omega)) ?_
  refine Ev.ifp (sz_app (by omega)) ?_
  rw [sn_app, wr1 hi (by omega), List.drop_eq_getElem_cons hi, List.flatMap_cons, ← List.append_assoc acc]
  refine ih (i + 1) _ (by omega) (by omega) ?_
  simp only [List.length_append]; omega
theorem refEncode_ev (h : OkI S U Se Sp Cu) : Ev (fun k => greenwoodref23_Encode.f k kd no S U Se Sp Cu) (strOfNums (if okAns kd S U Se Sp Cu = true then encAns kd no S U Se Sp Cu else [])) := by
 unfold greenwoodref23_Encode.f
 have hck := refCheck_ev kd no S U Se Sp Cu h
 cases ho : okAns kd S U Se Sp Cu with
 | false =>
  rw [ho, if_neg (by decide)] at hck
  rw [if_neg (by decide)]
  exact Ev.bind hck (Ev.ifn (by decide) (Ev.val rfl))
 | true =>
  rw [ho, if_pos rfl] at hck
  rw [if_pos rfl]
  refine Ev.bind hck (Ev.ifp rfl ?_)
  obtain ⟨-, h2, h3, ⟨h4, h5⟩, ⟨h6, h7⟩, h8, h9⟩ := (ok_iff (mkV kd no S U Se Sp Cu)).1 ho
  have k2 : S.length ≤ 64 := h2.1
  have k3 : U.length ≤ 64 := h3.1
  have k4 : (Se.length : Int) ≤ 200 := h4
  have k6 : (Sp.length : Int) ≤ 65 := h6
  have k8 : (Cu.length : Int) ≤ 200 := h8
  have m1 := encN_len kd
  have m3 := encL_64 S k2
  have m4 := encL_64 U k3
  have m5 := encN_len (Se.length : Int)
  have go : ∀ (n : Int) (hn : n = if no = true then 1 else 0), Ev (fun k => greenwoodref23_Encode.j0 k n kd no S U Se Sp Cu) (strOfNums (encAns kd no S U Se Sp Cu)) := by
   intro n hn
   have m2 := encN_len n
   refine Ev.step (fun k => by rw [greenwoodref23_Encode.j0]) ?_
   refine Ev.bind (rnum_ev kd) ?_
   refine Ev.bind (rnum_ev n) ?_
   refine Ev.ifp (sz_app (by omega)) ?_
   refine Ev.bind (rints_ev S (by omega)) ?_
   rw [sn_app]
   refine Ev.ifp (sz_app (by rw [List.length_append]; omega)) ?_
   refine Ev.bind (rints_ev U (by omega)) ?_
   rw [sn_app]
   refine Ev.ifp (sz_app (by rw [List.length_append, List.length_append]; omega)) ?_
   refine Ev.bind (rnum_ev _) ?_
   rw [sn_app]
   refine Ev.ifp (sz_app (by rw [List.length_append, List.length_append, List.length_append]; omega)) ?_
   rw [sn_app]
   have := renc_l0 kd no S U Se Sp Cu (by omega) (fun l hl => (h5 l hl).1) (by omega) (fun y hy => ⟨(h7 y hy).1.1, (h7 y hy).2.1.1, (h7 y hy).2.2.1⟩) (by omega) (fun c hc => (h9 c hc).1.1) Se.length 0 ((((encN kd ++ encN n) ++ encL encI S) ++ encL encI U) ++ encN (Se.length : Int)) (by omega) (by omega) (by simp only [List.length_append]; omega)
   rw [List.drop_zero] at this
   have e : encAns kd no S U Se Sp Cu = ((((((((encN kd ++ encN n) ++ encL encI S) ++ encL encI U) ++ encN (Se.length : Int)) ++ Se.flatMap (encL encI)) ++ encN (Sp.length : Int) ++ Sp.flatMap QE) ++ encN (Cu.length : Int)) ++ Cu.flatMap WE) := by
    unfold encAns listsB
    rw [← hn]
    have e1 : (fun y : Spl => [y.f0, y.f1, y.f2].flatMap (encL encI)) = QE := by funext y; simp [QE]
    have e2 : (fun c : Cut => [c.f0].flatMap (encL encI) ++ encI c.f1) = WE := by funext c; simp [WE]
    rw [e1, e2]
    simp [List.append_assoc]
   rw [e]
   exact this
  by_cases hb : no = true
  ·exact Ev.ifp hb (go 1 (by rw [if_pos hb]))
  ·exact Ev.ifn hb (go 0 (by rw [if_neg hb]))
end
end Go.Proofs.YtlekdhejgdfnpaaDoor.P
/- the document's Decode: what its walk stands on. -/
namespace Go.Proofs.YtlekdhejgdfnpaaDoor.P
open Go.RowKit Go.Proofs.YtlekdhejgdfnpaaDoorW.PrintWords Go.Proofs.YtlekdhejgdfnpaaDoorW.PrintLast Go.Proofs.YtlekdhejgdfnpaaDoorW.PrintMore
open Wr

theorem numF_zero {S : List Int} {st : St} (h : (numF S st).2.2 ≠ none) : (numF S st).1 = 0 := by
 obtain ⟨p, er⟩ := st
 cases er with
 | some pc => rfl
 | none =>
  by_cases hc : (tk S p).2.2 = 0
  ·simp [numF, hc] at h
  ·simp [numF, hc]
theorem refcount (s : ByteArray) (st : St) (most : Int) (hs : s.size ≤ 1000000000) (ho : Ok s st) : Ev (fun k => greenwoodref23_count.f k s (sa st) (se st) most) ((countF (bytesOf s) most st).1, s, sa (countF (bytesOf s) most st).2, se (countF (bytesOf s) most st).2) := by
 unfold greenwoodref23_count.f
 refine Ev.bind (refnum s st hs ho) ?_
 have ho' := refnum_ok ho
 have hz : (numF (bytesOf s) st).2.2 ≠ none → (numF (bytesOf s) st).1 = 0 := numF_zero
 have hno : (numF (bytesOf s) st).2.2 = none → st.2 = none := numF_none
 unfold countF
 obtain ⟨n, st', hn⟩ : ∃ n st', numF (bytesOf s) st = (n, st') := ⟨_, _, rfl⟩
 rw [hn] at ho' hz hno ⊢
 dsimp only at ho' hz hno ⊢
 by_cases h1 : st'.2 = none
 ·have e0 : se st' = 0 := (se_none ho').2 h1
  refine Ev.ifp e0 ?_
  by_cases h2 : n > most
  ·rw [decide_eq_true h2, if_pos ⟨h1, h2⟩]
   refine Ev.step (fun k => by rw [greenwoodref23_count.j0]) ?_
   refine Ev.ifp rfl (Ev.ifn (by decide) (Ev.val ?_))
   have : sa st = (st.1 : Int) := by
    obtain ⟨p, er⟩ := st
    obtain rfl : er = none := hno h1
    rfl
   rw [this]; rfl
  ·rw [decide_eq_false h2, if_neg (fun h => h2 h.2)]
   refine Ev.step (fun k => by rw [greenwoodref23_count.j0]) ?_
   exact Ev.ifn (by decide) (Ev.ifp e0 (Ev.val rfl))
 ·have e0 : ¬ se st' = 0 := fun h => h1 ((se_none ho').1 h)
  refine Ev.ifn e0 ?_
  rw [if_neg (fun h => h1 h.1)]
  refine Ev.step (fun k => by rw [greenwoodref23_count.j0]) ?_
  refine Ev.ifn (by decide) (Ev.ifn e0 (Ev.val ?_))
  rw [hz h1]
abbrev ISR (w0 W : World) (g : Nat) (s : ByteArray) (st : St) : Prop := IsS55 w0 W g s (sa st) (se st)
section
variable {w0 W : World} {g : Nat} {s : ByteArray} {st : St}
theorem rnum_s (hI : ISR w0 W g s st) (hB : Below w0.heap.size w0 W) (ho : Ok s st) (hs : s.size ≤ 1000000000) : Calls Tryd.prog 19 #[.pointer (some ⟨g, 0, none⟩)] W fun e w' => e = .returned (.int .i64 (numF (bytesOf s) st).1) ∧ ISR w0 w' g s (numF (bytesOf s) st).2 ∧ Below w0.heap.size w0 w' ∧ Kept W w' (fun k => k = g) := by
 obtain ⟨k, hk⟩ := (refnum s st hs ho).rounds
 refine (greenwoodref01_Reader_Num.calls k g s (sa st) (se st) _ _ _ _ w0 W hI hB hk).mono ?_
 rintro e w' ⟨rfl, h1, h2, h3⟩
 exact ⟨rfl, h1, h2, Kept.of_keep (Kept.refl W _) h3 (.inl rfl)⟩
theorem rint_s (hI : ISR w0 W g s st) (hB : Below w0.heap.size w0 W) (ho : Ok s st) (hs : s.size ≤ 1000000000) : Calls Tryd.prog 22 #[.pointer (some ⟨g, 0, none⟩)] W fun e w' => e = .returned (.int .i64 (intF (bytesOf s) st).1) ∧ ISR w0 w' g s (intF (bytesOf s) st).2 ∧ Below w0.heap.size w0 w' ∧ Kept W w' (fun k => k = g) := by
 obtain ⟨k, hk⟩ := (refint s st hs ho).rounds
 refine (greenwoodref01_Reader_Int.calls k g s (sa st) (se st) _ _ _ _ w0 W hI hB hk).mono ?_
 rintro e w' ⟨rfl, h1, h2, h3⟩
 exact ⟨rfl, h1, h2, Kept.of_keep (Kept.refl W _) h3 (.inl rfl)⟩
theorem rlst_s (hI : ISR w0 W g s st) (hB : Below w0.heap.size w0 W) (ho : Ok s st) (hs : s.size ≤ 1000000000) : Calls Tryd.prog 20 #[.pointer (some ⟨g, 0, none⟩), .int .i64 64] W fun e w' => ∃ v, e = .returned v ∧ (Kd.int .i64).R 3 w' W.heap.size (fun k => k < w'.heap.size) v (lstF (bytesOf s) st).1 ∧ ISR w0 w' g s (lstF (bytesOf s) st).2 ∧ Below w0.heap.size w0 w' ∧ Kept W w' (fun k => k = g) := by
 obtain ⟨k, hk⟩ := (refints s st 64 hs ho).rounds
 refine (greenwoodref01_Reader_Ints.calls k g s (sa st) (se st) 64 _ _ _ _ w0 W hI hB hk).mono ?_
 rintro e w' ⟨v, rfl, h0, h1, h2, h3⟩
 exact ⟨v, rfl, Kd.R_mono (Kd.R_bound h0) (fun k hk => hk.2.2.1), h1, h2, Kept.of_keep (Kept.refl W _) h3 (.inl rfl)⟩
theorem rcnt_s (most : Int) (hI : ISR w0 W g s st) (hB : Below w0.heap.size w0 W) (ho : Ok s st) (hs : s.size ≤ 1000000000) : Calls Tryd.prog 21 #[.pointer (some ⟨g, 0, none⟩), .int .i64 most] W fun e w' => e = .returned (.int .i64 (countF (bytesOf s) most st).1) ∧ ISR w0 w' g s (countF (bytesOf s) most st).2 ∧ Below w0.heap.size w0 w' ∧ Kept W w' (fun k => k = g) := by
 obtain ⟨k, hk⟩ := (refcount s st most hs ho).rounds
 refine (greenwoodref23_count.calls k g s (sa st) (se st) most _ _ _ _ w0 W hI hB hk).mono ?_
 rintro e w' ⟨rfl, h1, h2, h3⟩
 exact ⟨rfl, h1, h2, Kept.of_keep (Kept.refl W _) h3 (.inl rfl)⟩
theorem rend_s (hI : ISR w0 W g s st) (hB : Below w0.heap.size w0 W) (ho : Ok s st) : Calls Tryd.prog 23 #[.pointer (some ⟨g, 0, none⟩)] W fun e w' => e = .returned (.tuple #[.int .i64 (endF (bytesOf s) st).1, .int .i64 (endF (bytesOf s) st).2]) ∧ ISR w0 w' g s st ∧ Below w0.heap.size w0 w' ∧ Kept W w' (fun k => k = g) := by
 refine (greenwoodref01_Reader_End.calls g s (sa st) (se st) _ _ _ _ _ w0 W hI hB (refend s st ho)).mono ?_
 rintro e w' ⟨rfl, h1, h2, h3⟩
 exact ⟨rfl, h1, h2, Kept.of_keep (Kept.refl W _) h3 (.inl rfl)⟩
end
/-! ### what stands -/
structure DR (w0 W : World) (g R0 n1 n2 : Nat) (s : ByteArray) (st : St) (vS vU : Value) (S U : List Int) : Prop where
 rr : ISR w0 W g s st
 ok : Ok s st
 bel : Below w0.heap.size w0 W
 wR : w0.heap.size ≤ R0
 res : W.heap[R0]? = some (.cells #[.int .i64 0, .bool false, .slice none 0 0, .slice none 0 0, .slice none 0 0, .slice none 0 0, .slice none 0 0] 27 (0, 0))
 rS : (Kd.int .i64).R 3 W w0.heap.size (fun k => k < n1) vS S
 rU : (Kd.int .i64).R 3 W n1 (fun k => k < n2) vU U
 ln0 : w0.heap.size ≤ n1
 ln1 : n1 ≤ n2
 ln2 : n2 ≤ W.heap.size
section
variable {w0 W W1 : World} {g R0 n1 n2 : Nat} {s : ByteArray} {st st1 : St} {vS vU : Value} {S U : List Int} {K : Nat → Prop}
theorem DR.keep (h : DR w0 W g R0 n1 n2 s st vS vU S U) (hk : Kept W W1 K) (hb : Below w0.heap.size W W1) (hR : ¬ K R0)
 (ht : ∀ k c t, K k → W.heap[k]? = some (.cells c t (0, 0)) → t ≠ 3 ∧ t ≠ 55) : DR w0 W1 g R0 n1 n2 s st vS vU S U where
 rr := IsS55.kept h.rr hk (fun hK => (ht g _ _ hK h.rr.1).2 rfl)
 ok := h.ok
 bel := h.bel.trans hb
 wR := h.wR
 res := (hk.2 R0 (blk_lt h.res) hR).trans h.res
 rS := R_K h.rS hk (fun k c t a b q hq e => by obtain rfl := int_E hq; exact (ht k c t a b).1 e.symm)
 rU := R_K h.rU hk (fun k c t a b q hq e => by obtain rfl := int_E hq; exact (ht k c t a b).1 e.symm)
 ln0 := h.ln0
 ln1 := h.ln1
 ln2 := Nat.le_trans h.ln2 hk.1
theorem DR.gt (h : DR w0 W g R0 n1 n2 s st vS vU S U) {k : Nat} {c : Array Value} {t : TypeId} (e : k = g) (hc : W.heap[k]? = some (.cells c t (0, 0))) : t = 55 := by
 subst e; exact blk_t hc h.rr.1
theorem DR.call (h : DR w0 W g R0 n1 n2 s st vS vU S U) (hr : ISR w0 W1 g s st1) (ho : Ok s st1) (hb : Below w0.heap.size w0 W1) (hk : Kept W W1 (fun k => k = g)) : DR w0 W1 g R0 n1 n2 s st1 vS vU S U where
 rr := hr
 ok := ho
 bel := hb
 wR := h.wR
 res := (hk.2 R0 (blk_lt h.res) (fun hK => absurd (h.gt hK h.res) (by decide))).trans h.res
 rS := R_K h.rS hk (fun k c t a b q hq e => by obtain rfl := int_E hq
                                               subst e; exact absurd (h.gt a b) (by decide))
 rU := R_K h.rU hk (fun k c t a b q hq e => by obtain rfl := int_E hq
                                               subst e; exact absurd (h.gt a b) (by decide))
 ln0 := h.ln0
 ln1 := h.ln1
 ln2 := Nat.le_trans h.ln2 hk.1
theorem DR.below (h : DR w0 W g R0 n1 n2 s st vS vU S U) (hb : Below W.heap.size W W1) : DR w0 W1 g R0 n1 n2 s st vS vU S U :=
 h.keep (K := fun _ => False) (Kept.of_below hb _) (hb.mono h.bel.size) (fun hk => hk) (fun _ _ _ hk => hk.elim)
theorem DR.keepX {X : Nat} {c : Array Value} {t : TypeId} (h : DR w0 W g R0 n1 n2 s st vS vU S U) (hR : R0 ≠ X) (hbx : W.heap[X]? = some (.cells c t (0, 0))) (ht : t = 27 ∨ t = 43 ∨ t = 41)
 (hk : Kept W W1 (fun k => k = X)) (hb : Below w0.heap.size W W1) : DR w0 W1 g R0 n1 n2 s st vS vU S U :=
 h.keep hk hb hR (fun k c' t' a b => by subst a; obtain rfl := blk_t hbx b; rcases ht with rfl | rfl | rfl <;> decide)
theorem DR.growS {α : Type} {d : Kd α} {e b : Nat} {ok : Nat → Prop} {v : Value} {xs : List α} (h : DR w0 W g R0 n1 n2 s st vS vU S U) (hS : Kd.S d e W b ok v xs) (hg : W.grownBy W1 v.ownBlock) (hb : w0.heap.size ≤ b)
 (he : e = 22 ∨ e = 41 ∨ e = 43) : DR w0 W1 g R0 n1 n2 s st vS vU S U := by
 have hk : Kept W W1 (fun k => v.ownBlock = some k) := Kept.of_grown hg (Kept.refl _ _) (fun k e => .inl e)
 have ht : ∀ k c t, v.ownBlock = some k → W.heap[k]? = some (.cells c t (0, 0)) → t = e := fun k c t hk hc => by
  obtain ⟨c', hc'⟩ := Kd.S_typed hS k hk
  exact blk_t hc hc'
 refine h.keep hk ((Below.refl _ _).grown hg h.bel.size (fun k e => Nat.le_trans hb (Kd.S_base hS k e))) (fun hK => ?_) (fun k c t a b => ?_)
 ·have := ht R0 _ _ hK h.res
  rcases he with he | he | he <;> rw [he] at this <;> exact absurd this (by decide)
 ·have := ht k c t a b
  subst this
  rcases he with he | he | he <;> rw [he] <;> decide
theorem S_g {α : Type} {d : Kd α} {e b : Nat} {ok : Nat → Prop} {v : Value} {xs : List α} (h : Kd.S d e W b ok v xs) (hd : DR w0 W g R0 n1 n2 s st vS vU S U) (hk : Kept W W1 (fun k => k = g)) (ht : ∀ q ∈ e :: d.E, q ≠ 55) : Kd.S d e W1 b ok v xs :=
 S_K h hk (fun k c t a b q hq e => by rw [hd.gt a b] at e; exact ht q hq e)
theorem R_g {b : Nat} {ok : Nat → Prop} {v : Value} {xs : List Int} (h : (Kd.int .i64).R 3 W b ok v xs) (hd : DR w0 W g R0 n1 n2 s st vS vU S U) (hk : Kept W W1 (fun k => k = g)) : (Kd.int .i64).R 3 W1 b ok v xs :=
 R_K h hk (fun k c t a b q hq e => by rw [hd.gt a b, int_E hq] at e; exact absurd e (by decide))
theorem box_g {X : Nat} {c : Array Value} {t : TypeId} (hbx : W.heap[X]? = some (.cells c t (0, 0))) (hd : DR w0 W g R0 n1 n2 s st vS vU S U) (hk : Kept W W1 (fun k => k = g)) (ht : t ≠ 55) : W1.heap[X]? = some (.cells c t (0, 0)) :=
 blk_kept hbx hk (fun e => ht (hd.gt e hbx))
theorem rowsA_r {vSe vSp vCu : Value} {Se : List (List Int)} {Sp : List Spl} {Cu : List Cut} {kd no : Int} (h : DR w0 W g R0 n1 n2 s st vS vU S U)
 (h4 : Kd.S (Kd.slice 3 (Kd.int .i64)) 22 W n2 (fun _ => True) vSe Se) (h5 : Kd.S k41 41 W n2 (fun _ => True) vSp Sp) (h6 : Kd.S k43 43 W n2 (fun _ => True) vCu Cu) : RowsA W w0.heap.size vS vU vSe vSp vCu ⟨kd, no, S, U, Se, Sp, Cu⟩ :=
 ⟨n1, n2, h.ln0, h.ln1, h.ln2, h.rS, h.rU, h4, h5, h6⟩
end
/-- what stands while a part is read -/
structure CR (w wr W : World) (g R0 n1 n2 : Nat) (s : ByteArray) (st : St) (vS vU : Value) (S U : List Int) : Prop where
 dr : DR w W g R0 n1 n2 s st vS vU S U
 kept : Kept wr W (fun k => k = g)
section
variable {w wr W W1 : World} {g R0 n1 n2 : Nat} {s : ByteArray} {st st1 : St} {vS vU : Value} {S U : List Int}
theorem CR.below (h : CR w wr W g R0 n1 n2 s st vS vU S U) (hb : Below W.heap.size W W1) : CR w wr W1 g R0 n1 n2 s st vS vU S U := ⟨h.dr.below hb, h.kept.below hb⟩
theorem CR.call (h : CR w wr W g R0 n1 n2 s st vS vU S U) (hr : ISR w W1 g s st1) (ho : Ok s st1) (hb : Below w.heap.size w W1) (hk : Kept W W1 (fun k => k = g)) : CR w wr W1 g R0 n1 n2 s st1 vS vU S U := ⟨h.dr.call hr ho hb hk, h.kept.then_ hk (fun k e => .inl e)⟩
theorem CR.keepY {Y : Nat} {c : Array Value} {t : TypeId} (h : CR w wr W g R0 n1 n2 s st vS vU S U) (hY2 : wr.heap.size ≤ Y) (hR : R0 ≠ Y) (hbx : W.heap[Y]? = some (.cells c t (0, 0))) (ht : t = 27 ∨ t = 43 ∨ t = 41) (hk : Kept W W1 (fun k => k = Y)) (hb : Below w.heap.size W W1) : CR w wr W1 g R0 n1 n2 s st vS vU S U :=
 ⟨h.dr.keepX hR hbx ht hk hb, h.kept.then_ hk (fun k e => .inr (by rw [e]; exact hY2))⟩
end
/-! ### what is wrong stays wrong -/
theorem mf_dead {α : Type} {F : Rdr α} (h : ErrOk F) (S : List Int) (d : Nat) (st : St) (out : List α) (hs : st.2 ≠ none) : (manyF (F S) d st out).2 = st := by
 rw [manyF_acc]; exact many_err h d S st hs
theorem cnt_dead {S : List Int} {st : St} {most : Int} (hs : st.2 ≠ none) : countF S most st = (0, st) := by
 unfold countF
 rw [numF_err hs, if_neg (fun h => hs h.1)]
theorem cnt_none {S : List Int} {st : St} {most : Int} (h : (countF S most st).2.2 = none) : st.2 = none := by
 apply Classical.byContradiction
 intro hs
 rw [cnt_dead hs] at h
 exact hs h
/-- how a loop ends that stops where something is wrong -/
def Stops {α : Type} (F : Rdr α) (S : List Int) (N : Nat) (st0 st : St) (out : List α) : Prop := (manyF (F S) N st0 []).2 = st ∧ (st.2 = none → (manyF (F S) N st0 []).1 = out)
theorem stops_end {α : Type} {F : Rdr α} {S : List Int} {N d : Nat} {st0 st : St} {out : List α} (hd : d ≤ N) (h : ¬ d < N) (he : manyF (F S) N st0 [] = manyF (F S) (N - d) st out) : Stops F S N st0 st out := by
 rw [show N - d = 0 by omega] at he
 exact ⟨by rw [he]; rfl, fun _ => by rw [he]; rfl⟩
theorem stops_dead {α : Type} {F : Rdr α} {S : List Int} {N d : Nat} {st0 st : St} {out : List α} (hF : ErrOk F) (hs : st.2 ≠ none) (he : manyF (F S) N st0 [] = manyF (F S) (N - d) st out) : Stops F S N st0 st out :=
 ⟨by rw [he]; exact mf_dead hF S _ _ _ hs, fun h => absurd h hs⟩
theorem stops_none {α : Type} {F : Rdr α} (hF : ErrOk F) {S : List Int} {N : Nat} {st0 st : St} {out : List α} (h : Stops F S N st0 st out) (hn : st.2 = none) : st0.2 = none := by
 apply Classical.byContradiction
 intro hs
 have := h.1
 rw [mf_dead hF S _ _ _ hs] at this
 rw [this] at hs
 exact hs hn
theorem set3c {W : World} {base X : Nat} {c0 c1 c2 u0 u1 u2 : Value} {t : TypeId} (hbx : W.heap[X]? = some (.cells #[c0, c1, c2] t (0, 0))) (hX : base ≤ X) :
 (((W.setCell ⟨X, 0, none⟩ u0).setCell ⟨X, 1, none⟩ u1).setCell ⟨X, 2, none⟩ u2).heap[X]? = some (.cells #[u0, u1, u2] t (0, 0)) ∧ Kept W (((W.setCell ⟨X, 0, none⟩ u0).setCell ⟨X, 1, none⟩ u1).setCell ⟨X, 2, none⟩ u2) (fun k => k = X) ∧ Below base W (((W.setCell ⟨X, 0, none⟩ u0).setCell ⟨X, 1, none⟩ u1).setCell ⟨X, 2, none⟩ u2) := by
 refine ⟨?_, ?_, ?_⟩
 ·have a0 := (blk_set hbx 0 u0).trans (show _ = some (Obj.cells #[u0, c1, c2] t (0, 0)) from rfl)
  have a1 := (blk_set a0 1 u1).trans (show _ = some (Obj.cells #[u0, u1, c2] t (0, 0)) from rfl)
  exact (blk_set a1 2 u2).trans (show _ = some (Obj.cells #[u0, u1, u2] t (0, 0)) from rfl)
 ·have h := fun (W2 : World) (j : Nat) (u : Value) (h : Kept W W2 (fun k => k = X)) => Kept.setCell (S := fun k => k = X) (p := ⟨X, j, none⟩) h (.inl rfl) u
  exact h _ _ _ (h _ _ _ (h _ _ _ (Kept.refl _ _)))
 ·have h := fun (W2 : World) (j : Nat) (u : Value) (h : Below base W W2) => h.setCell (p := ⟨X, j, none⟩) hX u
  exact h _ _ _ (h _ _ _ (h _ _ _ (Below.refl _ _)))
theorem ans_stops {S : List Int} {N9 N10 N11 : Nat} {st6 st7 st8 : St} {Se : List (List Int)} {Sp : List Spl} {Cu : List Cut}
 (h9 : (countF S 200 (lstF S (lstF S (numF S (numF S (0, none)).2).2).2).2).1 = (N9 : Int)) (m1 : Stops lstF S N9 (countF S 200 (lstF S (lstF S (numF S (numF S (0, none)).2).2).2).2).2 st6 Se)
 (h10 : (countF S 65 st6).1 = (N10 : Int)) (m2 : Stops splF S N10 (countF S 65 st6).2 st7 Sp) (h11 : (countF S 200 st7).1 = (N11 : Int)) (m3 : Stops cutF S N11 (countF S 200 st7).2 st8 Cu) :
 (ansF S (0, none)).2 = st8 ∧ (st8.2 = none → (ansF S (0, none)).1 = ⟨(numF S (0, none)).1, (numF S (numF S (0, none)).2).1, (lstF S (numF S (numF S (0, none)).2).2).1, (lstF S (lstF S (numF S (numF S (0, none)).2).2).2).1, Se, Sp, Cu⟩) := by
 unfold ansF
 dsimp only
 rw [h9, Int.toNat_natCast, m1.1, h10, Int.toNat_natCast, m2.1, h11, Int.toNat_natCast]
 refine ⟨m3.1, fun hn => ?_⟩
 have n7 := cnt_none (stops_none cut_err m3 hn)
 have n6 := cnt_none (stops_none spl_err m2 n7)
 rw [m3.2 hn, m2.2 n7, m1.2 n6]
theorem PV_I {x : AnsV} (h : PV x) : OkI x.S x.U x.Se x.Sp x.Cu := by
 obtain ⟨-, -, h2, h3, ⟨h4, h5⟩, ⟨h6, h7⟩, h8, h9⟩ := h
 dsimp only [ofV] at *
 exact ⟨by have := h2.1; omega, by have := h3.1; omega, by omega, fun l hl => by have := (h5 l hl).1; omega, by omega, fun y hy => ⟨by have := (h7 y hy).1.1; omega, by have := (h7 y hy).2.1.1; omega, by have := (h7 y hy).2.2.1; omega⟩, by omega, fun c hc => by have := (h9 c hc).1.1; omega⟩
theorem PV_of (s : ByteArray) {x : AnsV} {p : Nat} (h : ansF (bytesOf s) (0, none) = (x, (p, none))) : PV x := by
 have hbk := ans_back (bytesOf s) 0 (bytesOf_in s) (Nat.zero_le _) (by rw [h])
 rw [h] at hbk
 exact hbk.2.2
theorem rcheck_rows {W : World} {n0 : Nat} {A2 A3 A4 A5 A6 : Option Addr} {c2 c3 c4 c5 c6 : Nat} {x : AnsV} (no : Bool) (h : RowsA W n0 (.slice A2 x.S.length c2) (.slice A3 x.U.length c3) (.slice A4 x.Se.length c4) (.slice A5 x.Sp.length c5) (.slice A6 x.Cu.length c6) x) (hi : OkI x.S x.U x.Se x.Sp x.Cu) :
 Calls Tryd.prog 12 #[.agg #[.int .i64 x.kd, .bool no, .slice A2 x.S.length c2, .slice A3 x.U.length c3, .slice A4 x.Se.length c4, .slice A5 x.Sp.length c5, .slice A6 x.Cu.length c6]] W fun e w' => e = .returned (.int .i64 (if okV x = true then 0 else 230)) ∧ Below W.heap.size W w' := by
 obtain ⟨n1, n2, a1, a2, a3, g1, g2, g3, g4, g5⟩ := h
 obtain ⟨k, hk⟩ := (refCheck_ev x.kd no x.S x.U x.Se x.Sp x.Cu hi).rounds
 obtain ⟨_, p2, q2⟩ := Kd.R_reads' g1
 obtain ⟨_, p3, q3⟩ := Kd.R_reads' g2
 obtain ⟨_, p4, q4⟩ := Kd.S_reads' g3
 obtain ⟨_, p5, q5⟩ := Kd.S_reads' g4
 obtain ⟨_, p6, q6⟩ := Kd.S_reads' g5
 exact greenwoodref23_Check.calls k x.kd no A2 c2 x.S A3 c3 x.U A4 c4 x.Se A5 c5 x.Sp A6 c6 x.Cu _ W q2 p2 q3 p3 q4 p4 q5 p5 q6 p6 hk
end Go.Proofs.YtlekdhejgdfnpaaDoor.P
/- the document's Decode, walked. (Written by wip/tool/ansr.py.) -/
namespace Go.Proofs.YtlekdhejgdfnpaaDoor.P
open Go.RowKit Go.Proofs.YtlekdhejgdfnpaaDoorW.PrintWords Go.Proofs.YtlekdhejgdfnpaaDoorW.PrintLast Go.Proofs.YtlekdhejgdfnpaaDoorW.PrintMore
open Wr

set_option maxHeartbeats 16000000 in
set_option maxRecDepth 100000 in
theorem rdecode_c {w : World} (s : ByteArray) (hs : s.size ≤ 1000000000) :
 Calls Tryd.prog 10 #[.string s] w fun e w' => ∃ vS vU vSe vSp vCu, e = .returned (.tuple #[.agg #[.int .i64 (decV (bytesOf s)).1.kd, .bool ((decV (bytesOf s)).1.no == 1), vS, vU, vSe, vSp, vCu], .int .i64 (decV (bytesOf s)).2.1, .int .i64 (decV (bytesOf s)).2.2]) ∧
  RowsA w' w.heap.size vS vU vSe vSp vCu (decV (bytesOf s)).1 ∧ Below w.heap.size w w' := by
 have HS := Aside0.mk hs
 obtain ⟨S, hS⟩ : ∃ S, S = bytesOf s := ⟨_, rfl⟩
 have HSe : Aside0 (bytesOf s = S) := ⟨hS.symm⟩
 have HCN : Aside0 (∀ (most : Int), 0 ≤ most → ∀ (st : St), Ok s st → ∃ N : Nat, (countF (bytesOf s) most st).1 = (N : Int) ∧ (N : Int) ≤ most) :=
  ⟨fun most hm st ho => by obtain ⟨h1, h2⟩ := countF_le most hm ho; exact ⟨(countF (bytesOf s) most st).1.toNat, by omega, by omega⟩⟩
 obtain ⟨kd, hkd⟩ : ∃ kd, kd = (numF (bytesOf s) (0, none)).1 := ⟨_, rfl⟩
 obtain ⟨no, hno⟩ : ∃ no, no = (numF (bytesOf s) (numF (bytesOf s) (0, none)).2).1 := ⟨_, rfl⟩
 obtain ⟨bno, hbno⟩ : ∃ b, b = (no == 1) := ⟨_, rfl⟩
 have HE1 : Aside0 ((numF (bytesOf s) (0, none)).1 = kd) := ⟨hkd.symm⟩
 have HE2 : Aside0 ((numF (bytesOf s) (numF (bytesOf s) (0, none)).2).1 = no) := ⟨hno.symm⟩
 have hbno' : (no == 1) = bno := hbno.symm
 clear hs hkd hno hbno hS
 go_enter Tryd.func10, Tryd.ntmps10
 go_upto_region 9 with (first
  | (go_at_call 21; (have z_ := H8.out); clear z_; refine (rcnt_s 200 H8.out.1.rr H8.out.1.bel H8.out.1.ok HS.out).mono ?_; rintro e w9 ⟨hret, hr, hb, hk⟩; (obtain ⟨N9, hN9, hM9⟩ := HCN.out 200 (by decide) _ H8.out.1.ok); (have HN9 := Aside0.mk hN9); (rw [hN9] at hret); (subst hret); (have H9 := Aside0.mk (And.intro (H8.out.1.call hr (countF_ok 200 H8.out.1.ok) hb hk) (And.intro (box_g H8.out.2 H8.out.1 hk (by decide)) True.intro))); clear hr hb hk hN9)
  | ((with_reducible refine gate_store (t := 22) (p := 35) rfl ?_); refine store_event (t := 22) (p := 35) (v := ?vo5_) (w1 := (w7.setCell ⟨X, 3, none⟩ (.slice A7 (lstF (bytesOf s) (lstF (bytesOf s) (numF (bytesOf s) (numF (bytesOf s) (0, none)).2).2).2).1.length c7))) ?hg ?ho ?hn ?hr ?_; (case ho => rfl); (case hg => rfl); (case hn => rfl); (case hr => first | (go_simp; done) | (go_simp; rfl)); intro w8 hw; (have h1 := set1 (base := w.heap.size) (j := 3) (u := .slice A7 (lstF (bytesOf s) (lstF (bytesOf s) (numF (bytesOf s) (numF (bytesOf s) (0, none)).2).2).2).1.length c7) H7.out.2 HX.out.1); (rw [← hw] at h1); (have H8 : Aside0 ((DR w w8 g R0 w5.heap.size w7.heap.size s (lstF (bytesOf s) (lstF (bytesOf s) (numF (bytesOf s) (numF (bytesOf s) (0, none)).2).2).2).2 (.slice A6 (lstF (bytesOf s) (numF (bytesOf s) (numF (bytesOf s) (0, none)).2).2).1.length c6) (.slice A7 (lstF (bytesOf s) (lstF (bytesOf s) (numF (bytesOf s) (numF (bytesOf s) (0, none)).2).2).2).1.length c7) (lstF (bytesOf s) (numF (bytesOf s) (numF (bytesOf s) (0, none)).2).2).1 (lstF (bytesOf s) (lstF (bytesOf s) (numF (bytesOf s) (numF (bytesOf s) (0, none)).2).2).2).1) ∧ Box w8 X kd bno (.slice A6 (lstF (bytesOf s) (numF (bytesOf s) (numF (bytesOf s) (0, none)).2).2).1.length c6) (.slice A7 (lstF (bytesOf s) (lstF (bytesOf s) (numF (bytesOf s) (numF (bytesOf s) (0, none)).2).2).2).1.length c7) (.slice none 0 0) (.slice none 0 0) (.slice none 0 0)) := ⟨H7.out.1.keepX HX.out.2 H7.out.2 (.inl rfl) h1.2.1 h1.2.2, h1.1.trans rfl⟩); clear y3 yf3; clear hw h1)
  | (go_at_call 20; (have z_ := H6.out); clear z_; refine (rlst_s H6.out.1.rr H6.out.1.bel H6.out.1.ok HS.out).mono ?_; rintro e w7 ⟨v7, rfl, hrow, hr, hb, hk⟩; (obtain ⟨A7, c7, rfl⟩ := Kd.R_slice hrow); (have hd := H6.out.1.call hr (lstF_ok H6.out.1.ok) hb hk); (have H7 : Aside0 ((DR w w7 g R0 w5.heap.size w7.heap.size s (lstF (bytesOf s) (lstF (bytesOf s) (numF (bytesOf s) (numF (bytesOf s) (0, none)).2).2).2).2 (.slice A6 (lstF (bytesOf s) (numF (bytesOf s) (numF (bytesOf s) (0, none)).2).2).1.length c6) (.slice A7 (lstF (bytesOf s) (lstF (bytesOf s) (numF (bytesOf s) (numF (bytesOf s) (0, none)).2).2).2).1.length c7) (lstF (bytesOf s) (numF (bytesOf s) (numF (bytesOf s) (0, none)).2).2).1 (lstF (bytesOf s) (lstF (bytesOf s) (numF (bytesOf s) (numF (bytesOf s) (0, none)).2).2).2).1) ∧ Box w7 X kd bno (.slice A6 (lstF (bytesOf s) (numF (bytesOf s) (numF (bytesOf s) (0, none)).2).2).1.length c6) (.slice none 0 0) (.slice none 0 0) (.slice none 0 0) (.slice none 0 0)) := ⟨{ hd with rU := Kd.R_lower hrow H6.out.1.ln2, ln1 := Nat.le_trans H6.out.1.ln2 hk.1, ln2 := Nat.le_refl _ }, box_g H6.out.2 H6.out.1 hk (by decide)⟩); (have hbx := H7.out.2); (have y3 : w7.cell? ⟨X, 3, none⟩ = _ := (blk_cell hbx 3).trans rfl); (have yf3 : w7.frozen? ⟨X, 3, none⟩ = false := blk_frozen hbx 3);  clear hrow hr hb hk hd hbx)
  | ((with_reducible refine gate_store (t := 22) (p := 32) rfl ?_); refine store_event (t := 22) (p := 32) (v := ?vo4_) (w1 := (w5.setCell ⟨X, 2, none⟩ (.slice A6 (lstF (bytesOf s) (numF (bytesOf s) (numF (bytesOf s) (0, none)).2).2).1.length c6))) ?hg ?ho ?hn ?hr ?_; (case ho => rfl); (case hg => rfl); (case hn => rfl); (case hr => first | (go_simp; done) | (go_simp; rfl)); intro w6 hw; (have h1 := set1 (base := w.heap.size) (j := 2) (u := .slice A6 (lstF (bytesOf s) (numF (bytesOf s) (numF (bytesOf s) (0, none)).2).2).1.length c6) H5.out.2 HX.out.1); (rw [← hw] at h1); (have H6 : Aside0 ((DR w w6 g R0 w5.heap.size w5.heap.size s (lstF (bytesOf s) (numF (bytesOf s) (numF (bytesOf s) (0, none)).2).2).2 (.slice A6 (lstF (bytesOf s) (numF (bytesOf s) (numF (bytesOf s) (0, none)).2).2).1.length c6) (.slice none 0 0) (lstF (bytesOf s) (numF (bytesOf s) (numF (bytesOf s) (0, none)).2).2).1 []) ∧ Box w6 X kd bno (.slice A6 (lstF (bytesOf s) (numF (bytesOf s) (numF (bytesOf s) (0, none)).2).2).1.length c6) (.slice none 0 0) (.slice none 0 0) (.slice none 0 0) (.slice none 0 0)) := ⟨H5.out.1.keepX HX.out.2 H5.out.2 (.inl rfl) h1.2.1 h1.2.2, h1.1.trans rfl⟩); clear y2 yf2; clear hw h1)
  | (go_at_call 20; (have z_ := H4.out); clear z_; refine (rlst_s H4.out.1.rr H4.out.1.bel H4.out.1.ok HS.out).mono ?_; rintro e w5 ⟨v6, rfl, hrow, hr, hb, hk⟩; (obtain ⟨A6, c6, rfl⟩ := Kd.R_slice hrow); (have hd := H4.out.1.call hr (lstF_ok H4.out.1.ok) hb hk); (have H5 : Aside0 ((DR w w5 g R0 w5.heap.size w5.heap.size s (lstF (bytesOf s) (numF (bytesOf s) (numF (bytesOf s) (0, none)).2).2).2 (.slice A6 (lstF (bytesOf s) (numF (bytesOf s) (numF (bytesOf s) (0, none)).2).2).1.length c6) (.slice none 0 0) (lstF (bytesOf s) (numF (bytesOf s) (numF (bytesOf s) (0, none)).2).2).1 []) ∧ Box w5 X kd bno (.slice none 0 0) (.slice none 0 0) (.slice none 0 0) (.slice none 0 0) (.slice none 0 0)) := ⟨{ hd with rS := Kd.R_lower hrow H4.out.1.bel.size, rU := Kd.R_nil _ _ _ _ _, ln0 := hb.size, ln1 := Nat.le_refl _, ln2 := Nat.le_refl _ }, box_g H4.out.2 H4.out.1 hk (by decide)⟩); (have hbx := H5.out.2); (have y2 : w5.cell? ⟨X, 2, none⟩ = _ := (blk_cell hbx 2).trans rfl); (have yf2 : w5.frozen? ⟨X, 2, none⟩ = false := blk_frozen hbx 2);  clear hrow hr hb hk hd hbx)
  | ((with_reducible refine gate_store (t := 4) (p := 29) rfl ?_); refine store_event (t := 4) (p := 29) (v := ?vo3_) (w1 := (w3.setCell ⟨X, 1, none⟩ (.bool bno))) ?hg ?ho ?hn ?hr ?_; (case ho => rfl); (case hg => rfl); (case hn => rfl); (case hr => first | (go_simp; done) | (go_simp; rfl)); intro w4 hw; (have h1 := set1 (base := w.heap.size) (j := 1) (u := .bool bno) H3.out.2 HX.out.1); (rw [← hw] at h1); (have H4 : Aside0 ((DR w w4 g R0 w.heap.size w.heap.size s (numF (bytesOf s) (numF (bytesOf s) (0, none)).2).2 (.slice none 0 0) (.slice none 0 0) [] []) ∧ Box w4 X kd bno (.slice none 0 0) (.slice none 0 0) (.slice none 0 0) (.slice none 0 0) (.slice none 0 0)) := ⟨H3.out.1.keepX HX.out.2 H3.out.2 (.inl rfl) h1.2.1 h1.2.2, h1.1.trans rfl⟩); clear y1 yf1; clear hw h1)
  | (go_at_call 19; (have z_ := H2.out); clear z_; refine (rnum_s H2.out.1.rr H2.out.1.bel H2.out.1.ok HS.out).mono ?_; rintro e w3 ⟨hret, hr, hb, hk⟩; (have H3 := Aside0.mk (And.intro (H2.out.1.call hr (refnum_ok H2.out.1.ok) hb hk) (box_g H2.out.2 H2.out.1 hk (by decide)))); (rw [HE2.out] at hret); (subst hret); (have hbx := H3.out.2); (have y1 : w3.cell? ⟨X, 1, none⟩ = _ := (blk_cell hbx 1).trans rfl); (have yf1 : w3.frozen? ⟨X, 1, none⟩ = false := blk_frozen hbx 1);  clear hr hb hk hbx)
  | ((with_reducible refine gate_store (t := 3) (p := 24) rfl ?_); refine store_event (t := 3) (p := 24) (v := ?vo2_) (w1 := (w1.setCell ⟨X, 0, none⟩ (.int .i64 kd))) ?hg ?ho ?hn ?hr ?_; (case ho => rfl); (case hg => rfl); (case hn => rfl); (case hr => first | (go_simp; done) | (go_simp; rfl)); intro w2 hw; (have h1 := set1 (base := w.heap.size) (j := 0) (u := .int .i64 kd) H1.out.2 HX.out.1); (rw [← hw] at h1); (have H2 : Aside0 ((DR w w2 g R0 w.heap.size w.heap.size s (numF (bytesOf s) (0, none)).2 (.slice none 0 0) (.slice none 0 0) [] []) ∧ Box w2 X kd false (.slice none 0 0) (.slice none 0 0) (.slice none 0 0) (.slice none 0 0) (.slice none 0 0)) := ⟨H1.out.1.keepX HX.out.2 H1.out.2 (.inl rfl) h1.2.1 h1.2.2, h1.1.trans rfl⟩); clear y0 yf0; clear hw h1)
  | (go_at_call 19; (have z_ := HD.out); clear z_; refine (rnum_s HD.out.1.rr HD.out.1.bel HD.out.1.ok HS.out).mono ?_; rintro e w1 ⟨hret, hr, hb, hk⟩; (have H1 := Aside0.mk (And.intro (HD.out.1.call hr (refnum_ok HD.out.1.ok) hb hk) (box_g HD.out.2 HD.out.1 hk (by decide)))); (rw [HE1.out] at hret); (subst hret); (have hbx := H1.out.2); (have y0 : w1.cell? ⟨X, 0, none⟩ = _ := (blk_cell hbx 0).trans rfl); (have yf0 : w1.frozen? ⟨X, 0, none⟩ = false := blk_frozen hbx 0);  clear hr hb hk hbx)
  | ((with_reducible refine gate_store (t := 27) (p := 6) rfl ?_); refine store_event (t := 27) (p := 6) (v := ?vo1_) (w1 := (((((((wC.setCell ⟨X, 0, none⟩ (.int .i64 0)).setCell ⟨X, 1, none⟩ (.bool false)).setCell ⟨X, 2, none⟩ (.slice none 0 0)).setCell ⟨X, 3, none⟩ (.slice none 0 0)).setCell ⟨X, 4, none⟩ (.slice none 0 0)).setCell ⟨X, 5, none⟩ (.slice none 0 0)).setCell ⟨X, 6, none⟩ (.slice none 0 0))) ?hg ?ho ?hn ?hr ?_; (case ho => rfl); (case hg => rfl); (case hn => rfl); (case hr => first | (go_simp; done) | (go_simp; rfl)); intro wD hw; (have h7 := set7 (base := w.heap.size) (u0 := .int .i64 0) (u1 := .bool false) (u2 := .slice none 0 0) (u3 := .slice none 0 0) (u4 := .slice none 0 0) (u5 := .slice none 0 0) (u6 := .slice none 0 0) HC.out.2 HX.out.1); (dsimp only at h7); (rw [← hw] at h7); (have HD : Aside0 ((DR w wD g R0 w.heap.size w.heap.size s (0, none) (.slice none 0 0) (.slice none 0 0) [] []) ∧ Box wD X 0 false (.slice none 0 0) (.slice none 0 0) (.slice none 0 0) (.slice none 0 0) (.slice none 0 0)) := ⟨HC.out.1.keepX HX.out.2 HC.out.2 (.inl rfl) h7.2.1 h7.2.2, h7.1⟩); clear x0 xf0 x1 xf1 x2 xf2 x3 xf3 x4 xf4 x5 xf5 x6 xf6; clear hw h7)
  | ((with_reducible refine gate_dst (N := 6) rfl ?_); (try (refine gate_guard (by rfl) ?_; dsimp only)); refine box_event ?hg (N := 6) ?hd (cs := #[.int .i64 0, .bool false, .slice none 0 0, .slice none 0 0, .slice none 0 0, .slice none 0 0, .slice none 0 0]) (t := 27) ?hr ?_; (case hd => rfl); (case hg => rfl); (case hr => first | (go_simp; done) | (go_simp; rfl)); intro X hg wC hbox hb; (have HX : Aside0 (w.heap.size ≤ X ∧ R0 ≠ X) := ⟨by rw [hg]; exact HB.out.2.1.size, by rw [hg]; exact Nat.ne_of_lt (blk_lt HB.out.2.2)⟩); (have HC : Aside0 ((DR w wC g R0 w.heap.size w.heap.size s (0, none) (.slice none 0 0) (.slice none 0 0) [] []) ∧ Box wC X 0 false (.slice none 0 0) (.slice none 0 0) (.slice none 0 0) (.slice none 0 0) (.slice none 0 0)) := ⟨{ rr := IsS55.below HB.out.1 hb, ok := ⟨Nat.zero_le _, fun pc h => by cases h⟩, bel := HB.out.2.1.trans (hb.mono HB.out.2.1.size), wR := HA.out.2.2, res := blk_below HB.out.2.2 hb, rS := Kd.R_nil _ _ _ _ _, rU := Kd.R_nil _ _ _ _ _, ln0 := Nat.le_refl _, ln1 := Nat.le_refl _, ln2 := Nat.le_trans HB.out.2.1.size hb.size }, hbox⟩); (have x0 : wC.cell? ⟨X, 0, none⟩ = _ := (blk_cell hbox 0).trans rfl); (have xf0 : wC.frozen? ⟨X, 0, none⟩ = false := blk_frozen hbox 0); (have x1 : wC.cell? ⟨X, 1, none⟩ = _ := (blk_cell hbox 1).trans rfl); (have xf1 : wC.frozen? ⟨X, 1, none⟩ = false := blk_frozen hbox 1); (have x2 : wC.cell? ⟨X, 2, none⟩ = _ := (blk_cell hbox 2).trans rfl); (have xf2 : wC.frozen? ⟨X, 2, none⟩ = false := blk_frozen hbox 2); (have x3 : wC.cell? ⟨X, 3, none⟩ = _ := (blk_cell hbox 3).trans rfl); (have xf3 : wC.frozen? ⟨X, 3, none⟩ = false := blk_frozen hbox 3); (have x4 : wC.cell? ⟨X, 4, none⟩ = _ := (blk_cell hbox 4).trans rfl); (have xf4 : wC.frozen? ⟨X, 4, none⟩ = false := blk_frozen hbox 4); (have x5 : wC.cell? ⟨X, 5, none⟩ = _ := (blk_cell hbox 5).trans rfl); (have xf5 : wC.frozen? ⟨X, 5, none⟩ = false := blk_frozen hbox 5); (have x6 : wC.cell? ⟨X, 6, none⟩ = _ := (blk_cell hbox 6).trans rfl); (have xf6 : wC.frozen? ⟨X, 6, none⟩ = false := blk_frozen hbox 6);  clear hg hbox hb)
  | ((with_reducible refine gate_dst (N := 20) rfl ?_); (try (refine gate_guard (by rfl) ?_; dsimp only)); refine box_event ?hg (N := 20) ?hd (cs := #[.string s, .int .i64 0, .int .i64 0]) (t := 55) ?hr ?_; (case hd => rfl); (case hg => rfl); (case hr => first | (go_simp; done) | (go_simp; rfl)); intro g hg wB hbox hb; (have HB : Aside0 (ISR w wB g s (0, none) ∧ Below w.heap.size w wB ∧ wB.heap[R0]? = some (.cells #[.int .i64 0, .bool false, .slice none 0 0, .slice none 0 0, .slice none 0 0, .slice none 0 0, .slice none 0 0] 27 (0, 0))) := ⟨⟨hbox, by rw [hg]; exact HA.out.1.size⟩, HA.out.1.trans (hb.mono HA.out.1.size), blk_below HA.out.2.1 hb⟩); clear hg hbox hb)
  | ((with_reducible refine gate_dst (N := 2) rfl ?_); (try (refine gate_guard (by rfl) ?_; dsimp only)); refine box_event ?hg (N := 2) ?hd (cs := #[.int .i64 0, .bool false, .slice none 0 0, .slice none 0 0, .slice none 0 0, .slice none 0 0, .slice none 0 0]) (t := 27) ?hr ?_; (case hd => rfl); (case hg => rfl); (case hr => first | (go_simp; done) | (go_simp; rfl)); intro R0 hg wA hbox hb; (have HA : Aside0 (Below w.heap.size w wA ∧ wA.heap[R0]? = some (.cells #[.int .i64 0, .bool false, .slice none 0 0, .slice none 0 0, .slice none 0 0, .slice none 0 0, .slice none 0 0] 27 (0, 0)) ∧ w.heap.size ≤ R0) := ⟨hb, hbox, Nat.le_of_eq hg.symm⟩); clear hg hbox hb))
 rw [HSe.out] at H9 HN9
 obtain ⟨n1, hn1⟩ : ∃ n, n = w5.heap.size := ⟨_, rfl⟩
 obtain ⟨n2, hn2⟩ : ∃ n, n = w7.heap.size := ⟨_, rfl⟩
 rw [← hn1, ← hn2] at H9
 clear hn1 hn2 HA HB HC HD H1 H2 H3 H4 H5 H6 H7 H8
 go_upto_block 0 with fail
 go_cut [9] from 38 to 56 (fun v9 wc => ∃ (sx : St) (out : List (List Int)) (v : Value), Aside0 (DR w wc g R0 n1 n2 s sx (.slice A6 (lstF S (numF S (numF S (0, none)).2).2).1.length c6) (.slice A7 (lstF S (lstF S (numF S (numF S (0, none)).2).2).2).1.length c7) (lstF S (numF S (numF S (0, none)).2).2).1 (lstF S (lstF S (numF S (numF S (0, none)).2).2).2).1) ∧ Aside0 (Box wc X kd bno (.slice A6 (lstF S (numF S (numF S (0, none)).2).2).1.length c6) (.slice A7 (lstF S (lstF S (numF S (numF S (0, none)).2).2).2).1.length c7) v (.slice none 0 0) (.slice none 0 0)) ∧ Aside0 (Kd.S (Kd.slice 3 (Kd.int .i64)) 22 wc n2 (fun _ => True) v out ∧ Stops lstF S N9 (countF S 200 (lstF S (lstF S (numF S (numF S (0, none)).2).2).2).2).2 sx out))
 case first =>
  go_wp2
  go_loopw [9] (fun v9 wr => ∃ (d : Nat) (sx : St) (out : List (List Int)) (v : Value), d ≤ N9 ∧ v9 = .int .i64 (d : Int) ∧ Aside0 (DR w wr g R0 n1 n2 s sx (.slice A6 (lstF S (numF S (numF S (0, none)).2).2).1.length c6) (.slice A7 (lstF S (lstF S (numF S (numF S (0, none)).2).2).2).1.length c7) (lstF S (numF S (numF S (0, none)).2).2).1 (lstF S (lstF S (numF S (numF S (0, none)).2).2).2).1) ∧ Aside0 (Box wr X kd bno (.slice A6 (lstF S (numF S (numF S (0, none)).2).2).1.length c6) (.slice A7 (lstF S (lstF S (numF S (numF S (0, none)).2).2).2).1.length c7) v (.slice none 0 0) (.slice none 0 0)) ∧ Aside0 (Kd.S (Kd.slice 3 (Kd.int .i64)) 22 wr n2 (fun _ => True) v out ∧ out.length = d ∧ manyF (lstF S) N9 (countF S 200 (lstF S (lstF S (numF S (numF S (0, none)).2).2).2).2).2 [] = manyF (lstF S) (N9 - d) sx out)) (fun v9 _ => (N9 - (intOf v9).toNat))
  case atStart => exact ⟨0, _, [], _, Nat.zero_le _, rfl, ⟨H9.out.1⟩, ⟨H9.out.2.1⟩, ⟨Kd.S_nil _ _ _ _ _, rfl, rfl⟩⟩
  case round =>
   clear H9
   obtain ⟨d, st6, Se, v, hd, rfl, HR, HB, HS1⟩ := hrel
   obtain ⟨A4, c4, rfl⟩ := Kd.S_slice HS1.out.1
   have hE2 := cellS55_2 HR.out.rr.1
   by_cases hlt : d < N9
   ·by_cases hs0 : st6.2 = none
    ·rw [(se_none HR.out.ok).2 hs0] at hE2
     have hd200 : d < 200 := by omega
     have HDr : Aside0 (DR w wr.drew g R0 n1 n2 s st6 (.slice A6 (lstF S (numF S (numF S (0, none)).2).2).1.length c6) (.slice A7 (lstF S (lstF S (numF S (numF S (0, none)).2).2).2).1.length c7) (lstF S (numF S (numF S (0, none)).2).2).1 (lstF S (lstF S (numF S (numF S (0, none)).2).2).2).1) := ⟨HR.out.below (Below.refl _ _).drew⟩
     have x4 : wr.cell? ⟨X, 4, none⟩ = some (.slice A4 Se.length c4) := (blk_cell HB.out 4).trans rfl
     have xf4 : wr.frozen? ⟨X, 4, none⟩ = false := blk_frozen HB.out 4
     obtain ⟨p, st', hp⟩ : ∃ p st', lstF S st6 = (p, st') := ⟨_, _, rfl⟩
     have HLp := rlst_s HDr.out.rr HDr.out.bel HDr.out.ok HS.out
     have HOk := lstF_ok HDr.out.ok
     rw [HSe.out, hp] at HLp HOk
     have HLp := Aside0.mk HLp
     have HOk := Aside0.mk HOk
     have HM : Aside0 (manyF (lstF S) N9 (countF S 200 (lstF S (lstF S (numF S (numF S (0, none)).2).2).2).2).2 [] = manyF (lstF S) (N9 - (d + 1)) st' (Se ++ [p])) := ⟨by rw [HS1.out.2.2, show N9 - d = (N9 - (d + 1)) + 1 by omega, manyF_succ, hp]⟩
     have HSd : Aside0 (Kd.S (Kd.slice 3 (Kd.int .i64)) 22 wr.drew n2 (fun k => k < wr.drew.heap.size) (.slice A4 Se.length c4) Se) := ⟨Kd.S_mono (Kd.S_bound (Kd.S_drew HS1.out.1)) (fun k hk => hk.2.2.1)⟩
     have HN2 : Aside0 (n2 ≤ wr.drew.heap.size ∧ w.heap.size ≤ n2) := ⟨HDr.out.ln2, Nat.le_trans HDr.out.ln0 HDr.out.ln1⟩
     have HBd : Aside0 (Box wr.drew X kd bno (.slice A6 (lstF S (numF S (numF S (0, none)).2).2).1.length c6) (.slice A7 (lstF S (lstF S (numF S (numF S (0, none)).2).2).2).1.length c7) (.slice A4 Se.length c4) (.slice none 0 0) (.slice none 0 0)) := ⟨HB.out⟩
     have HLen : Aside0 (Se.length = d) := ⟨HS1.out.2.1⟩
     clear hp HS1
     go_wp2
     go_region_law (first
      | (rw [if_pos (by rfl)]; go_simp; go_at_call 20; refine HLp.out.mono ?_; rintro e w2 ⟨vp, rfl, hr, hi, hb, hk⟩; (have hbx := box_g HBd.out HDr.out hk (by decide)); (have hd2 := HDr.out.call hi HOk.out hb hk); (have hs2 := S_g HSd.out HDr.out hk (by decide)); (obtain ⟨Ap, cp, rfl⟩ := Kd.R_slice hr); (have z4 : w2.cell? ⟨X, 4, none⟩ = some (.slice A4 Se.length c4) := (blk_cell hbx 4).trans rfl); (have q4 : (w2.alloc (.cells #[.slice Ap p.length cp] 22)).cell? ⟨X, 4, none⟩ = some (.slice A4 Se.length c4) := (blk_cell (blk_alloc hbx _) 4).trans rfl); (have HW2 := Aside0.mk (And.intro hd2 (And.intro hbx (And.intro hs2 (And.intro hr hk.1))))); clear hbx hd2 hs2 hr hi hb hk)
      | (refine Kd.S_append_step (Kd.slice 3 (Kd.int .i64)) (w0 := w2) (W := w2) n2 (by rfl) (.tmp 51) (.tmp 54) 23 22 (.slice none 0 0) 24 rfl Tryd.underlying23 info22 rfl (by decide) (by decide) (.slice A4 Se.length c4) Se p [.slice Ap p.length cp] (fun _ => True) (fun k => wr.drew.heap.size ≤ k) (by first | rfl | simp [Act.eval, Act.put]) (by first | rfl | simp [Act.eval, Act.put]) ?aP ?aK (fun _ _ => trivial) ?aO (Below.refl _ _) ?aB ?aL ?_; (case aP => exact Kd.M_row (Kd.R_lower (Kd.R_mono (Kd.R_bound HW2.out.2.2.2.1) (fun k hk => hk.2.1)) HN2.out.1)); (case aK => exact (fun k hk => ⟨trivial, fun e => by have := Kd.S_lt HSd.out k e.symm; omega⟩)); (case aO => exact Kd.S_mono HW2.out.2.2.1 (fun k hk => ⟨trivial, Nat.not_le.2 hk⟩)); (case aB => exact Nat.le_trans HN2.out.1 HW2.out.2.2.2.2); (case aL => have := HLen.out; omega); intro v1 w3 ho hb hg hat; (have hb4 := box_grow HW2.out.2.1 HW2.out.2.2.1 hg (by decide)); (have hd4 := HW2.out.1.growS HW2.out.2.2.1 hg HN2.out.2 (.inl rfl)); (obtain ⟨A5, c5, rfl⟩ := Kd.S_slice ho); (rw [show (Se ++ [p]).length = Se.length + 1 from by simp] at ho); (have u4 : w3.cell? ⟨X, 4, none⟩ = some (.slice A4 Se.length c4) := (blk_cell hb4 4).trans rfl); (have uf4 : w3.frozen? ⟨X, 4, none⟩ = false := blk_frozen hb4 4); (have HW3 := Aside0.mk (And.intro hd4 (And.intro hb4 ho))); clear hb hg hat hb4 hd4 ho))
     all_goals go_wp2
     all_goals go_roundw
     case rel | rel | rel => exact ⟨d + 1, st', Se ++ [p], _, by omega, by go_num, ⟨HW3.out.1.keepX HX.out.2 HW3.out.2.1 (.inl rfl) (set1 HW3.out.2.1 HX.out.1).2.1 (set1 HW3.out.2.1 HX.out.1).2.2⟩, ⟨(set1 (base := 0) HW3.out.2.1 (Nat.zero_le _)).1.trans rfl⟩, ⟨S_put HW3.out.2.2 HW3.out.2.1 (by decide) 4 _, by rw [List.length_append, HLen.out]; rfl, HM.out⟩⟩
     case measure | measure | measure => simp [intOf]; omega
    ·have hE3 : (se st6 == 0) = false := beq_eq_false_iff_ne.mpr (fun h => hs0 ((se_none HR.out.ok).1 h))
     go_wp2
     go_meet
     case rel => exact ⟨st6, Se, _, HR, HB, ⟨HS1.out.1, stops_dead lst_err hs0 HS1.out.2.2⟩⟩
   ·go_wp2
    go_meet
    case rel => exact ⟨st6, Se, _, HR, HB, ⟨HS1.out.1, stops_end hd hlt HS1.out.2.2⟩⟩
 case rest =>
  obtain ⟨st6, Se, v, HR, HB, HS1⟩ := hcut
  obtain ⟨A4, c4, rfl⟩ := Kd.S_slice HS1.out.1
  clear H9
  have HQ := Aside0.mk (And.intro HR.out (And.intro HB.out HS1.out.1))
  have HM1 := Aside0.mk HS1.out.2
  clear HR HB HS1
  go_upto_region 14 with ((go_at_call 21; (have z_ := HQ.out); clear z_; refine (rcnt_s 65 HQ.out.1.rr HQ.out.1.bel HQ.out.1.ok HS.out).mono ?_; rintro e w10 ⟨hret, hr, hb, hk⟩; (obtain ⟨N10, hN10, hM10⟩ := HCN.out 65 (by decide) _ HQ.out.1.ok); (have HN10 := Aside0.mk hN10); (rw [hN10] at hret); (subst hret); (have H10 := Aside0.mk (And.intro (HQ.out.1.call hr (countF_ok 65 HQ.out.1.ok) hb hk) (And.intro (box_g HQ.out.2.1 HQ.out.1 hk (by decide)) (S_g HQ.out.2.2 HQ.out.1 hk (by decide))))); clear hr hb hk hN10))
  rw [HSe.out] at H10 HN10
  clear HQ
  go_upto_block 2 with fail
  go_cut [11] from 59 to 86 (fun v11 wc => ∃ (sx : St) (out : List Spl) (v : Value), Aside0 (DR w wc g R0 n1 n2 s sx (.slice A6 (lstF S (numF S (numF S (0, none)).2).2).1.length c6) (.slice A7 (lstF S (lstF S (numF S (numF S (0, none)).2).2).2).1.length c7) (lstF S (numF S (numF S (0, none)).2).2).1 (lstF S (lstF S (numF S (numF S (0, none)).2).2).2).1) ∧ Aside0 (Box wc X kd bno (.slice A6 (lstF S (numF S (numF S (0, none)).2).2).1.length c6) (.slice A7 (lstF S (lstF S (numF S (numF S (0, none)).2).2).2).1.length c7) (.slice A4 Se.length c4) v (.slice none 0 0)) ∧ Aside0 (Kd.S (Kd.slice 3 (Kd.int .i64)) 22 wc n2 (fun _ => True) (.slice A4 Se.length c4) Se) ∧ Aside0 (Kd.S k41 41 wc n2 (fun _ => True) v out ∧ Stops splF S N10 (countF S 65 st6).2 sx out))
  case first =>
   go_wp2
   go_loopw [11] (fun v11 wr => ∃ (d : Nat) (sx : St) (out : List Spl) (v : Value), d ≤ N10 ∧ v11 = .int .i64 (d : Int) ∧ Aside0 (DR w wr g R0 n1 n2 s sx (.slice A6 (lstF S (numF S (numF S (0, none)).2).2).1.length c6) (.slice A7 (lstF S (lstF S (numF S (numF S (0, none)).2).2).2).1.length c7) (lstF S (numF S (numF S (0, none)).2).2).1 (lstF S (lstF S (numF S (numF S (0, none)).2).2).2).1) ∧ Aside0 (Box wr X kd bno (.slice A6 (lstF S (numF S (numF S (0, none)).2).2).1.length c6) (.slice A7 (lstF S (lstF S (numF S (numF S (0, none)).2).2).2).1.length c7) (.slice A4 Se.length c4) v (.slice none 0 0)) ∧ Aside0 (Kd.S (Kd.slice 3 (Kd.int .i64)) 22 wr n2 (fun _ => True) (.slice A4 Se.length c4) Se) ∧ Aside0 (Kd.S k41 41 wr n2 (fun _ => True) v out ∧ out.length = d ∧ manyF (splF S) N10 (countF S 65 st6).2 [] = manyF (splF S) (N10 - d) sx out)) (fun v11 _ => (N10 - (intOf v11).toNat))
   case atStart => exact ⟨0, _, [], _, Nat.zero_le _, rfl, ⟨H10.out.1⟩, ⟨H10.out.2.1⟩, ⟨H10.out.2.2⟩, ⟨Kd.S_nil _ _ _ _ _, rfl, rfl⟩⟩
   case round =>
    clear H10
    obtain ⟨d, sx0, Sp, v, hd, rfl, HR, HB, HSe2, HS2⟩ := hrel
    obtain ⟨B5, e5, rfl⟩ := Kd.S_slice HS2.out.1
    have hE2 := cellS55_2 HR.out.rr.1
    by_cases hlt : d < N10
    ·by_cases hs0 : sx0.2 = none
     ·rw [(se_none HR.out.ok).2 hs0] at hE2
      have hd65 : d < 65 := by omega
      obtain ⟨p1, s1, hp1⟩ : ∃ p st', lstF S sx0 = (p, st') := ⟨_, _, rfl⟩
      obtain ⟨p2, s2, hp2⟩ : ∃ p st', lstF S s1 = (p, st') := ⟨_, _, rfl⟩
      obtain ⟨p3, s3, hp3⟩ : ∃ p st', lstF S s2 = (p, st') := ⟨_, _, rfl⟩
      have hspl := splF_eq hp1 hp2 hp3
      have HO1 : Aside0 (Ok s s1) := ⟨by have h := lstF_ok HR.out.ok; rw [HSe.out, hp1] at h; exact h⟩
      have HO2 : Aside0 (Ok s s2) := ⟨by have h := lstF_ok HO1.out; rw [HSe.out, hp2] at h; exact h⟩
      have HO3 : Aside0 (Ok s s3) := ⟨by have h := lstF_ok HO2.out; rw [HSe.out, hp3] at h; exact h⟩
      have HL1 := Aside0.mk (fun (W : World) (h : ISR w W g s sx0) (hb : Below w.heap.size w W) (ho : Ok s sx0) => by have h1 := rlst_s h hb ho HS.out; rw [HSe.out, hp1] at h1; exact h1)
      have HL2 := Aside0.mk (fun (W : World) (h : ISR w W g s s1) (hb : Below w.heap.size w W) (ho : Ok s s1) => by have h1 := rlst_s h hb ho HS.out; rw [HSe.out, hp2] at h1; exact h1)
      have HL3 := Aside0.mk (fun (W : World) (h : ISR w W g s s2) (hb : Below w.heap.size w W) (ho : Ok s s2) => by have h1 := rlst_s h hb ho HS.out; rw [HSe.out, hp3] at h1; exact h1)
      have HM : Aside0 (manyF (splF S) N10 (countF S 65 st6).2 [] = manyF (splF S) (N10 - (d + 1)) s3 (Sp ++ [⟨p1, p2, p3⟩])) := ⟨by rw [HS2.out.2.2, show N10 - d = (N10 - (d + 1)) + 1 by omega, manyF_succ, hspl]⟩
      have HSd : Aside0 (Kd.S k41 41 wr n2 (fun k => k < wr.heap.size) (.slice B5 Sp.length e5) Sp) := ⟨Kd.S_mono (Kd.S_bound HS2.out.1) (fun k hk => hk.2.2.1)⟩
      have HN2 : Aside0 (n2 ≤ wr.heap.size ∧ w.heap.size ≤ n2) := ⟨HR.out.ln2, Nat.le_trans HR.out.ln0 HR.out.ln1⟩
      have HLen : Aside0 (Sp.length = d) := ⟨HS2.out.2.1⟩
      clear hp1 hp2 hp3 hspl HS2
      go_wp2_with (first
       | ((with_reducible refine gate_dst (N := 85) rfl ?_); refine Kd.S_append k41 (w0 := w9) (W := w9) n2 rfl (.tmp 82) (.tmp 84) 24 41 (.agg #[.slice none 0 0, .slice none 0 0, .slice none 0 0]) 72 rfl Tryd.underlying24 info_Spl rfl (by decide) (by decide) (.slice B5 Sp.length e5) Sp ⟨p1, p2, p3⟩ [(.slice Ap1 p1.length cp1), (.slice Ap2 p2.length cp2), (.slice Ap3 p3.length cp3)] (fun _ => True) (fun k => wr.heap.size ≤ k) rfl rfl ?aP ?aK (fun _ _ => trivial) ?aO (Below.refl _ _) ?aB ?aL ?_; (case aP => exact k41_mkM _ _ _ ⟨p1, p2, p3⟩ (Kd.R_lower (Kd.R_mono (Kd.R_bound G9.out.2.2.1) (fun k hk => hk.2.1)) HN2.out.1) (Kd.R_lower (Kd.R_mono (Kd.R_bound G9.out.2.2.2.1) (fun k hk => hk.2.1)) HN2.out.1) (Kd.R_lower (Kd.R_mono (Kd.R_bound G9.out.2.2.2.2.1) (fun k hk => hk.2.1)) HN2.out.1)); (case aK => exact (fun k hk => ⟨trivial, fun e => by have := Kd.S_lt HSd.out k e.symm; omega⟩)); (case aO => exact Kd.S_mono (S_g HSd.out HR.out G9.out.1.kept (by decide)) (fun k hk => ⟨trivial, Nat.not_le.2 hk⟩)); (case aB => exact Nat.le_trans HN2.out.1 G9.out.1.kept.1); (case aL => have := HLen.out; omega); intro v1 w20 ho hb hg hat; (have hs7 := S_g HSd.out HR.out G9.out.1.kept (by decide)); (have hb4 := box_grow (box_g HB.out HR.out G9.out.1.kept (by decide)) hs7 hg (by decide)); (have hd4 := G9.out.1.dr.growS hs7 hg HN2.out.2 (.inr (.inl rfl))); (have he4 := S_grow (S_g HSe2.out HR.out G9.out.1.kept (by decide)) hs7 hg (by decide)); (obtain ⟨A8, c8, rfl⟩ := Kd.S_slice ho); (rw [show (Sp ++ [(⟨p1, p2, p3⟩ : Spl)]).length = Sp.length + 1 from by simp] at ho); (have u6 : w20.cell? ⟨X, 5, none⟩ = some (.slice B5 Sp.length e5) := (blk_cell hb4 5).trans rfl); (have uf6 : w20.frozen? ⟨X, 5, none⟩ = false := blk_frozen hb4 5); (have HW8 := Aside0.mk (And.intro hd4 (And.intro hb4 (And.intro he4 ho)))); clear hs7 hb hg hat hb4 hd4 he4  ho)
       | ((with_reducible refine gate_store (t := 22) (p := 80) rfl ?_); refine store_event (t := 22) (p := 80) (v := ?vo104_) (w1 := (w8.setCell ⟨Y, 2, none⟩ (.slice Ap3 p3.length cp3))) ?hg ?ho ?hn ?hr ?_; (case ho => rfl); (case hg => rfl); (case hn => rfl); (case hr => first | (go_simp; done) | (go_simp; rfl)); intro w9 hw; (have h1 := set1 (base := w.heap.size) (j := 2) (u := (.slice Ap3 p3.length cp3)) G8.out.2.1 HY.out.2.2); (rw [← hw] at h1); (have G9 : Aside0 ((CR w wr w9 g R0 n1 n2 s s3 (.slice A6 (lstF S (numF S (numF S (0, none)).2).2).1.length c6) (.slice A7 (lstF S (lstF S (numF S (numF S (0, none)).2).2).2).1.length c7) (lstF S (numF S (numF S (0, none)).2).2).1 (lstF S (lstF S (numF S (numF S (0, none)).2).2).2).1) ∧ w9.heap[Y]? = some (.cells #[(.slice Ap1 p1.length cp1), (.slice Ap2 p2.length cp2), (.slice Ap3 p3.length cp3)] 41 (0, 0)) ∧ (Kd.int .i64).R 3 w9 wr.heap.size (fun _ => True) (.slice Ap1 p1.length cp1) p1 ∧ (Kd.int .i64).R 3 w9 wr.heap.size (fun _ => True) (.slice Ap2 p2.length cp2) p2 ∧ (Kd.int .i64).R 3 w9 wr.heap.size (fun _ => True) (.slice Ap3 p3.length cp3) p3 ∧ True) := ⟨G8.out.1.keepY HY.out.1 HY.out.2.1 G8.out.2.1 (.inr (.inr rfl)) h1.2.1 h1.2.2, h1.1.trans rfl, R_keepX G8.out.2.2.1 G8.out.2.1 (by decide) h1.2.1, R_keepX G8.out.2.2.2.1 G8.out.2.1 (by decide) h1.2.1, R_keepX G8.out.2.2.2.2.1 G8.out.2.1 (by decide) h1.2.1, trivial⟩); (have hbx := box_g HB.out HR.out G9.out.1.kept (by decide)); (have hby := G9.out.2.1); (have q5 : w9.cell? ⟨X, 5, none⟩ = _ := (blk_cell hbx 5).trans rfl);  (have r0 : w9.cell? ⟨Y, 0, none⟩ = _ := (blk_cell hby 0).trans rfl); (have r1 : w9.cell? ⟨Y, 1, none⟩ = _ := (blk_cell hby 1).trans rfl); (have r2 : w9.cell? ⟨Y, 2, none⟩ = _ := (blk_cell hby 2).trans rfl);  clear hbx hby; clear hw h1; clear y2 yf2)
       | (go_at_call 20; (have z_ := G7.out); clear z_; refine (HL3.out _ G7.out.1.dr.rr G7.out.1.dr.bel G7.out.1.dr.ok).mono ?_; rintro e w8 ⟨v_, rfl, hrow, hr, hb, hk⟩; (obtain ⟨Ap3, cp3, rfl⟩ := Kd.R_slice hrow); (have hbx := box_g G7.out.2.1 G7.out.1.dr hk (by decide)); (have G8 : Aside0 ((CR w wr w8 g R0 n1 n2 s s3 (.slice A6 (lstF S (numF S (numF S (0, none)).2).2).1.length c6) (.slice A7 (lstF S (lstF S (numF S (numF S (0, none)).2).2).2).1.length c7) (lstF S (numF S (numF S (0, none)).2).2).1 (lstF S (lstF S (numF S (numF S (0, none)).2).2).2).1) ∧ w8.heap[Y]? = some (.cells #[(.slice Ap1 p1.length cp1), (.slice Ap2 p2.length cp2), .slice none 0 0] 41 (0, 0)) ∧ (Kd.int .i64).R 3 w8 wr.heap.size (fun _ => True) (.slice Ap1 p1.length cp1) p1 ∧ (Kd.int .i64).R 3 w8 wr.heap.size (fun _ => True) (.slice Ap2 p2.length cp2) p2 ∧ (Kd.int .i64).R 3 w8 wr.heap.size (fun _ => True) (.slice Ap3 p3.length cp3) p3 ∧ True) := ⟨G7.out.1.call hr HO3.out hb hk, hbx, R_g G7.out.2.2.1 G7.out.1.dr hk, R_g G7.out.2.2.2.1 G7.out.1.dr hk, Kd.R_mono (Kd.R_lower hrow G7.out.1.kept.1) (fun _ _ => trivial), trivial⟩); (have y2 : w8.cell? ⟨Y, 2, none⟩ = _ := (blk_cell hbx 2).trans rfl); (have yf2 : w8.frozen? ⟨Y, 2, none⟩ = false := blk_frozen hbx 2);  clear hrow hr hb hk hbx)
       | ((with_reducible refine gate_store (t := 22) (p := 77) rfl ?_); refine store_event (t := 22) (p := 77) (v := ?vo103_) (w1 := (w6.setCell ⟨Y, 1, none⟩ (.slice Ap2 p2.length cp2))) ?hg ?ho ?hn ?hr ?_; (case ho => rfl); (case hg => rfl); (case hn => rfl); (case hr => first | (go_simp; done) | (go_simp; rfl)); intro w7 hw; (have h1 := set1 (base := w.heap.size) (j := 1) (u := (.slice Ap2 p2.length cp2)) G6.out.2.1 HY.out.2.2); (rw [← hw] at h1); (have G7 : Aside0 ((CR w wr w7 g R0 n1 n2 s s2 (.slice A6 (lstF S (numF S (numF S (0, none)).2).2).1.length c6) (.slice A7 (lstF S (lstF S (numF S (numF S (0, none)).2).2).2).1.length c7) (lstF S (numF S (numF S (0, none)).2).2).1 (lstF S (lstF S (numF S (numF S (0, none)).2).2).2).1) ∧ w7.heap[Y]? = some (.cells #[(.slice Ap1 p1.length cp1), (.slice Ap2 p2.length cp2), .slice none 0 0] 41 (0, 0)) ∧ (Kd.int .i64).R 3 w7 wr.heap.size (fun _ => True) (.slice Ap1 p1.length cp1) p1 ∧ (Kd.int .i64).R 3 w7 wr.heap.size (fun _ => True) (.slice Ap2 p2.length cp2) p2 ∧ True) := ⟨G6.out.1.keepY HY.out.1 HY.out.2.1 G6.out.2.1 (.inr (.inr rfl)) h1.2.1 h1.2.2, h1.1.trans rfl, R_keepX G6.out.2.2.1 G6.out.2.1 (by decide) h1.2.1, R_keepX G6.out.2.2.2.1 G6.out.2.1 (by decide) h1.2.1, trivial⟩);  clear hw h1; clear y1 yf1)
       | (go_at_call 20; (have z_ := G5.out); clear z_; refine (HL2.out _ G5.out.1.dr.rr G5.out.1.dr.bel G5.out.1.dr.ok).mono ?_; rintro e w6 ⟨v_, rfl, hrow, hr, hb, hk⟩; (obtain ⟨Ap2, cp2, rfl⟩ := Kd.R_slice hrow); (have hbx := box_g G5.out.2.1 G5.out.1.dr hk (by decide)); (have G6 : Aside0 ((CR w wr w6 g R0 n1 n2 s s2 (.slice A6 (lstF S (numF S (numF S (0, none)).2).2).1.length c6) (.slice A7 (lstF S (lstF S (numF S (numF S (0, none)).2).2).2).1.length c7) (lstF S (numF S (numF S (0, none)).2).2).1 (lstF S (lstF S (numF S (numF S (0, none)).2).2).2).1) ∧ w6.heap[Y]? = some (.cells #[(.slice Ap1 p1.length cp1), .slice none 0 0, .slice none 0 0] 41 (0, 0)) ∧ (Kd.int .i64).R 3 w6 wr.heap.size (fun _ => True) (.slice Ap1 p1.length cp1) p1 ∧ (Kd.int .i64).R 3 w6 wr.heap.size (fun _ => True) (.slice Ap2 p2.length cp2) p2 ∧ True) := ⟨G5.out.1.call hr HO2.out hb hk, hbx, R_g G5.out.2.2.1 G5.out.1.dr hk, Kd.R_mono (Kd.R_lower hrow G5.out.1.kept.1) (fun _ _ => trivial), trivial⟩); (have y1 : w6.cell? ⟨Y, 1, none⟩ = _ := (blk_cell hbx 1).trans rfl); (have yf1 : w6.frozen? ⟨Y, 1, none⟩ = false := blk_frozen hbx 1);  clear hrow hr hb hk hbx)
       | ((with_reducible refine gate_store (t := 22) (p := 74) rfl ?_); refine store_event (t := 22) (p := 74) (v := ?vo102_) (w1 := (w4.setCell ⟨Y, 0, none⟩ (.slice Ap1 p1.length cp1))) ?hg ?ho ?hn ?hr ?_; (case ho => rfl); (case hg => rfl); (case hn => rfl); (case hr => first | (go_simp; done) | (go_simp; rfl)); intro w5 hw; (have h1 := set1 (base := w.heap.size) (j := 0) (u := (.slice Ap1 p1.length cp1)) G4.out.2.1 HY.out.2.2); (rw [← hw] at h1); (have G5 : Aside0 ((CR w wr w5 g R0 n1 n2 s s1 (.slice A6 (lstF S (numF S (numF S (0, none)).2).2).1.length c6) (.slice A7 (lstF S (lstF S (numF S (numF S (0, none)).2).2).2).1.length c7) (lstF S (numF S (numF S (0, none)).2).2).1 (lstF S (lstF S (numF S (numF S (0, none)).2).2).2).1) ∧ w5.heap[Y]? = some (.cells #[(.slice Ap1 p1.length cp1), .slice none 0 0, .slice none 0 0] 41 (0, 0)) ∧ (Kd.int .i64).R 3 w5 wr.heap.size (fun _ => True) (.slice Ap1 p1.length cp1) p1 ∧ True) := ⟨G4.out.1.keepY HY.out.1 HY.out.2.1 G4.out.2.1 (.inr (.inr rfl)) h1.2.1 h1.2.2, h1.1.trans rfl, R_keepX G4.out.2.2.1 G4.out.2.1 (by decide) h1.2.1, trivial⟩);  clear hw h1; clear y0 yf0)
       | (go_at_call 20; (have z_ := G3.out); clear z_; refine (HL1.out _ G3.out.1.dr.rr G3.out.1.dr.bel G3.out.1.dr.ok).mono ?_; rintro e w4 ⟨v_, rfl, hrow, hr, hb, hk⟩; (obtain ⟨Ap1, cp1, rfl⟩ := Kd.R_slice hrow); (have hbx := box_g G3.out.2.1 G3.out.1.dr hk (by decide)); (have G4 : Aside0 ((CR w wr w4 g R0 n1 n2 s s1 (.slice A6 (lstF S (numF S (numF S (0, none)).2).2).1.length c6) (.slice A7 (lstF S (lstF S (numF S (numF S (0, none)).2).2).2).1.length c7) (lstF S (numF S (numF S (0, none)).2).2).1 (lstF S (lstF S (numF S (numF S (0, none)).2).2).2).1) ∧ w4.heap[Y]? = some (.cells #[.slice none 0 0, .slice none 0 0, .slice none 0 0] 41 (0, 0)) ∧ (Kd.int .i64).R 3 w4 wr.heap.size (fun _ => True) (.slice Ap1 p1.length cp1) p1 ∧ True) := ⟨G3.out.1.call hr HO1.out hb hk, hbx, Kd.R_mono (Kd.R_lower hrow G3.out.1.kept.1) (fun _ _ => trivial), trivial⟩); (have y0 : w4.cell? ⟨Y, 0, none⟩ = _ := (blk_cell hbx 0).trans rfl); (have yf0 : w4.frozen? ⟨Y, 0, none⟩ = false := blk_frozen hbx 0);  clear hrow hr hb hk hbx)
       | ((with_reducible refine gate_store (t := 41) (p := 12) rfl ?_); refine store_event (t := 41) (p := 12) (v := ?vo101_) (w1 := (((w2.setCell ⟨Y, 0, none⟩ (.slice none 0 0)).setCell ⟨Y, 1, none⟩ (.slice none 0 0)).setCell ⟨Y, 2, none⟩ (.slice none 0 0))) ?hg ?ho ?hn ?hr ?_; (case ho => rfl); (case hg => rfl); (case hn => rfl); (case hr => first | (go_simp; done) | (go_simp; rfl)); intro w3 hw; (have h3 := set3c (base := w.heap.size) (u0 := .slice none 0 0) (u1 := .slice none 0 0) (u2 := .slice none 0 0) G2.out.2 HY.out.2.2); (rw [← hw] at h3); (have G3 : Aside0 ((CR w wr w3 g R0 n1 n2 s sx0 (.slice A6 (lstF S (numF S (numF S (0, none)).2).2).1.length c6) (.slice A7 (lstF S (lstF S (numF S (numF S (0, none)).2).2).2).1.length c7) (lstF S (numF S (numF S (0, none)).2).2).1 (lstF S (lstF S (numF S (numF S (0, none)).2).2).2).1) ∧ w3.heap[Y]? = some (.cells #[.slice none 0 0, .slice none 0 0, .slice none 0 0] 41 (0, 0)) ∧ True) := ⟨G2.out.1.keepY HY.out.1 HY.out.2.1 G2.out.2 (.inr (.inr rfl)) h3.2.1 h3.2.2, h3.1, trivial⟩); clear x0 xf0 x1 xf1 x2 xf2; clear hw h3)
       | ((with_reducible refine gate_dst (N := 12) rfl ?_); (try (refine gate_guard (by rfl) ?_; dsimp only)); refine box_event ?hg (N := 12) ?hd (cs := #[.slice none 0 0, .slice none 0 0, .slice none 0 0]) (t := 41) ?hr ?_; (case hd => rfl); (case hg => rfl); (case hr => first | (go_simp; done) | (go_simp; rfl)); intro Y hg w2 hbox hb; (have HY : Aside0 (wr.heap.size ≤ Y ∧ R0 ≠ Y ∧ w.heap.size ≤ Y) := ⟨Nat.le_of_eq hg.symm, by rw [hg]; exact Nat.ne_of_lt (blk_lt HR.out.res), by rw [hg]; exact HR.out.bel.size⟩); (have G2 : Aside0 ((CR w wr w2 g R0 n1 n2 s sx0 (.slice A6 (lstF S (numF S (numF S (0, none)).2).2).1.length c6) (.slice A7 (lstF S (lstF S (numF S (numF S (0, none)).2).2).2).1.length c7) (lstF S (numF S (numF S (0, none)).2).2).1 (lstF S (lstF S (numF S (numF S (0, none)).2).2).2).1) ∧ w2.heap[Y]? = some (.cells #[.slice none 0 0, .slice none 0 0, .slice none 0 0] 41 (0, 0))) := ⟨⟨HR.out.below hb, Kept.of_below hb _⟩, hbox⟩); (have x0 : w2.cell? ⟨Y, 0, none⟩ = _ := (blk_cell hbox 0).trans rfl); (have xf0 : w2.frozen? ⟨Y, 0, none⟩ = false := blk_frozen hbox 0); (have x1 : w2.cell? ⟨Y, 1, none⟩ = _ := (blk_cell hbox 1).trans rfl); (have xf1 : w2.frozen? ⟨Y, 1, none⟩ = false := blk_frozen hbox 1); (have x2 : w2.cell? ⟨Y, 2, none⟩ = _ := (blk_cell hbox 2).trans rfl); (have xf2 : w2.frozen? ⟨Y, 2, none⟩ = false := blk_frozen hbox 2);  clear hg hbox hb))
      go_roundw
      case rel => exact ⟨d + 1, s3, Sp ++ [⟨p1, p2, p3⟩], _, by omega, by go_num, ⟨HW8.out.1.keepX HX.out.2 HW8.out.2.1 (.inl rfl) (set1 HW8.out.2.1 HX.out.1).2.1 (set1 HW8.out.2.1 HX.out.1).2.2⟩, ⟨(set1 (base := 0) HW8.out.2.1 (Nat.zero_le _)).1.trans rfl⟩, ⟨S_put HW8.out.2.2.1 HW8.out.2.1 (by decide) 5 _⟩, ⟨S_put HW8.out.2.2.2 HW8.out.2.1 (by decide) 5 _, by rw [List.length_append, HLen.out]; rfl, HM.out⟩⟩
      case measure => simp [intOf]; omega
     ·have hE3 : (se sx0 == 0) = false := beq_eq_false_iff_ne.mpr (fun h => hs0 ((se_none HR.out.ok).1 h))
      go_wp2
      go_meet
      case rel => exact ⟨sx0, Sp, _, HR, HB, HSe2, ⟨HS2.out.1, stops_dead spl_err hs0 HS2.out.2.2⟩⟩
    ·go_wp2
     go_meet
     case rel => exact ⟨sx0, Sp, _, HR, HB, HSe2, ⟨HS2.out.1, stops_end hd hlt HS2.out.2.2⟩⟩
  case rest =>
   obtain ⟨st7, Sp, v, HR, HB, HSe2, HS2⟩ := hcut
   obtain ⟨B5, e5, rfl⟩ := Kd.S_slice HS2.out.1
   have HQ := Aside0.mk (And.intro HR.out (And.intro HB.out (And.intro HSe2.out HS2.out.1)))
   have HM2 := Aside0.mk HS2.out.2
   clear HR HB HSe2 HS2 H10
   go_upto_region 23 with ((go_at_call 21; (have z_ := HQ.out); clear z_; refine (rcnt_s 200 HQ.out.1.rr HQ.out.1.bel HQ.out.1.ok HS.out).mono ?_; rintro e w11 ⟨hret, hr, hb, hk⟩; (obtain ⟨N11, hN11, hM11⟩ := HCN.out 200 (by decide) _ HQ.out.1.ok); (have HN11 := Aside0.mk hN11); (rw [hN11] at hret); (subst hret); (have H11 := Aside0.mk (And.intro (HQ.out.1.call hr (countF_ok 200 HQ.out.1.ok) hb hk) (And.intro (box_g HQ.out.2.1 HQ.out.1 hk (by decide)) (And.intro (S_g HQ.out.2.2.1 HQ.out.1 hk (by decide)) (S_g HQ.out.2.2.2 HQ.out.1 hk (by decide)))))); clear hr hb hk hN11))
   rw [HSe.out] at H11 HN11
   clear HQ
   go_upto_block 4 with fail
   go_cut [14] from 89 to 113 (fun v14 wc => ∃ (sx : St) (out : List Cut) (v : Value), Aside0 (DR w wc g R0 n1 n2 s sx (.slice A6 (lstF S (numF S (numF S (0, none)).2).2).1.length c6) (.slice A7 (lstF S (lstF S (numF S (numF S (0, none)).2).2).2).1.length c7) (lstF S (numF S (numF S (0, none)).2).2).1 (lstF S (lstF S (numF S (numF S (0, none)).2).2).2).1) ∧ Aside0 (Box wc X kd bno (.slice A6 (lstF S (numF S (numF S (0, none)).2).2).1.length c6) (.slice A7 (lstF S (lstF S (numF S (numF S (0, none)).2).2).2).1.length c7) (.slice A4 Se.length c4) (.slice B5 Sp.length e5) v) ∧ Aside0 (Kd.S (Kd.slice 3 (Kd.int .i64)) 22 wc n2 (fun _ => True) (.slice A4 Se.length c4) Se ∧ Kd.S k41 41 wc n2 (fun _ => True) (.slice B5 Sp.length e5) Sp) ∧ Aside0 (Kd.S k43 43 wc n2 (fun _ => True) v out ∧ Stops cutF S N11 (countF S 200 st7).2 sx out))
   case first =>
    go_wp2
    go_loopw [14] (fun v14 wr => ∃ (d : Nat) (sx : St) (out : List Cut) (v : Value), d ≤ N11 ∧ v14 = .int .i64 (d : Int) ∧ Aside0 (DR w wr g R0 n1 n2 s sx (.slice A6 (lstF S (numF S (numF S (0, none)).2).2).1.length c6) (.slice A7 (lstF S (lstF S (numF S (numF S (0, none)).2).2).2).1.length c7) (lstF S (numF S (numF S (0, none)).2).2).1 (lstF S (lstF S (numF S (numF S (0, none)).2).2).2).1) ∧ Aside0 (Box wr X kd bno (.slice A6 (lstF S (numF S (numF S (0, none)).2).2).1.length c6) (.slice A7 (lstF S (lstF S (numF S (numF S (0, none)).2).2).2).1.length c7) (.slice A4 Se.length c4) (.slice B5 Sp.length e5) v) ∧ Aside0 (Kd.S (Kd.slice 3 (Kd.int .i64)) 22 wr n2 (fun _ => True) (.slice A4 Se.length c4) Se ∧ Kd.S k41 41 wr n2 (fun _ => True) (.slice B5 Sp.length e5) Sp) ∧ Aside0 (Kd.S k43 43 wr n2 (fun _ => True) v out ∧ out.length = d ∧ manyF (cutF S) N11 (countF S 200 st7).2 [] = manyF (cutF S) (N11 - d) sx out)) (fun v14 _ => (N11 - (intOf v14).toNat))
    case atStart => exact ⟨0, _, [], _, Nat.zero_le _, rfl, ⟨H11.out.1⟩, ⟨H11.out.2.1⟩, ⟨H11.out.2.2⟩, ⟨Kd.S_nil _ _ _ _ _, rfl, rfl⟩⟩
    case round =>
     clear H11
     obtain ⟨d, sx0, Cu, v, hd, rfl, HR, HB, HSS, HS3⟩ := hrel
     obtain ⟨C6, f6, rfl⟩ := Kd.S_slice HS3.out.1
     have hE2 := cellS55_2 HR.out.rr.1
     by_cases hlt : d < N11
     ·by_cases hs0 : sx0.2 = none
      ·rw [(se_none HR.out.ok).2 hs0] at hE2
       have hd200 : d < 200 := by omega
       obtain ⟨p1, s1, hp1⟩ : ∃ p st', lstF S sx0 = (p, st') := ⟨_, _, rfl⟩
       obtain ⟨y, s2, hy⟩ : ∃ y st', intF S s1 = (y, st') := ⟨_, _, rfl⟩
       have HO1 : Aside0 (Ok s s1) := ⟨by have h := lstF_ok HR.out.ok; rw [HSe.out, hp1] at h; exact h⟩
       have HO2 : Aside0 (Ok s s2) := ⟨by have h : Ok s (intF (bytesOf s) s1).2 := refnum_ok HO1.out
                                          rw [HSe.out, hy] at h; exact h⟩
       have HL1 := Aside0.mk (fun (W : World) (h : ISR w W g s sx0) (hb : Below w.heap.size w W) (ho : Ok s sx0) => by have h1 := rlst_s h hb ho HS.out; rw [HSe.out, hp1] at h1; exact h1)
       have HI := Aside0.mk (fun (W : World) (h : ISR w W g s s1) (hb : Below w.heap.size w W) (ho : Ok s s1) => by have h1 := rint_s h hb ho HS.out; rw [HSe.out, hy] at h1; exact h1)
       have HM : Aside0 (manyF (cutF S) N11 (countF S 200 st7).2 [] = manyF (cutF S) (N11 - (d + 1)) s2 (Cu ++ [⟨p1, y⟩])) := ⟨by rw [HS3.out.2.2, show N11 - d = (N11 - (d + 1)) + 1 by omega, manyF_succ, cutF_ok hp1 hy]⟩
       have HSd : Aside0 (Kd.S k43 43 wr n2 (fun k => k < wr.heap.size) (.slice C6 Cu.length f6) Cu) := ⟨Kd.S_mono (Kd.S_bound HS3.out.1) (fun k hk => hk.2.2.1)⟩
       have HN2 : Aside0 (n2 ≤ wr.heap.size ∧ w.heap.size ≤ n2) := ⟨HR.out.ln2, Nat.le_trans HR.out.ln0 HR.out.ln1⟩
       have HLen : Aside0 (Cu.length = d) := ⟨HS3.out.2.1⟩
       clear hp1 hy HS3
       go_wp2_with (first
        | ((with_reducible refine gate_dst (N := 112) rfl ?_); refine Kd.S_append k43 (w0 := w7) (W := w7) n2 rfl (.tmp 109) (.tmp 111) 25 43 (.agg #[.slice none 0 0, .int .i64 0]) 32 rfl Tryd.underlying25 info_Cut rfl (by decide) (by decide) (.slice C6 Cu.length f6) Cu ⟨p1, y⟩ [(.slice Ap1 p1.length cp1), (.int .i64 y)] (fun _ => True) (fun k => wr.heap.size ≤ k) rfl rfl ?aP ?aK (fun _ _ => trivial) ?aO (Below.refl _ _) ?aB ?aL ?_; (case aP => exact k43_mkM _ _ _ ⟨p1, y⟩ (Kd.R_lower (Kd.R_mono (Kd.R_bound G7.out.2.2.1) (fun k hk => hk.2.1)) HN2.out.1)); (case aK => exact (fun k hk => ⟨trivial, fun e => by have := Kd.S_lt HSd.out k e.symm; omega⟩)); (case aO => exact Kd.S_mono (S_g HSd.out HR.out G7.out.1.kept (by decide)) (fun k hk => ⟨trivial, Nat.not_le.2 hk⟩)); (case aB => exact Nat.le_trans HN2.out.1 G7.out.1.kept.1); (case aL => have := HLen.out; omega); intro v1 w20 ho hb hg hat; (have hs7 := S_g HSd.out HR.out G7.out.1.kept (by decide)); (have hb4 := box_grow (box_g HB.out HR.out G7.out.1.kept (by decide)) hs7 hg (by decide)); (have hd4 := G7.out.1.dr.growS hs7 hg HN2.out.2 (.inr (.inr rfl))); (have he4 := S_grow (S_g HSS.out.1 HR.out G7.out.1.kept (by decide)) hs7 hg (by decide)); (have he5 := S_grow (S_g HSS.out.2 HR.out G7.out.1.kept (by decide)) hs7 hg (by decide)); (obtain ⟨A8, c8, rfl⟩ := Kd.S_slice ho); (rw [show (Cu ++ [(⟨p1, y⟩ : Cut)]).length = Cu.length + 1 from by simp] at ho); (have u6 : w20.cell? ⟨X, 6, none⟩ = some (.slice C6 Cu.length f6) := (blk_cell hb4 6).trans rfl); (have uf6 : w20.frozen? ⟨X, 6, none⟩ = false := blk_frozen hb4 6); (have HW8 := Aside0.mk (And.intro hd4 (And.intro hb4 (And.intro he4 (And.intro he5 ho))))); clear hs7 hb hg hat hb4 hd4 he4 he5 ho)
        | ((with_reducible refine gate_store (t := 3) (p := 107) rfl ?_); refine store_event (t := 3) (p := 107) (v := ?vo107_) (w1 := (w6.setCell ⟨Y, 1, none⟩ (.int .i64 y))) ?hg ?ho ?hn ?hr ?_; (case ho => rfl); (case hg => rfl); (case hn => rfl); (case hr => first | (go_simp; done) | (go_simp; rfl)); intro w7 hw; (have h1 := set1 (base := w.heap.size) (j := 1) (u := (.int .i64 y)) G6.out.2.1 HY.out.2.2); (rw [← hw] at h1); (have G7 : Aside0 ((CR w wr w7 g R0 n1 n2 s s2 (.slice A6 (lstF S (numF S (numF S (0, none)).2).2).1.length c6) (.slice A7 (lstF S (lstF S (numF S (numF S (0, none)).2).2).2).1.length c7) (lstF S (numF S (numF S (0, none)).2).2).1 (lstF S (lstF S (numF S (numF S (0, none)).2).2).2).1) ∧ w7.heap[Y]? = some (.cells #[(.slice Ap1 p1.length cp1), (.int .i64 y)] 43 (0, 0)) ∧ (Kd.int .i64).R 3 w7 wr.heap.size (fun _ => True) (.slice Ap1 p1.length cp1) p1 ∧ True) := ⟨G6.out.1.keepY HY.out.1 HY.out.2.1 G6.out.2.1 (.inr (.inl rfl)) h1.2.1 h1.2.2, h1.1.trans rfl, R_keepX G6.out.2.2.1 G6.out.2.1 (by decide) h1.2.1, trivial⟩); (have hbx := box_g HB.out HR.out G7.out.1.kept (by decide)); (have hby := G7.out.2.1); (have q6 : w7.cell? ⟨X, 6, none⟩ = _ := (blk_cell hbx 6).trans rfl);  (have r0 : w7.cell? ⟨Y, 0, none⟩ = _ := (blk_cell hby 0).trans rfl); (have r1 : w7.cell? ⟨Y, 1, none⟩ = _ := (blk_cell hby 1).trans rfl);  clear hbx hby; clear hw h1; clear y1 yf1)
        | (go_at_call 22; (have z_ := G5.out); clear z_; refine (HI.out _ G5.out.1.dr.rr G5.out.1.dr.bel G5.out.1.dr.ok).mono ?_; rintro e w6 ⟨rfl, hr, hb, hk⟩; (have hbx := box_g G5.out.2.1 G5.out.1.dr hk (by decide)); (have G6 : Aside0 ((CR w wr w6 g R0 n1 n2 s s2 (.slice A6 (lstF S (numF S (numF S (0, none)).2).2).1.length c6) (.slice A7 (lstF S (lstF S (numF S (numF S (0, none)).2).2).2).1.length c7) (lstF S (numF S (numF S (0, none)).2).2).1 (lstF S (lstF S (numF S (numF S (0, none)).2).2).2).1) ∧ w6.heap[Y]? = some (.cells #[(.slice Ap1 p1.length cp1), .int .i64 0] 43 (0, 0)) ∧ (Kd.int .i64).R 3 w6 wr.heap.size (fun _ => True) (.slice Ap1 p1.length cp1) p1 ∧ True) := ⟨G5.out.1.call hr HO2.out hb hk, hbx, R_g G5.out.2.2.1 G5.out.1.dr hk, trivial⟩); (have y1 : w6.cell? ⟨Y, 1, none⟩ = _ := (blk_cell hbx 1).trans rfl); (have yf1 : w6.frozen? ⟨Y, 1, none⟩ = false := blk_frozen hbx 1);  clear hr hb hk hbx)
        | ((with_reducible refine gate_store (t := 22) (p := 104) rfl ?_); refine store_event (t := 22) (p := 104) (v := ?vo106_) (w1 := (w4.setCell ⟨Y, 0, none⟩ (.slice Ap1 p1.length cp1))) ?hg ?ho ?hn ?hr ?_; (case ho => rfl); (case hg => rfl); (case hn => rfl); (case hr => first | (go_simp; done) | (go_simp; rfl)); intro w5 hw; (have h1 := set1 (base := w.heap.size) (j := 0) (u := (.slice Ap1 p1.length cp1)) G4.out.2.1 HY.out.2.2); (rw [← hw] at h1); (have G5 : Aside0 ((CR w wr w5 g R0 n1 n2 s s1 (.slice A6 (lstF S (numF S (numF S (0, none)).2).2).1.length c6) (.slice A7 (lstF S (lstF S (numF S (numF S (0, none)).2).2).2).1.length c7) (lstF S (numF S (numF S (0, none)).2).2).1 (lstF S (lstF S (numF S (numF S (0, none)).2).2).2).1) ∧ w5.heap[Y]? = some (.cells #[(.slice Ap1 p1.length cp1), .int .i64 0] 43 (0, 0)) ∧ (Kd.int .i64).R 3 w5 wr.heap.size (fun _ => True) (.slice Ap1 p1.length cp1) p1 ∧ True) := ⟨G4.out.1.keepY HY.out.1 HY.out.2.1 G4.out.2.1 (.inr (.inl rfl)) h1.2.1 h1.2.2, h1.1.trans rfl, R_keepX G4.out.2.2.1 G4.out.2.1 (by decide) h1.2.1, trivial⟩);  clear hw h1; clear y0 yf0)
        | (go_at_call 20; (have z_ := G3.out); clear z_; refine (HL1.out _ G3.out.1.dr.rr G3.out.1.dr.bel G3.out.1.dr.ok).mono ?_; rintro e w4 ⟨v_, rfl, hrow, hr, hb, hk⟩; (obtain ⟨Ap1, cp1, rfl⟩ := Kd.R_slice hrow); (have hbx := box_g G3.out.2.1 G3.out.1.dr hk (by decide)); (have G4 : Aside0 ((CR w wr w4 g R0 n1 n2 s s1 (.slice A6 (lstF S (numF S (numF S (0, none)).2).2).1.length c6) (.slice A7 (lstF S (lstF S (numF S (numF S (0, none)).2).2).2).1.length c7) (lstF S (numF S (numF S (0, none)).2).2).1 (lstF S (lstF S (numF S (numF S (0, none)).2).2).2).1) ∧ w4.heap[Y]? = some (.cells #[.slice none 0 0, .int .i64 0] 43 (0, 0)) ∧ (Kd.int .i64).R 3 w4 wr.heap.size (fun _ => True) (.slice Ap1 p1.length cp1) p1 ∧ True) := ⟨G3.out.1.call hr HO1.out hb hk, hbx, Kd.R_mono (Kd.R_lower hrow G3.out.1.kept.1) (fun _ _ => trivial), trivial⟩); (have y0 : w4.cell? ⟨Y, 0, none⟩ = _ := (blk_cell hbx 0).trans rfl); (have yf0 : w4.frozen? ⟨Y, 0, none⟩ = false := blk_frozen hbx 0);  clear hrow hr hb hk hbx)
        | ((with_reducible refine gate_store (t := 43) (p := 15) rfl ?_); refine store_event (t := 43) (p := 15) (v := ?vo105_) (w1 := ((w2.setCell ⟨Y, 0, none⟩ (.slice none 0 0)).setCell ⟨Y, 1, none⟩ (.int .i64 0))) ?hg ?ho ?hn ?hr ?_; (case ho => rfl); (case hg => rfl); (case hn => rfl); (case hr => first | (go_simp; done) | (go_simp; rfl)); intro w3 hw; (have h3 := set2 (base := w.heap.size) (u0 := .slice none 0 0) (u1 := .int .i64 0) G2.out.2 HY.out.2.2); (rw [← hw] at h3); (have G3 : Aside0 ((CR w wr w3 g R0 n1 n2 s sx0 (.slice A6 (lstF S (numF S (numF S (0, none)).2).2).1.length c6) (.slice A7 (lstF S (lstF S (numF S (numF S (0, none)).2).2).2).1.length c7) (lstF S (numF S (numF S (0, none)).2).2).1 (lstF S (lstF S (numF S (numF S (0, none)).2).2).2).1) ∧ w3.heap[Y]? = some (.cells #[.slice none 0 0, .int .i64 0] 43 (0, 0)) ∧ True) := ⟨G2.out.1.keepY HY.out.1 HY.out.2.1 G2.out.2 (.inr (.inl rfl)) h3.2.1 h3.2.2, h3.1, trivial⟩); clear x0 xf0 x1 xf1; clear hw h3)
        | ((with_reducible refine gate_dst (N := 15) rfl ?_); (try (refine gate_guard (by rfl) ?_; dsimp only)); refine box_event ?hg (N := 15) ?hd (cs := #[.slice none 0 0, .int .i64 0]) (t := 43) ?hr ?_; (case hd => rfl); (case hg => rfl); (case hr => first | (go_simp; done) | (go_simp; rfl)); intro Y hg w2 hbox hb; (have HY : Aside0 (wr.heap.size ≤ Y ∧ R0 ≠ Y ∧ w.heap.size ≤ Y) := ⟨Nat.le_of_eq hg.symm, by rw [hg]; exact Nat.ne_of_lt (blk_lt HR.out.res), by rw [hg]; exact HR.out.bel.size⟩); (have G2 : Aside0 ((CR w wr w2 g R0 n1 n2 s sx0 (.slice A6 (lstF S (numF S (numF S (0, none)).2).2).1.length c6) (.slice A7 (lstF S (lstF S (numF S (numF S (0, none)).2).2).2).1.length c7) (lstF S (numF S (numF S (0, none)).2).2).1 (lstF S (lstF S (numF S (numF S (0, none)).2).2).2).1) ∧ w2.heap[Y]? = some (.cells #[.slice none 0 0, .int .i64 0] 43 (0, 0))) := ⟨⟨HR.out.below hb, Kept.of_below hb _⟩, hbox⟩); (have x0 : w2.cell? ⟨Y, 0, none⟩ = _ := (blk_cell hbox 0).trans rfl); (have xf0 : w2.frozen? ⟨Y, 0, none⟩ = false := blk_frozen hbox 0); (have x1 : w2.cell? ⟨Y, 1, none⟩ = _ := (blk_cell hbox 1).trans rfl); (have xf1 : w2.frozen? ⟨Y, 1, none⟩ = false := blk_frozen hbox 1);  clear hg hbox hb))
       go_roundw
       case rel => exact ⟨d + 1, s2, Cu ++ [⟨p1, y⟩], _, by omega, by go_num, ⟨HW8.out.1.keepX HX.out.2 HW8.out.2.1 (.inl rfl) (set1 HW8.out.2.1 HX.out.1).2.1 (set1 HW8.out.2.1 HX.out.1).2.2⟩, ⟨(set1 (base := 0) HW8.out.2.1 (Nat.zero_le _)).1.trans rfl⟩, ⟨S_put HW8.out.2.2.1 HW8.out.2.1 (by decide) 6 _, S_put HW8.out.2.2.2.1 HW8.out.2.1 (by decide) 6 _⟩, ⟨S_put HW8.out.2.2.2.2 HW8.out.2.1 (by decide) 6 _, by rw [List.length_append, HLen.out]; rfl, HM.out⟩⟩
       case measure => simp [intOf]; omega
      ·have hE3 : (se sx0 == 0) = false := beq_eq_false_iff_ne.mpr (fun h => hs0 ((se_none HR.out.ok).1 h))
       go_wp2
       go_meet
       case rel => exact ⟨sx0, Cu, _, HR, HB, HSS, ⟨HS3.out.1, stops_dead cut_err hs0 HS3.out.2.2⟩⟩
     ·go_wp2
      go_meet
      case rel => exact ⟨sx0, Cu, _, HR, HB, HSS, ⟨HS3.out.1, stops_end hd hlt HS3.out.2.2⟩⟩
   case rest =>
    obtain ⟨st8, Cu, v, HR, HB, HSS, HS3⟩ := hcut
    obtain ⟨C6, f6, rfl⟩ := Kd.S_slice HS3.out.1
    rw [HSe.out] at HE1 HE2
    have hans := ans_stops HN9.out HM1.out HN10.out HM2.out HN11.out HS3.out.2
    rw [HE1.out, HE2.out] at hans
    clear H11 HM1 HM2 HN9 HN10 HN11
    have hx0 : ∃ x0, ansF S (0, none) = (x0, st8) := ⟨_, Prod.ext rfl hans.1⟩
    have hend := rend_s HR.out.rr HR.out.bel HR.out.ok
    rw [HSe.out] at hend
    have hok8 := HR.out.ok
    obtain ⟨p, er⟩ := st8
    cases er with
    | some pc =>
     obtain ⟨x0, hx0⟩ := hx0
     have HDEC := Aside0.mk (decV_err hx0)
     have hc : pc.2 = 10 ∨ pc.2 = 11 ∨ pc.2 = 12 := hok8.2 pc rfl
     obtain ⟨pl, c⟩ := pc
     have HEND := Aside0.mk (show Calls _ _ _ _ (fun e w' => e = .returned (.tuple #[.int .i64 c, .int .i64 (pl : Int)]) ∧ _) from hend)
     have hc0 : (c != 0) = true := bne_iff_ne.mpr (by have hc' : c = 10 ∨ c = 11 ∨ c = 12 := hc; omega)
     clear hc hok8 hend hans hx0
     go_wp2_with (first
      | ((with_reducible refine gate_store (t := 27) (p := 2) rfl ?_); refine store_event (t := 27) (p := 2) (v := ?vo301_) (w1 := (((((((w21.setCell ⟨R0, 0, none⟩ (.int .i64 0)).setCell ⟨R0, 1, none⟩ (.bool false)).setCell ⟨R0, 2, none⟩ (.slice none 0 0)).setCell ⟨R0, 3, none⟩ (.slice none 0 0)).setCell ⟨R0, 4, none⟩ (.slice none 0 0)).setCell ⟨R0, 5, none⟩ (.slice none 0 0)).setCell ⟨R0, 6, none⟩ (.slice none 0 0))) ?hg ?ho ?hn ?hr ?_; (case ho => rfl); (case hg => rfl); (case hn => rfl); (case hr => first | (go_simp; done) | (go_simp; rfl)); intro wf hw; (have h7 := set7 (base := w.heap.size) (u0 := .int .i64 0) (u1 := .bool false) (u2 := .slice none 0 0) (u3 := .slice none 0 0) (u4 := .slice none 0 0) (u5 := .slice none 0 0) (u6 := .slice none 0 0) HRS.out HR.out.wR); (dsimp only at h7); (rw [← hw] at h7); (have HF := Aside0.mk h7); clear r0 rf0 r1 rf1 r2 rf2 r3 rf3 r4 rf4 r5 rf5 r6 rf6; clear hw h7)
      | (go_at_call 23; refine HEND.out.mono ?_; rintro e w21 ⟨rfl, hr, hb, hk⟩; (have HB21 := Aside0.mk hb); (have HRS := Aside0.mk (box_g HR.out.res HR.out hk (by decide))); (have HBX := Aside0.mk (box_g HB.out HR.out hk (by decide))); (have HD21 := Aside0.mk (HR.out.call hr HR.out.ok hb hk)); (have HS21 := Aside0.mk (And.intro (S_g HSS.out.1 HR.out hk (by decide)) (And.intro (S_g HSS.out.2 HR.out hk (by decide)) (S_g HS3.out.1 HR.out hk (by decide))))); (have hrs := HRS.out); (have hbx := HBX.out); (have r0 : w21.cell? ⟨R0, 0, none⟩ = _ := (blk_cell hrs 0).trans rfl); (have rf0 : w21.frozen? ⟨R0, 0, none⟩ = false := blk_frozen hrs 0); (have r1 : w21.cell? ⟨R0, 1, none⟩ = _ := (blk_cell hrs 1).trans rfl); (have rf1 : w21.frozen? ⟨R0, 1, none⟩ = false := blk_frozen hrs 1); (have r2 : w21.cell? ⟨R0, 2, none⟩ = _ := (blk_cell hrs 2).trans rfl); (have rf2 : w21.frozen? ⟨R0, 2, none⟩ = false := blk_frozen hrs 2); (have r3 : w21.cell? ⟨R0, 3, none⟩ = _ := (blk_cell hrs 3).trans rfl); (have rf3 : w21.frozen? ⟨R0, 3, none⟩ = false := blk_frozen hrs 3); (have r4 : w21.cell? ⟨R0, 4, none⟩ = _ := (blk_cell hrs 4).trans rfl); (have rf4 : w21.frozen? ⟨R0, 4, none⟩ = false := blk_frozen hrs 4); (have r5 : w21.cell? ⟨R0, 5, none⟩ = _ := (blk_cell hrs 5).trans rfl); (have rf5 : w21.frozen? ⟨R0, 5, none⟩ = false := blk_frozen hrs 5); (have r6 : w21.cell? ⟨R0, 6, none⟩ = _ := (blk_cell hrs 6).trans rfl); (have rf6 : w21.frozen? ⟨R0, 6, none⟩ = false := blk_frozen hrs 6);  (have x0 : w21.cell? ⟨X, 0, none⟩ = _ := (blk_cell hbx 0).trans rfl); (have x1 : w21.cell? ⟨X, 1, none⟩ = _ := (blk_cell hbx 1).trans rfl); (have x2 : w21.cell? ⟨X, 2, none⟩ = _ := (blk_cell hbx 2).trans rfl); (have x3 : w21.cell? ⟨X, 3, none⟩ = _ := (blk_cell hbx 3).trans rfl); (have x4 : w21.cell? ⟨X, 4, none⟩ = _ := (blk_cell hbx 4).trans rfl); (have x5 : w21.cell? ⟨X, 5, none⟩ = _ := (blk_cell hbx 5).trans rfl); (have x6 : w21.cell? ⟨X, 6, none⟩ = _ := (blk_cell hbx 6).trans rfl);  clear hr hb hk hrs hbx))
     ((try simp only [Exit.inBlock, Exit.then]); refine bodyPost_ret (results_ctt rfl _ _ R0 27 #[.int .i64 0, .bool false, .slice none 0 0, .slice none 0 0, .slice none 0 0, .slice none 0 0, .slice none 0 0] (0, 0) _ rfl HF.out.1 Tryd.underlying27 rfl (by kernel_rfl)) rfl ?_)
     rw [HSe.out, HDEC.out]
     exact ⟨_, _, _, _, _, rfl, RowsA.nil _ _ (Nat.le_trans HB21.out.size HF.out.2.1.1), HB21.out.trans HF.out.2.2⟩
    | none =>
     have hx : ansF S (0, none) = (⟨kd, no, (lstF S (numF S (numF S (0, none)).2).2).1, (lstF S (lstF S (numF S (numF S (0, none)).2).2).2).1, Se, Sp, Cu⟩, (p, none)) := Prod.ext (hans.2 rfl) hans.1
     have hdv := decV_ok hx
     have hSl : S.length = s.size := by rw [← HSe.out]; exact bytesOf_length s
     have HPI : Aside0 (OkI ((lstF S (numF S (numF S (0, none)).2).2).1) ((lstF S (lstF S (numF S (numF S (0, none)).2).2).2).1) Se Sp Cu) := ⟨PV_I (x := ⟨kd, no, (lstF S (numF S (numF S (0, none)).2).2).1, (lstF S (lstF S (numF S (numF S (0, none)).2).2).2).1, Se, Sp, Cu⟩) (PV_of s (by rw [HSe.out]; exact hx))⟩
     rw [hSl] at hdv
     clear hans hx0 hx hok8
     by_cases hl : p < s.size
     ·rw [if_pos hl] at hdv
      have HDEC := Aside0.mk hdv
      have hE : endF S (p, none) = (13, (p : Int)) := by simp only [endF]; rw [hSl, if_pos hl]
      rw [hE] at hend
      have HEND := Aside0.mk hend
      clear hdv hl hE hend hSl
      go_wp2_with (first
       | ((with_reducible refine gate_store (t := 27) (p := 2) rfl ?_); refine store_event (t := 27) (p := 2) (v := ?vo302_) (w1 := (((((((w21.setCell ⟨R0, 0, none⟩ (.int .i64 0)).setCell ⟨R0, 1, none⟩ (.bool false)).setCell ⟨R0, 2, none⟩ (.slice none 0 0)).setCell ⟨R0, 3, none⟩ (.slice none 0 0)).setCell ⟨R0, 4, none⟩ (.slice none 0 0)).setCell ⟨R0, 5, none⟩ (.slice none 0 0)).setCell ⟨R0, 6, none⟩ (.slice none 0 0))) ?hg ?ho ?hn ?hr ?_; (case ho => rfl); (case hg => rfl); (case hn => rfl); (case hr => first | (go_simp; done) | (go_simp; rfl)); intro wf hw; (have h7 := set7 (base := w.heap.size) (u0 := .int .i64 0) (u1 := .bool false) (u2 := .slice none 0 0) (u3 := .slice none 0 0) (u4 := .slice none 0 0) (u5 := .slice none 0 0) (u6 := .slice none 0 0) HRS.out HR.out.wR); (dsimp only at h7); (rw [← hw] at h7); (have HF := Aside0.mk h7); clear r0 rf0 r1 rf1 r2 rf2 r3 rf3 r4 rf4 r5 rf5 r6 rf6; clear hw h7)
       | (go_at_call 23; refine HEND.out.mono ?_; rintro e w21 ⟨rfl, hr, hb, hk⟩; (have HB21 := Aside0.mk hb); (have HRS := Aside0.mk (box_g HR.out.res HR.out hk (by decide))); (have HBX := Aside0.mk (box_g HB.out HR.out hk (by decide))); (have HD21 := Aside0.mk (HR.out.call hr HR.out.ok hb hk)); (have HS21 := Aside0.mk (And.intro (S_g HSS.out.1 HR.out hk (by decide)) (And.intro (S_g HSS.out.2 HR.out hk (by decide)) (S_g HS3.out.1 HR.out hk (by decide))))); (have hrs := HRS.out); (have hbx := HBX.out); (have r0 : w21.cell? ⟨R0, 0, none⟩ = _ := (blk_cell hrs 0).trans rfl); (have rf0 : w21.frozen? ⟨R0, 0, none⟩ = false := blk_frozen hrs 0); (have r1 : w21.cell? ⟨R0, 1, none⟩ = _ := (blk_cell hrs 1).trans rfl); (have rf1 : w21.frozen? ⟨R0, 1, none⟩ = false := blk_frozen hrs 1); (have r2 : w21.cell? ⟨R0, 2, none⟩ = _ := (blk_cell hrs 2).trans rfl); (have rf2 : w21.frozen? ⟨R0, 2, none⟩ = false := blk_frozen hrs 2); (have r3 : w21.cell? ⟨R0, 3, none⟩ = _ := (blk_cell hrs 3).trans rfl); (have rf3 : w21.frozen? ⟨R0, 3, none⟩ = false := blk_frozen hrs 3); (have r4 : w21.cell? ⟨R0, 4, none⟩ = _ := (blk_cell hrs 4).trans rfl); (have rf4 : w21.frozen? ⟨R0, 4, none⟩ = false := blk_frozen hrs 4); (have r5 : w21.cell? ⟨R0, 5, none⟩ = _ := (blk_cell hrs 5).trans rfl); (have rf5 : w21.frozen? ⟨R0, 5, none⟩ = false := blk_frozen hrs 5); (have r6 : w21.cell? ⟨R0, 6, none⟩ = _ := (blk_cell hrs 6).trans rfl); (have rf6 : w21.frozen? ⟨R0, 6, none⟩ = false := blk_frozen hrs 6);  (have x0 : w21.cell? ⟨X, 0, none⟩ = _ := (blk_cell hbx 0).trans rfl); (have x1 : w21.cell? ⟨X, 1, none⟩ = _ := (blk_cell hbx 1).trans rfl); (have x2 : w21.cell? ⟨X, 2, none⟩ = _ := (blk_cell hbx 2).trans rfl); (have x3 : w21.cell? ⟨X, 3, none⟩ = _ := (blk_cell hbx 3).trans rfl); (have x4 : w21.cell? ⟨X, 4, none⟩ = _ := (blk_cell hbx 4).trans rfl); (have x5 : w21.cell? ⟨X, 5, none⟩ = _ := (blk_cell hbx 5).trans rfl); (have x6 : w21.cell? ⟨X, 6, none⟩ = _ := (blk_cell hbx 6).trans rfl);  clear hr hb hk hrs hbx))
      ((try simp only [Exit.inBlock, Exit.then]); refine bodyPost_ret (results_ctt rfl _ _ R0 27 #[.int .i64 0, .bool false, .slice none 0 0, .slice none 0 0, .slice none 0 0, .slice none 0 0, .slice none 0 0] (0, 0) _ rfl HF.out.1 Tryd.underlying27 rfl (by kernel_rfl)) rfl ?_)
      rw [HSe.out, HDEC.out]
      exact ⟨_, _, _, _, _, rfl, RowsA.nil _ _ (Nat.le_trans HB21.out.size HF.out.2.1.1), HB21.out.trans HF.out.2.2⟩
     ·rw [if_neg hl] at hdv
      have hE : endF S (p, none) = (0, (p : Int)) := by simp only [endF]; rw [hSl, if_neg hl]
      rw [hE] at hend
      have HEND := Aside0.mk hend
      clear hl hE hend hSl
      by_cases hno : no > 1
      ·rw [if_pos (.inl hno)] at hdv
       have HDEC := Aside0.mk hdv
       have y1 : decide (1 < no) = true := decide_eq_true hno
       clear hdv hno
       go_wp2_with (first
        | ((with_reducible refine gate_store (t := 27) (p := 2) rfl ?_); refine store_event (t := 27) (p := 2) (v := ?vo303_) (w1 := (((((((w21.setCell ⟨R0, 0, none⟩ (.int .i64 0)).setCell ⟨R0, 1, none⟩ (.bool false)).setCell ⟨R0, 2, none⟩ (.slice none 0 0)).setCell ⟨R0, 3, none⟩ (.slice none 0 0)).setCell ⟨R0, 4, none⟩ (.slice none 0 0)).setCell ⟨R0, 5, none⟩ (.slice none 0 0)).setCell ⟨R0, 6, none⟩ (.slice none 0 0))) ?hg ?ho ?hn ?hr ?_; (case ho => rfl); (case hg => rfl); (case hn => rfl); (case hr => first | (go_simp; done) | (go_simp; rfl)); intro wf hw; (have h7 := set7 (base := w.heap.size) (u0 := .int .i64 0) (u1 := .bool false) (u2 := .slice none 0 0) (u3 := .slice none 0 0) (u4 := .slice none 0 0) (u5 := .slice none 0 0) (u6 := .slice none 0 0) HRS.out HR.out.wR); (dsimp only at h7); (rw [← hw] at h7); (have HF := Aside0.mk h7); clear r0 rf0 r1 rf1 r2 rf2 r3 rf3 r4 rf4 r5 rf5 r6 rf6; clear hw h7)
        | (go_at_call 23; refine HEND.out.mono ?_; rintro e w21 ⟨rfl, hr, hb, hk⟩; (have HB21 := Aside0.mk hb); (have HRS := Aside0.mk (box_g HR.out.res HR.out hk (by decide))); (have HBX := Aside0.mk (box_g HB.out HR.out hk (by decide))); (have HD21 := Aside0.mk (HR.out.call hr HR.out.ok hb hk)); (have HS21 := Aside0.mk (And.intro (S_g HSS.out.1 HR.out hk (by decide)) (And.intro (S_g HSS.out.2 HR.out hk (by decide)) (S_g HS3.out.1 HR.out hk (by decide))))); (have hrs := HRS.out); (have hbx := HBX.out); (have r0 : w21.cell? ⟨R0, 0, none⟩ = _ := (blk_cell hrs 0).trans rfl); (have rf0 : w21.frozen? ⟨R0, 0, none⟩ = false := blk_frozen hrs 0); (have r1 : w21.cell? ⟨R0, 1, none⟩ = _ := (blk_cell hrs 1).trans rfl); (have rf1 : w21.frozen? ⟨R0, 1, none⟩ = false := blk_frozen hrs 1); (have r2 : w21.cell? ⟨R0, 2, none⟩ = _ := (blk_cell hrs 2).trans rfl); (have rf2 : w21.frozen? ⟨R0, 2, none⟩ = false := blk_frozen hrs 2); (have r3 : w21.cell? ⟨R0, 3, none⟩ = _ := (blk_cell hrs 3).trans rfl); (have rf3 : w21.frozen? ⟨R0, 3, none⟩ = false := blk_frozen hrs 3); (have r4 : w21.cell? ⟨R0, 4, none⟩ = _ := (blk_cell hrs 4).trans rfl); (have rf4 : w21.frozen? ⟨R0, 4, none⟩ = false := blk_frozen hrs 4); (have r5 : w21.cell? ⟨R0, 5, none⟩ = _ := (blk_cell hrs 5).trans rfl); (have rf5 : w21.frozen? ⟨R0, 5, none⟩ = false := blk_frozen hrs 5); (have r6 : w21.cell? ⟨R0, 6, none⟩ = _ := (blk_cell hrs 6).trans rfl); (have rf6 : w21.frozen? ⟨R0, 6, none⟩ = false := blk_frozen hrs 6);  (have x0 : w21.cell? ⟨X, 0, none⟩ = _ := (blk_cell hbx 0).trans rfl); (have x1 : w21.cell? ⟨X, 1, none⟩ = _ := (blk_cell hbx 1).trans rfl); (have x2 : w21.cell? ⟨X, 2, none⟩ = _ := (blk_cell hbx 2).trans rfl); (have x3 : w21.cell? ⟨X, 3, none⟩ = _ := (blk_cell hbx 3).trans rfl); (have x4 : w21.cell? ⟨X, 4, none⟩ = _ := (blk_cell hbx 4).trans rfl); (have x5 : w21.cell? ⟨X, 5, none⟩ = _ := (blk_cell hbx 5).trans rfl); (have x6 : w21.cell? ⟨X, 6, none⟩ = _ := (blk_cell hbx 6).trans rfl);  clear hr hb hk hrs hbx))
       ((try simp only [Exit.inBlock, Exit.then]); refine bodyPost_ret (results_ctt rfl _ _ R0 27 #[.int .i64 0, .bool false, .slice none 0 0, .slice none 0 0, .slice none 0 0, .slice none 0 0, .slice none 0 0] (0, 0) _ rfl HF.out.1 Tryd.underlying27 rfl (by kernel_rfl)) rfl ?_)
       rw [HSe.out, HDEC.out]
       exact ⟨_, _, _, _, _, rfl, RowsA.nil _ _ (Nat.le_trans HB21.out.size HF.out.2.1.1), HB21.out.trans HF.out.2.2⟩
      ·have y1 : decide (1 < no) = false := decide_eq_false hno
       cases hk : okV ⟨kd, no, (lstF S (numF S (numF S (0, none)).2).2).1, (lstF S (lstF S (numF S (numF S (0, none)).2).2).2).1, Se, Sp, Cu⟩ with
       | false =>
        rw [if_pos (.inr hk)] at hdv
        have HDEC := Aside0.mk hdv
        have HOK : Aside0 ((if okV ⟨kd, no, (lstF S (numF S (numF S (0, none)).2).2).1, (lstF S (lstF S (numF S (numF S (0, none)).2).2).2).1, Se, Sp, Cu⟩ = true then (0 : Int) else 230) = 230) := ⟨by rw [hk]; rfl⟩
        clear hdv hno hk
        go_wp2_with (first
         | ((with_reducible refine gate_store (t := 27) (p := 2) rfl ?_); refine store_event (t := 27) (p := 2) (v := ?vo304_) (w1 := (((((((w22.setCell ⟨R0, 0, none⟩ (.int .i64 0)).setCell ⟨R0, 1, none⟩ (.bool false)).setCell ⟨R0, 2, none⟩ (.slice none 0 0)).setCell ⟨R0, 3, none⟩ (.slice none 0 0)).setCell ⟨R0, 4, none⟩ (.slice none 0 0)).setCell ⟨R0, 5, none⟩ (.slice none 0 0)).setCell ⟨R0, 6, none⟩ (.slice none 0 0))) ?hg ?ho ?hn ?hr ?_; (case ho => rfl); (case hg => rfl); (case hn => rfl); (case hr => first | (go_simp; done) | (go_simp; rfl)); intro wf hw; (have h7 := set7 (base := w.heap.size) (u0 := .int .i64 0) (u1 := .bool false) (u2 := .slice none 0 0) (u3 := .slice none 0 0) (u4 := .slice none 0 0) (u5 := .slice none 0 0) (u6 := .slice none 0 0) HRS2.out HR.out.wR); (dsimp only at h7); (rw [← hw] at h7); (have HF := Aside0.mk h7); clear r0 rf0 r1 rf1 r2 rf2 r3 rf3 r4 rf4 r5 rf5 r6 rf6; clear hw h7)
         | (go_at_call 12; (have z_ := HD21.out); clear z_; refine (rcheck_rows bno (x := ⟨kd, no, (lstF S (numF S (numF S (0, none)).2).2).1, (lstF S (lstF S (numF S (numF S (0, none)).2).2).2).1, Se, Sp, Cu⟩) (rowsA_r HD21.out HS21.out.1 HS21.out.2.1 HS21.out.2.2) HPI.out).mono ?_; rintro e w22 ⟨hret, hb⟩; (rw [HOK.out] at hret); (subst hret); (have HB22 := Aside0.mk (HB21.out.trans (hb.mono HB21.out.size))); (have HR22 := Aside0.mk ((rowsA_r (kd := kd) (no := no) HD21.out HS21.out.1 HS21.out.2.1 HS21.out.2.2).below hb)); (have HRS2 := Aside0.mk (blk_below HRS.out hb)); (have HBX2 := Aside0.mk (blk_below HBX.out hb)); (have hrs := HRS2.out); (have hbx := HBX2.out); clear r0 rf0 r1 rf1 r2 rf2 r3 rf3 r4 rf4 r5 rf5 r6 rf6; clear x0 x1 x2 x3 x4 x5 x6; (have r0 : w22.cell? ⟨R0, 0, none⟩ = _ := (blk_cell hrs 0).trans rfl); (have rf0 : w22.frozen? ⟨R0, 0, none⟩ = false := blk_frozen hrs 0); (have r1 : w22.cell? ⟨R0, 1, none⟩ = _ := (blk_cell hrs 1).trans rfl); (have rf1 : w22.frozen? ⟨R0, 1, none⟩ = false := blk_frozen hrs 1); (have r2 : w22.cell? ⟨R0, 2, none⟩ = _ := (blk_cell hrs 2).trans rfl); (have rf2 : w22.frozen? ⟨R0, 2, none⟩ = false := blk_frozen hrs 2); (have r3 : w22.cell? ⟨R0, 3, none⟩ = _ := (blk_cell hrs 3).trans rfl); (have rf3 : w22.frozen? ⟨R0, 3, none⟩ = false := blk_frozen hrs 3); (have r4 : w22.cell? ⟨R0, 4, none⟩ = _ := (blk_cell hrs 4).trans rfl); (have rf4 : w22.frozen? ⟨R0, 4, none⟩ = false := blk_frozen hrs 4); (have r5 : w22.cell? ⟨R0, 5, none⟩ = _ := (blk_cell hrs 5).trans rfl); (have rf5 : w22.frozen? ⟨R0, 5, none⟩ = false := blk_frozen hrs 5); (have r6 : w22.cell? ⟨R0, 6, none⟩ = _ := (blk_cell hrs 6).trans rfl); (have rf6 : w22.frozen? ⟨R0, 6, none⟩ = false := blk_frozen hrs 6);  (have x0 : w22.cell? ⟨X, 0, none⟩ = _ := (blk_cell hbx 0).trans rfl); (have x1 : w22.cell? ⟨X, 1, none⟩ = _ := (blk_cell hbx 1).trans rfl); (have x2 : w22.cell? ⟨X, 2, none⟩ = _ := (blk_cell hbx 2).trans rfl); (have x3 : w22.cell? ⟨X, 3, none⟩ = _ := (blk_cell hbx 3).trans rfl); (have x4 : w22.cell? ⟨X, 4, none⟩ = _ := (blk_cell hbx 4).trans rfl); (have x5 : w22.cell? ⟨X, 5, none⟩ = _ := (blk_cell hbx 5).trans rfl); (have x6 : w22.cell? ⟨X, 6, none⟩ = _ := (blk_cell hbx 6).trans rfl);  clear hb hrs hbx)
         | (go_at_call 23; refine HEND.out.mono ?_; rintro e w21 ⟨rfl, hr, hb, hk⟩; (have HB21 := Aside0.mk hb); (have HRS := Aside0.mk (box_g HR.out.res HR.out hk (by decide))); (have HBX := Aside0.mk (box_g HB.out HR.out hk (by decide))); (have HD21 := Aside0.mk (HR.out.call hr HR.out.ok hb hk)); (have HS21 := Aside0.mk (And.intro (S_g HSS.out.1 HR.out hk (by decide)) (And.intro (S_g HSS.out.2 HR.out hk (by decide)) (S_g HS3.out.1 HR.out hk (by decide))))); (have hrs := HRS.out); (have hbx := HBX.out); (have r0 : w21.cell? ⟨R0, 0, none⟩ = _ := (blk_cell hrs 0).trans rfl); (have rf0 : w21.frozen? ⟨R0, 0, none⟩ = false := blk_frozen hrs 0); (have r1 : w21.cell? ⟨R0, 1, none⟩ = _ := (blk_cell hrs 1).trans rfl); (have rf1 : w21.frozen? ⟨R0, 1, none⟩ = false := blk_frozen hrs 1); (have r2 : w21.cell? ⟨R0, 2, none⟩ = _ := (blk_cell hrs 2).trans rfl); (have rf2 : w21.frozen? ⟨R0, 2, none⟩ = false := blk_frozen hrs 2); (have r3 : w21.cell? ⟨R0, 3, none⟩ = _ := (blk_cell hrs 3).trans rfl); (have rf3 : w21.frozen? ⟨R0, 3, none⟩ = false := blk_frozen hrs 3); (have r4 : w21.cell? ⟨R0, 4, none⟩ = _ := (blk_cell hrs 4).trans rfl); (have rf4 : w21.frozen? ⟨R0, 4, none⟩ = false := blk_frozen hrs 4); (have r5 : w21.cell? ⟨R0, 5, none⟩ = _ := (blk_cell hrs 5).trans rfl); (have rf5 : w21.frozen? ⟨R0, 5, none⟩ = false := blk_frozen hrs 5); (have r6 : w21.cell? ⟨R0, 6, none⟩ = _ := (blk_cell hrs 6).trans rfl); (have rf6 : w21.frozen? ⟨R0, 6, none⟩ = false := blk_frozen hrs 6);  (have x0 : w21.cell? ⟨X, 0, none⟩ = _ := (blk_cell hbx 0).trans rfl); (have x1 : w21.cell? ⟨X, 1, none⟩ = _ := (blk_cell hbx 1).trans rfl); (have x2 : w21.cell? ⟨X, 2, none⟩ = _ := (blk_cell hbx 2).trans rfl); (have x3 : w21.cell? ⟨X, 3, none⟩ = _ := (blk_cell hbx 3).trans rfl); (have x4 : w21.cell? ⟨X, 4, none⟩ = _ := (blk_cell hbx 4).trans rfl); (have x5 : w21.cell? ⟨X, 5, none⟩ = _ := (blk_cell hbx 5).trans rfl); (have x6 : w21.cell? ⟨X, 6, none⟩ = _ := (blk_cell hbx 6).trans rfl);  clear hr hb hk hrs hbx))
        ((try simp only [Exit.inBlock, Exit.then]); refine bodyPost_ret (results_ctt rfl _ _ R0 27 #[.int .i64 0, .bool false, .slice none 0 0, .slice none 0 0, .slice none 0 0, .slice none 0 0, .slice none 0 0] (0, 0) _ rfl HF.out.1 Tryd.underlying27 rfl (by kernel_rfl)) rfl ?_)
        rw [HSe.out, HDEC.out]
        exact ⟨_, _, _, _, _, rfl, RowsA.nil _ _ (Nat.le_trans HB22.out.size HF.out.2.1.1), HB22.out.trans HF.out.2.2⟩
       | true =>
        rw [if_neg (fun h => by rcases h with h | h; (exact hno h); (rw [hk] at h; cases h))] at hdv
        have HDEC := Aside0.mk hdv
        have HOK : Aside0 ((if okV ⟨kd, no, (lstF S (numF S (numF S (0, none)).2).2).1, (lstF S (lstF S (numF S (numF S (0, none)).2).2).2).1, Se, Sp, Cu⟩ = true then (0 : Int) else 230) = 0) := ⟨by rw [hk]; rfl⟩
        clear hdv hno hk
        go_wp2_with (first
         | ((with_reducible refine gate_store (t := 27) (p := 2) rfl ?_); refine store_event (t := 27) (p := 2) (v := ?vo305_) (w1 := (((((((w22.setCell ⟨R0, 0, none⟩ (.int .i64 kd)).setCell ⟨R0, 1, none⟩ (.bool bno)).setCell ⟨R0, 2, none⟩ (.slice A6 (lstF S (numF S (numF S (0, none)).2).2).1.length c6)).setCell ⟨R0, 3, none⟩ (.slice A7 (lstF S (lstF S (numF S (numF S (0, none)).2).2).2).1.length c7)).setCell ⟨R0, 4, none⟩ (.slice A4 Se.length c4)).setCell ⟨R0, 5, none⟩ (.slice B5 Sp.length e5)).setCell ⟨R0, 6, none⟩ (.slice C6 Cu.length f6))) ?hg ?ho ?hn ?hr ?_; (case ho => rfl); (case hg => rfl); (case hn => rfl); (case hr => first | (go_simp; done) | (go_simp; rfl)); intro wf hw; (have h7 := set7 (base := w.heap.size) (u0 := .int .i64 kd) (u1 := .bool bno) (u2 := .slice A6 (lstF S (numF S (numF S (0, none)).2).2).1.length c6) (u3 := .slice A7 (lstF S (lstF S (numF S (numF S (0, none)).2).2).2).1.length c7) (u4 := .slice A4 Se.length c4) (u5 := .slice B5 Sp.length e5) (u6 := .slice C6 Cu.length f6) HRS2.out HR.out.wR); (dsimp only at h7); (rw [← hw] at h7); (have HF := Aside0.mk h7); clear r0 rf0 r1 rf1 r2 rf2 r3 rf3 r4 rf4 r5 rf5 r6 rf6; clear hw h7)
         | (go_at_call 12; (have z_ := HD21.out); clear z_; refine (rcheck_rows bno (x := ⟨kd, no, (lstF S (numF S (numF S (0, none)).2).2).1, (lstF S (lstF S (numF S (numF S (0, none)).2).2).2).1, Se, Sp, Cu⟩) (rowsA_r HD21.out HS21.out.1 HS21.out.2.1 HS21.out.2.2) HPI.out).mono ?_; rintro e w22 ⟨hret, hb⟩; (rw [HOK.out] at hret); (subst hret); (have HB22 := Aside0.mk (HB21.out.trans (hb.mono HB21.out.size))); (have HR22 := Aside0.mk ((rowsA_r (kd := kd) (no := no) HD21.out HS21.out.1 HS21.out.2.1 HS21.out.2.2).below hb)); (have HRS2 := Aside0.mk (blk_below HRS.out hb)); (have HBX2 := Aside0.mk (blk_below HBX.out hb)); (have hrs := HRS2.out); (have hbx := HBX2.out); clear r0 rf0 r1 rf1 r2 rf2 r3 rf3 r4 rf4 r5 rf5 r6 rf6; clear x0 x1 x2 x3 x4 x5 x6; (have r0 : w22.cell? ⟨R0, 0, none⟩ = _ := (blk_cell hrs 0).trans rfl); (have rf0 : w22.frozen? ⟨R0, 0, none⟩ = false := blk_frozen hrs 0); (have r1 : w22.cell? ⟨R0, 1, none⟩ = _ := (blk_cell hrs 1).trans rfl); (have rf1 : w22.frozen? ⟨R0, 1, none⟩ = false := blk_frozen hrs 1); (have r2 : w22.cell? ⟨R0, 2, none⟩ = _ := (blk_cell hrs 2).trans rfl); (have rf2 : w22.frozen? ⟨R0, 2, none⟩ = false := blk_frozen hrs 2); (have r3 : w22.cell? ⟨R0, 3, none⟩ = _ := (blk_cell hrs 3).trans rfl); (have rf3 : w22.frozen? ⟨R0, 3, none⟩ = false := blk_frozen hrs 3); (have r4 : w22.cell? ⟨R0, 4, none⟩ = _ := (blk_cell hrs 4).trans rfl); (have rf4 : w22.frozen? ⟨R0, 4, none⟩ = false := blk_frozen hrs 4); (have r5 : w22.cell? ⟨R0, 5, none⟩ = _ := (blk_cell hrs 5).trans rfl); (have rf5 : w22.frozen? ⟨R0, 5, none⟩ = false := blk_frozen hrs 5); (have r6 : w22.cell? ⟨R0, 6, none⟩ = _ := (blk_cell hrs 6).trans rfl); (have rf6 : w22.frozen? ⟨R0, 6, none⟩ = false := blk_frozen hrs 6);  (have x0 : w22.cell? ⟨X, 0, none⟩ = _ := (blk_cell hbx 0).trans rfl); (have x1 : w22.cell? ⟨X, 1, none⟩ = _ := (blk_cell hbx 1).trans rfl); (have x2 : w22.cell? ⟨X, 2, none⟩ = _ := (blk_cell hbx 2).trans rfl); (have x3 : w22.cell? ⟨X, 3, none⟩ = _ := (blk_cell hbx 3).trans rfl); (have x4 : w22.cell? ⟨X, 4, none⟩ = _ := (blk_cell hbx 4).trans rfl); (have x5 : w22.cell? ⟨X, 5, none⟩ = _ := (blk_cell hbx 5).trans rfl); (have x6 : w22.cell? ⟨X, 6, none⟩ = _ := (blk_cell hbx 6).trans rfl);  clear hb hrs hbx)
         | (go_at_call 23; refine HEND.out.mono ?_; rintro e w21 ⟨rfl, hr, hb, hk⟩; (have HB21 := Aside0.mk hb); (have HRS := Aside0.mk (box_g HR.out.res HR.out hk (by decide))); (have HBX := Aside0.mk (box_g HB.out HR.out hk (by decide))); (have HD21 := Aside0.mk (HR.out.call hr HR.out.ok hb hk)); (have HS21 := Aside0.mk (And.intro (S_g HSS.out.1 HR.out hk (by decide)) (And.intro (S_g HSS.out.2 HR.out hk (by decide)) (S_g HS3.out.1 HR.out hk (by decide))))); (have hrs := HRS.out); (have hbx := HBX.out); (have r0 : w21.cell? ⟨R0, 0, none⟩ = _ := (blk_cell hrs 0).trans rfl); (have rf0 : w21.frozen? ⟨R0, 0, none⟩ = false := blk_frozen hrs 0); (have r1 : w21.cell? ⟨R0, 1, none⟩ = _ := (blk_cell hrs 1).trans rfl); (have rf1 : w21.frozen? ⟨R0, 1, none⟩ = false := blk_frozen hrs 1); (have r2 : w21.cell? ⟨R0, 2, none⟩ = _ := (blk_cell hrs 2).trans rfl); (have rf2 : w21.frozen? ⟨R0, 2, none⟩ = false := blk_frozen hrs 2); (have r3 : w21.cell? ⟨R0, 3, none⟩ = _ := (blk_cell hrs 3).trans rfl); (have rf3 : w21.frozen? ⟨R0, 3, none⟩ = false := blk_frozen hrs 3); (have r4 : w21.cell? ⟨R0, 4, none⟩ = _ := (blk_cell hrs 4).trans rfl); (have rf4 : w21.frozen? ⟨R0, 4, none⟩ = false := blk_frozen hrs 4); (have r5 : w21.cell? ⟨R0, 5, none⟩ = _ := (blk_cell hrs 5).trans rfl); (have rf5 : w21.frozen? ⟨R0, 5, none⟩ = false := blk_frozen hrs 5); (have r6 : w21.cell? ⟨R0, 6, none⟩ = _ := (blk_cell hrs 6).trans rfl); (have rf6 : w21.frozen? ⟨R0, 6, none⟩ = false := blk_frozen hrs 6);  (have x0 : w21.cell? ⟨X, 0, none⟩ = _ := (blk_cell hbx 0).trans rfl); (have x1 : w21.cell? ⟨X, 1, none⟩ = _ := (blk_cell hbx 1).trans rfl); (have x2 : w21.cell? ⟨X, 2, none⟩ = _ := (blk_cell hbx 2).trans rfl); (have x3 : w21.cell? ⟨X, 3, none⟩ = _ := (blk_cell hbx 3).trans rfl); (have x4 : w21.cell? ⟨X, 4, none⟩ = _ := (blk_cell hbx 4).trans rfl); (have x5 : w21.cell? ⟨X, 5, none⟩ = _ := (blk_cell hbx 5).trans rfl); (have x6 : w21.cell? ⟨X, 6, none⟩ = _ := (blk_cell hbx 6).trans rfl);  clear hr hb hk hrs hbx))
        ((try simp only [Exit.inBlock, Exit.then]); refine bodyPost_ret (results_ctt rfl _ _ R0 27 #[.int .i64 kd, .bool bno, .slice A6 (lstF S (numF S (numF S (0, none)).2).2).1.length c6, .slice A7 (lstF S (lstF S (numF S (numF S (0, none)).2).2).2).1.length c7, .slice A4 Se.length c4, .slice B5 Sp.length e5, .slice C6 Cu.length f6] (0, 0) _ rfl HF.out.1 Tryd.underlying27 rfl (by kernel_rfl)) rfl ?_)
        rw [HSe.out, HDEC.out]
        dsimp only
        rw [hbno']
        exact ⟨_, _, _, _, _, rfl, HR22.out.keepX HRS2.out HF.out.2.1, HB22.out.trans HF.out.2.2⟩

end Go.Proofs.YtlekdhejgdfnpaaDoor.P
/- layer 23's AnswerNumbers: what its walk stands on. -/
namespace Go.Proofs.YtlekdhejgdfnpaaDoor.P
open Go.RowKit Go.Proofs.YtlekdhejgdfnpaaDoorW.PrintWords Go.Proofs.YtlekdhejgdfnpaaDoorW.PrintLast Go.Proofs.YtlekdhejgdfnpaaDoorW.PrintMore
open Wr

section
variable {W : World} {A0 B : Option Addr} {c0 : Nat} (l : List Int) (a1 : Int)
end
theorem same_rows {W : World} {n0 : Nat} {A2 A3 A4 A5 A6 B2 B3 B4 B5 B6 : Option Addr} {c2 c3 c4 c5 c6 d2 d3 d4 d5 d6 : Nat} {x : AnsV} {kd' : Int} {no' : Bool} {S' U' : List Int} {Se' : List (List Int)} {Sp' : List Spl} {Cu' : List Cut}
 (h : RowsA W n0 (.slice A2 x.S.length c2) (.slice A3 x.U.length c3) (.slice A4 x.Se.length c4) (.slice A5 x.Sp.length c5) (.slice A6 x.Cu.length c6) x) (hs : ∃ k, greenwoodref23_Same.f k x.kd (x.no == 1) x.S x.U x.Se x.Sp x.Cu kd' no' S' U' Se' Sp' Cu' = some true)
 (h2 : Kd.C (Kd.int .i64) W B2 S'.length S') (k2 : S'.length ≤ d2) (h3 : Kd.C (Kd.int .i64) W B3 U'.length U') (k3 : U'.length ≤ d3) (h4 : Kd.C (Kd.slice 3 (Kd.int .i64)) W B4 Se'.length Se') (k4 : Se'.length ≤ d4) (h5 : Kd.C k41 W B5 Sp'.length Sp') (k5 : Sp'.length ≤ d5) (h6 : Kd.C k43 W B6 Cu'.length Cu') (k6 : Cu'.length ≤ d6) :
 Calls Tryd.prog 15 #[.agg #[.int .i64 x.kd, .bool (x.no == 1), .slice A2 x.S.length c2, .slice A3 x.U.length c3, .slice A4 x.Se.length c4, .slice A5 x.Sp.length c5, .slice A6 x.Cu.length c6], .agg #[.int .i64 kd', .bool no', .slice B2 S'.length d2, .slice B3 U'.length d3, .slice B4 Se'.length d4, .slice B5 Sp'.length d5, .slice B6 Cu'.length d6]] W fun e w' => e = .returned (.bool true) ∧ Below W.heap.size W w' := by
 obtain ⟨n1, n2, a1, a2, a3, g1, g2, g3, g4, g5⟩ := h
 obtain ⟨k, hk⟩ := hs
 obtain ⟨_, p2, q2⟩ := Kd.R_reads' g1
 obtain ⟨_, p3, q3⟩ := Kd.R_reads' g2
 obtain ⟨_, p4, q4⟩ := Kd.S_reads' g3
 obtain ⟨_, p5, q5⟩ := Kd.S_reads' g4
 obtain ⟨_, p6, q6⟩ := Kd.S_reads' g5
 exact greenwoodref23_Same.calls k x.kd (x.no == 1) A2 c2 x.S A3 c3 x.U A4 c4 x.Se A5 c5 x.Sp A6 c6 x.Cu kd' no' B2 d2 S' B3 d3 U' B4 d4 Se' B5 d5 Sp' B6 d6 Cu' true W q2 p2 q3 p3 q4 p4 q5 p5 q6 p6 h2 k2 h3 k3 h4 k4 h5 k5 h6 k6 hk
end Go.Proofs.YtlekdhejgdfnpaaDoor.P
/- Layer 23: AnswerTells, walked. -/
namespace Go.Proofs.YtlekdhejgdfnpaaDoor.P
open Go.RowKit Go.Proofs.YtlekdhejgdfnpaaDoorW.PrintWords Go.Proofs.YtlekdhejgdfnpaaDoorW.PrintLast Go.Proofs.YtlekdhejgdfnpaaDoorW.PrintMore
open Wr

theorem decV_bad {S : List Int} (h : (decV S).2.1 ≠ 0) : (decV S).1 = zeroV := by
 unfold decV at h ⊢
 split at h
 ·rfl
 ·next p heq =>
  split
  ·rfl
  ·next c1 =>
   rw [if_neg c1] at h
   split
   ·rfl
   ·next c2 => rw [if_neg c2] at h; exact absurd rfl h
theorem dec_LenN (s : ByteArray) : LenN (decV (bytesOf s)).1.S (decV (bytesOf s)).1.U (decV (bytesOf s)).1.Se (decV (bytesOf s)).1.Sp (decV (bytesOf s)).1.Cu := by
 by_cases h : (decV (bytesOf s)).2.1 = 0
 ·exact ok_len (dec_back s h).1
 ·rw [decV_bad h]
  exact ⟨by simp [zeroV], by simp [zeroV], by simp [zeroV], (fun l hl => by cases hl), by simp [zeroV], (fun y hy => by cases hy), by simp [zeroV], (fun y hy => by cases hy)⟩
theorem rows_same {W : World} {n0 n0' : Nat} {A2 A3 A4 A5 A6 B2 B3 B4 B5 B6 : Option Addr} {c2 c3 c4 c5 c6 d2 d3 d4 d5 d6 : Nat} {x : AnsV} (hl : LenN x.S x.U x.Se x.Sp x.Cu)
 (h : RowsA W n0 (.slice A2 x.S.length c2) (.slice A3 x.U.length c3) (.slice A4 x.Se.length c4) (.slice A5 x.Sp.length c5) (.slice A6 x.Cu.length c6) x) (h' : RowsA W n0' (.slice B2 x.S.length d2) (.slice B3 x.U.length d3) (.slice B4 x.Se.length d4) (.slice B5 x.Sp.length d5) (.slice B6 x.Cu.length d6) x) :
 Calls Tryd.prog 15 #[.agg #[.int .i64 x.kd, .bool (x.no == 1), .slice A2 x.S.length c2, .slice A3 x.U.length c3, .slice A4 x.Se.length c4, .slice A5 x.Sp.length c5, .slice A6 x.Cu.length c6], .agg #[.int .i64 x.kd, .bool (x.no == 1), .slice B2 x.S.length d2, .slice B3 x.U.length d3, .slice B4 x.Se.length d4, .slice B5 x.Sp.length d5, .slice B6 x.Cu.length d6]] W fun e w' => e = .returned (.bool true) ∧ Below W.heap.size W w' := by
 obtain ⟨r, hr, hiff⟩ := sameA_ev x.kd (x.no == 1) x.S x.U x.Se x.Sp x.Cu x.kd (x.no == 1) x.S x.U x.Se x.Sp x.Cu hl
 obtain rfl : r = true := hiff.2 ⟨rfl, rfl, rfl, rfl, rfl, rfl, rfl⟩
 obtain ⟨n1, n2, a1, a2, a3, g1, g2, g3, g4, g5⟩ := h'
 obtain ⟨_, p2, q2⟩ := Kd.R_reads' g1
 obtain ⟨_, p3, q3⟩ := Kd.R_reads' g2
 obtain ⟨_, p4, q4⟩ := Kd.S_reads' g3
 obtain ⟨_, p5, q5⟩ := Kd.S_reads' g4
 obtain ⟨_, p6, q6⟩ := Kd.S_reads' g5
 exact same_rows h hr.rounds q2 p2 q3 p3 q4 p4 q5 p5 q6 p6

set_option maxHeartbeats 8000000 in
set_option maxRecDepth 100000 in
theorem greenwoodlaw23_AnswerTells.callsT (a0_0 : Int) (a0_1 : Bool) (A0_2 : Option Addr) (c0_2 : Nat) (l0_2 : List Int) (A0_3 : Option Addr) (c0_3 : Nat) (l0_3 : List Int) (A0_4 : Option Addr) (c0_4 : Nat) (l0_4 : List (List Int)) (A0_5 : Option Addr) (c0_5 : Nat) (l0_5 : List Spl) (A0_6 : Option Addr) (c0_6 : Nat) (l0_6 : List Cut) (a1 : ByteArray) (r : Bool) (w : World) (hE : EV w) (hr0_2 : Kd.C (Kd.int .i64) w A0_2 l0_2.length l0_2) (hc0_2 : l0_2.length ≤ c0_2) (hr0_3 : Kd.C (Kd.int .i64) w A0_3 l0_3.length l0_3) (hc0_3 : l0_3.length ≤ c0_3) (hr0_4 : Kd.C (Kd.slice 3 (Kd.int .i64)) w A0_4 l0_4.length l0_4) (hc0_4 : l0_4.length ≤ c0_4) (hr0_5 : Kd.C k41 w A0_5 l0_5.length l0_5) (hc0_5 : l0_5.length ≤ c0_5) (hr0_6 : Kd.C k43 w A0_6 l0_6.length l0_6) (hc0_6 : l0_6.length ≤ c0_6) (hrT : r = true) (h : OkA l0_2 l0_3 l0_4 l0_5 l0_6 ∧ OkI l0_2 l0_3 l0_4 l0_5 l0_6) :
 Calls Tryd.prog 3 #[.agg #[.int .i64 a0_0, .bool a0_1, .slice A0_2 l0_2.length c0_2, .slice A0_3 l0_3.length c0_3, .slice A0_4 l0_4.length c0_4, .slice A0_5 l0_5.length c0_5, .slice A0_6 l0_6.length c0_6], .string a1] w fun e w' => e = .returned (.bool r) ∧ Below w.heap.size w w' := by
 subst hrT
 obtain ⟨r0, e0, f0⟩ := small_ev a0_0 a0_1 l0_2 l0_3 l0_4 l0_5 l0_6 h.1
 obtain ⟨k0, hk0⟩ := e0.rounds
 have HE := Aside0.mk hE
 have HRS := Aside0.mk (And.intro hr0_2 (And.intro hr0_3 (And.intro hr0_4 (And.intro hr0_5 hr0_6))))
 have HCS := Aside0.mk (And.intro hc0_2 (And.intro hc0_3 (And.intro hc0_4 (And.intro hc0_5 hc0_6))))
 have HI := Aside0.mk h.2
 have HSM : Aside0 (∀ W, Below w.heap.size w W → Calls Tryd.prog 7 #[.agg #[.int .i64 a0_0, .bool a0_1, .slice A0_2 l0_2.length c0_2, .slice A0_3 l0_3.length c0_3, .slice A0_4 l0_4.length c0_4, .slice A0_5 l0_5.length c0_5, .slice A0_6 l0_6.length c0_6]] W fun e w' => e = .returned (.bool r0) ∧ Below W.heap.size W w') :=
  ⟨fun W hb => greenwoodref23_Small.calls k0 a0_0 a0_1 A0_2 c0_2 l0_2 A0_3 c0_3 l0_3 A0_4 c0_4 l0_4 A0_5 c0_5 l0_5 A0_6 c0_6 l0_6 r0 W (Kd.C_below hr0_2 hb) hc0_2 (Kd.C_below hr0_3 hb) hc0_3 (Kd.C_below hr0_4 hb) hc0_4 (Kd.C_below hr0_5 hb) hc0_5 (Kd.C_below hr0_6 hb) hc0_6 hk0⟩
 have HF0 := Aside0.mk f0
 clear hE hr0_2 hr0_3 hr0_4 hr0_5 hr0_6 hc0_2 hc0_3 hc0_4 hc0_5 hc0_6 h hk0 e0 f0
 go_enter Tryd.func3, Tryd.ntmps3
 go_upto_region 1 with ((with_reducible refine gate_dst (N := 2) rfl ?_); (try (refine gate_guard (by rfl) ?_; dsimp only)); refine box_event ?hg (N := 2) ?hd (cs := #[.int .i64 a0_0, .bool a0_1, .slice A0_2 l0_2.length c0_2, .slice A0_3 l0_3.length c0_3, .slice A0_4 l0_4.length c0_4, .slice A0_5 l0_5.length c0_5, .slice A0_6 l0_6.length c0_6]) (t := 27) ?hr ?_; (case hd => rfl); (case hg => rfl); (case hr => first | (go_simp; done) | (go_simp; rfl)); intro X hgX w1 hbx hb1; have HX := Aside0.mk (And.intro hbx (And.intro hb1 (Nat.le_of_eq hgX.symm))); clear hgX hbx hb1)
 have x0 : w1.cell? ⟨X, 0, none⟩ = _ := (blk_cell HX.out.1 0).trans rfl
 have x1 : w1.cell? ⟨X, 1, none⟩ = _ := (blk_cell HX.out.1 1).trans rfl
 have x2 : w1.cell? ⟨X, 2, none⟩ = _ := (blk_cell HX.out.1 2).trans rfl
 have x3 : w1.cell? ⟨X, 3, none⟩ = _ := (blk_cell HX.out.1 3).trans rfl
 have x4 : w1.cell? ⟨X, 4, none⟩ = _ := (blk_cell HX.out.1 4).trans rfl
 have x5 : w1.cell? ⟨X, 5, none⟩ = _ := (blk_cell HX.out.1 5).trans rfl
 have x6 : w1.cell? ⟨X, 6, none⟩ = _ := (blk_cell HX.out.1 6).trans rfl
 by_cases hs : r0 = true ∧ a1.size ≤ 3000
 ·obtain ⟨rfl, hsz⟩ := hs
  have h3000 : decide ((3000 : Int) < (a1.size : Int)) = false := decide_eq_false (by omega)
  have HLN := Aside0.mk (HF0.out rfl)
  obtain ⟨vv, hvv⟩ : ∃ v, decV (bytesOf a1) = v := ⟨_, rfl⟩
  have HD := Aside0.mk (fun (W : World) (hE : EV W) => decode_c (w := W) a1 hE (by omega))
  have HRD := Aside0.mk (fun (W : World) => rdecode_c (w := W) a1 (by omega))
  have HLL := Aside0.mk (dec_LenN a1)
  rw [hvv] at HD HRD HLL
  clear hvv hsz
  obtain ⟨x, c, p⟩ := vv
  dsimp only at HD HRD HLL
  go_upto_region 5 with (first
   | (go_at_call 7; refine (HSM.out w1 HX.out.2.1).mono ?_; rintro e w2 ⟨rfl, hb⟩; have H2 := Aside0.mk (And.intro (HX.out.2.1.trans (hb.mono HX.out.2.1.size)) (blk_below HX.out.1 hb)); clear x0 x1 x2 x3 x4 x5 x6 hb)
   | (go_at_call 10; (have z_ := H3.out); clear z_; refine (HRD.out _).mono ?_; rintro e w5 ⟨vS, vU, vSe, vSp, vCu, hret, hrow, hb⟩; (obtain ⟨F2, fc2, F3, fc3, F4, fc4, F5, fc5, F6, fc6, rfl, rfl, rfl, rfl, rfl⟩ := hrow.slices); (subst hret); (have hba := below_alloc (Below.refl w3.heap.size w3) (Obj.cells #[.int .i64 x.kd, .bool (x.no == 1), .slice E2 x.S.length ec2, .slice E3 x.U.length ec3, .slice E4 x.Se.length ec4, .slice E5 x.Sp.length ec5, .slice E6 x.Cu.length ec6] 27 (0, 0))); (have hb2 := below_step hba hb); (have H5 := Aside0.mk (And.intro (H3.out.1.trans (hb2.mono H3.out.1.size)) (And.intro (blk_below H3.out.2.1 hb2) (And.intro (H3.out.2.2.below hb2) (And.intro (blk_below (blk_new w3 _) hb) hrow))))); clear hrow hb hba hb2)
   | (go_at_call 9; (have z_ := H2.out); clear z_; refine (HD.out _ (HE.out.below H2.out.1 HE.out.pos)).mono ?_; rintro e w3 ⟨vS, vU, vSe, vSp, vCu, hret, hrow, hb⟩; (obtain ⟨E2, ec2, E3, ec3, E4, ec4, E5, ec5, E6, ec6, rfl, rfl, rfl, rfl, rfl⟩ := hrow.slices); (subst hret); (have H3 := Aside0.mk (And.intro (H2.out.1.trans (hb.mono H2.out.1.size)) (And.intro (blk_below H2.out.2 hb) hrow))); clear hrow hb))
  have hba := below_alloc (Below.refl w5.heap.size w5) (Obj.cells #[.int .i64 x.kd, .bool (x.no == 1), .slice F2 x.S.length fc2, .slice F3 x.U.length fc3, .slice F4 x.Se.length fc4, .slice F5 x.Sp.length fc5, .slice F6 x.Cu.length fc6] 27 (0, 0))
  have H6 := Aside0.mk (And.intro (H5.out.1.trans (hba.mono H5.out.1.size)) (And.intro (blk_below H5.out.2.1 hba) (And.intro (H5.out.2.2.1.below hba) (And.intro (blk_below H5.out.2.2.2.1 hba) (And.intro (H5.out.2.2.2.2.below hba) (blk_new w5 (Obj.cells #[.int .i64 x.kd, .bool (x.no == 1), .slice F2 x.S.length fc2, .slice F3 x.U.length fc3, .slice F4 x.Se.length fc4, .slice F5 x.Sp.length fc5, .slice F6 x.Cu.length fc6] 27 (0, 0))))))))
  clear hba
  generalize (w5.alloc (Obj.cells #[.int .i64 x.kd, .bool (x.no == 1), .slice F2 x.S.length fc2, .slice F3 x.U.length fc3, .slice F4 x.Se.length fc4, .slice F5 x.Sp.length fc5, .slice F6 x.Cu.length fc6] 27 (0, 0))) = w6 at H6 ⊢
  generalize w5.heap.size = Z at H6 ⊢
  generalize w3.heap.size = Y at H6 ⊢
  have hbp : ∀ p : Bw w6, Below w.heap.size w p.v := fun p => H6.out.1.trans (p.h.mono H6.out.1.size)
  have lA : ∀ (i : Nat) (v : Value), #[Value.int .i64 a0_0, .bool a0_1, .slice A0_2 l0_2.length c0_2, .slice A0_3 l0_3.length c0_3, .slice A0_4 l0_4.length c0_4, .slice A0_5 l0_5.length c0_5, .slice A0_6 l0_6.length c0_6][i]? = some v → ∀ p : Bw w6, p.v.cell? ⟨X, i, none⟩ = some v := bw_cell H6.out.2.1
  have lB : ∀ (i : Nat) (v : Value), #[Value.int .i64 x.kd, .bool (x.no == 1), .slice E2 x.S.length ec2, .slice E3 x.U.length ec3, .slice E4 x.Se.length ec4, .slice E5 x.Sp.length ec5, .slice E6 x.Cu.length ec6][i]? = some v → ∀ p : Bw w6, p.v.cell? ⟨Y, i, none⟩ = some v := bw_cell H6.out.2.2.2.1
  have lC : ∀ (i : Nat) (v : Value), #[Value.int .i64 x.kd, .bool (x.no == 1), .slice F2 x.S.length fc2, .slice F3 x.U.length fc3, .slice F4 x.Se.length fc4, .slice F5 x.Sp.length fc5, .slice F6 x.Cu.length fc6][i]? = some v → ∀ p : Bw w6, p.v.cell? ⟨Z, i, none⟩ = some v := bw_cell H6.out.2.2.2.2.2
  have a0 := lA 0 _ rfl
  have a1' := lA 1 _ rfl
  have a2 := lA 2 _ rfl
  have a3 := lA 3 _ rfl
  have a4 := lA 4 _ rfl
  have a5 := lA 5 _ rfl
  have a6 := lA 6 _ rfl
  have b0 := lB 0 _ rfl
  have b1 := lB 1 _ rfl
  have b2 := lB 2 _ rfl
  have b3 := lB 3 _ rfl
  have b4 := lB 4 _ rfl
  have b5 := lB 5 _ rfl
  have b6 := lB 6 _ rfl
  have d0 := lC 0 _ rfl
  have d1 := lC 1 _ rfl
  have d2 := lC 2 _ rfl
  have d3 := lC 3 _ rfl
  have d4 := lC 4 _ rfl
  have d5 := lC 5 _ rfl
  have d6 := lC 6 _ rfl
  have L := HLN.out
  have CH := Aside0.mk (fun p : Bw w6 => check_C (W := p.v) a0_0 a0_1 l0_2 l0_3 l0_4 l0_5 l0_6 (Kd.C_below HRS.out.1 (hbp p)) HCS.out.1 (Kd.C_below HRS.out.2.1 (hbp p)) HCS.out.2.1 (Kd.C_below HRS.out.2.2.1 (hbp p)) HCS.out.2.2.1 (Kd.C_below HRS.out.2.2.2.1 (hbp p)) HCS.out.2.2.2.1 (Kd.C_below HRS.out.2.2.2.2 (hbp p)) HCS.out.2.2.2.2 (by omega) (by omega) (by omega))
  obtain ⟨k1, hk1⟩ := (refCheck_ev a0_0 a0_1 l0_2 l0_3 l0_4 l0_5 l0_6 HI.out).rounds
  have RCH := Aside0.mk (fun p : Bw w6 => greenwoodref23_Check.calls k1 a0_0 a0_1 A0_2 c0_2 l0_2 A0_3 c0_3 l0_3 A0_4 c0_4 l0_4 A0_5 c0_5 l0_5 A0_6 c0_6 l0_6 _ p.v (Kd.C_below HRS.out.1 (hbp p)) HCS.out.1 (Kd.C_below HRS.out.2.1 (hbp p)) HCS.out.2.1 (Kd.C_below HRS.out.2.2.1 (hbp p)) HCS.out.2.2.1 (Kd.C_below HRS.out.2.2.2.1 (hbp p)) HCS.out.2.2.2.1 (Kd.C_below HRS.out.2.2.2.2 (hbp p)) HCS.out.2.2.2.2 hk1)
  have ENC := Aside0.mk (fun p : Bw w6 => answer_Encode.calls a0_0 a0_1 A0_2 c0_2 l0_2 A0_3 c0_3 l0_3 A0_4 c0_4 l0_4 A0_5 c0_5 l0_5 A0_6 c0_6 l0_6 _ p.v (Kd.C_below HRS.out.1 (hbp p)) HCS.out.1 (Kd.C_below HRS.out.2.1 (hbp p)) HCS.out.2.1 (Kd.C_below HRS.out.2.2.1 (hbp p)) HCS.out.2.2.1 (Kd.C_below HRS.out.2.2.2.1 (hbp p)) HCS.out.2.2.2.1 (Kd.C_below HRS.out.2.2.2.2 (hbp p)) HCS.out.2.2.2.2 (encode_val (kd := a0_0) (no := a0_1) (S := l0_2) (U := l0_3) (Se := l0_4) (Sp := l0_5) (Cu := l0_6) (by omega) (by omega) (by omega)))
  obtain ⟨k2, hk2⟩ := (refEncode_ev a0_0 a0_1 l0_2 l0_3 l0_4 l0_5 l0_6 HI.out).rounds
  have RENC := Aside0.mk (fun p : Bw w6 => greenwoodref23_Encode.calls k2 a0_0 a0_1 A0_2 c0_2 l0_2 A0_3 c0_3 l0_3 A0_4 c0_4 l0_4 A0_5 c0_5 l0_5 A0_6 c0_6 l0_6 _ p.v (Kd.C_below HRS.out.1 (hbp p)) HCS.out.1 (Kd.C_below HRS.out.2.1 (hbp p)) HCS.out.2.1 (Kd.C_below HRS.out.2.2.1 (hbp p)) HCS.out.2.2.1 (Kd.C_below HRS.out.2.2.2.1 (hbp p)) HCS.out.2.2.2.1 (Kd.C_below HRS.out.2.2.2.2 (hbp p)) HCS.out.2.2.2.2 hk2)
  have e : (strOfNums (if okV (mkV a0_0 a0_1 l0_2 l0_3 l0_4 l0_5 l0_6) = true then encV (mkV a0_0 a0_1 l0_2 l0_3 l0_4 l0_5 l0_6) else [])) = (strOfNums (if okAns a0_0 l0_2 l0_3 l0_4 l0_5 l0_6 = true then encAns a0_0 a0_1 l0_2 l0_3 l0_4 l0_5 l0_6 else [])) := by
   have q : okV (mkV a0_0 a0_1 l0_2 l0_3 l0_4 l0_5 l0_6) = okAns a0_0 l0_2 l0_3 l0_4 l0_5 l0_6 := rfl
   rw [q]
   cases ho : okAns a0_0 l0_2 l0_3 l0_4 l0_5 l0_6 with
   | false => rfl
   | true => rw [if_pos rfl, if_pos rfl, enc_eq ho]
  rw [e] at ENC
  have SAM := Aside0.mk (fun p : Bw w6 => rows_same HLL.out (H6.out.2.2.1.below p.h) (H6.out.2.2.2.2.1.below p.h))
  have FIX := Aside0.mk (fun p : Bw w6 => fixed_c (HE.out.below (hbp p) HE.out.pos))
  clear e hk1 hk2 L lA lB lC hbp
  generalize (if okAns a0_0 l0_2 l0_3 l0_4 l0_5 l0_6 = true then (0 : Int) else 230) = n at CH RCH
  generalize (strOfNums (if okAns a0_0 l0_2 l0_3 l0_4 l0_5 l0_6 = true then encAns a0_0 a0_1 l0_2 l0_3 l0_4 l0_5 l0_6 else [])) = str at ENC RENC
  have q1 : (n == n) = true := beq_self_eq_true n
  have q2 : (c == c) = true := beq_self_eq_true c
  have q3 : (p == p) = true := beq_self_eq_true p
  refine region_bw (by kernel_rfl) (by kernel_rfl) ?_
  repeat (quiet_step (first
   | (go_at_call 8; exact bw_call FIX.out _)
   | (go_at_call 11; exact bw_call CH.out _)
   | (go_at_call 12; exact bw_call RCH.out _)
   | (go_at_call 13; exact bw_call ENC.out _)
   | (go_at_call 14; exact bw_call RENC.out _)
   | (go_at_call 15; exact bw_call SAM.out _)))
  refine wpQuiet_nil ?_
  rintro ⟨w7, hb7⟩
  go_wp2
  go_ret
  exact ⟨rfl, H6.out.1.trans (hb7.mono H6.out.1.size)⟩
 ·have HFX := Aside0.mk (fun W (hb : Below w.heap.size w W) => fixed_c (HE.out.below hb HE.out.pos))
  have hcnd : r0 = true → decide ((3000 : Int) < (a1.size : Int)) = true := fun h => decide_eq_true (by have : ¬ a1.size ≤ 3000 := fun hh => hs ⟨h, hh⟩; omega)
  clear hs
  cases r0 with
  | true =>
   have h3000 := hcnd rfl
   clear hcnd
   go_wp2_with (first
    | (go_at_call 8; (have z_ := H2.out); clear z_; refine (HFX.out _ H2.out).mono ?_; rintro e w3 ⟨rfl, hb⟩; have H3 := Aside0.mk (H2.out.trans (hb.mono H2.out.size)); clear hb)
    | (go_at_call 7; refine (HSM.out w1 HX.out.2.1).mono ?_; rintro e w2 ⟨rfl, hb⟩; have H2 := Aside0.mk (HX.out.2.1.trans (hb.mono HX.out.2.1.size)); clear x0 x1 x2 x3 x4 x5 x6 hb))
   go_ret
   exact ⟨rfl, H3.out⟩
  | false =>
   clear hcnd
   go_wp2_with (first
    | (go_at_call 8; (have z_ := H2.out); clear z_; refine (HFX.out _ H2.out).mono ?_; rintro e w3 ⟨rfl, hb⟩; have H3 := Aside0.mk (H2.out.trans (hb.mono H2.out.size)); clear hb)
    | (go_at_call 7; refine (HSM.out w1 HX.out.2.1).mono ?_; rintro e w2 ⟨rfl, hb⟩; have H2 := Aside0.mk (HX.out.2.1.trans (hb.mono HX.out.2.1.size)); clear x0 x1 x2 x3 x4 x5 x6 hb))
   go_ret
   exact ⟨rfl, H3.out⟩
theorem AnswerTells_ev (kd : Int) (no : Bool) (S U : List Int) (Se : List (List Int)) (Sp : List Spl) (Cu : List Cut) (s : ByteArray) (ok0 : OkA S U Se Sp Cu) (oi : OkI S U Se Sp Cu) : OkA S U Se Sp Cu ∧ OkI S U Se Sp Cu := ⟨ok0, oi⟩
end Go.Proofs.YtlekdhejgdfnpaaDoor.P
/- What a tied row's premise gives a walk: the one variable of the library's, laid; a world that meets it. (Turned from a worked proof of the kit.) -/
namespace Go.Proofs.YtlekdhejgdfnpaaDoor.P
open Go.ChangeShapes Go.WideShapes Go.RowKit

theorem td_et : Tryd.prog.globalNamed "errors.errorType" = some 0 := by kernel_rfl
theorem td_rt : (Tryd.prog.cutTypes.find? (·.1 == "internal/reflectlite.rtype")).map (·.2) = some 116 := by kernel_rfl
theorem td_oneRow : ((List.range 158).filter fun t => Tryd.prog.rowNamed t [101, 114, 114, 111, 114]) = [66] := by kernel_rfl
theorem td_size : Tryd.prog.types.size = 158 := by kernel_rfl
def laidE {H : Type} : List (String × DataW H) := [("errors.errorType", Rows.laid_errors_errorType)]
theorem ev_of_laid {W : World} (h : laidMetH Tryd.prog laidE W) : EV W := by
 have h' : laidMet Tryd.prog [] W ∧ handlesMet Tryd.prog laidE W := h
 obtain ⟨name, u, ty, e1, e2, e3, e4, e5⟩ := h'.2 _ (List.mem_singleton.2 rfl)
 have en : name = [101, 114, 114, 111, 114] := (Option.some.inj e1).symm
 subst en
 obtain rfl := Option.some.inj (td_rt.symm.trans e2)
 have hm : ty ∈ (List.range 158).filter fun t => Tryd.prog.rowNamed t [101, 114, 114, 111, 114] := List.mem_filter.2 ⟨List.mem_range.2 (by rw [← td_size]; exact e3), e4⟩
 rw [td_oneRow] at hm
 obtain rfl := List.mem_singleton.1 hm
 have hh : typeHandle Tryd.prog 66 = .pointer (some ⟨1, 66, none⟩) := by kernel_rfl
 rw [hh] at e5
 have := World.var?_cell td_et e5 0
 unfold EV
 simpa using this
noncomputable def laidWorld (os : Os) : World :=
 let w0 := World.holding Tryd.prog os ⟨#[], #[], []⟩
 { w0 with heap := w0.heap.modify 0 fun
  | .cells _ t frozen => .cells #[.iface 116 (.agg #[.pointer (some ⟨1, 66, none⟩)])] t frozen
  | o => o }
theorem laidWorld_met (os : Os) (args : Array Value) : laidMetH Tryd.prog laidE ((laidWorld os).forCall (fun _ _ => 0) ⟨#[], args, []⟩).memory :=
 laidMetH_of_parts (laidMet_nil _ _) (by kernel_rfl)
end Go.Proofs.YtlekdhejgdfnpaaDoor.P
/- What came in, opened: an answer. -/
namespace Go.Proofs.YtlekdhejgdfnpaaDoor.P
open Go.RowKit Go.WideShapes Go.Proofs.YtlekdhejgdfnpaaDoorW.PrintWords Go.Proofs.YtlekdhejgdfnpaaDoorW.PrintLast Go.Proofs.YtlekdhejgdfnpaaDoorW.PrintMore

theorem cells_spl : Tryd.prog.cellsOf 41 = 3 := by kernel_rfl
theorem cells_cut : Tryd.prog.cellsOf 43 = 2 := by kernel_rfl
theorem cells_ans : Tryd.prog.cellsOf 27 = 7 := by kernel_rfl
def LnI (l : List Int) : Prop := l.length ≤ 9223372036854775807
def LnS (y : Spl) : Prop := y.f0.length ≤ 9223372036854775807 ∧ y.f1.length ≤ 9223372036854775807 ∧ y.f2.length ≤ 9223372036854775807
def LnC (c : Cut) : Prop := c.f0.length ≤ 9223372036854775807
theorem max_ln : maxLen ≤ 9223372036854775807 := by unfold maxLen; omega
theorem opens_il : Opens Tryd.prog 22 (Kd.slice 3 (Kd.int .i64)) LnI :=
 (opens_slice 3 Tryd.underlying22 (by kernel_rfl) (opens_int Tryd.underlying3 (by kernel_rfl))).mono (fun _ h => Nat.le_trans h.1 max_ln)
set_option maxRecDepth 100000 in
theorem opens_spl : Opens Tryd.prog 41 k41 LnS :=
 ⟨cells_spl, fun {H enc w base fuel held cs x} h => by
  obtain ⟨xs, n, rfl, _, hl, hlen, hf⟩ := DataW.trod_struct Tryd.underlying41 h
  rw [cells_spl] at hl
  match cs, hl with
  | [v0, v1, v2], _ =>
   match xs, hlen with
   | [y0, y1, y2], _ =>
    have g0 : DataW.trod enc Tryd.prog w base (fun _ => true) held n 22 [v0] = some y0 := hf 0 _ rfl
    have g1 : DataW.trod enc Tryd.prog w base (fun _ => true) held n 22 [v1] = some y1 := hf 1 _ rfl
    have g2 : DataW.trod enc Tryd.prog w base (fun _ => true) held n 22 [v2] = some y2 := hf 2 _ rfl
    obtain ⟨l0, ⟨A0, c0, e0, hc0, hr0⟩, q0⟩ := opens_il.op g0
    obtain ⟨l1, ⟨A1, c1, e1, hc1, hr1⟩, q1⟩ := opens_il.op g1
    obtain ⟨l2, ⟨A2, c2, e2, hc2, hr2⟩, q2⟩ := opens_il.op g2
    have e0 := List.head_eq_of_cons_eq e0
    have e1 := List.head_eq_of_cons_eq e1
    have e2 := List.head_eq_of_cons_eq e2
    subst e0 e1 e2
    exact ⟨⟨l0, l1, l2⟩, k41_mk w ⟨l0, l1, l2⟩ hc0 hr0 hc1 hr1 hc2 hr2, q0, q1, q2⟩⟩
set_option maxRecDepth 100000 in
theorem opens_cut : Opens Tryd.prog 43 k43 LnC :=
 ⟨cells_cut, fun {H enc w base fuel held cs x} h => by
  obtain ⟨xs, n, rfl, _, hl, hlen, hf⟩ := DataW.trod_struct Tryd.underlying43 h
  rw [cells_cut] at hl
  match cs, hl with
  | [v0, v1], _ =>
   match xs, hlen with
   | [y0, y1], _ =>
    have g0 : DataW.trod enc Tryd.prog w base (fun _ => true) held n 22 [v0] = some y0 := hf 0 _ rfl
    have g1 : DataW.trod enc Tryd.prog w base (fun _ => true) held n 3 [v1] = some y1 := hf 1 _ rfl
    obtain ⟨l0, ⟨A0, c0, e0, hc0, hr0⟩, q0⟩ := opens_il.op g0
    obtain ⟨a1, e1, _, w1⟩ := DataW.trod_int Tryd.underlying3 g1
    have e0 := List.head_eq_of_cons_eq e0
    have e1 := List.head_eq_of_cons_eq e1
    subst e0 e1
    exact ⟨⟨l0, a1⟩, k43_mk w ⟨l0, a1⟩ hc0 hr0, q0⟩⟩
theorem opens_ills : Opens Tryd.prog 23 (Kd.slice 22 (Kd.slice 3 (Kd.int .i64))) (fun l => l.length ≤ 9223372036854775807 ∧ ∀ x ∈ l, LnI x) :=
 (opens_slice 22 Tryd.underlying23 (by kernel_rfl) opens_il).mono (fun _ h => ⟨Nat.le_trans h.1 max_ln, h.2⟩)
theorem opens_spls : Opens Tryd.prog 24 (Kd.slice 41 k41) (fun l => l.length ≤ 9223372036854775807 ∧ ∀ x ∈ l, LnS x) :=
 (opens_slice 41 Tryd.underlying24 (by kernel_rfl) opens_spl).mono (fun _ h => ⟨Nat.le_trans h.1 max_ln, h.2⟩)
theorem opens_cuts : Opens Tryd.prog 25 (Kd.slice 43 k43) (fun l => l.length ≤ 9223372036854775807 ∧ ∀ x ∈ l, LnC x) :=
 (opens_slice 43 Tryd.underlying25 (by kernel_rfl) opens_cut).mono (fun _ h => ⟨Nat.le_trans h.1 max_ln, h.2⟩)
/-- how long a slice may be, whose bytes are within reach -/
theorem sl_len {H : Type} {enc : TypeId × Value → H} {w : World} {base fuel : Nat} {held : Bool} {t e : TypeId} {x : DataW H × List MemPlace} {A : Option Addr} {len c : Nat} (ht : Tryd.prog.underlying t = some (.slice e)) (hb : 1 ≤ Tryd.prog.bytesOf e)
 (h : DataW.trod enc Tryd.prog w base (fun _ => true) held fuel t [.slice A len c] = some x) (hw : ∀ n ∈ x.1.weights Tryd.prog t, n ≤ reachBytes) : len ≤ 140737488355328 := by
 rcases DataW.trod_slice ht h with ⟨e1, _⟩ | ⟨a, len', cap, elems, rest, n, _, e1, e2, _, _, _, hl, _⟩
 ·have e3 := List.head_eq_of_cons_eq e1
  injection e3 with _ e4 _
  omega
 ·have e3 := List.head_eq_of_cons_eq e1
  injection e3 with _ e4 _
  subst e4
  subst e2
  have h1 := hw (((elems.map (·.1)).length + (rest.map (·.1)).length) * Tryd.prog.bytesOf e) (by simp [DataW.weights, ht])
  rw [List.length_map] at h1
  have h2 : elems.length + (rest.map (·.1)).length ≤ (elems.length + (rest.map (·.1)).length) * Tryd.prog.bytesOf e := Nat.le_mul_of_pos_right _ hb
  have h3 := reachBytes_lt
  omega
/-- the bounds that what came in keeps, its inner lists too -/
def OkIn (S U : List Int) (Se : List (List Int)) (Sp : List Spl) (Cu : List Cut) : Prop := S.length ≤ 9223372036854775807 ∧ U.length ≤ 9223372036854775807 ∧ Se.length ≤ 9223372036854775807 ∧ (∀ l ∈ Se, l.length ≤ 9223372036854775807) ∧ Sp.length ≤ 9223372036854775807 ∧ (∀ y ∈ Sp, y.f0.length ≤ 9223372036854775807 ∧ y.f1.length ≤ 9223372036854775807 ∧ y.f2.length ≤ 9223372036854775807) ∧ Cu.length ≤ 9223372036854775807 ∧ ∀ c ∈ Cu, c.f0.length ≤ 9223372036854775807
set_option maxRecDepth 100000 in
theorem ans_arg {r : Reach} {H : Type} {enc : TypeId × Value → H} {w W0 : World} {base b0 : Nat} {held : Bool} {v : Value} {dd : DataW H} {ps : List MemPlace} (hv : Value.okWide Tryd.prog W0 r b0 27 v)
 (ht : DataW.Trod enc Tryd.prog w base (fun _ => true) held 27 v dd ps) (hw : ∀ n ∈ dd.weights Tryd.prog 27, n ≤ reachBytes) :
 ∃ (a0 : Int) (a1 : Bool) (A2 : Option Addr) (c2 : Nat) (l2 : List Int) (A3 : Option Addr) (c3 : Nat) (l3 : List Int) (A4 : Option Addr) (c4 : Nat) (l4 : List (List Int)) (A5 : Option Addr) (c5 : Nat) (l5 : List Spl) (A6 : Option Addr) (c6 : Nat) (l6 : List Cut),
  v = .agg #[.int .i64 a0, .bool a1, .slice A2 l2.length c2, .slice A3 l3.length c3, .slice A4 l4.length c4, .slice A5 l5.length c5, .slice A6 l6.length c6] ∧ Kd.C (Kd.int .i64) w A2 l2.length l2 ∧ l2.length ≤ c2 ∧ Kd.C (Kd.int .i64) w A3 l3.length l3 ∧ l3.length ≤ c3 ∧
  Kd.C (Kd.slice 3 (Kd.int .i64)) w A4 l4.length l4 ∧ l4.length ≤ c4 ∧ Kd.C k41 w A5 l5.length l5 ∧ l5.length ≤ c5 ∧ Kd.C k43 w A6 l6.length l6 ∧ l6.length ≤ c6 ∧ OkA l2 l3 l4 l5 l6 ∧ OkIn l2 l3 l4 l5 l6 := by
 obtain ⟨cs, rfl, _⟩ := okWide_struct Tryd.underlying27 hv
 obtain ⟨fuel, hf0⟩ := ht
 obtain ⟨xs, n, rfl, hx, hl, hlen, hf⟩ := DataW.trod_struct Tryd.underlying27 hf0
 rw [cells_ans] at hl
 obtain rfl : dd = .agg (xs.map (·.1)) := congrArg Prod.fst hx
 obtain ⟨cs⟩ := cs
 match cs, hl with
 | [v0, v1, v2, v3, v4, v5, v6], _ =>
  match xs, hlen with
  | [y0, y1, y2, y3, y4, y5, y6], _ =>
   have g0 : DataW.trod enc Tryd.prog w base (fun _ => true) held n 3 [v0] = some y0 := hf 0 _ rfl
   have g1 : DataW.trod enc Tryd.prog w base (fun _ => true) held n 4 [v1] = some y1 := hf 1 _ rfl
   have g2 : DataW.trod enc Tryd.prog w base (fun _ => true) held n 22 [v2] = some y2 := hf 2 _ rfl
   have g3 : DataW.trod enc Tryd.prog w base (fun _ => true) held n 22 [v3] = some y3 := hf 3 _ rfl
   have g4 : DataW.trod enc Tryd.prog w base (fun _ => true) held n 23 [v4] = some y4 := hf 4 _ rfl
   have g5 : DataW.trod enc Tryd.prog w base (fun _ => true) held n 24 [v5] = some y5 := hf 5 _ rfl
   have g6 : DataW.trod enc Tryd.prog w base (fun _ => true) held n 25 [v6] = some y6 := hf 6 _ rfl
   have hwt : ∀ (j : Nat) (t : TypeId) (d : DataW H), ([3, 4, 22, 22, 23, 24, 25] : List TypeId)[j]? = some t → ([y0.1, y1.1, y2.1, y3.1, y4.1, y5.1, y6.1] : List (DataW H))[j]? = some d → ∀ m ∈ d.weights Tryd.prog t, m ≤ reachBytes := fun j t d h1 h2 m hm => by
    refine hw m ?_
    have h3 := DataW.weights_mem_each (P := Tryd.prog) h1 h2 m hm
    rw [DataW.weights, Tryd.underlying27]
    exact h3
   obtain ⟨a0, e0, _, _⟩ := DataW.trod_int Tryd.underlying3 g0
   obtain ⟨a1, e1, _⟩ := DataW.trod_bool Tryd.underlying4 g1
   obtain ⟨l2, ⟨A2, c2, e2, hc2, hr2⟩, q2⟩ := opens_il.op g2
   obtain ⟨l3, ⟨A3, c3, e3, hc3, hr3⟩, q3⟩ := opens_il.op g3
   obtain ⟨l4, ⟨A4, c4, e4, hc4, hr4⟩, q4⟩ := opens_ills.op g4
   obtain ⟨l5, ⟨A5, c5, e5, hc5, hr5⟩, q5⟩ := opens_spls.op g5
   obtain ⟨l6, ⟨A6, c6, e6, hc6, hr6⟩, q6⟩ := opens_cuts.op g6
   have e0 := List.head_eq_of_cons_eq e0
   have e1 := List.head_eq_of_cons_eq e1
   have e2 := List.head_eq_of_cons_eq e2
   have e3 := List.head_eq_of_cons_eq e3
   have e4 := List.head_eq_of_cons_eq e4
   have e5 := List.head_eq_of_cons_eq e5
   have e6 := List.head_eq_of_cons_eq e6
   subst e0 e1 e2 e3 e4 e5 e6
   exact ⟨a0, a1, A2, c2, l2, A3, c3, l3, A4, c4, l4, A5, c5, l5, A6, c6, l6, rfl, hr2, hc2, hr3, hc3, hr4, hc4, hr5, hc5, hr6, hc6,
    ⟨sl_len Tryd.underlying22 (of_decide_eq_true (by kernel_rfl)) g2 (hwt 2 _ _ rfl rfl), sl_len Tryd.underlying22 (of_decide_eq_true (by kernel_rfl)) g3 (hwt 3 _ _ rfl rfl), sl_len Tryd.underlying23 (of_decide_eq_true (by kernel_rfl)) g4 (hwt 4 _ _ rfl rfl),
    sl_len Tryd.underlying24 (of_decide_eq_true (by kernel_rfl)) g5 (hwt 5 _ _ rfl rfl), sl_len Tryd.underlying25 (of_decide_eq_true (by kernel_rfl)) g6 (hwt 6 _ _ rfl rfl)⟩, q2, q3, q4.1, q4.2, q5.1, q5.2, q6.1, q6.2⟩
end Go.Proofs.YtlekdhejgdfnpaaDoor.P
