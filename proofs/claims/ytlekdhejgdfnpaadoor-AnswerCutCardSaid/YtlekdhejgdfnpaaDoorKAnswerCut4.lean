/- Texts of this claim's own repository, merged by wip/tool/pack.py: AnsT, Px1, AnsLa, AnsLb, AnsW, AnsX, AnsLbk, Px14, AnsLc, TiedC, AnsOpn. -/
import Derived.Test.YtlekdhejgdfnpaaDoorRows
import Derived.ChangeSame
import Derived.ChangeVars
import Derived.JoinedOf
import Derived.RowKit
import Derived.RowKitTokens
import Derived.LaidLaws
import Derived.LaidHandle
import Derived.Stop.Joined
import Derived.WideShapes
import Derived.SizedLaws
import Derived.Test.YtlekdhejgdfnpaaDoorKAnswerCut3
set_option linter.unusedVariables false
set_option linter.unusedSimpArgs false
/- Layer 23: an answer's bytes, read and written. -/
namespace Go.Proofs.YtlekdhejgdfnpaaDoor.P
open Go.RowKit Go.Proofs.YtlekdhejgdfnpaaDoorW.PrintWords Go.Proofs.YtlekdhejgdfnpaaDoorW.PrintLast Go.Proofs.YtlekdhejgdfnpaaDoorW.PrintMore
open Wr
set_option linter.unusedVariables false
set_option linter.unusedSimpArgs false

section
variable {α : Type} {F : Rdr α} {E : α → List Int} {P : α → Prop} {most : Int}
def cntB (most : Int) (F : Rdr α) : Rdr (Int × List α) := bindR (countR most) (fun n => manyR F n.toNat)
def cntL (most : Int) (F : Rdr α) : Rdr (List α) := fun S st => ((cntB most F S st).1.2, (cntB most F S st).2)
def cntE (E : α → List Int) (l : List α) : List Int := encN (l.length : Int) ++ l.flatMap E
def cntP (most : Int) (P : α → Prop) (l : List α) : Prop := (l.length : Int) ≤ most ∧ ∀ x ∈ l, P x
theorem count_err : ErrOk (countR most) := ErrOk.sim (count_sim most) (head_err most)
theorem cnt_err (h : ErrOk F) : ErrOk (cntL most F) := ErrOk.map (F := cntB most F) Prod.snd (fun _ _ => rfl) (ErrOk.bind count_err (fun n => many_err h _))
theorem cnt_split : ∀ y, cntP most P y → ∃ x : Int × List α, (BndP most x.1 ∧ AllP P x.1.toNat x.2) ∧ x.2 = y ∧ encN x.1 ++ x.2.flatMap E = cntE E y :=
 fun y hy => ⟨((y.length : Int), y), ⟨⟨by dsimp only; omega, hy.1⟩, by simp, hy.2⟩, rfl, rfl⟩
theorem cntB_enc (hm : most ≤ MX) (h : EncOk F E P) : EncOk (cntB most F) (fun x => encN x.1 ++ x.2.flatMap E) (fun x => BndP most x.1 ∧ AllP P x.1.toNat x.2) := EncOk.bind (EncOk.sim (count_sim most) (head_enc hm)) (fun n _ => many_enc h n.toNat)
theorem cnt_enc (hm : most ≤ MX) (h : EncOk F E P) : EncOk (cntL most F) (cntE E) (cntP most P) := EncOk.map2 Prod.snd (fun _ _ => rfl) cnt_split (cntB_enc hm h)
theorem cntB_cut (hm : most ≤ MX) (h : CutOk F E P) (he : EncOk F E P) (hr : ErrOk F) : CutOk (cntB most F) (fun x => encN x.1 ++ x.2.flatMap E) (fun x => BndP most x.1 ∧ AllP P x.1.toNat x.2) :=
 CutOk.bind (CutOk.sim (count_sim most) (head_cut hm)) (EncOk.sim (count_sim most) (head_enc hm)) (fun n _ => many_cut h he hr n.toNat) (fun n => many_err hr _)
theorem cnt_cut (hm : most ≤ MX) (h : CutOk F E P) (he : EncOk F E P) (hr : ErrOk F) : CutOk (cntL most F) (cntE E) (cntP most P) := CutOk.map2 Prod.snd (fun _ _ => rfl) cnt_split (cntB_cut hm h he hr)
theorem cntB_back (h : BackOk F E P) (hr : ErrOk F) : BackOk (cntB most F) (fun x => encN x.1 ++ x.2.flatMap E) (fun x => BndP most x.1 ∧ AllP P x.1.toNat x.2) :=
 BackOk.bind (BackOk.sim (count_sim most) (head_back most)) (fun n _ => many_back h hr n.toNat) (fun n => many_err hr _)
theorem cnt_back (h : BackOk F E P) (hr : ErrOk F) : BackOk (cntL most F) (cntE E) (cntP most P) := by
 refine BackOk.map Prod.snd (fun _ _ => rfl) ?_ (cntB_back h hr)
 rintro ⟨n, l⟩ ⟨⟨h0, h1⟩, h2, h3⟩
 dsimp only at *
 refine ⟨⟨by omega, h3⟩, ?_⟩
 show encN (l.length : Int) ++ _ = _
 rw [h2, show ((n.toNat : Nat) : Int) = n by omega]
end
/-! ### an answer -/
def a5 : Rdr (List Spl × List Cut) := bindR (cntL 65 splF) (fun _ => cntL 200 cutF)
def a4 : Rdr (List (List Int) × (List Spl × List Cut)) := bindR (cntL 200 lstF) (fun _ => a5)
def a3 : Rdr (List Int × (List (List Int) × (List Spl × List Cut))) := bindR lstF (fun _ => a4)
def a2 : Rdr (List Int × (List Int × (List (List Int) × (List Spl × List Cut)))) := bindR lstF (fun _ => a3)
def a1 : Rdr (Int × (List Int × (List Int × (List (List Int) × (List Spl × List Cut))))) := bindR numF (fun _ => a2)
def a0 : Rdr (Int × (Int × (List Int × (List Int × (List (List Int) × (List Spl × List Cut)))))) := bindR numF (fun _ => a1)
def toV (q : Int × (Int × (List Int × (List Int × (List (List Int) × (List Spl × List Cut)))))) : AnsV := ⟨q.1, q.2.1, q.2.2.1, q.2.2.2.1, q.2.2.2.2.1, q.2.2.2.2.2.1, q.2.2.2.2.2.2⟩
theorem ans_map (S : List Int) (st : St) : ansF S st = (toV (a0 S st).1, (a0 S st).2) := by
 unfold ansF toV a0 a1 a2 a3 a4 a5 cntL cntB bindR manyR countR
 dsimp only
def e5 (x : List Spl × List Cut) : List Int := cntE SE x.1 ++ cntE CE x.2
def e4 (x : List (List Int) × (List Spl × List Cut)) : List Int := cntE LE x.1 ++ e5 x.2
def e3 (x : List Int × (List (List Int) × (List Spl × List Cut))) : List Int := LE x.1 ++ e4 x.2
def e2 (x : List Int × (List Int × (List (List Int) × (List Spl × List Cut)))) : List Int := LE x.1 ++ e3 x.2
def e1 (x : Int × (List Int × (List Int × (List (List Int) × (List Spl × List Cut))))) : List Int := encN x.1 ++ e2 x.2
def e0 (x : Int × (Int × (List Int × (List Int × (List (List Int) × (List Spl × List Cut)))))) : List Int := encN x.1 ++ e1 x.2
def p5 (x : List Spl × List Cut) : Prop := cntP 65 SP x.1 ∧ cntP 200 CP x.2
def p4 (x : List (List Int) × (List Spl × List Cut)) : Prop := cntP 200 LP x.1 ∧ p5 x.2
def p3 (x : List Int × (List (List Int) × (List Spl × List Cut))) : Prop := LP x.1 ∧ p4 x.2
def p2 (x : List Int × (List Int × (List (List Int) × (List Spl × List Cut)))) : Prop := LP x.1 ∧ p3 x.2
def p1 (x : Int × (List Int × (List Int × (List (List Int) × (List Spl × List Cut))))) : Prop := NumP x.1 ∧ p2 x.2
def p0 (x : Int × (Int × (List Int × (List Int × (List (List Int) × (List Spl × List Cut)))))) : Prop := NumP x.1 ∧ p1 x.2
theorem r5 : ErrOk a5 := ErrOk.bind (cnt_err spl_err) (fun _ => cnt_err cut_err)
theorem r4 : ErrOk a4 := ErrOk.bind (cnt_err lst_err) (fun _ => r5)
theorem r3 : ErrOk a3 := ErrOk.bind lst_err (fun _ => r4)
theorem r2 : ErrOk a2 := ErrOk.bind lst_err (fun _ => r3)
theorem r1 : ErrOk a1 := ErrOk.bind numR_err (fun _ => r2)
theorem n5 : EncOk a5 e5 p5 := EncOk.bind (cnt_enc (by decide) spl_enc) (fun _ _ => cnt_enc (by decide) cut_enc)
theorem n4 : EncOk a4 e4 p4 := EncOk.bind (cnt_enc (by decide) lst_enc) (fun _ _ => n5)
theorem n3 : EncOk a3 e3 p3 := EncOk.bind lst_enc (fun _ _ => n4)
theorem n2 : EncOk a2 e2 p2 := EncOk.bind lst_enc (fun _ _ => n3)
theorem n1 : EncOk a1 e1 p1 := EncOk.bind num_enc (fun _ _ => n2)
theorem n0 : EncOk a0 e0 p0 := EncOk.bind num_enc (fun _ _ => n1)
theorem c5 : CutOk a5 e5 p5 := CutOk.bind (cnt_cut (by decide) spl_cut spl_enc spl_err) (cnt_enc (by decide) spl_enc) (fun _ _ => cnt_cut (by decide) cut_cut cut_enc cut_err) (fun _ => cnt_err cut_err)
theorem c4 : CutOk a4 e4 p4 := CutOk.bind (cnt_cut (by decide) lst_cut lst_enc lst_err) (cnt_enc (by decide) lst_enc) (fun _ _ => c5) (fun _ => r5)
theorem c3 : CutOk a3 e3 p3 := CutOk.bind lst_cut lst_enc (fun _ _ => c4) (fun _ => r4)
theorem c2 : CutOk a2 e2 p2 := CutOk.bind lst_cut lst_enc (fun _ _ => c3) (fun _ => r3)
theorem c1 : CutOk a1 e1 p1 := CutOk.bind num_cut num_enc (fun _ _ => c2) (fun _ => r2)
theorem c0 : CutOk a0 e0 p0 := CutOk.bind num_cut num_enc (fun _ _ => c1) (fun _ => r1)
theorem b5 : BackOk a5 e5 p5 := BackOk.bind (cnt_back spl_back spl_err) (fun _ _ => cnt_back cut_back cut_err) (fun _ => cnt_err cut_err)
theorem b4 : BackOk a4 e4 p4 := BackOk.bind (cnt_back lst_back lst_err) (fun _ _ => b5) (fun _ => r5)
theorem b3 : BackOk a3 e3 p3 := BackOk.bind lst_back (fun _ _ => b4) (fun _ => r4)
theorem b2 : BackOk a2 e2 p2 := BackOk.bind lst_back (fun _ _ => b3) (fun _ => r3)
theorem b1 : BackOk a1 e1 p1 := BackOk.bind num_back (fun _ _ => b2) (fun _ => r2)
theorem b0 : BackOk a0 e0 p0 := BackOk.bind num_back (fun _ _ => b1) (fun _ => r1)
def ofV (x : AnsV) : Int × (Int × (List Int × (List Int × (List (List Int) × (List Spl × List Cut))))) := (x.kd, x.no, x.S, x.U, x.Se, x.Sp, x.Cu)
def encV (x : AnsV) : List Int := e0 (ofV x)
def PV (x : AnsV) : Prop := p0 (ofV x)
theorem ans_enc : EncOk ansF encV PV := EncOk.map2 toV ans_map (fun y hy => ⟨ofV y, hy, rfl, rfl⟩) n0
theorem ans_cut : CutOk ansF encV PV := CutOk.map2 toV ans_map (fun y hy => ⟨ofV y, hy, rfl, rfl⟩) c0
/-! ### what may be -/
theorem few_LP (l : List Int) : badA l = false ↔ LP l := by
 unfold badA fewB LP
 rw [Bool.not_eq_false', Bool.and_eq_true, decide_eq_true_eq, Bool.not_eq_true', List.any_eq_false]
 constructor
 ·rintro ⟨h1, h2⟩
  refine ⟨by omega, fun x hx => ?_⟩
  have := h2 x hx
  simp [outA] at this
  unfold IntP
  omega
 ·rintro ⟨h1, h2⟩
  refine ⟨by omega, fun x hx => ?_⟩
  have := h2 x hx
  unfold IntP at this
  simp [outA]
  omega
theorem ok_iff (x : AnsV) : okV x = true ↔ (0 ≤ x.kd ∧ x.kd < 6) ∧ p2 (x.S, x.U, x.Se, x.Sp, x.Cu) := by
 unfold okV okAns p2 p3 p4 p5 cntP SP CP
 simp only [Bool.and_eq_true, decide_eq_true_eq, Bool.not_eq_true', List.any_eq_false]
 constructor
 ·rintro ⟨⟨⟨⟨⟨h0, h1⟩, h2⟩, h3⟩, h4⟩, h5⟩
  have key : ∀ l, l ∈ ([x.S, x.U] ++ x.Se ++ x.Sp.flatMap (fun y => [y.f0, y.f1, y.f2]) ++ x.Cu.flatMap (fun c => [c.f0, [c.f1]])) → LP l := fun l hl => (few_LP l).1 (by have := h5 l hl; simpa using this)
  refine ⟨⟨h0, h1⟩, key _ ?_, key _ ?_, ⟨by omega, fun l hl => key _ ?_⟩, ⟨by omega, fun y hy => ⟨key _ ?_, key _ ?_, key _ ?_⟩⟩, by omega, fun c hc => ⟨key _ ?_, ?_⟩⟩
  ·simp
  ·simp
  ·simp [hl]
  ·exact List.mem_append_left _ (List.mem_append_right _ (List.mem_flatMap.2 ⟨y, hy, by simp⟩))
  ·exact List.mem_append_left _ (List.mem_append_right _ (List.mem_flatMap.2 ⟨y, hy, by simp⟩))
  ·exact List.mem_append_left _ (List.mem_append_right _ (List.mem_flatMap.2 ⟨y, hy, by simp⟩))
  ·exact List.mem_append_right _ (List.mem_flatMap.2 ⟨c, hc, by simp⟩)
  ·exact (key [c.f1] (List.mem_append_right _ (List.mem_flatMap.2 ⟨c, hc, by simp⟩))).2 _ (by simp)
 ·rintro ⟨⟨h0, h1⟩, h2, h3, ⟨h4, h5⟩, ⟨h6, h7⟩, h8, h9⟩
  refine ⟨⟨⟨⟨⟨h0, h1⟩, by omega⟩, by omega⟩, by omega⟩, fun l hl => ?_⟩
  have : LP l := by
   rcases List.mem_append.1 hl with hl | hl
   ·rcases List.mem_append.1 hl with hl | hl
    ·rcases List.mem_append.1 hl with hl | hl
     ·rcases List.mem_cons.1 hl with rfl | hl
      ·exact h2
      ·rcases List.mem_cons.1 hl with rfl | hl
       ·exact h3
       ·cases hl
     ·exact h5 l hl
    ·obtain ⟨y, hy, hl⟩ := List.mem_flatMap.1 hl
     obtain ⟨q0, q1, q2⟩ := h7 y hy
     rcases List.mem_cons.1 hl with rfl | hl
     ·exact q0
     ·rcases List.mem_cons.1 hl with rfl | hl
      ·exact q1
      ·rcases List.mem_cons.1 hl with rfl | hl
       ·exact q2
       ·cases hl
   ·obtain ⟨c, hc, hl⟩ := List.mem_flatMap.1 hl
    obtain ⟨q0, q1⟩ := h9 c hc
    rcases List.mem_cons.1 hl with rfl | hl
    ·exact q0
    ·rcases List.mem_cons.1 hl with rfl | hl
     ·exact ⟨by simp, fun z hz => by obtain rfl := List.mem_singleton.1 hz; exact q1⟩
     ·cases hl
  have := (few_LP l).2 this
  simpa using this
theorem ok_PV {x : AnsV} (h : okV x = true) (h0 : 0 ≤ x.no) (h1 : x.no ≤ 1) : PV x := by
 obtain ⟨⟨k0, k1⟩, h2⟩ := (ok_iff x).1 h
 exact ⟨⟨k0, by show x.kd ≤ MX; simp only [MX]; omega⟩, ⟨h0, by show x.no ≤ MX; simp only [MX]; omega⟩, h2⟩
theorem dec_more {x : AnsV} (h : okV x = true) (h0 : 0 ≤ x.no) (h1 : x.no ≤ 1) : decV (encV x ++ [0]) = (zeroV, 13, ((encV x).length : Int)) := by
 have e := ans_enc [] [0] x (ok_PV h h0 h1)
 simp only [List.nil_append, List.length_nil, Nat.zero_add] at e
 rw [decV_ok e, if_pos (by rw [List.length_append]; simp)]
theorem dec_cut {x : AnsV} (h : okV x = true) (h0 : 0 ≤ x.no) (h1 : x.no ≤ 1) {c : Nat} (hc : c < (encV x).length) : ∃ q : Nat, q ≤ c ∧ decV ((encV x).take c) = (zeroV, 10, (q : Int)) := by
 obtain ⟨p, q, hq, e⟩ := ans_cut [] x c (ok_PV h h0 h1) hc
 simp only [List.nil_append, List.length_nil, Nat.zero_add] at e hq
 exact ⟨q, hq, decV_err (x := (ansF ((encV x).take c) (0, none)).1) (pc := (q, 10)) (Prod.ext rfl e)⟩
theorem lists_LE {l : List Int} (h : LP l) : encL encI l = LE l := encL_all (fun x hx => by
 obtain ⟨m, h1, h2, h3⟩ := encI_enc (h.2 x hx)
 rw [h2, Ne, encN_nil]
 have := h1.1; have := h1.2; omega)
end Go.Proofs.YtlekdhejgdfnpaaDoor.P
namespace Go.Proofs.YtlekdhejgdfnpaaDoor.P
open Go.RowKit Go.Proofs.YtlekdhejgdfnpaaDoorW.PrintWords Go.Proofs.YtlekdhejgdfnpaaDoorW.PrintLast Go.Proofs.YtlekdhejgdfnpaaDoorW.PrintMore
attribute [local go_sem] max2_int min2_int max_two min_two max_three min_three max_four min_four   -- for this text's walks alone
set_option linter.unusedVariables false
set_option linter.unusedSimpArgs false

/-! ### greenwoodref23_Small: function 7 -/
mutual
def greenwoodref23_Small.j1 : Nat → Int → Int → Bool → List Int → List Int → List (List Int) → List (S41) → List (S43) → Option (Bool)
 | 0, _, _, _, _, _, _, _, _ => none
 | k + 1, x3, x102000, x102001, x102002, x102003, x102004, x102005, x102006 => greenwoodref23_Small.l1 k x3 0 x102000 x102001 x102002 x102003 x102004 x102005 x102006
def greenwoodref23_Small.j3 : Nat → Int → Int → Bool → List Int → List Int → List (List Int) → List (S41) → List (S43) → Option (Bool)
 | 0, _, _, _, _, _, _, _, _ => none
 | k + 1, x3, x102000, x102001, x102002, x102003, x102004, x102005, x102006 => greenwoodref23_Small.l2 k x3 0 x102000 x102001 x102002 x102003 x102004 x102005 x102006
def greenwoodref23_Small.l2 : Nat → Int → Int → Int → Bool → List Int → List Int → List (List Int) → List (S41) → List (S43) → Option (Bool)
 | 0, _, _, _, _, _, _, _, _, _ => none
 | k + 1, x3, x6, x102000, x102001, x102002, x102003, x102004, x102005, x102006 => if x6 < (x102006.length : Int) then (if x3 < 1000 then (if 0 ≤ x6 then (greenwoodref23_Small.l2 k (wrap64 (x3 + (((rd_T43 x102006 x6).f0).length : Int))) (wrap64 (x6 + 1)) x102000 x102001 x102002 x102003 x102004 x102005 x102006) else (none)) else (some (decide (x3 ≤ 500)))) else (some (decide (x3 ≤ 500)))
def greenwoodref23_Small.l1 : Nat → Int → Int → Int → Bool → List Int → List Int → List (List Int) → List (S41) → List (S43) → Option (Bool)
 | 0, _, _, _, _, _, _, _, _, _ => none
 | k + 1, x3, x5, x102000, x102001, x102002, x102003, x102004, x102005, x102006 => if x5 < (x102005.length : Int) then (if x3 < 1000 then (if 0 ≤ x5 then (greenwoodref23_Small.l1 k (wrap64 (x3 + (wrap64 ((wrap64 ((((rd_T41 x102005 x5).f0).length : Int) + (((rd_T41 x102005 x5).f1).length : Int))) + (((rd_T41 x102005 x5).f2).length : Int))))) (wrap64 (x5 + 1)) x102000 x102001 x102002 x102003 x102004 x102005 x102006) else (none)) else (greenwoodref23_Small.j3 k x3 x102000 x102001 x102002 x102003 x102004 x102005 x102006)) else (greenwoodref23_Small.j3 k x3 x102000 x102001 x102002 x102003 x102004 x102005 x102006)
def greenwoodref23_Small.l0 : Nat → Int → Int → Int → Bool → List Int → List Int → List (List Int) → List (S41) → List (S43) → Option (Bool)
 | 0, _, _, _, _, _, _, _, _, _ => none
 | k + 1, x3, x4, x102000, x102001, x102002, x102003, x102004, x102005, x102006 => if x4 < (x102004.length : Int) then (if x3 < 1000 then (if 0 ≤ x4 then (greenwoodref23_Small.l0 k (wrap64 (x3 + ((rd_L1 x102004 x4).length : Int))) (wrap64 (x4 + 1)) x102000 x102001 x102002 x102003 x102004 x102005 x102006) else (none)) else (greenwoodref23_Small.j1 k x3 x102000 x102001 x102002 x102003 x102004 x102005 x102006)) else (greenwoodref23_Small.j1 k x3 x102000 x102001 x102002 x102003 x102004 x102005 x102006)
end
def greenwoodref23_Small.f (k : Nat) (a0_0 : Int) (a0_1 : Bool) (l0_2 : List Int) (l0_3 : List Int) (l0_4 : List (List Int)) (l0_5 : List (S41)) (l0_6 : List (S43)) : Option (Bool) := greenwoodref23_Small.l0 k (wrap64 ((wrap64 ((wrap64 ((wrap64 ((l0_2.length : Int) + (l0_3.length : Int))) + (l0_4.length : Int))) + (l0_5.length : Int))) + (l0_6.length : Int))) 0 a0_0 a0_1 l0_2 l0_3 l0_4 l0_5 l0_6
set_option maxHeartbeats 8000000 in
set_option maxRecDepth 100000 in
theorem greenwoodref23_Small.calls (k : Nat) (a0_0 : Int) (a0_1 : Bool) (A0_2 : Option Addr) (c0_2 : Nat) (l0_2 : List Int) (A0_3 : Option Addr) (c0_3 : Nat) (l0_3 : List Int) (A0_4 : Option Addr) (c0_4 : Nat) (l0_4 : List (List Int)) (A0_5 : Option Addr) (c0_5 : Nat) (l0_5 : List (S41)) (A0_6 : Option Addr) (c0_6 : Nat) (l0_6 : List (S43)) (r : Bool) (w : World) (hr0_2 : Kd.C (Kd.int .i64) w A0_2 l0_2.length l0_2) (hc0_2 : l0_2.length ≤ c0_2) (hr0_3 : Kd.C (Kd.int .i64) w A0_3 l0_3.length l0_3) (hc0_3 : l0_3.length ≤ c0_3) (hr0_4 : Kd.C (Kd.slice 3 (Kd.int .i64)) w A0_4 l0_4.length l0_4) (hc0_4 : l0_4.length ≤ c0_4) (hr0_5 : Kd.C k41 w A0_5 l0_5.length l0_5) (hc0_5 : l0_5.length ≤ c0_5) (hr0_6 : Kd.C k43 w A0_6 l0_6.length l0_6) (hc0_6 : l0_6.length ≤ c0_6) (h : greenwoodref23_Small.f k a0_0 a0_1 l0_2 l0_3 l0_4 l0_5 l0_6 = some r) :
 Calls Tryd.prog 7 #[.agg #[.int .i64 a0_0, .bool a0_1, .slice A0_2 l0_2.length c0_2, .slice A0_3 l0_3.length c0_3, .slice A0_4 l0_4.length c0_4, .slice A0_5 l0_5.length c0_5, .slice A0_6 l0_6.length c0_6]] w fun e w' => e = .returned (.bool r) ∧ Below w.heap.size w w' := by
 have hu27 := Tryd.underlying27
 have HR0_2 := Aside0.mk hr0_2
 have HC0_2 := Aside0.mk hc0_2
 clear hr0_2 hc0_2
 have HR0_3 := Aside0.mk hr0_3
 have HC0_3 := Aside0.mk hc0_3
 clear hr0_3 hc0_3
 have HR0_4 := Aside0.mk hr0_4
 have HC0_4 := Aside0.mk hc0_4
 clear hr0_4 hc0_4
 have HR0_5 := Aside0.mk hr0_5
 have HC0_5 := Aside0.mk hc0_5
 clear hr0_5 hc0_5
 have HR0_6 := Aside0.mk hr0_6
 have HC0_6 := Aside0.mk hc0_6
 clear hr0_6 hc0_6
 have HB := Aside0.mk (Below.refl w.heap.size w)
 have H : (greenwoodref23_Small.l0 k (wrap64 ((wrap64 ((wrap64 ((wrap64 ((l0_2.length : Int) + (l0_3.length : Int))) + (l0_4.length : Int))) + (l0_5.length : Int))) + (l0_6.length : Int))) 0 a0_0 a0_1 l0_2 l0_3 l0_4 l0_5 l0_6) = some r := h
 clear h
 have HC2 := Aside0.mk H
 clear H
 go_enter Tryd.func7, Tryd.ntmps7
 go_upto_block 0 with (first | ((with_reducible refine gate_dst (N := 1) rfl ?_); refine box_event ?hg (N := 1) ?hd (cs := #[.int .i64 a0_0, .bool a0_1, .slice A0_2 l0_2.length c0_2, .slice A0_3 l0_3.length c0_3, .slice A0_4 l0_4.length c0_4, .slice A0_5 l0_5.length c0_5, .slice A0_6 l0_6.length c0_6]) (t := 27) ?hr ?_; (case hd => rfl); (case hg => rfl); (case hr => first | (go_simp; done) | (go_simp; rfl)); intro gb101 hg w3 hbox hb; have n0_ := Aside0.mk (below_step (by repeat (first | (with_reducible first | exact HB.out | apply below_alloc | apply pw_below_drewN | apply below_drew1) | exact HB.out)) hb); have n1_ := Aside0.mk (hbox); have n2_ := Aside0.mk ((by rw [hg]; exact (below_size (by repeat (first | (with_reducible first | exact HB.out | apply below_alloc | apply pw_below_drewN | apply below_drew1) | exact HB.out))) : w.heap.size ≤ gb101)); have n3_ := Aside0.mk ((by rw [hg]; exact (below_size (by repeat (first | (with_reducible first | exact HB.out | apply below_alloc | apply pw_below_drewN | apply below_drew1) | exact HB.out))) : w.heap.size ≤ gb101)); clear HB; have HB := n0_; have BK101 := n1_; have GW101 := n2_; have GE101 := n3_; clear n0_ n1_ n2_ n3_; clear hb hbox hg; have hcz4_0 : w3.cell? ⟨gb101, 0, none⟩ = some (.int .i64 a0_0) := (blk_cell BK101.out 0).trans rfl; have hcz4_1 : w3.cell? ⟨gb101, 1, none⟩ = some (.bool a0_1) := (blk_cell BK101.out 1).trans rfl; have hcz4_2 : w3.cell? ⟨gb101, 2, none⟩ = some (.slice A0_2 l0_2.length c0_2) := (blk_cell BK101.out 2).trans rfl; have hcz4_3 : w3.cell? ⟨gb101, 3, none⟩ = some (.slice A0_3 l0_3.length c0_3) := (blk_cell BK101.out 3).trans rfl; have hcz4_4 : w3.cell? ⟨gb101, 4, none⟩ = some (.slice A0_4 l0_4.length c0_4) := (blk_cell BK101.out 4).trans rfl; have hcz4_5 : w3.cell? ⟨gb101, 5, none⟩ = some (.slice A0_5 l0_5.length c0_5) := (blk_cell BK101.out 5).trans rfl; have hcz4_6 : w3.cell? ⟨gb101, 6, none⟩ = some (.slice A0_6 l0_6.length c0_6) := (blk_cell BK101.out 6).trans rfl; have hfz4_0 := blk_frozen BK101.out 0; have hfz4_1 := blk_frozen BK101.out 1; have hfz4_2 := blk_frozen BK101.out 2; have hfz4_3 := blk_frozen BK101.out 3; have hfz4_4 := blk_frozen BK101.out 4; have hfz4_5 := blk_frozen BK101.out 5; have hfz4_6 := blk_frozen BK101.out 6))
 repeat (go_quiet (first | ((with_reducible refine gate_dst (N := 1) rfl ?_); refine box_event ?hg (N := 1) ?hd (cs := #[.int .i64 a0_0, .bool a0_1, .slice A0_2 l0_2.length c0_2, .slice A0_3 l0_3.length c0_3, .slice A0_4 l0_4.length c0_4, .slice A0_5 l0_5.length c0_5, .slice A0_6 l0_6.length c0_6]) (t := 27) ?hr ?_; (case hd => rfl); (case hg => rfl); (case hr => first | (go_simp; done) | (go_simp; rfl)); intro gb101 hg w3 hbox hb; have n0_ := Aside0.mk (below_step (by repeat (first | (with_reducible first | exact HB.out | apply below_alloc | apply pw_below_drewN | apply below_drew1) | exact HB.out)) hb); have n1_ := Aside0.mk (hbox); have n2_ := Aside0.mk ((by rw [hg]; exact (below_size (by repeat (first | (with_reducible first | exact HB.out | apply below_alloc | apply pw_below_drewN | apply below_drew1) | exact HB.out))) : w.heap.size ≤ gb101)); have n3_ := Aside0.mk ((by rw [hg]; exact (below_size (by repeat (first | (with_reducible first | exact HB.out | apply below_alloc | apply pw_below_drewN | apply below_drew1) | exact HB.out))) : w.heap.size ≤ gb101)); clear HB; have HB := n0_; have BK101 := n1_; have GW101 := n2_; have GE101 := n3_; clear n0_ n1_ n2_ n3_; clear hb hbox hg; have hcz4_0 : w3.cell? ⟨gb101, 0, none⟩ = some (.int .i64 a0_0) := (blk_cell BK101.out 0).trans rfl; have hcz4_1 : w3.cell? ⟨gb101, 1, none⟩ = some (.bool a0_1) := (blk_cell BK101.out 1).trans rfl; have hcz4_2 : w3.cell? ⟨gb101, 2, none⟩ = some (.slice A0_2 l0_2.length c0_2) := (blk_cell BK101.out 2).trans rfl; have hcz4_3 : w3.cell? ⟨gb101, 3, none⟩ = some (.slice A0_3 l0_3.length c0_3) := (blk_cell BK101.out 3).trans rfl; have hcz4_4 : w3.cell? ⟨gb101, 4, none⟩ = some (.slice A0_4 l0_4.length c0_4) := (blk_cell BK101.out 4).trans rfl; have hcz4_5 : w3.cell? ⟨gb101, 5, none⟩ = some (.slice A0_5 l0_5.length c0_5) := (blk_cell BK101.out 5).trans rfl; have hcz4_6 : w3.cell? ⟨gb101, 6, none⟩ = some (.slice A0_6 l0_6.length c0_6) := (blk_cell BK101.out 6).trans rfl; have hfz4_0 := blk_frozen BK101.out 0; have hfz4_1 := blk_frozen BK101.out 1; have hfz4_2 := blk_frozen BK101.out 2; have hfz4_3 := blk_frozen BK101.out 3; have hfz4_4 := blk_frozen BK101.out 4; have hfz4_5 := blk_frozen BK101.out 5; have hfz4_6 := blk_frozen BK101.out 6)); go_upto_block 0 with (first | ((with_reducible refine gate_dst (N := 1) rfl ?_); refine box_event ?hg (N := 1) ?hd (cs := #[.int .i64 a0_0, .bool a0_1, .slice A0_2 l0_2.length c0_2, .slice A0_3 l0_3.length c0_3, .slice A0_4 l0_4.length c0_4, .slice A0_5 l0_5.length c0_5, .slice A0_6 l0_6.length c0_6]) (t := 27) ?hr ?_; (case hd => rfl); (case hg => rfl); (case hr => first | (go_simp; done) | (go_simp; rfl)); intro gb101 hg w3 hbox hb; have n0_ := Aside0.mk (below_step (by repeat (first | (with_reducible first | exact HB.out | apply below_alloc | apply pw_below_drewN | apply below_drew1) | exact HB.out)) hb); have n1_ := Aside0.mk (hbox); have n2_ := Aside0.mk ((by rw [hg]; exact (below_size (by repeat (first | (with_reducible first | exact HB.out | apply below_alloc | apply pw_below_drewN | apply below_drew1) | exact HB.out))) : w.heap.size ≤ gb101)); have n3_ := Aside0.mk ((by rw [hg]; exact (below_size (by repeat (first | (with_reducible first | exact HB.out | apply below_alloc | apply pw_below_drewN | apply below_drew1) | exact HB.out))) : w.heap.size ≤ gb101)); clear HB; have HB := n0_; have BK101 := n1_; have GW101 := n2_; have GE101 := n3_; clear n0_ n1_ n2_ n3_; clear hb hbox hg; have hcz4_0 : w3.cell? ⟨gb101, 0, none⟩ = some (.int .i64 a0_0) := (blk_cell BK101.out 0).trans rfl; have hcz4_1 : w3.cell? ⟨gb101, 1, none⟩ = some (.bool a0_1) := (blk_cell BK101.out 1).trans rfl; have hcz4_2 : w3.cell? ⟨gb101, 2, none⟩ = some (.slice A0_2 l0_2.length c0_2) := (blk_cell BK101.out 2).trans rfl; have hcz4_3 : w3.cell? ⟨gb101, 3, none⟩ = some (.slice A0_3 l0_3.length c0_3) := (blk_cell BK101.out 3).trans rfl; have hcz4_4 : w3.cell? ⟨gb101, 4, none⟩ = some (.slice A0_4 l0_4.length c0_4) := (blk_cell BK101.out 4).trans rfl; have hcz4_5 : w3.cell? ⟨gb101, 5, none⟩ = some (.slice A0_5 l0_5.length c0_5) := (blk_cell BK101.out 5).trans rfl; have hcz4_6 : w3.cell? ⟨gb101, 6, none⟩ = some (.slice A0_6 l0_6.length c0_6) := (blk_cell BK101.out 6).trans rfl; have hfz4_0 := blk_frozen BK101.out 0; have hfz4_1 := blk_frozen BK101.out 1; have hfz4_2 := blk_frozen BK101.out 2; have hfz4_3 := blk_frozen BK101.out 3; have hfz4_4 := blk_frozen BK101.out 4; have hfz4_5 := blk_frozen BK101.out 5; have hfz4_6 := blk_frozen BK101.out 6)))
 (try simp only [Act.put, List.setIfInBounds_toArray, List.set_cons_zero, List.set_cons_succ])
 go_cut [3] (fun v3 wc => ∃ (kq : Nat) (x3_1 : Int), v3 = .int .i64 x3_1 ∧ Aside0 (greenwoodref23_Small.j1 kq x3_1 a0_0 a0_1 l0_2 l0_3 l0_4 l0_5 l0_6 = some r) ∧ Aside0 (kq ≤ k) ∧ Aside0 (wc.heap[gb101]? = some (.cells #[.int .i64 a0_0, .bool a0_1, (.slice A0_2 l0_2.length c0_2), (.slice A0_3 l0_3.length c0_3), (.slice A0_4 l0_4.length c0_4), (.slice A0_5 l0_5.length c0_5), (.slice A0_6 l0_6.length c0_6)] 27 (0, 0))) ∧ Aside0 (Below w.heap.size w wc))
 case first =>
  have H := HC2.out
  clear HC2
  have H' := Aside0.mk H
  clear H
  go_wp2
  repeat (go_quiet (fail); try go_wp2)
  go_loopg [3, 4] k (fun kq v3 v4 w' => ∃ (x3_1 : Int) (x4_1 : Int), v3 = .int .i64 x3_1 ∧ v4 = .int .i64 x4_1 ∧ Aside0 (greenwoodref23_Small.l0 kq x3_1 x4_1 a0_0 a0_1 l0_2 l0_3 l0_4 l0_5 l0_6 = some r) ∧ Aside0 (kq ≤ k) ∧ Aside0 (w'.heap[gb101]? = some (.cells #[.int .i64 a0_0, .bool a0_1, (.slice A0_2 l0_2.length c0_2), (.slice A0_3 l0_3.length c0_3), (.slice A0_4 l0_4.length c0_4), (.slice A0_5 l0_5.length c0_5), (.slice A0_6 l0_6.length c0_6)] 27 (0, 0))) ∧ Aside0 (Below w.heap.size w w'))
  case atStart => exact ⟨(wrap64 ((wrap64 ((wrap64 ((wrap64 ((l0_2.length : Int) + (l0_3.length : Int))) + (l0_4.length : Int))) + (l0_5.length : Int))) + (l0_6.length : Int))), (0), (by first | rfl | (simp; done) | (simp [*]; done)), (by first | rfl | (simp; done) | (simp [*]; done)), H', ⟨Nat.le_refl _⟩, ⟨by (with_reducible repeat (first | refine blk_drewN ?_ _ | refine blk_drew ?_ | refine blk_alloc ?_ _)); exact BK101.out⟩, ⟨by repeat (first | (with_reducible first | exact HB.out | apply below_alloc | apply pw_below_drewN | apply below_drew1 | refine below_set ?_ GE101.out) | exact HB.out)⟩⟩
  case round =>
   clear H'
   try clear p2
   try clear hcz4_0
   try clear hcz4_1
   try clear hcz4_2
   try clear hcz4_3
   try clear hcz4_4
   try clear hcz4_5
   try clear hcz4_6
   try clear hfz4_0
   try clear hfz4_1
   try clear hfz4_2
   try clear hfz4_3
   try clear hfz4_4
   try clear hfz4_5
   try clear hfz4_6
   obtain ⟨x3_1, x4_1, rfl, rfl, HA, HK1, BK101, HB⟩ := hrel
   cases gk with
   | zero => exact absurd HA.out (by simp [greenwoodref23_Small.l0])
   | succ k1 =>
    have H := HA.out
    clear HA
    simp only [greenwoodref23_Small.l0] at H
    by_cases c5 : x4_1 < (l0_4.length : Int)
    ·rw [if_pos c5] at H
     have c5b0 : decide (x4_1 < (l0_4.length : Int)) = true := decide_eq_true c5
     clear c5
     (first | rw [c5b0] | (simp only [i64_w, i32_w]; rw [c5b0]) | skip)
     by_cases c6 : x3_1 < 1000
     ·rw [if_pos c6] at H
      have c6b0 : decide (x3_1 < 1000) = true := decide_eq_true c6
      clear c6
      by_cases c7 : 0 ≤ x4_1
      ·rw [if_pos c7] at H
       have c7b0 : decide (0 ≤ x4_1) = true := decide_eq_true c7
       clear c7
       have H' := Aside0.mk H
       clear H
       have hcz8_0 : wr.cell? ⟨gb101, 0, none⟩ = some (.int .i64 a0_0) := (blk_cell BK101.out 0).trans rfl
       have hcz8_1 : wr.cell? ⟨gb101, 1, none⟩ = some (.bool a0_1) := (blk_cell BK101.out 1).trans rfl
       have hcz8_2 : wr.cell? ⟨gb101, 2, none⟩ = some (.slice A0_2 l0_2.length c0_2) := (blk_cell BK101.out 2).trans rfl
       have hcz8_3 : wr.cell? ⟨gb101, 3, none⟩ = some (.slice A0_3 l0_3.length c0_3) := (blk_cell BK101.out 3).trans rfl
       have hcz8_4 : wr.cell? ⟨gb101, 4, none⟩ = some (.slice A0_4 l0_4.length c0_4) := (blk_cell BK101.out 4).trans rfl
       have hcz8_5 : wr.cell? ⟨gb101, 5, none⟩ = some (.slice A0_5 l0_5.length c0_5) := (blk_cell BK101.out 5).trans rfl
       have hcz8_6 : wr.cell? ⟨gb101, 6, none⟩ = some (.slice A0_6 l0_6.length c0_6) := (blk_cell BK101.out 6).trans rfl
       have hfz8_0 := blk_frozen BK101.out 0
       have hfz8_1 := blk_frozen BK101.out 1
       have hfz8_2 := blk_frozen BK101.out 2
       have hfz8_3 := blk_frozen BK101.out 3
       have hfz8_4 := blk_frozen BK101.out 4
       have hfz8_5 := blk_frozen BK101.out 5
       have hfz8_6 := blk_frozen BK101.out 6
       have p102 : 0 ≤ (x4_1 : Int) := of_decide_eq_true (by first | (with_reducible assumption) | assumption)
       have q102 : x4_1 < (l0_4.length : Int) := of_decide_eq_true (by first | (with_reducible assumption) | assumption)
       obtain ⟨ad102, A102_0, c102_0, e102, hx102_0, hl102_0, hi102_0⟩ := at_L1 HR0_4.out x4_1 p102 q102
       cases e102
       replace hx102_0 := (HB.out.cell (World.block_lt_of_cell? w _ hx102_0)).trans hx102_0
       have HR102_0 := Aside0.mk hi102_0
       have HC102_0 := Aside0.mk hl102_0
       clear hi102_0 hl102_0
       replace p102 := eq_true p102
       replace q102 := eq_true q102
       go_wp2
       repeat (go_quiet (fail); try go_wp2)
       go_roundg k1
       case measure => have := HK1.out; omega
       case rel => exact ⟨(wrap64 (x3_1 + ((rd_L1 l0_4 x4_1).length : Int))), (wrap64 (x4_1 + 1)), (by first | rfl | (simp; done) | (simp [*]; done)), (by first | rfl | (simp; done) | (simp [*]; done)), H', ⟨by have := HK1.out; omega⟩, ⟨by (with_reducible repeat (first | refine blk_drewN ?_ _ | refine blk_drew ?_ | refine blk_alloc ?_ _)); exact BK101.out⟩, ⟨by repeat (first | (with_reducible first | exact HB.out | apply below_alloc | apply pw_below_drewN | apply below_drew1 | refine below_set ?_ GE101.out) | exact HB.out)⟩⟩
      ·rw [if_neg c7] at H
       exact absurd H (by simp)
     ·rw [if_neg c6] at H
      have c6b0 : decide (x3_1 < 1000) = false := decide_eq_false c6
      clear c6
      have H' := Aside0.mk H
      clear H
      have hcz9_0 : wr.cell? ⟨gb101, 0, none⟩ = some (.int .i64 a0_0) := (blk_cell BK101.out 0).trans rfl
      have hcz9_1 : wr.cell? ⟨gb101, 1, none⟩ = some (.bool a0_1) := (blk_cell BK101.out 1).trans rfl
      have hcz9_2 : wr.cell? ⟨gb101, 2, none⟩ = some (.slice A0_2 l0_2.length c0_2) := (blk_cell BK101.out 2).trans rfl
      have hcz9_3 : wr.cell? ⟨gb101, 3, none⟩ = some (.slice A0_3 l0_3.length c0_3) := (blk_cell BK101.out 3).trans rfl
      have hcz9_4 : wr.cell? ⟨gb101, 4, none⟩ = some (.slice A0_4 l0_4.length c0_4) := (blk_cell BK101.out 4).trans rfl
      have hcz9_5 : wr.cell? ⟨gb101, 5, none⟩ = some (.slice A0_5 l0_5.length c0_5) := (blk_cell BK101.out 5).trans rfl
      have hcz9_6 : wr.cell? ⟨gb101, 6, none⟩ = some (.slice A0_6 l0_6.length c0_6) := (blk_cell BK101.out 6).trans rfl
      have hfz9_0 := blk_frozen BK101.out 0
      have hfz9_1 := blk_frozen BK101.out 1
      have hfz9_2 := blk_frozen BK101.out 2
      have hfz9_3 := blk_frozen BK101.out 3
      have hfz9_4 := blk_frozen BK101.out 4
      have hfz9_5 := blk_frozen BK101.out 5
      have hfz9_6 := blk_frozen BK101.out 6
      go_wp2
      repeat (go_quiet (fail); try go_wp2)
      go_meet
      case rel => exact ⟨_, (x3_1), (by first | rfl | (simp; done) | (simp [*]; done)), H', ⟨by have := HK1.out; first | omega | exact Nat.le_refl _⟩, ⟨by (with_reducible repeat (first | refine blk_drewN ?_ _ | refine blk_drew ?_ | refine blk_alloc ?_ _)); exact BK101.out⟩, ⟨by repeat (first | (with_reducible first | exact HB.out | apply below_alloc | apply pw_below_drewN | apply below_drew1 | refine below_set ?_ GE101.out) | exact HB.out)⟩⟩
    ·rw [if_neg c5] at H
     have c5b0 : decide (x4_1 < (l0_4.length : Int)) = false := decide_eq_false c5
     clear c5
     (first | rw [c5b0] | (simp only [i64_w, i32_w]; rw [c5b0]) | skip)
     have H' := Aside0.mk H
     clear H
     have hcz10_0 : wr.cell? ⟨gb101, 0, none⟩ = some (.int .i64 a0_0) := (blk_cell BK101.out 0).trans rfl
     have hcz10_1 : wr.cell? ⟨gb101, 1, none⟩ = some (.bool a0_1) := (blk_cell BK101.out 1).trans rfl
     have hcz10_2 : wr.cell? ⟨gb101, 2, none⟩ = some (.slice A0_2 l0_2.length c0_2) := (blk_cell BK101.out 2).trans rfl
     have hcz10_3 : wr.cell? ⟨gb101, 3, none⟩ = some (.slice A0_3 l0_3.length c0_3) := (blk_cell BK101.out 3).trans rfl
     have hcz10_4 : wr.cell? ⟨gb101, 4, none⟩ = some (.slice A0_4 l0_4.length c0_4) := (blk_cell BK101.out 4).trans rfl
     have hcz10_5 : wr.cell? ⟨gb101, 5, none⟩ = some (.slice A0_5 l0_5.length c0_5) := (blk_cell BK101.out 5).trans rfl
     have hcz10_6 : wr.cell? ⟨gb101, 6, none⟩ = some (.slice A0_6 l0_6.length c0_6) := (blk_cell BK101.out 6).trans rfl
     have hfz10_0 := blk_frozen BK101.out 0
     have hfz10_1 := blk_frozen BK101.out 1
     have hfz10_2 := blk_frozen BK101.out 2
     have hfz10_3 := blk_frozen BK101.out 3
     have hfz10_4 := blk_frozen BK101.out 4
     have hfz10_5 := blk_frozen BK101.out 5
     have hfz10_6 := blk_frozen BK101.out 6
     go_wp2
     repeat (go_quiet (fail); try go_wp2)
     go_meet
     case rel => exact ⟨_, (x3_1), (by first | rfl | (simp; done) | (simp [*]; done)), H', ⟨by have := HK1.out; first | omega | exact Nat.le_refl _⟩, ⟨by (with_reducible repeat (first | refine blk_drewN ?_ _ | refine blk_drew ?_ | refine blk_alloc ?_ _)); exact BK101.out⟩, ⟨by repeat (first | (with_reducible first | exact HB.out | apply below_alloc | apply pw_below_drewN | apply below_drew1 | refine below_set ?_ GE101.out) | exact HB.out)⟩⟩
 case rest =>
  clear HC2
  try clear c1
  try clear p1
  try clear q1
  try clear hx1
  try clear p2
  try clear c5
  try clear c5b0
  try clear c6
  try clear c6b0
  try clear p6
  try clear c7
  try clear c7b0
  try clear c10
  try clear p10
  try clear q10
  try clear hx10
  try clear hcz10_0
  try clear hcz10_1
  try clear hcz10_2
  try clear hcz10_3
  try clear hcz10_4
  try clear hcz10_5
  try clear hcz10_6
  try clear hcz4_0
  try clear hcz4_1
  try clear hcz4_2
  try clear hcz4_3
  try clear hcz4_4
  try clear hcz4_5
  try clear hcz4_6
  try clear hcz8_0
  try clear hcz8_1
  try clear hcz8_2
  try clear hcz8_3
  try clear hcz8_4
  try clear hcz8_5
  try clear hcz8_6
  try clear hcz9_0
  try clear hcz9_1
  try clear hcz9_2
  try clear hcz9_3
  try clear hcz9_4
  try clear hcz9_5
  try clear hcz9_6
  try clear hfz10_0
  try clear hfz10_1
  try clear hfz10_2
  try clear hfz10_3
  try clear hfz10_4
  try clear hfz10_5
  try clear hfz10_6
  try clear hfz4_0
  try clear hfz4_1
  try clear hfz4_2
  try clear hfz4_3
  try clear hfz4_4
  try clear hfz4_5
  try clear hfz4_6
  try clear hfz8_0
  try clear hfz8_1
  try clear hfz8_2
  try clear hfz8_3
  try clear hfz8_4
  try clear hfz8_5
  try clear hfz8_6
  try clear hfz9_0
  try clear hfz9_1
  try clear hfz9_2
  try clear hfz9_3
  try clear hfz9_4
  try clear hfz9_5
  try clear hfz9_6
  try clear hx102_0
  try clear p102
  try clear p2
  try clear q102
  obtain ⟨kq, x3_1, rfl, HA, HJ1, BK101, HB⟩ := hcut
  cases kq with
  | zero => exact absurd HA.out (by simp [greenwoodref23_Small.j1])
  | succ kj1 =>
   have H := HA.out
   clear HA
   simp only [greenwoodref23_Small.j1] at H
   have HC11 := Aside0.mk H
   clear H
   go_upto_block 2 with (fail)
   repeat (go_quiet (fail); go_upto_block 2 with (fail))
   go_cut [3] (fun v3 wc => ∃ (kq : Nat) (x3_10 : Int), v3 = .int .i64 x3_10 ∧ Aside0 (greenwoodref23_Small.j3 kq x3_10 a0_0 a0_1 l0_2 l0_3 l0_4 l0_5 l0_6 = some r) ∧ Aside0 (kq ≤ kj1) ∧ Aside0 (wc.heap[gb101]? = some (.cells #[.int .i64 a0_0, .bool a0_1, (.slice A0_2 l0_2.length c0_2), (.slice A0_3 l0_3.length c0_3), (.slice A0_4 l0_4.length c0_4), (.slice A0_5 l0_5.length c0_5), (.slice A0_6 l0_6.length c0_6)] 27 (0, 0))) ∧ Aside0 (Below w.heap.size w wc))
   case first =>
    have H := HC11.out
    clear HC11
    have H' := Aside0.mk H
    clear H
    go_wp2
    repeat (go_quiet (fail); try go_wp2)
    go_loopg [3, 5] kj1 (fun kq v3 v5 w' => ∃ (x3_2 : Int) (x5_2 : Int), v3 = .int .i64 x3_2 ∧ v5 = .int .i64 x5_2 ∧ Aside0 (greenwoodref23_Small.l1 kq x3_2 x5_2 a0_0 a0_1 l0_2 l0_3 l0_4 l0_5 l0_6 = some r) ∧ Aside0 (kq ≤ kj1) ∧ Aside0 (w'.heap[gb101]? = some (.cells #[.int .i64 a0_0, .bool a0_1, (.slice A0_2 l0_2.length c0_2), (.slice A0_3 l0_3.length c0_3), (.slice A0_4 l0_4.length c0_4), (.slice A0_5 l0_5.length c0_5), (.slice A0_6 l0_6.length c0_6)] 27 (0, 0))) ∧ Aside0 (Below w.heap.size w w'))
    case atStart => exact ⟨(x3_1), (0), (by first | rfl | (simp; done) | (simp [*]; done)), (by first | rfl | (simp; done) | (simp [*]; done)), H', ⟨Nat.le_refl _⟩, ⟨by (with_reducible repeat (first | refine blk_drewN ?_ _ | refine blk_drew ?_ | refine blk_alloc ?_ _)); exact BK101.out⟩, ⟨by repeat (first | (with_reducible first | exact HB.out | apply below_alloc | apply pw_below_drewN | apply below_drew1 | refine below_set ?_ GE101.out) | exact HB.out)⟩⟩
    case round =>
     clear H'
     try clear c1
     try clear p1
     try clear q1
     try clear hx1
     try clear p2
     try clear c5
     try clear c5b0
     try clear c6
     try clear c6b0
     try clear p6
     try clear c7
     try clear c7b0
     try clear c10
     try clear p10
     try clear q10
     try clear hx10
     try clear hcz10_0
     try clear hcz10_1
     try clear hcz10_2
     try clear hcz10_3
     try clear hcz10_4
     try clear hcz10_5
     try clear hcz10_6
     try clear hcz4_0
     try clear hcz4_1
     try clear hcz4_2
     try clear hcz4_3
     try clear hcz4_4
     try clear hcz4_5
     try clear hcz4_6
     try clear hcz8_0
     try clear hcz8_1
     try clear hcz8_2
     try clear hcz8_3
     try clear hcz8_4
     try clear hcz8_5
     try clear hcz8_6
     try clear hcz9_0
     try clear hcz9_1
     try clear hcz9_2
     try clear hcz9_3
     try clear hcz9_4
     try clear hcz9_5
     try clear hcz9_6
     try clear hfz10_0
     try clear hfz10_1
     try clear hfz10_2
     try clear hfz10_3
     try clear hfz10_4
     try clear hfz10_5
     try clear hfz10_6
     try clear hfz4_0
     try clear hfz4_1
     try clear hfz4_2
     try clear hfz4_3
     try clear hfz4_4
     try clear hfz4_5
     try clear hfz4_6
     try clear hfz8_0
     try clear hfz8_1
     try clear hfz8_2
     try clear hfz8_3
     try clear hfz8_4
     try clear hfz8_5
     try clear hfz8_6
     try clear hfz9_0
     try clear hfz9_1
     try clear hfz9_2
     try clear hfz9_3
     try clear hfz9_4
     try clear hfz9_5
     try clear hfz9_6
     try clear hx102_0
     try clear p1
     try clear p10
     try clear p102
     try clear p2
     try clear p6
     try clear q1
     try clear q10
     try clear q102
     obtain ⟨x3_2, x5_2, rfl, rfl, HA, HK2, BK101, HB⟩ := hrel
     cases gk with
     | zero => exact absurd HA.out (by simp [greenwoodref23_Small.l1])
     | succ k2 =>
      have H := HA.out
      clear HA
      simp only [greenwoodref23_Small.l1] at H
      by_cases c12 : x5_2 < (l0_5.length : Int)
      ·rw [if_pos c12] at H
       have c12b0 : decide (x5_2 < (l0_5.length : Int)) = true := decide_eq_true c12
       clear c12
       (first | rw [c12b0] | (simp only [i64_w, i32_w]; rw [c12b0]) | skip)
       by_cases c13 : x3_2 < 1000
       ·rw [if_pos c13] at H
        have c13b0 : decide (x3_2 < 1000) = true := decide_eq_true c13
        clear c13
        by_cases c14 : 0 ≤ x5_2
        ·rw [if_pos c14] at H
         have c14b0 : decide (0 ≤ x5_2) = true := decide_eq_true c14
         clear c14
         have H' := Aside0.mk H
         clear H
         have hcz15_0 : wr.cell? ⟨gb101, 0, none⟩ = some (.int .i64 a0_0) := (blk_cell BK101.out 0).trans rfl
         have hcz15_1 : wr.cell? ⟨gb101, 1, none⟩ = some (.bool a0_1) := (blk_cell BK101.out 1).trans rfl
         have hcz15_2 : wr.cell? ⟨gb101, 2, none⟩ = some (.slice A0_2 l0_2.length c0_2) := (blk_cell BK101.out 2).trans rfl
         have hcz15_3 : wr.cell? ⟨gb101, 3, none⟩ = some (.slice A0_3 l0_3.length c0_3) := (blk_cell BK101.out 3).trans rfl
         have hcz15_4 : wr.cell? ⟨gb101, 4, none⟩ = some (.slice A0_4 l0_4.length c0_4) := (blk_cell BK101.out 4).trans rfl
         have hcz15_5 : wr.cell? ⟨gb101, 5, none⟩ = some (.slice A0_5 l0_5.length c0_5) := (blk_cell BK101.out 5).trans rfl
         have hcz15_6 : wr.cell? ⟨gb101, 6, none⟩ = some (.slice A0_6 l0_6.length c0_6) := (blk_cell BK101.out 6).trans rfl
         have hfz15_0 := blk_frozen BK101.out 0
         have hfz15_1 := blk_frozen BK101.out 1
         have hfz15_2 := blk_frozen BK101.out 2
         have hfz15_3 := blk_frozen BK101.out 3
         have hfz15_4 := blk_frozen BK101.out 4
         have hfz15_5 := blk_frozen BK101.out 5
         have hfz15_6 := blk_frozen BK101.out 6
         have p103 : 0 ≤ (x5_2 : Int) := of_decide_eq_true (by first | (with_reducible assumption) | assumption)
         have q103 : x5_2 < (l0_5.length : Int) := of_decide_eq_true (by first | (with_reducible assumption) | assumption)
         obtain ⟨ad103, A103_0, c103_0, A103_1, c103_1, A103_2, c103_2, e103, hx103_0, hx103_1, hx103_2, hl103_0, hi103_0, hl103_1, hi103_1, hl103_2, hi103_2⟩ := at_T41 HR0_5.out x5_2 p103 q103
         cases e103
         replace hx103_0 := (HB.out.cell (World.block_lt_of_cell? w _ hx103_0)).trans hx103_0
         replace hx103_1 := (HB.out.cell (World.block_lt_of_cell? w _ hx103_1)).trans hx103_1
         replace hx103_2 := (HB.out.cell (World.block_lt_of_cell? w _ hx103_2)).trans hx103_2
         have HR103_0 := Aside0.mk hi103_0
         have HC103_0 := Aside0.mk hl103_0
         clear hi103_0 hl103_0
         have HR103_1 := Aside0.mk hi103_1
         have HC103_1 := Aside0.mk hl103_1
         clear hi103_1 hl103_1
         have HR103_2 := Aside0.mk hi103_2
         have HC103_2 := Aside0.mk hl103_2
         clear hi103_2 hl103_2
         replace p103 := eq_true p103
         replace q103 := eq_true q103
         have p104 : 0 ≤ (x5_2 : Int) := of_decide_eq_true (by first | (with_reducible assumption) | assumption)
         have q104 : x5_2 < (l0_5.length : Int) := of_decide_eq_true (by first | (with_reducible assumption) | assumption)
         obtain ⟨ad104, A104_0, c104_0, A104_1, c104_1, A104_2, c104_2, e104, hx104_0, hx104_1, hx104_2, hl104_0, hi104_0, hl104_1, hi104_1, hl104_2, hi104_2⟩ := at_T41 HR0_5.out x5_2 p104 q104
         obtain rfl : ad103 = ad104 := (by injection e104)
         replace hx104_0 := (HB.out.cell (World.block_lt_of_cell? w _ hx104_0)).trans hx104_0
         replace hx104_1 := (HB.out.cell (World.block_lt_of_cell? w _ hx104_1)).trans hx104_1
         replace hx104_2 := (HB.out.cell (World.block_lt_of_cell? w _ hx104_2)).trans hx104_2
         have HR104_0 := Aside0.mk hi104_0
         have HC104_0 := Aside0.mk hl104_0
         clear hi104_0 hl104_0
         have HR104_1 := Aside0.mk hi104_1
         have HC104_1 := Aside0.mk hl104_1
         clear hi104_1 hl104_1
         have HR104_2 := Aside0.mk hi104_2
         have HC104_2 := Aside0.mk hl104_2
         clear hi104_2 hl104_2
         replace p104 := eq_true p104
         replace q104 := eq_true q104
         have ea_ := Option.some.inj (hx103_0.symm.trans hx104_0)
         injection ea_ with ea_ en_ ec_
         subst ea_
         subst ec_
         clear en_
         have ea_ := Option.some.inj (hx103_1.symm.trans hx104_1)
         injection ea_ with ea_ en_ ec_
         subst ea_
         subst ec_
         clear en_
         have ea_ := Option.some.inj (hx103_2.symm.trans hx104_2)
         injection ea_ with ea_ en_ ec_
         subst ea_
         subst ec_
         clear en_
         have p105 : 0 ≤ (x5_2 : Int) := of_decide_eq_true (by first | (with_reducible assumption) | assumption)
         have q105 : x5_2 < (l0_5.length : Int) := of_decide_eq_true (by first | (with_reducible assumption) | assumption)
         obtain ⟨ad105, A105_0, c105_0, A105_1, c105_1, A105_2, c105_2, e105, hx105_0, hx105_1, hx105_2, hl105_0, hi105_0, hl105_1, hi105_1, hl105_2, hi105_2⟩ := at_T41 HR0_5.out x5_2 p105 q105
         obtain rfl : ad103 = ad105 := (by injection e105)
         replace hx105_0 := (HB.out.cell (World.block_lt_of_cell? w _ hx105_0)).trans hx105_0
         replace hx105_1 := (HB.out.cell (World.block_lt_of_cell? w _ hx105_1)).trans hx105_1
         replace hx105_2 := (HB.out.cell (World.block_lt_of_cell? w _ hx105_2)).trans hx105_2
         have HR105_0 := Aside0.mk hi105_0
         have HC105_0 := Aside0.mk hl105_0
         clear hi105_0 hl105_0
         have HR105_1 := Aside0.mk hi105_1
         have HC105_1 := Aside0.mk hl105_1
         clear hi105_1 hl105_1
         have HR105_2 := Aside0.mk hi105_2
         have HC105_2 := Aside0.mk hl105_2
         clear hi105_2 hl105_2
         replace p105 := eq_true p105
         replace q105 := eq_true q105
         have ea_ := Option.some.inj (hx103_0.symm.trans hx105_0)
         injection ea_ with ea_ en_ ec_
         subst ea_
         subst ec_
         clear en_
         have ea_ := Option.some.inj (hx103_1.symm.trans hx105_1)
         injection ea_ with ea_ en_ ec_
         subst ea_
         subst ec_
         clear en_
         have ea_ := Option.some.inj (hx103_2.symm.trans hx105_2)
         injection ea_ with ea_ en_ ec_
         subst ea_
         subst ec_
         clear en_
         go_wp2
         repeat (go_quiet (fail); try go_wp2)
         go_roundg k2
         case measure => have := HJ1.out; have := HK2.out; omega
         case rel => exact ⟨(wrap64 (x3_2 + (wrap64 ((wrap64 ((((rd_T41 l0_5 x5_2).f0).length : Int) + (((rd_T41 l0_5 x5_2).f1).length : Int))) + (((rd_T41 l0_5 x5_2).f2).length : Int))))), (wrap64 (x5_2 + 1)), (by first | rfl | (simp; done) | (simp [*]; done)), (by first | rfl | (simp; done) | (simp [*]; done)), H', ⟨by have := HJ1.out; have := HK2.out; omega⟩, ⟨by (with_reducible repeat (first | refine blk_drewN ?_ _ | refine blk_drew ?_ | refine blk_alloc ?_ _)); exact BK101.out⟩, ⟨by repeat (first | (with_reducible first | exact HB.out | apply below_alloc | apply pw_below_drewN | apply below_drew1 | refine below_set ?_ GE101.out) | exact HB.out)⟩⟩
        ·rw [if_neg c14] at H
         exact absurd H (by simp)
       ·rw [if_neg c13] at H
        have c13b0 : decide (x3_2 < 1000) = false := decide_eq_false c13
        clear c13
        have H' := Aside0.mk H
        clear H
        have hcz16_0 : wr.cell? ⟨gb101, 0, none⟩ = some (.int .i64 a0_0) := (blk_cell BK101.out 0).trans rfl
        have hcz16_1 : wr.cell? ⟨gb101, 1, none⟩ = some (.bool a0_1) := (blk_cell BK101.out 1).trans rfl
        have hcz16_2 : wr.cell? ⟨gb101, 2, none⟩ = some (.slice A0_2 l0_2.length c0_2) := (blk_cell BK101.out 2).trans rfl
        have hcz16_3 : wr.cell? ⟨gb101, 3, none⟩ = some (.slice A0_3 l0_3.length c0_3) := (blk_cell BK101.out 3).trans rfl
        have hcz16_4 : wr.cell? ⟨gb101, 4, none⟩ = some (.slice A0_4 l0_4.length c0_4) := (blk_cell BK101.out 4).trans rfl
        have hcz16_5 : wr.cell? ⟨gb101, 5, none⟩ = some (.slice A0_5 l0_5.length c0_5) := (blk_cell BK101.out 5).trans rfl
        have hcz16_6 : wr.cell? ⟨gb101, 6, none⟩ = some (.slice A0_6 l0_6.length c0_6) := (blk_cell BK101.out 6).trans rfl
        have hfz16_0 := blk_frozen BK101.out 0
        have hfz16_1 := blk_frozen BK101.out 1
        have hfz16_2 := blk_frozen BK101.out 2
        have hfz16_3 := blk_frozen BK101.out 3
        have hfz16_4 := blk_frozen BK101.out 4
        have hfz16_5 := blk_frozen BK101.out 5
        have hfz16_6 := blk_frozen BK101.out 6
        go_wp2
        repeat (go_quiet (fail); try go_wp2)
        go_meet
        case rel => exact ⟨_, (x3_2), (by first | rfl | (simp; done) | (simp [*]; done)), H', ⟨by have := HJ1.out; have := HK2.out; first | omega | exact Nat.le_refl _⟩, ⟨by (with_reducible repeat (first | refine blk_drewN ?_ _ | refine blk_drew ?_ | refine blk_alloc ?_ _)); exact BK101.out⟩, ⟨by repeat (first | (with_reducible first | exact HB.out | apply below_alloc | apply pw_below_drewN | apply below_drew1 | refine below_set ?_ GE101.out) | exact HB.out)⟩⟩
      ·rw [if_neg c12] at H
       have c12b0 : decide (x5_2 < (l0_5.length : Int)) = false := decide_eq_false c12
       clear c12
       (first | rw [c12b0] | (simp only [i64_w, i32_w]; rw [c12b0]) | skip)
       have H' := Aside0.mk H
       clear H
       have hcz17_0 : wr.cell? ⟨gb101, 0, none⟩ = some (.int .i64 a0_0) := (blk_cell BK101.out 0).trans rfl
       have hcz17_1 : wr.cell? ⟨gb101, 1, none⟩ = some (.bool a0_1) := (blk_cell BK101.out 1).trans rfl
       have hcz17_2 : wr.cell? ⟨gb101, 2, none⟩ = some (.slice A0_2 l0_2.length c0_2) := (blk_cell BK101.out 2).trans rfl
       have hcz17_3 : wr.cell? ⟨gb101, 3, none⟩ = some (.slice A0_3 l0_3.length c0_3) := (blk_cell BK101.out 3).trans rfl
       have hcz17_4 : wr.cell? ⟨gb101, 4, none⟩ = some (.slice A0_4 l0_4.length c0_4) := (blk_cell BK101.out 4).trans rfl
       have hcz17_5 : wr.cell? ⟨gb101, 5, none⟩ = some (.slice A0_5 l0_5.length c0_5) := (blk_cell BK101.out 5).trans rfl
       have hcz17_6 : wr.cell? ⟨gb101, 6, none⟩ = some (.slice A0_6 l0_6.length c0_6) := (blk_cell BK101.out 6).trans rfl
       have hfz17_0 := blk_frozen BK101.out 0
       have hfz17_1 := blk_frozen BK101.out 1
       have hfz17_2 := blk_frozen BK101.out 2
       have hfz17_3 := blk_frozen BK101.out 3
       have hfz17_4 := blk_frozen BK101.out 4
       have hfz17_5 := blk_frozen BK101.out 5
       have hfz17_6 := blk_frozen BK101.out 6
       go_wp2
       repeat (go_quiet (fail); try go_wp2)
       go_meet
       case rel => exact ⟨_, (x3_2), (by first | rfl | (simp; done) | (simp [*]; done)), H', ⟨by have := HJ1.out; have := HK2.out; first | omega | exact Nat.le_refl _⟩, ⟨by (with_reducible repeat (first | refine blk_drewN ?_ _ | refine blk_drew ?_ | refine blk_alloc ?_ _)); exact BK101.out⟩, ⟨by repeat (first | (with_reducible first | exact HB.out | apply below_alloc | apply pw_below_drewN | apply below_drew1 | refine below_set ?_ GE101.out) | exact HB.out)⟩⟩
   case rest =>
    clear HC11
    try clear c1
    try clear p1
    try clear q1
    try clear hx1
    try clear p2
    try clear c5
    try clear c5b0
    try clear c6
    try clear c6b0
    try clear p6
    try clear c7
    try clear c7b0
    try clear c10
    try clear p10
    try clear q10
    try clear hx10
    try clear c12
    try clear c12b0
    try clear c13
    try clear c13b0
    try clear c14
    try clear c14b0
    try clear hcz10_0
    try clear hcz10_1
    try clear hcz10_2
    try clear hcz10_3
    try clear hcz10_4
    try clear hcz10_5
    try clear hcz10_6
    try clear hcz15_0
    try clear hcz15_1
    try clear hcz15_2
    try clear hcz15_3
    try clear hcz15_4
    try clear hcz15_5
    try clear hcz15_6
    try clear hcz16_0
    try clear hcz16_1
    try clear hcz16_2
    try clear hcz16_3
    try clear hcz16_4
    try clear hcz16_5
    try clear hcz16_6
    try clear hcz17_0
    try clear hcz17_1
    try clear hcz17_2
    try clear hcz17_3
    try clear hcz17_4
    try clear hcz17_5
    try clear hcz17_6
    try clear hcz4_0
    try clear hcz4_1
    try clear hcz4_2
    try clear hcz4_3
    try clear hcz4_4
    try clear hcz4_5
    try clear hcz4_6
    try clear hcz8_0
    try clear hcz8_1
    try clear hcz8_2
    try clear hcz8_3
    try clear hcz8_4
    try clear hcz8_5
    try clear hcz8_6
    try clear hcz9_0
    try clear hcz9_1
    try clear hcz9_2
    try clear hcz9_3
    try clear hcz9_4
    try clear hcz9_5
    try clear hcz9_6
    try clear hfz10_0
    try clear hfz10_1
    try clear hfz10_2
    try clear hfz10_3
    try clear hfz10_4
    try clear hfz10_5
    try clear hfz10_6
    try clear hfz15_0
    try clear hfz15_1
    try clear hfz15_2
    try clear hfz15_3
    try clear hfz15_4
    try clear hfz15_5
    try clear hfz15_6
    try clear hfz16_0
    try clear hfz16_1
    try clear hfz16_2
    try clear hfz16_3
    try clear hfz16_4
    try clear hfz16_5
    try clear hfz16_6
    try clear hfz17_0
    try clear hfz17_1
    try clear hfz17_2
    try clear hfz17_3
    try clear hfz17_4
    try clear hfz17_5
    try clear hfz17_6
    try clear hfz4_0
    try clear hfz4_1
    try clear hfz4_2
    try clear hfz4_3
    try clear hfz4_4
    try clear hfz4_5
    try clear hfz4_6
    try clear hfz8_0
    try clear hfz8_1
    try clear hfz8_2
    try clear hfz8_3
    try clear hfz8_4
    try clear hfz8_5
    try clear hfz8_6
    try clear hfz9_0
    try clear hfz9_1
    try clear hfz9_2
    try clear hfz9_3
    try clear hfz9_4
    try clear hfz9_5
    try clear hfz9_6
    try clear hx102_0
    try clear hx103_0
    try clear hx103_1
    try clear hx103_2
    try clear hx104_0
    try clear hx104_1
    try clear hx104_2
    try clear hx105_0
    try clear hx105_1
    try clear hx105_2
    try clear p1
    try clear p10
    try clear p102
    try clear p103
    try clear p104
    try clear p105
    try clear p2
    try clear p6
    try clear q1
    try clear q10
    try clear q102
    try clear q103
    try clear q104
    try clear q105
    obtain ⟨kq, x3_10, rfl, HA, HJ10, BK101, HB⟩ := hcut
    cases kq with
    | zero => exact absurd HA.out (by simp [greenwoodref23_Small.j3])
    | succ kj10 =>
     have H := HA.out
     clear HA
     simp only [greenwoodref23_Small.j3] at H
     have H' := Aside0.mk H
     clear H
     go_wp2
     repeat (go_quiet (fail); try go_wp2)
     go_loopg [3, 6] kj10 (fun kq v3 v6 w' => ∃ (x3_3 : Int) (x6_3 : Int), v3 = .int .i64 x3_3 ∧ v6 = .int .i64 x6_3 ∧ Aside0 (greenwoodref23_Small.l2 kq x3_3 x6_3 a0_0 a0_1 l0_2 l0_3 l0_4 l0_5 l0_6 = some r) ∧ Aside0 (kq ≤ kj10) ∧ Aside0 (w'.heap[gb101]? = some (.cells #[.int .i64 a0_0, .bool a0_1, (.slice A0_2 l0_2.length c0_2), (.slice A0_3 l0_3.length c0_3), (.slice A0_4 l0_4.length c0_4), (.slice A0_5 l0_5.length c0_5), (.slice A0_6 l0_6.length c0_6)] 27 (0, 0))) ∧ Aside0 (Below w.heap.size w w'))
     case atStart => exact ⟨(x3_10), (0), (by first | rfl | (simp; done) | (simp [*]; done)), (by first | rfl | (simp; done) | (simp [*]; done)), H', ⟨Nat.le_refl _⟩, ⟨by (with_reducible repeat (first | refine blk_drewN ?_ _ | refine blk_drew ?_ | refine blk_alloc ?_ _)); exact BK101.out⟩, ⟨by repeat (first | (with_reducible first | exact HB.out | apply below_alloc | apply pw_below_drewN | apply below_drew1 | refine below_set ?_ GE101.out) | exact HB.out)⟩⟩
     case round =>
      clear H'
      try clear c1
      try clear p1
      try clear q1
      try clear hx1
      try clear p2
      try clear c5
      try clear c5b0
      try clear c6
      try clear c6b0
      try clear p6
      try clear c7
      try clear c7b0
      try clear c10
      try clear p10
      try clear q10
      try clear hx10
      try clear c12
      try clear c12b0
      try clear c13
      try clear c13b0
      try clear c14
      try clear c14b0
      try clear hcz10_0
      try clear hcz10_1
      try clear hcz10_2
      try clear hcz10_3
      try clear hcz10_4
      try clear hcz10_5
      try clear hcz10_6
      try clear hcz15_0
      try clear hcz15_1
      try clear hcz15_2
      try clear hcz15_3
      try clear hcz15_4
      try clear hcz15_5
      try clear hcz15_6
      try clear hcz16_0
      try clear hcz16_1
      try clear hcz16_2
      try clear hcz16_3
      try clear hcz16_4
      try clear hcz16_5
      try clear hcz16_6
      try clear hcz17_0
      try clear hcz17_1
      try clear hcz17_2
      try clear hcz17_3
      try clear hcz17_4
      try clear hcz17_5
      try clear hcz17_6
      try clear hcz4_0
      try clear hcz4_1
      try clear hcz4_2
      try clear hcz4_3
      try clear hcz4_4
      try clear hcz4_5
      try clear hcz4_6
      try clear hcz8_0
      try clear hcz8_1
      try clear hcz8_2
      try clear hcz8_3
      try clear hcz8_4
      try clear hcz8_5
      try clear hcz8_6
      try clear hcz9_0
      try clear hcz9_1
      try clear hcz9_2
      try clear hcz9_3
      try clear hcz9_4
      try clear hcz9_5
      try clear hcz9_6
      try clear hfz10_0
      try clear hfz10_1
      try clear hfz10_2
      try clear hfz10_3
      try clear hfz10_4
      try clear hfz10_5
      try clear hfz10_6
      try clear hfz15_0
      try clear hfz15_1
      try clear hfz15_2
      try clear hfz15_3
      try clear hfz15_4
      try clear hfz15_5
      try clear hfz15_6
      try clear hfz16_0
      try clear hfz16_1
      try clear hfz16_2
      try clear hfz16_3
      try clear hfz16_4
      try clear hfz16_5
      try clear hfz16_6
      try clear hfz17_0
      try clear hfz17_1
      try clear hfz17_2
      try clear hfz17_3
      try clear hfz17_4
      try clear hfz17_5
      try clear hfz17_6
      try clear hfz4_0
      try clear hfz4_1
      try clear hfz4_2
      try clear hfz4_3
      try clear hfz4_4
      try clear hfz4_5
      try clear hfz4_6
      try clear hfz8_0
      try clear hfz8_1
      try clear hfz8_2
      try clear hfz8_3
      try clear hfz8_4
      try clear hfz8_5
      try clear hfz8_6
      try clear hfz9_0
      try clear hfz9_1
      try clear hfz9_2
      try clear hfz9_3
      try clear hfz9_4
      try clear hfz9_5
      try clear hfz9_6
      try clear hx102_0
      try clear hx103_0
      try clear hx103_1
      try clear hx103_2
      try clear hx104_0
      try clear hx104_1
      try clear hx104_2
      try clear hx105_0
      try clear hx105_1
      try clear hx105_2
      try clear p1
      try clear p10
      try clear p102
      try clear p103
      try clear p104
      try clear p105
      try clear p2
      try clear p6
      try clear q1
      try clear q10
      try clear q102
      try clear q103
      try clear q104
      try clear q105
      obtain ⟨x3_3, x6_3, rfl, rfl, HA, HK3, BK101, HB⟩ := hrel
      cases gk with
      | zero => exact absurd HA.out (by simp [greenwoodref23_Small.l2])
      | succ k3 =>
       have H := HA.out
       clear HA
       simp only [greenwoodref23_Small.l2] at H
       by_cases c18 : x6_3 < (l0_6.length : Int)
       ·rw [if_pos c18] at H
        have c18b0 : decide (x6_3 < (l0_6.length : Int)) = true := decide_eq_true c18
        clear c18
        by_cases c19 : x3_3 < 1000
        ·rw [if_pos c19] at H
         have c19b0 : decide (x3_3 < 1000) = true := decide_eq_true c19
         clear c19
         by_cases c20 : 0 ≤ x6_3
         ·rw [if_pos c20] at H
          have c20b0 : decide (0 ≤ x6_3) = true := decide_eq_true c20
          clear c20
          have H' := Aside0.mk H
          clear H
          have hcz21_0 : wr.cell? ⟨gb101, 0, none⟩ = some (.int .i64 a0_0) := (blk_cell BK101.out 0).trans rfl
          have hcz21_1 : wr.cell? ⟨gb101, 1, none⟩ = some (.bool a0_1) := (blk_cell BK101.out 1).trans rfl
          have hcz21_2 : wr.cell? ⟨gb101, 2, none⟩ = some (.slice A0_2 l0_2.length c0_2) := (blk_cell BK101.out 2).trans rfl
          have hcz21_3 : wr.cell? ⟨gb101, 3, none⟩ = some (.slice A0_3 l0_3.length c0_3) := (blk_cell BK101.out 3).trans rfl
          have hcz21_4 : wr.cell? ⟨gb101, 4, none⟩ = some (.slice A0_4 l0_4.length c0_4) := (blk_cell BK101.out 4).trans rfl
          have hcz21_5 : wr.cell? ⟨gb101, 5, none⟩ = some (.slice A0_5 l0_5.length c0_5) := (blk_cell BK101.out 5).trans rfl
          have hcz21_6 : wr.cell? ⟨gb101, 6, none⟩ = some (.slice A0_6 l0_6.length c0_6) := (blk_cell BK101.out 6).trans rfl
          have hfz21_0 := blk_frozen BK101.out 0
          have hfz21_1 := blk_frozen BK101.out 1
          have hfz21_2 := blk_frozen BK101.out 2
          have hfz21_3 := blk_frozen BK101.out 3
          have hfz21_4 := blk_frozen BK101.out 4
          have hfz21_5 := blk_frozen BK101.out 5
          have hfz21_6 := blk_frozen BK101.out 6
          have p106 : 0 ≤ (x6_3 : Int) := of_decide_eq_true (by first | (with_reducible assumption) | assumption)
          have q106 : x6_3 < (l0_6.length : Int) := of_decide_eq_true (by first | (with_reducible assumption) | assumption)
          obtain ⟨ad106, A106_0, c106_0, e106, hx106_0, hx106_1, hl106_0, hi106_0⟩ := at_T43 HR0_6.out x6_3 p106 q106
          cases e106
          replace hx106_0 := (HB.out.cell (World.block_lt_of_cell? w _ hx106_0)).trans hx106_0
          replace hx106_1 := (HB.out.cell (World.block_lt_of_cell? w _ hx106_1)).trans hx106_1
          have HR106_0 := Aside0.mk hi106_0
          have HC106_0 := Aside0.mk hl106_0
          clear hi106_0 hl106_0
          replace p106 := eq_true p106
          replace q106 := eq_true q106
          go_wp2
          repeat (go_quiet (fail); try go_wp2)
          go_roundg k3
          case measure => have := HJ1.out; have := HJ10.out; have := HK3.out; omega
          case rel => exact ⟨(wrap64 (x3_3 + (((rd_T43 l0_6 x6_3).f0).length : Int))), (wrap64 (x6_3 + 1)), (by first | rfl | (simp; done) | (simp [*]; done)), (by first | rfl | (simp; done) | (simp [*]; done)), H', ⟨by have := HJ1.out; have := HJ10.out; have := HK3.out; omega⟩, ⟨by (with_reducible repeat (first | refine blk_drewN ?_ _ | refine blk_drew ?_ | refine blk_alloc ?_ _)); exact BK101.out⟩, ⟨by repeat (first | (with_reducible first | exact HB.out | apply below_alloc | apply pw_below_drewN | apply below_drew1 | refine below_set ?_ GE101.out) | exact HB.out)⟩⟩
         ·rw [if_neg c20] at H
          exact absurd H (by simp)
        ·rw [if_neg c19] at H
         have c19b0 : decide (x3_3 < 1000) = false := decide_eq_false c19
         clear c19
         obtain rfl := Option.some.inj H
         have hcz22_0 : wr.cell? ⟨gb101, 0, none⟩ = some (.int .i64 a0_0) := (blk_cell BK101.out 0).trans rfl
         have hcz22_1 : wr.cell? ⟨gb101, 1, none⟩ = some (.bool a0_1) := (blk_cell BK101.out 1).trans rfl
         have hcz22_2 : wr.cell? ⟨gb101, 2, none⟩ = some (.slice A0_2 l0_2.length c0_2) := (blk_cell BK101.out 2).trans rfl
         have hcz22_3 : wr.cell? ⟨gb101, 3, none⟩ = some (.slice A0_3 l0_3.length c0_3) := (blk_cell BK101.out 3).trans rfl
         have hcz22_4 : wr.cell? ⟨gb101, 4, none⟩ = some (.slice A0_4 l0_4.length c0_4) := (blk_cell BK101.out 4).trans rfl
         have hcz22_5 : wr.cell? ⟨gb101, 5, none⟩ = some (.slice A0_5 l0_5.length c0_5) := (blk_cell BK101.out 5).trans rfl
         have hcz22_6 : wr.cell? ⟨gb101, 6, none⟩ = some (.slice A0_6 l0_6.length c0_6) := (blk_cell BK101.out 6).trans rfl
         have hfz22_0 := blk_frozen BK101.out 0
         have hfz22_1 := blk_frozen BK101.out 1
         have hfz22_2 := blk_frozen BK101.out 2
         have hfz22_3 := blk_frozen BK101.out 3
         have hfz22_4 := blk_frozen BK101.out 4
         have hfz22_5 := blk_frozen BK101.out 5
         have hfz22_6 := blk_frozen BK101.out 6
         go_wp2
         repeat (go_quiet (fail); try go_wp2)
         go_ret
         exact ⟨by first | rfl | (simp [errW_none, errW_some] <;> rfl) | (simp [*, errW_none, errW_some] <;> rfl), by repeat (first | (with_reducible first | exact HB.out | apply below_alloc | apply pw_below_drewN | apply below_drew1 | refine below_set ?_ GE101.out) | exact HB.out)⟩
       ·rw [if_neg c18] at H
        have c18b0 : decide (x6_3 < (l0_6.length : Int)) = false := decide_eq_false c18
        clear c18
        obtain rfl := Option.some.inj H
        have hcz23_0 : wr.cell? ⟨gb101, 0, none⟩ = some (.int .i64 a0_0) := (blk_cell BK101.out 0).trans rfl
        have hcz23_1 : wr.cell? ⟨gb101, 1, none⟩ = some (.bool a0_1) := (blk_cell BK101.out 1).trans rfl
        have hcz23_2 : wr.cell? ⟨gb101, 2, none⟩ = some (.slice A0_2 l0_2.length c0_2) := (blk_cell BK101.out 2).trans rfl
        have hcz23_3 : wr.cell? ⟨gb101, 3, none⟩ = some (.slice A0_3 l0_3.length c0_3) := (blk_cell BK101.out 3).trans rfl
        have hcz23_4 : wr.cell? ⟨gb101, 4, none⟩ = some (.slice A0_4 l0_4.length c0_4) := (blk_cell BK101.out 4).trans rfl
        have hcz23_5 : wr.cell? ⟨gb101, 5, none⟩ = some (.slice A0_5 l0_5.length c0_5) := (blk_cell BK101.out 5).trans rfl
        have hcz23_6 : wr.cell? ⟨gb101, 6, none⟩ = some (.slice A0_6 l0_6.length c0_6) := (blk_cell BK101.out 6).trans rfl
        have hfz23_0 := blk_frozen BK101.out 0
        have hfz23_1 := blk_frozen BK101.out 1
        have hfz23_2 := blk_frozen BK101.out 2
        have hfz23_3 := blk_frozen BK101.out 3
        have hfz23_4 := blk_frozen BK101.out 4
        have hfz23_5 := blk_frozen BK101.out 5
        have hfz23_6 := blk_frozen BK101.out 6
        go_wp2
        repeat (go_quiet (fail); try go_wp2)
        go_ret
        exact ⟨by first | rfl | (simp [errW_none, errW_some] <;> rfl) | (simp [*, errW_none, errW_some] <;> rfl), by repeat (first | (with_reducible first | exact HB.out | apply below_alloc | apply pw_below_drewN | apply below_drew1 | refine below_set ?_ GE101.out) | exact HB.out)⟩

end Go.Proofs.YtlekdhejgdfnpaaDoor.P
/- Layer 23: values of the document's Same and Small. -/
namespace Go.Proofs.YtlekdhejgdfnpaaDoor.P
open Go.RowKit Go.Proofs.YtlekdhejgdfnpaaDoorW.PrintWords Go.Proofs.YtlekdhejgdfnpaaDoorW.PrintLast Go.Proofs.YtlekdhejgdfnpaaDoorW.PrintMore
set_option linter.unusedVariables false
set_option linter.unusedSimpArgs false

theorem wr1 {i n : Nat} (h : i < n) (hn : n ≤ 1000000) : wrap64 ((i : Int) + 1) = ((i + 1 : Nat) : Int) := by unfold wrap64; omega
theorem rdL {l : List (List Int)} {i : Nat} (h : i < l.length) : rd_L1 l (i : Int) = l[i] := by simp [rd_L1, List.getD_eq_getElem?_getD, List.getElem?_eq_getElem h]
theorem drop_iff {α : Type} {a b : List α} {i : Nat} (h : i < a.length) (h' : i < b.length) : a.drop i = b.drop i ↔ a[i] = b[i] ∧ a.drop (i + 1) = b.drop (i + 1) := by
 rw [List.drop_eq_getElem_cons h, List.drop_eq_getElem_cons h', List.cons.injEq]
/-! ### Lists -/
theorem lists_l1 (a b : List (List Int)) (i : Nat) (hi : i < a.length) (hj : i < b.length) (hl : a[i].length = b[i].length) (hn : a[i].length ≤ 1000000) (ha : a.length ≤ 1000000) (b0 : Bool) (H : Ev (fun k => greenwoodref13_Lists.l0 k a b ((i + 1 : Nat) : Int)) b0) :
 ∀ (d j : Nat), a[i].length - j = d → j ≤ a[i].length → ∃ r, Ev (fun k => greenwoodref13_Lists.l1 k a b (i : Int) (j : Int)) r ∧ (r = true ↔ a[i].drop j = b[i].drop j ∧ b0 = true) := by
 intro d
 induction d with
 | zero =>
  intro j h1 h2
  refine ⟨b0, Ev.step (fun k => by rw [greenwoodref13_Lists.l1]) ?_, ?_⟩
  ·refine Ev.ifp (by omega) (Ev.ifp (by omega) ?_)
   rw [rdL hi]
   refine Ev.ifn (by omega) ?_
   rw [wr1 hi ha]; exact H
  ·rw [List.drop_of_length_le (by omega), List.drop_of_length_le (by omega)]
   simp
 | succ d ih =>
  intro j h1 h2
  have hja : j < a[i].length := by omega
  have hjb : j < b[i].length := by omega
  by_cases he : a[i][j] = b[i][j]
  ·obtain ⟨r, hr, hiff⟩ := ih (j + 1) (by omega) (by omega)
   refine ⟨r, Ev.step (fun k => by rw [greenwoodref13_Lists.l1]) ?_, ?_⟩
   ·refine Ev.ifp (by omega) (Ev.ifp (by omega) ?_)
    rw [rdL hi, rdL hj]
    refine Ev.ifp (by omega) (Ev.ifp (by omega) (Ev.ifp (by omega) (Ev.ifp (by omega) ?_)))
    rw [rd_at hja, rd_at hjb, wr1 hja hn]
    exact Ev.ifp he hr
   ·rw [drop_iff hja hjb, hiff]
    exact ⟨fun h => ⟨⟨he, h.1⟩, h.2⟩, fun h => ⟨h.1.2, h.2⟩⟩
  ·refine ⟨false, Ev.step (fun k => by rw [greenwoodref13_Lists.l1]) ?_, ?_⟩
   ·refine Ev.ifp (by omega) (Ev.ifp (by omega) ?_)
    rw [rdL hi, rdL hj]
    refine Ev.ifp (by omega) (Ev.ifp (by omega) (Ev.ifp (by omega) (Ev.ifp (by omega) ?_)))
    rw [rd_at hja, rd_at hjb]
    exact Ev.ifn he (Ev.val rfl)
   ·rw [drop_iff hja hjb]
    exact ⟨fun h => absurd h (by decide), fun h => absurd h.1.1 he⟩
theorem lists_l0 (a b : List (List Int)) (hl : a.length = b.length) (ha : a.length ≤ 1000000) (hin : ∀ l ∈ a, l.length ≤ 1000000) : ∀ (d i : Nat), a.length - i = d → i ≤ a.length → ∃ r, Ev (fun k => greenwoodref13_Lists.l0 k a b (i : Int)) r ∧ (r = true ↔ a.drop i = b.drop i) := by
 intro d
 induction d with
 | zero =>
  intro i h1 h2
  refine ⟨true, Ev.step (fun k => by rw [greenwoodref13_Lists.l0]) (Ev.ifn (by omega) (Ev.val rfl)), ?_⟩
  rw [List.drop_of_length_le (by omega), List.drop_of_length_le (by omega)]; simp
 | succ d ih =>
  intro i h1 h2
  have hi : i < a.length := by omega
  have hj : i < b.length := by omega
  obtain ⟨b0, h0, hb0⟩ := ih (i + 1) (by omega) (by omega)
  by_cases hlen : a[i].length = b[i].length
  ·obtain ⟨r, hr, hiff⟩ := lists_l1 a b i hi hj hlen (hin _ (List.getElem_mem hi)) ha b0 h0 a[i].length 0 (by omega) (by omega)
   refine ⟨r, Ev.step (fun k => by rw [greenwoodref13_Lists.l0]) ?_, ?_⟩
   ·refine Ev.ifp (by omega) (Ev.ifp (by omega) (Ev.ifp (by omega) ?_))
    rw [rdL hi, rdL hj]
    exact Ev.ifp (by omega) hr
   ·rw [drop_iff hi hj, hiff, hb0]; simp
  ·refine ⟨false, Ev.step (fun k => by rw [greenwoodref13_Lists.l0]) ?_, ?_⟩
   ·refine Ev.ifp (by omega) (Ev.ifp (by omega) (Ev.ifp (by omega) ?_))
    rw [rdL hi, rdL hj]
    exact Ev.ifn (by omega) (Ev.val rfl)
   ·rw [drop_iff hi hj]
    exact ⟨fun h => absurd h (by decide), fun h => absurd (congrArg List.length h.1) hlen⟩
theorem lists_ev (a b : List (List Int)) (ha : a.length ≤ 1000000) (hin : ∀ l ∈ a, l.length ≤ 1000000) : ∃ r, Ev (fun k => greenwoodref13_Lists.f k a b) r ∧ (r = true ↔ a = b) := by
 unfold greenwoodref13_Lists.f
 by_cases hl : a.length = b.length
 ·obtain ⟨r, hr, hiff⟩ := lists_l0 a b hl ha hin a.length 0 (by omega) (by omega)
  exact ⟨r, Ev.ifp (by omega) hr, by simpa using hiff⟩
 ·exact ⟨false, Ev.ifn (by omega) (Ev.val rfl), fun h => absurd h (by decide), fun h => absurd (congrArg List.length h) hl⟩
/-! ### splits -/
theorem same15_l0 (a b : List Int) (hl : a.length = b.length) (hn : a.length ≤ 1000000) : ∀ (d i : Nat), a.length - i = d → i ≤ a.length → ∃ r, Ev (fun k => greenwoodref15_same.l0 k a b (i : Int)) r ∧ (r = true ↔ a.drop i = b.drop i) := by
 intro d
 induction d with
 | zero =>
  intro i h1 h2
  refine ⟨true, Ev.step (fun k => by rw [greenwoodref15_same.l0]) (Ev.ifn (by omega) (Ev.val rfl)), ?_⟩
  rw [List.drop_of_length_le (by omega), List.drop_of_length_le (by omega)]; simp
 | succ d ih =>
  intro i h1 h2
  have hi : i < a.length := by omega
  have hj : i < b.length := by omega
  obtain ⟨r, hr, hiff⟩ := ih (i + 1) (by omega) (by omega)
  by_cases he : a[i] = b[i]
  ·refine ⟨r, Ev.step (fun k => by rw [greenwoodref15_same.l0]) ?_, by rw [drop_iff hi hj, hiff]; exact ⟨fun h => ⟨he, h⟩, fun h => h.2⟩⟩
   refine Ev.ifp (by omega) (Ev.ifp (by omega) (Ev.ifp (by omega) ?_))
   rw [rd_at hi, rd_at hj, wr1 hi hn]
   exact Ev.ifp he hr
  ·refine ⟨false, Ev.step (fun k => by rw [greenwoodref15_same.l0]) ?_, by rw [drop_iff hi hj]; exact ⟨fun h => absurd h (by decide), fun h => absurd h.1 he⟩⟩
   refine Ev.ifp (by omega) (Ev.ifp (by omega) (Ev.ifp (by omega) ?_))
   rw [rd_at hi, rd_at hj]
   exact Ev.ifn he (Ev.val rfl)
theorem same15_ev (a b : List Int) (hn : a.length ≤ 1000000) : ∃ r, Ev (fun k => greenwoodref15_same.f k a b) r ∧ (r = true ↔ a = b) := by
 unfold greenwoodref15_same.f
 by_cases hl : a.length = b.length
 ·obtain ⟨r, hr, hiff⟩ := same15_l0 a b hl hn a.length 0 (by omega) (by omega)
  exact ⟨r, Ev.ifp (by omega) hr, by simpa using hiff⟩
 ·exact ⟨false, Ev.ifn (by omega) (Ev.val rfl), fun h => absurd h (by decide), fun h => absurd (congrArg List.length h) hl⟩
theorem spl_ext {a b : Spl} : a = b ↔ a.f0 = b.f0 ∧ a.f1 = b.f1 ∧ a.f2 = b.f2 := by
 obtain ⟨a0, a1, a2⟩ := a
 obtain ⟨b0, b1, b2⟩ := b
 simp
theorem cut_ext {a b : Cut} : a = b ↔ a.f1 = b.f1 ∧ a.f0 = b.f0 := by
 obtain ⟨a0, a1⟩ := a
 obtain ⟨b0, b1⟩ := b
 simp [And.comm]
def SplN (y : Spl) : Prop := y.f0.length ≤ 1000000 ∧ y.f1.length ≤ 1000000 ∧ y.f2.length ≤ 1000000
theorem spls_l0 (a b : List Spl) (hl : a.length = b.length) (ha : a.length ≤ 1000000) (hin : ∀ y ∈ a, SplN y) : ∀ (d i : Nat), a.length - i = d → i ≤ a.length → ∃ r, Ev (fun k => greenwoodref15_Same.l0 k a b (i : Int)) r ∧ (r = true ↔ a.drop i = b.drop i) := by
 intro d
 induction d with
 | zero =>
  intro i h1 h2
  refine ⟨true, Ev.step (fun k => by rw [greenwoodref15_Same.l0]) (Ev.ifn (by omega) (Ev.val rfl)), ?_⟩
  rw [List.drop_of_length_le (by omega), List.drop_of_length_le (by omega)]; simp
 | succ d ih =>
  intro i h1 h2
  have hi : i < a.length := by omega
  have hj : i < b.length := by omega
  obtain ⟨r, hr, hiff⟩ := ih (i + 1) (by omega) (by omega)
  obtain ⟨q0, q1, q2⟩ := hin _ (List.getElem_mem hi)
  obtain ⟨r0, e0, f0⟩ := same15_ev a[i].f0 b[i].f0 q0
  obtain ⟨r1, e1, f1⟩ := same15_ev a[i].f1 b[i].f1 q1
  obtain ⟨r2, e2, f2⟩ := same15_ev a[i].f2 b[i].f2 q2
  rw [drop_iff hi hj, spl_ext, ← f0, ← f1, ← f2, ← hiff]
  have go : ∀ r', Ev (fun k => if r0 = true then ((greenwoodref15_same.f k a[i].f1 b[i].f1).bind fun t210 => (if t210 = true then ((greenwoodref15_same.f k a[i].f2 b[i].f2).bind fun t213 => (if t213 = true then (greenwoodref15_Same.l0 k a b (wrap64 ((i : Int) + 1))) else (some false))) else (some false))) else (some false)) r' → Ev (fun k => greenwoodref15_Same.l0 k a b (i : Int)) r' := fun r' h => by
   refine Ev.step (fun k => by rw [greenwoodref15_Same.l0]) ?_
   refine Ev.ifp (by omega) (Ev.ifp (by omega) (Ev.ifp (by omega) ?_))
   rw [rd_41 hi, rd_41 hj]
   exact Ev.bind e0 h
  cases r0 with
  | false => exact ⟨false, go _ (Ev.ifn (by decide) (Ev.val rfl)), by simp⟩
  | true =>
   cases r1 with
   | false => exact ⟨false, go _ (Ev.ifp rfl (Ev.bind e1 (Ev.ifn (by decide) (Ev.val rfl)))), by simp⟩
   | true =>
    cases r2 with
    | false => exact ⟨false, go _ (Ev.ifp rfl (Ev.bind e1 (Ev.ifp rfl (Ev.bind e2 (Ev.ifn (by decide) (Ev.val rfl)))))), by simp⟩
    | true => exact ⟨r, go _ (Ev.ifp rfl (Ev.bind e1 (Ev.ifp rfl (Ev.bind e2 (Ev.ifp rfl (by rw [wr1 hi ha]; exact hr)))))), by simp⟩
theorem spls_ev (a b : List Spl) (ha : a.length ≤ 1000000) (hin : ∀ y ∈ a, SplN y) : ∃ r, Ev (fun k => greenwoodref15_Same.f k a b) r ∧ (r = true ↔ a = b) := by
 unfold greenwoodref15_Same.f
 by_cases hl : a.length = b.length
 ·obtain ⟨r, hr, hiff⟩ := spls_l0 a b hl ha hin a.length 0 (by omega) (by omega)
  exact ⟨r, Ev.ifp (by omega) hr, by simpa using hiff⟩
 ·exact ⟨false, Ev.ifn (by omega) (Ev.val rfl), fun h => absurd h (by decide), fun h => absurd (congrArg List.length h) hl⟩
/-! ### cuts -/
theorem cuts_l0 (a b : List Cut) (hl : a.length = b.length) (ha : a.length ≤ 1000000) (hin : ∀ y ∈ a, y.f0.length ≤ 1000000) : ∀ (d i : Nat), a.length - i = d → i ≤ a.length → ∃ r, Ev (fun k => greenwoodref23_Cuts.l0 k a b (i : Int)) r ∧ (r = true ↔ a.drop i = b.drop i) := by
 intro d
 induction d with
 | zero =>
  intro i h1 h2
  refine ⟨true, Ev.step (fun k => by rw [greenwoodref23_Cuts.l0]) (Ev.ifn (by omega) (Ev.val rfl)), ?_⟩
  rw [List.drop_of_length_le (by omega), List.drop_of_length_le (by omega)]; simp
 | succ d ih =>
  intro i h1 h2
  have hi : i < a.length := by omega
  have hj : i < b.length := by omega
  obtain ⟨r, hr, hiff⟩ := ih (i + 1) (by omega) (by omega)
  have e0 := same_ev a[i].f0 b[i].f0 (hin _ (List.getElem_mem hi))
  rw [drop_iff hi hj, cut_ext, ← hiff]
  by_cases hy : a[i].f1 = b[i].f1
  ·by_cases hs : a[i].f0 = b[i].f0
   ·rw [decide_eq_true hs] at e0
    refine ⟨r, Ev.step (fun k => by rw [greenwoodref23_Cuts.l0]) ?_, by simp [hy, hs]⟩
    refine Ev.ifp (by omega) (Ev.ifp (by omega) (Ev.ifp (by omega) ?_))
    rw [rd_43 hi, rd_43 hj]
    exact Ev.ifp hy (Ev.bind e0 (Ev.ifp rfl (by rw [wr1 hi ha]; exact hr)))
   ·rw [decide_eq_false hs] at e0
    refine ⟨false, Ev.step (fun k => by rw [greenwoodref23_Cuts.l0]) ?_, by simp [hs]⟩
    refine Ev.ifp (by omega) (Ev.ifp (by omega) (Ev.ifp (by omega) ?_))
    rw [rd_43 hi, rd_43 hj]
    exact Ev.ifp hy (Ev.bind e0 (Ev.ifn (by decide) (Ev.val rfl)))
  ·refine ⟨false, Ev.step (fun k => by rw [greenwoodref23_Cuts.l0]) ?_, by simp [hy]⟩
   refine Ev.ifp (by omega) (Ev.ifp (by omega) (Ev.ifp (by omega) ?_))
   rw [rd_43 hi, rd_43 hj]
   exact Ev.ifn hy (Ev.val rfl)
theorem cuts_ev (a b : List Cut) (ha : a.length ≤ 1000000) (hin : ∀ y ∈ a, y.f0.length ≤ 1000000) : ∃ r, Ev (fun k => greenwoodref23_Cuts.f k a b) r ∧ (r = true ↔ a = b) := by
 unfold greenwoodref23_Cuts.f
 by_cases hl : a.length = b.length
 ·obtain ⟨r, hr, hiff⟩ := cuts_l0 a b hl ha hin a.length 0 (by omega) (by omega)
  exact ⟨r, Ev.ifp (by omega) hr, by simpa using hiff⟩
 ·exact ⟨false, Ev.ifn (by omega) (Ev.val rfl), fun h => absurd h (by decide), fun h => absurd (congrArg List.length h) hl⟩
/-! ### Same -/
def LenN (S U : List Int) (Se : List (List Int)) (Sp : List Spl) (Cu : List Cut) : Prop :=
 S.length ≤ 1000000 ∧ U.length ≤ 1000000 ∧ Se.length ≤ 1000000 ∧ (∀ l ∈ Se, l.length ≤ 1000000) ∧ Sp.length ≤ 1000000 ∧ (∀ y ∈ Sp, SplN y) ∧ Cu.length ≤ 1000000 ∧ ∀ y ∈ Cu, y.f0.length ≤ 1000000
theorem sameA_ev (kd : Int) (no : Bool) (S U : List Int) (Se : List (List Int)) (Sp : List Spl) (Cu : List Cut) (kd' : Int) (no' : Bool) (S' U' : List Int) (Se' : List (List Int)) (Sp' : List Spl) (Cu' : List Cut) (h : LenN S U Se Sp Cu) :
 ∃ r, Ev (fun k => greenwoodref23_Same.f k kd no S U Se Sp Cu kd' no' S' U' Se' Sp' Cu') r ∧ (r = true ↔ kd = kd' ∧ no = no' ∧ S = S' ∧ U = U' ∧ Se = Se' ∧ Sp = Sp' ∧ Cu = Cu') := by
 obtain ⟨h1, h2, h3, h4, h5, h6, h7, h8⟩ := h
 unfold greenwoodref23_Same.f
 have eS := same_ev S S' h1
 have eU := same_ev U U' h2
 obtain ⟨r3, e3, f3⟩ := lists_ev Se Se' h3 h4
 obtain ⟨r4, e4, f4⟩ := spls_ev Sp Sp' h5 h6
 obtain ⟨r5, e5, f5⟩ := cuts_ev Cu Cu' h7 h8
 rw [← f3, ← f4, ← f5]
 by_cases hk : kd = kd'
 ·by_cases hn : no = no'
  ·by_cases hS : S = S'
   ·rw [decide_eq_true hS] at eS
    by_cases hU : U = U'
    ·rw [decide_eq_true hU] at eU
     cases r3 with
     | false => exact ⟨false, Ev.ifp hk (Ev.ifp (by simp [hn]) (Ev.bind eS (Ev.ifp rfl (Ev.bind eU (Ev.ifp rfl (Ev.bind e3 (Ev.ifn (by decide) (Ev.val rfl)))))))), by simp⟩
     | true =>
      cases r4 with
      | false => exact ⟨false, Ev.ifp hk (Ev.ifp (by simp [hn]) (Ev.bind eS (Ev.ifp rfl (Ev.bind eU (Ev.ifp rfl (Ev.bind e3 (Ev.ifp rfl (Ev.bind e4 (Ev.ifn (by decide) (Ev.val rfl)))))))))), by simp⟩
      | true => exact ⟨r5, Ev.ifp hk (Ev.ifp (by simp [hn]) (Ev.bind eS (Ev.ifp rfl (Ev.bind eU (Ev.ifp rfl (Ev.bind e3 (Ev.ifp rfl (Ev.bind e4 (Ev.ifp rfl (Ev.bind e5 (Ev.val rfl))))))))))), by simp [hk, hn, hS, hU]⟩
    ·rw [decide_eq_false hU] at eU
     exact ⟨false, Ev.ifp hk (Ev.ifp (by simp [hn]) (Ev.bind eS (Ev.ifp rfl (Ev.bind eU (Ev.ifn (by decide) (Ev.val rfl)))))), by simp [hU]⟩
   ·rw [decide_eq_false hS] at eS
    exact ⟨false, Ev.ifp hk (Ev.ifp (by simp [hn]) (Ev.bind eS (Ev.ifn (by decide) (Ev.val rfl)))), by simp [hS]⟩
  ·exact ⟨false, Ev.ifp hk (Ev.ifn (by simpa using hn) (Ev.val rfl)), by simp [hn]⟩
 ·exact ⟨false, Ev.ifn hk (Ev.val rfl), by simp [hk]⟩
/-! ### Small -/
def OkA (S U : List Int) (Se : List (List Int)) (Sp : List Spl) (Cu : List Cut) : Prop := S.length ≤ 140737488355328 ∧ U.length ≤ 140737488355328 ∧ Se.length ≤ 140737488355328 ∧ Sp.length ≤ 140737488355328 ∧ Cu.length ≤ 140737488355328
theorem wr2 {i n : Nat} (h : i < n) (hn : n ≤ 140737488355328) : wrap64 ((i : Int) + 1) = ((i + 1 : Nat) : Int) := by unfold wrap64; omega
section
variable (kd : Int) (no : Bool) (S U : List Int) (Se : List (List Int)) (Sp : List Spl) (Cu : List Cut)
theorem small_l2 (hc : Cu.length ≤ 140737488355328) : ∀ (d i : Nat) (n : Int), Cu.length - i = d → i ≤ Cu.length → ∃ r, Ev (fun k => greenwoodref23_Small.l2 k n (i : Int) kd no S U Se Sp Cu) r ∧ (1000 ≤ n → r = false) := by
 intro d
 induction d with
 | zero =>
  intro i n h1 h2
  exact ⟨decide (n ≤ 500), Ev.step (fun k => by rw [greenwoodref23_Small.l2]) (Ev.ifn (by omega) (Ev.val rfl)), fun h => decide_eq_false (by omega)⟩
 | succ d ih =>
  intro i n h1 h2
  by_cases hn : n < 1000
  ·obtain ⟨r, hr, _⟩ := ih (i + 1) (wrap64 (n + ((rd_T43 Cu (i : Int)).f0.length : Int))) (by omega) (by omega)
   refine ⟨r, Ev.step (fun k => by rw [greenwoodref23_Small.l2]) (Ev.ifp (by omega) (Ev.ifp hn (Ev.ifp (by omega) ?_))), fun h => by omega⟩
   rw [wr2 (show i < Cu.length by omega) hc]; exact hr
  ·exact ⟨decide (n ≤ 500), Ev.step (fun k => by rw [greenwoodref23_Small.l2]) (Ev.ifp (by omega) (Ev.ifn hn (Ev.val rfl))), fun h => decide_eq_false (by omega)⟩
theorem small_j3 (hc : Cu.length ≤ 140737488355328) (n : Int) : ∃ r, Ev (fun k => greenwoodref23_Small.j3 k n kd no S U Se Sp Cu) r ∧ (1000 ≤ n → r = false) := by
 obtain ⟨r, hr, h⟩ := small_l2 kd no S U Se Sp Cu hc Cu.length 0 n (by omega) (by omega)
 exact ⟨r, Ev.step (fun k => by rw [greenwoodref23_Small.j3]; rfl) hr, h⟩
theorem small_l1 (hp : Sp.length ≤ 140737488355328) (hc : Cu.length ≤ 140737488355328) : ∀ (d i : Nat) (n : Int), Sp.length - i = d → i ≤ Sp.length → ∃ r, Ev (fun k => greenwoodref23_Small.l1 k n (i : Int) kd no S U Se Sp Cu) r ∧ (1000 ≤ n → r = false) := by
 intro d
 induction d with
 | zero =>
  intro i n h1 h2
  obtain ⟨r, hr, h⟩ := small_j3 kd no S U Se Sp Cu hc n
  exact ⟨r, Ev.step (fun k => by rw [greenwoodref23_Small.l1]) (Ev.ifn (by omega) hr), h⟩
 | succ d ih =>
  intro i n h1 h2
  by_cases hn : n < 1000
  ·obtain ⟨r, hr, _⟩ := ih (i + 1) _ (by omega) (by omega)
   refine ⟨r, Ev.step (fun k => by rw [greenwoodref23_Small.l1]) (Ev.ifp (by omega) (Ev.ifp hn (Ev.ifp (by omega) ?_))), fun h => by omega⟩
   rw [wr2 (show i < Sp.length by omega) hp]; exact hr
  ·obtain ⟨r, hr, h⟩ := small_j3 kd no S U Se Sp Cu hc n
   exact ⟨r, Ev.step (fun k => by rw [greenwoodref23_Small.l1]) (Ev.ifp (by omega) (Ev.ifn hn hr)), h⟩
theorem small_j1 (hp : Sp.length ≤ 140737488355328) (hc : Cu.length ≤ 140737488355328) (n : Int) : ∃ r, Ev (fun k => greenwoodref23_Small.j1 k n kd no S U Se Sp Cu) r ∧ (1000 ≤ n → r = false) := by
 obtain ⟨r, hr, h⟩ := small_l1 kd no S U Se Sp Cu hp hc Sp.length 0 n (by omega) (by omega)
 exact ⟨r, Ev.step (fun k => by rw [greenwoodref23_Small.j1]; rfl) hr, h⟩
theorem small_l0 (he : Se.length ≤ 140737488355328) (hp : Sp.length ≤ 140737488355328) (hc : Cu.length ≤ 140737488355328) : ∀ (d i : Nat) (n : Int), Se.length - i = d → i ≤ Se.length → ∃ r, Ev (fun k => greenwoodref23_Small.l0 k n (i : Int) kd no S U Se Sp Cu) r ∧ (1000 ≤ n → r = false) := by
 intro d
 induction d with
 | zero =>
  intro i n h1 h2
  obtain ⟨r, hr, h⟩ := small_j1 kd no S U Se Sp Cu hp hc n
  exact ⟨r, Ev.step (fun k => by rw [greenwoodref23_Small.l0]) (Ev.ifn (by omega) hr), h⟩
 | succ d ih =>
  intro i n h1 h2
  by_cases hn : n < 1000
  ·obtain ⟨r, hr, _⟩ := ih (i + 1) _ (by omega) (by omega)
   refine ⟨r, Ev.step (fun k => by rw [greenwoodref23_Small.l0]) (Ev.ifp (by omega) (Ev.ifp hn (Ev.ifp (by omega) ?_))), fun h => by omega⟩
   rw [wr2 (show i < Se.length by omega) he]; exact hr
  ·obtain ⟨r, hr, h⟩ := small_j1 kd no S U Se Sp Cu hp hc n
   exact ⟨r, Ev.step (fun k => by rw [greenwoodref23_Small.l0]) (Ev.ifp (by omega) (Ev.ifn hn hr)), h⟩
theorem small_ev (h : OkA S U Se Sp Cu) : ∃ r, Ev (fun k => greenwoodref23_Small.f k kd no S U Se Sp Cu) r ∧ (r = true → S.length ≤ 1000 ∧ U.length ≤ 1000 ∧ Se.length ≤ 1000 ∧ Sp.length ≤ 1000 ∧ Cu.length ≤ 1000) := by
 obtain ⟨h1, h2, h3, h4, h5⟩ := h
 unfold greenwoodref23_Small.f
 have e1 : wrap64 ((S.length : Int) + (U.length : Int)) = (S.length : Int) + (U.length : Int) := by unfold wrap64; omega
 have e2 : wrap64 ((S.length : Int) + (U.length : Int) + (Se.length : Int)) = (S.length : Int) + (U.length : Int) + (Se.length : Int) := by unfold wrap64; omega
 have e3 : wrap64 ((S.length : Int) + (U.length : Int) + (Se.length : Int) + (Sp.length : Int)) = (S.length : Int) + (U.length : Int) + (Se.length : Int) + (Sp.length : Int) := by unfold wrap64; omega
 have e4 : wrap64 ((S.length : Int) + (U.length : Int) + (Se.length : Int) + (Sp.length : Int) + (Cu.length : Int)) = (S.length : Int) + (U.length : Int) + (Se.length : Int) + (Sp.length : Int) + (Cu.length : Int) := by unfold wrap64; omega
 rw [e1, e2, e3, e4]
 obtain ⟨r, hr, hf⟩ := small_l0 kd no S U Se Sp Cu h3 h4 h5 Se.length 0 ((S.length : Int) + (U.length : Int) + (Se.length : Int) + (Sp.length : Int) + (Cu.length : Int)) (by omega) (by omega)
 refine ⟨r, hr, fun ht => ?_⟩
 have : ¬ 1000 ≤ (S.length : Int) + (U.length : Int) + (Se.length : Int) + (Sp.length : Int) + (Cu.length : Int) := fun h => by rw [hf h] at ht; cases ht
 omega
end
end Go.Proofs.YtlekdhejgdfnpaaDoor.P
/- Layer 23: what the laws stand on: bytes as strings, the closed values of Encode, Decode and Check. -/
namespace Go.Proofs.YtlekdhejgdfnpaaDoor.P
open Go.RowKit Go.Proofs.YtlekdhejgdfnpaaDoorW.PrintWords Go.Proofs.YtlekdhejgdfnpaaDoorW.PrintLast Go.Proofs.YtlekdhejgdfnpaaDoorW.PrintMore
open Wr
set_option linter.unusedVariables false
set_option linter.unusedSimpArgs false

theorem bytes_extract (s : ByteArray) (p : Nat) : bytesOf (s.extract 0 p) = (bytesOf s).take p := by
 simp [bytesOf, ← List.map_take]
theorem bytes_zero (s : ByteArray) : bytesOf (s ++ (⟨#[0]⟩ : ByteArray)) = bytesOf s ++ [0] := by
 simp [bytesOf, ByteArray.data_append]
/-! ### an answer's bytes -/
def mkV (kd : Int) (no : Bool) (S U : List Int) (Se : List (List Int)) (Sp : List Spl) (Cu : List Cut) : AnsV := ⟨kd, if no = true then 1 else 0, S, U, Se, Sp, Cu⟩
theorem mkV_no (kd : Int) (no : Bool) (S U : List Int) (Se : List (List Int)) (Sp : List Spl) (Cu : List Cut) : 0 ≤ (mkV kd no S U Se Sp Cu).no ∧ (mkV kd no S U Se Sp Cu).no ≤ 1 ∧ ((mkV kd no S U Se Sp Cu).no == 1) = no := by
 cases no <;> simp [mkV]
theorem flat_LE {ls : List (List Int)} (h : ∀ l ∈ ls, LP l) : listsB ls = ls.flatMap LE := by
 unfold listsB
 induction ls with
 | nil => rfl
 | cons a r ih => rw [List.flatMap_cons, List.flatMap_cons, ih (fun l hl => h l (List.mem_cons_of_mem _ hl)), lists_LE (h a (List.mem_cons_self ..))]
theorem flat_congr {α : Type} {f g : α → List Int} : ∀ (l : List α), (∀ x ∈ l, f x = g x) → l.flatMap f = l.flatMap g := by
 intro l
 induction l with
 | nil => intro _; rfl
 | cons a r ih => intro h; rw [List.flatMap_cons, List.flatMap_cons, h a (List.mem_cons_self ..), ih (fun x hx => h x (List.mem_cons_of_mem _ hx))]
theorem enc_eq {kd : Int} {no : Bool} {S U : List Int} {Se : List (List Int)} {Sp : List Spl} {Cu : List Cut} (h : okAns kd S U Se Sp Cu = true) : encAns kd no S U Se Sp Cu = encV (mkV kd no S U Se Sp Cu) := by
 obtain ⟨-, h2, h3, ⟨-, h5⟩, ⟨-, h7⟩, -, h9⟩ := (ok_iff (mkV kd no S U Se Sp Cu)).1 h
 unfold encAns encV ofV e0 e1 e2 e3 e4 e5 cntE mkV
 dsimp only
 have hS : listsB [S, U] = LE S ++ LE U := by rw [flat_LE (ls := [S, U]) (fun l hl => by rcases List.mem_cons.1 hl with rfl | hl; (exact h2); (rcases List.mem_cons.1 hl with rfl | hl; (exact h3); (cases hl)))]; simp
 have hSe : listsB Se = Se.flatMap LE := flat_LE (fun l hl => h5 l hl)
 have hSp : Sp.flatMap (fun y => listsB [y.f0, y.f1, y.f2]) = Sp.flatMap SE := flat_congr Sp (fun y hy => by
  obtain ⟨q0, q1, q2⟩ := h7 y hy
  rw [flat_LE (fun l hl => by
   rcases List.mem_cons.1 hl with rfl | hl
   ·exact q0
   ·rcases List.mem_cons.1 hl with rfl | hl
    ·exact q1
    ·rcases List.mem_cons.1 hl with rfl | hl
     ·exact q2
     ·cases hl)]
  simp [SE])
 have hCu : Cu.flatMap (fun c => listsB [c.f0] ++ encI c.f1) = Cu.flatMap CE := flat_congr Cu (fun c hc => by
  rw [flat_LE (fun l hl => by
   rcases List.mem_cons.1 hl with rfl | hl
   ·exact (h9 c hc).1
   ·cases hl)]
  simp [CE])
 rw [hS, hSe, hSp, hCu]
 simp only [List.append_assoc]
theorem LE_by (l : List Int) : ∀ x ∈ LE l, 0 ≤ x ∧ x ≤ 255 := by
 intro x hx
 rcases List.mem_append.1 hx with hx | hx
 ·exact encN_by _ x hx
 ·obtain ⟨n, _, hx⟩ := List.mem_flatMap.1 hx
  exact encI_by n x hx
theorem cntE_by {α : Type} {E : α → List Int} (h : ∀ y, ∀ x ∈ E y, 0 ≤ x ∧ x ≤ 255) (l : List α) : ∀ x ∈ cntE E l, 0 ≤ x ∧ x ≤ 255 := by
 intro x hx
 rcases List.mem_append.1 hx with hx | hx
 ·exact encN_by _ x hx
 ·obtain ⟨n, _, hx⟩ := List.mem_flatMap.1 hx
  exact h n x hx
theorem app_by {a b : List Int} (ha : ∀ x ∈ a, 0 ≤ x ∧ x ≤ 255) (hb : ∀ x ∈ b, 0 ≤ x ∧ x ≤ 255) : ∀ x ∈ a ++ b, 0 ≤ x ∧ x ≤ 255 := by
 intro x hx
 rcases List.mem_append.1 hx with hx | hx
 ·exact ha x hx
 ·exact hb x hx
theorem encV_by (x : AnsV) : ∀ b ∈ encV x, 0 ≤ b ∧ b ≤ 255 :=
 app_by (encN_by _) (app_by (encN_by _) (app_by (LE_by _) (app_by (LE_by _) (app_by (cntE_by LE_by _) (app_by (cntE_by (fun y => app_by (LE_by _) (app_by (LE_by _) (LE_by _))) _) (cntE_by (fun y => app_by (LE_by _) (encI_by _)) _))))))
/-! ### the closed values -/
theorem encode_val {kd : Int} {no : Bool} {S U : List Int} {Se : List (List Int)} {Sp : List Spl} {Cu : List Cut} (h4 : Se.length ≤ 1000000) (h5 : Sp.length ≤ 1000000) (h6 : Cu.length ≤ 1000000) :
 answer_Encode.f kd no S U Se Sp Cu = some (strOfNums (if okV (mkV kd no S U Se Sp Cu) = true then encV (mkV kd no S U Se Sp Cu) else [])) := by
 unfold answer_Encode.f
 rw [if_pos ⟨h4, h5, h6⟩]
 have e : okV (mkV kd no S U Se Sp Cu) = okAns kd S U Se Sp Cu := rfl
 rw [e]
 by_cases h : okAns kd S U Se Sp Cu = true
 ·rw [if_pos h, if_pos h, enc_eq h]
 ·rw [if_neg h, if_neg h]
theorem decode_val {s : ByteArray} (h : s.size ≤ 1000000000) : answer_Decode.f s = some (decR (decV (bytesOf s))) := by
 unfold answer_Decode.f
 rw [if_pos h]
theorem size_sn {l : List Int} : (strOfNums l).size = l.length := by
 have : (strOfNums l).size = (strOfNums l).data.size := rfl
 rw [this]
 simp [strOfNums]
end Go.Proofs.YtlekdhejgdfnpaaDoor.P
/- layer 23's fixed calls: what their walk stands on. -/
namespace Go.Proofs.YtlekdhejgdfnpaaDoor.P
open Go.RowKit Go.Proofs.YtlekdhejgdfnpaaDoorW.PrintWords Go.Proofs.YtlekdhejgdfnpaaDoorW.PrintLast Go.Proofs.YtlekdhejgdfnpaaDoorW.PrintMore
open Wr
set_option linter.unusedVariables false
set_option linter.unusedSimpArgs false

theorem C_zero {α : Type} (d : Kd α) (w : World) (A : Option Addr) : Kd.C d w A 0 [] := ⟨rfl, by simp, fun h => absurd h (by simp)⟩
theorem C_sing {α : Type} (d : Kd α) {w : World} {g : Nat} {x : α} {cs : List Value} {t : TypeId} (hh : w.heap[g]? = some (.cells cs.toArray t (0, 0))) (hl : cs.length = d.sz) (hK : d.K w x cs) : Kd.C d w (some ⟨g, 0, none⟩) 1 [x] := by
 refine ⟨rfl, by simp, fun _ => ⟨_, rfl, fun j p hj => ?_⟩⟩
 have hj0 : j = 0 := by have := (List.getElem?_eq_some_iff.1 hj).1; simpa using this
 subst hj0
 obtain rfl : x = p := by simpa using hj
 refine ⟨cs, hl, hK, fun i u hu => ?_⟩
 have e : ((⟨g, 0, none⟩ : Addr).add (0 * d.sz + i)) = ⟨g, i, none⟩ := by simp [Addr.add]; omega
 rw [e, blk_cell hh]
 simpa using hu
theorem C_two2 {w : World} {g : Nat} {a b : Int} {t : TypeId} (hh : w.heap[g]? = some (.cells #[.int .i64 a, .int .i64 b] t (0, 0))) : Kd.C (Kd.int .i64) w (some ⟨g, 0, none⟩) 2 [a, b] := by
 refine ⟨rfl, by simp, fun _ => ⟨_, rfl, fun j p hj => ?_⟩⟩
 refine ⟨[.int .i64 p], rfl, rfl, fun i u hu => ?_⟩
 have hi : i = 0 := by have := (List.getElem?_eq_some_iff.1 hu).1; simpa using this
 subst hi
 have hu' : Value.int .i64 p = u := by simpa using hu
 subst hu'
 match j, hj with
 | 0, hj => obtain rfl : a = p := by simpa using hj
            exact (blk_cell hh 0).trans rfl
 | 1, hj => obtain rfl : b = p := by simpa using hj
            exact (blk_cell hh 1).trans rfl
 | j + 2, hj => simp at hj
theorem check_C {W : World} {A2 A3 A4 A5 A6 : Option Addr} {c2 c3 c4 c5 c6 : Nat} (a0 : Int) (no : Bool) (S U : List Int) (Se : List (List Int)) (Sp : List Spl) (Cu : List Cut)
 (h2 : Kd.C (Kd.int .i64) W A2 S.length S) (k2 : S.length ≤ c2) (h3 : Kd.C (Kd.int .i64) W A3 U.length U) (k3 : U.length ≤ c3) (h4 : Kd.C (Kd.slice 3 (Kd.int .i64)) W A4 Se.length Se) (k4 : Se.length ≤ c4) (h5 : Kd.C k41 W A5 Sp.length Sp) (k5 : Sp.length ≤ c5) (h6 : Kd.C k43 W A6 Cu.length Cu) (k6 : Cu.length ≤ c6)
 (he : Se.length ≤ 1000000) (hs : Sp.length ≤ 1000000) (hc : Cu.length ≤ 1000000) :
 Calls Tryd.prog 11 #[.agg #[.int .i64 a0, .bool no, .slice A2 S.length c2, .slice A3 U.length c3, .slice A4 Se.length c4, .slice A5 Sp.length c5, .slice A6 Cu.length c6]] W fun e w' => e = .returned (.int .i64 (if okAns a0 S U Se Sp Cu = true then 0 else 230)) ∧ Below W.heap.size W w' := by
 obtain ⟨k, hk⟩ := (check_ev a0 no S U Se Sp Cu he hs hc).rounds
 exact answer_Check.calls k a0 no (fun _ => True) A2 c2 S (fun _ => True) A3 c3 U (fun _ => True) A4 c4 Se (fun _ => True) A5 c5 Sp (fun _ => True) A6 c6 Cu _ W (V_of_C (Kd.heap_int _) h2 k2) (V_of_C (Kd.heap_int _) h3 k3) (V_of_C (Kd.heap_slice _ (Kd.heap_int _)) h4 k4) (V_of_C k41_heap h5 k5) (V_of_C k43_heap h6 k6) hk
theorem enc_zero (W : World) : Calls Tryd.prog 13 #[.agg #[.int .i64 0, .bool false, .slice none 0 0, .slice none 0 0, .slice none 0 0, .slice none 0 0, .slice none 0 0]] W fun e w' => e = .returned (.string ⟨#[0, 0, 0, 0, 0, 0, 0]⟩) ∧ Below W.heap.size W w' :=
 answer_Encode.calls 0 false none 0 [] none 0 [] none 0 [] none 0 [] none 0 [] _ W (C_zero _ _ _) (Nat.le_refl _) (C_zero _ _ _) (Nat.le_refl _) (C_zero _ _ _) (Nat.le_refl _) (C_zero _ _ _) (Nat.le_refl _) (C_zero _ _ _) (Nat.le_refl _) (by kernel_rfl)
theorem chk_six (W : World) : Calls Tryd.prog 11 #[.agg #[.int .i64 6, .bool false, .slice none 0 0, .slice none 0 0, .slice none 0 0, .slice none 0 0, .slice none 0 0]] W fun e w' => e = .returned (.int .i64 230) ∧ Below W.heap.size W w' :=
 check_C 6 false [] [] [] [] [] (C_zero _ _ _) (Nat.le_refl _) (C_zero _ _ _) (Nat.le_refl _) (C_zero _ _ _) (Nat.le_refl _) (C_zero _ _ _) (Nat.le_refl _) (C_zero _ _ _) (Nat.le_refl _) (by simp) (by simp) (by simp)
theorem same_zero (W : World) (A2 A3 A4 A5 A6 : Option Addr) (c2 c3 c4 c5 c6 : Nat) : Calls Tryd.prog 15 #[.agg #[.int .i64 0, .bool false, .slice A2 0 c2, .slice A3 0 c3, .slice A4 0 c4, .slice A5 0 c5, .slice A6 0 c6], .agg #[.int .i64 0, .bool false, .slice none 0 0, .slice none 0 0, .slice none 0 0, .slice none 0 0, .slice none 0 0]] W fun e w' => e = .returned (.bool true) ∧ Below W.heap.size W w' :=
 (greenwoodref23_Same.calls 10 0 false A2 c2 [] A3 c3 [] A4 c4 [] A5 c5 [] A6 c6 [] 0 false none 0 [] none 0 [] none 0 [] none 0 [] none 0 [] true W (C_zero _ _ _) (Nat.zero_le _) (C_zero _ _ _) (Nat.zero_le _) (C_zero _ _ _) (Nat.zero_le _) (C_zero _ _ _) (Nat.zero_le _) (C_zero _ _ _) (Nat.zero_le _) (C_zero _ _ _) (Nat.le_refl _) (C_zero _ _ _) (Nat.le_refl _) (C_zero _ _ _) (Nat.le_refl _) (C_zero _ _ _) (Nat.le_refl _) (C_zero _ _ _) (Nat.le_refl _) (by kernel_rfl))
def ySp : List Spl := [⟨[], [2], []⟩]
def yCu : List Cut := [⟨[0], -2⟩]
abbrev L1 (w : World) : World := w.alloc (.cells #[.int .i64 1, .int .i64 (-1)] 3 (0, 0))
abbrev L2 (w : World) : World := (L1 w).alloc (.cells #[.int .i64 3] 3 (0, 0))
abbrev L3 (w : World) : World := (L2 w).alloc (.cells #[.slice (some ⟨w.heap.size + 1, 0, none⟩) 1 1] 22 (0, 0))
abbrev L4 (w : World) : World := (L3 w).alloc (.cells #[.int .i64 2] 3 (0, 0))
abbrev L5 (w : World) : World := (L4 w).alloc (.cells #[.slice none 0 0, .slice (some ⟨w.heap.size + 1 + 1 + 1, 0, none⟩) 1 1, .slice none 0 0] 41 (0, 0))
abbrev L6 (w : World) : World := (L5 w).alloc (.cells #[.int .i64 0] 3 (0, 0))
abbrev L7 (w : World) : World := (L6 w).alloc (.cells #[.slice (some ⟨w.heap.size + 1 + 1 + 1 + 1 + 1, 0, none⟩) 1 1, .int .i64 (-2)] 43 (0, 0))
theorem asz (w : World) (o : Obj) : (w.alloc o).heap.size = w.heap.size + 1 := Array.size_push ..
theorem lits (w : World) : Below w.heap.size w (L7 w) ∧ Kd.C (Kd.int .i64) (L7 w) (some ⟨w.heap.size, 0, none⟩) 2 [1, -1] ∧ Kd.C (Kd.slice 3 (Kd.int .i64)) (L7 w) (some ⟨w.heap.size + 1 + 1, 0, none⟩) 1 [[3]] ∧
 Kd.C k41 (L7 w) (some ⟨w.heap.size + 1 + 1 + 1 + 1, 0, none⟩) 1 ySp ∧ Kd.C k43 (L7 w) (some ⟨w.heap.size + 1 + 1 + 1 + 1 + 1 + 1, 0, none⟩) 1 yCu := by
 have hsz : ∀ (n : Nat) (W : World) (o : Obj), W.heap.size = n → (W.alloc o).heap[n]? = some o ∧ (W.alloc o).heap.size = n + 1 := fun n W o h => by subst h; exact ⟨blk_new W o, asz W o⟩
 obtain ⟨b1, z1⟩ := hsz _ w (.cells #[.int .i64 1, .int .i64 (-1)] 3 (0, 0)) rfl
 obtain ⟨b2, z2⟩ := hsz _ (L1 w) (.cells #[.int .i64 3] 3 (0, 0)) z1
 obtain ⟨b3, z3⟩ := hsz _ (L2 w) (.cells #[.slice (some ⟨w.heap.size + 1, 0, none⟩) 1 1] 22 (0, 0)) z2
 obtain ⟨b4, z4⟩ := hsz _ (L3 w) (.cells #[.int .i64 2] 3 (0, 0)) z3
 obtain ⟨b5, z5⟩ := hsz _ (L4 w) (.cells #[.slice none 0 0, .slice (some ⟨w.heap.size + 1 + 1 + 1, 0, none⟩) 1 1, .slice none 0 0] 41 (0, 0)) z4
 obtain ⟨b6, z6⟩ := hsz _ (L5 w) (.cells #[.int .i64 0] 3 (0, 0)) z5
 obtain ⟨b7, z7⟩ := hsz _ (L6 w) (.cells #[.slice (some ⟨w.heap.size + 1 + 1 + 1 + 1 + 1, 0, none⟩) 1 1, .int .i64 (-2)] 43 (0, 0)) z6
 have hb : ∀ (W : World) (o : Obj), Below W.heap.size W (W.alloc o) := fun W o => below_alloc (Below.refl _ _) o
 have c1 : (L7 w).heap[w.heap.size]? = some (.cells #[.int .i64 1, .int .i64 (-1)] 3 (0, 0)) := blk_alloc (blk_alloc (blk_alloc (blk_alloc (blk_alloc (blk_alloc b1 _) _) _) _) _) _
 have c2 : (L7 w).heap[w.heap.size + 1]? = some (.cells #[.int .i64 3] 3 (0, 0)) := blk_alloc (blk_alloc (blk_alloc (blk_alloc (blk_alloc b2 _) _) _) _) _
 have c3 : (L7 w).heap[w.heap.size + 1 + 1]? = some (.cells #[.slice (some ⟨w.heap.size + 1, 0, none⟩) 1 1] 22 (0, 0)) := blk_alloc (blk_alloc (blk_alloc (blk_alloc b3 _) _) _) _
 have c4 : (L7 w).heap[w.heap.size + 1 + 1 + 1]? = some (.cells #[.int .i64 2] 3 (0, 0)) := blk_alloc (blk_alloc (blk_alloc b4 _) _) _
 have c5 : (L7 w).heap[w.heap.size + 1 + 1 + 1 + 1]? = some (.cells #[.slice none 0 0, .slice (some ⟨w.heap.size + 1 + 1 + 1, 0, none⟩) 1 1, .slice none 0 0] 41 (0, 0)) := blk_alloc (blk_alloc b5 _) _
 have c6 : (L7 w).heap[w.heap.size + 1 + 1 + 1 + 1 + 1]? = some (.cells #[.int .i64 0] 3 (0, 0)) := blk_alloc b6 _
 have hbel : Below w.heap.size w (L7 w) := by
  refine ⟨rfl, rfl, rfl, ?_, fun k hk => ?_⟩
  ·rw [z7]; omega
  ·have h1 := (hb w (.cells #[.int .i64 1, .int .i64 (-1)] 3 (0, 0))).block k hk
   have h2 := (hb (L1 w) (.cells #[.int .i64 3] 3 (0, 0))).block k (by rw [z1]; omega)
   have h3 := (hb (L2 w) (.cells #[.slice (some ⟨w.heap.size + 1, 0, none⟩) 1 1] 22 (0, 0))).block k (by rw [z2]; omega)
   have h4 := (hb (L3 w) (.cells #[.int .i64 2] 3 (0, 0))).block k (by rw [z3]; omega)
   have h5 := (hb (L4 w) (.cells #[.slice none 0 0, .slice (some ⟨w.heap.size + 1 + 1 + 1, 0, none⟩) 1 1, .slice none 0 0] 41 (0, 0))).block k (by rw [z4]; omega)
   have h6 := (hb (L5 w) (.cells #[.int .i64 0] 3 (0, 0))).block k (by rw [z5]; omega)
   have h7 := (hb (L6 w) (.cells #[.slice (some ⟨w.heap.size + 1 + 1 + 1 + 1 + 1, 0, none⟩) 1 1, .int .i64 (-2)] 43 (0, 0))).block k (by rw [z6]; omega)
   exact h7.trans (h6.trans (h5.trans (h4.trans (h3.trans (h2.trans h1)))))
 have i3 : Kd.C (Kd.int .i64) (L7 w) (some ⟨w.heap.size + 1, 0, none⟩) 1 [3] := C_sing (Kd.int .i64) (cs := [.int .i64 3]) c2 rfl rfl
 have i2 : Kd.C (Kd.int .i64) (L7 w) (some ⟨w.heap.size + 1 + 1 + 1, 0, none⟩) 1 [2] := C_sing (Kd.int .i64) (cs := [.int .i64 2]) c4 rfl rfl
 have i0 : Kd.C (Kd.int .i64) (L7 w) (some ⟨w.heap.size + 1 + 1 + 1 + 1 + 1, 0, none⟩) 1 [0] := C_sing (Kd.int .i64) (cs := [.int .i64 0]) c6 rfl rfl
 refine ⟨hbel, C_two2 c1, C_sing (Kd.slice 3 (Kd.int .i64)) (cs := [.slice (some ⟨w.heap.size + 1, 0, none⟩) 1 1]) c3 rfl ⟨_, 1, rfl, by simp, i3⟩, ?_, ?_⟩
 ·exact C_sing k41 (cs := [.slice none 0 0, .slice (some ⟨w.heap.size + 1 + 1 + 1, 0, none⟩) 1 1, .slice none 0 0]) c5 rfl (k41_mk (L7 w) ⟨[], [2], []⟩ (Nat.le_refl _) (C_zero _ _ _) (Nat.le_refl _) i2 (Nat.le_refl _) (C_zero _ _ _))
 ·exact C_sing k43 (cs := [.slice (some ⟨w.heap.size + 1 + 1 + 1 + 1 + 1, 0, none⟩) 1 1, .int .i64 (-2)]) b7 rfl (k43_mk (L7 w) ⟨[0], -2⟩ (Nat.le_refl _) i0)

theorem enc_y (W : World) (A2 A4 A5 A6 : Option Addr) (h2 : Kd.C (Kd.int .i64) W A2 2 [1, -1]) (h4 : Kd.C (Kd.slice 3 (Kd.int .i64)) W A4 1 [[3]]) (h5 : Kd.C k41 W A5 1 ySp) (h6 : Kd.C k43 W A6 1 yCu) : Calls Tryd.prog 13 #[.agg #[.int .i64 4, .bool true, .slice A2 2 2, .slice none 0 0, .slice A4 1 1, .slice A5 1 1, .slice A6 1 1]] W fun e w' => e = .returned (.string ⟨#[4, 1, 2, 2, 1, 0, 1, 1, 6, 1, 0, 1, 4, 0, 1, 1, 0, 3]⟩) ∧ Below W.heap.size W w' :=
 answer_Encode.calls 4 true A2 2 [1, -1] none 0 [] A4 1 [[3]] A5 1 ySp A6 1 yCu _ W h2 (Nat.le_refl _) (C_zero _ _ _) (Nat.le_refl _) h4 (Nat.le_refl _) h5 (Nat.le_refl _) h6 (Nat.le_refl _) (by kernel_rfl)
theorem chk_y (W : World) (A2 A4 A5 A6 : Option Addr) (h2 : Kd.C (Kd.int .i64) W A2 2 [1, -1]) (h4 : Kd.C (Kd.slice 3 (Kd.int .i64)) W A4 1 [[3]]) (h5 : Kd.C k41 W A5 1 ySp) (h6 : Kd.C k43 W A6 1 yCu) : Calls Tryd.prog 11 #[.agg #[.int .i64 4, .bool true, .slice A2 2 2, .slice none 0 0, .slice A4 1 1, .slice A5 1 1, .slice A6 1 1]] W fun e w' => e = .returned (.int .i64 0) ∧ Below W.heap.size W w' :=
 check_C 4 true [1, -1] [] [[3]] ySp yCu h2 (Nat.le_refl _) (C_zero _ _ _) (Nat.le_refl _) h4 (Nat.le_refl _) h5 (Nat.le_refl _) h6 (Nat.le_refl _) (by simp) (by simp [ySp]) (by simp [yCu])
end Go.Proofs.YtlekdhejgdfnpaaDoor.P
/- layer 23's fixed calls, walked. (Written by wip/tool/ansx.py.) -/
namespace Go.Proofs.YtlekdhejgdfnpaaDoor.P
open Go.RowKit Go.Proofs.YtlekdhejgdfnpaaDoorW.PrintWords Go.Proofs.YtlekdhejgdfnpaaDoorW.PrintLast Go.Proofs.YtlekdhejgdfnpaaDoorW.PrintMore
open Wr
set_option linter.unusedVariables false
set_option linter.unusedSimpArgs false

theorem decode_v {w : World} (s : ByteArray) (v : AnsV × Int × Int) (hv : decV (bytesOf s) = v) (hE : EV w) (hs : s.size ≤ 1000000000) :
 Calls Tryd.prog 9 #[.string s] w fun e w' => ∃ vS vU vSe vSp vCu, e = .returned (.tuple #[.agg #[.int .i64 v.1.kd, .bool (v.1.no == 1), vS, vU, vSe, vSp, vCu], .int .i64 v.2.1, .int .i64 v.2.2]) ∧ RowsA w' w.heap.size vS vU vSe vSp vCu v.1 ∧ Below w.heap.size w w' := by
 subst hv; exact decode_c s hE hs
set_option maxHeartbeats 16000000 in
set_option maxRecDepth 100000 in
theorem fixed_c {w : World} (hE : EV w) :
 Calls Tryd.prog 8 #[] w fun e w' => e = .returned (.bool true) ∧ Below w.heap.size w w' := by
 have HE := Aside0.mk hE
 have H0 := Aside0.mk (Below.refl w.heap.size w)
 clear hE
 go_enter Tryd.func8, Tryd.ntmps8
 go_upto_region 7 with (first
  | ((with_reducible refine gate_store (t := 27) (p := 14) rfl ?_); refine store_event (t := 27) (p := 14) (v := ?vo_e) (w1 := (((((((w2e.setCell ⟨Xe, 0, none⟩ (.int .i64 0)).setCell ⟨Xe, 1, none⟩ (.bool false)).setCell ⟨Xe, 2, none⟩ (.slice E2 0 ec2)).setCell ⟨Xe, 3, none⟩ (.slice E3 0 ec3)).setCell ⟨Xe, 4, none⟩ (.slice E4 0 ec4)).setCell ⟨Xe, 5, none⟩ (.slice E5 0 ec5)).setCell ⟨Xe, 6, none⟩ (.slice E6 0 ec6))) ?hg ?ho ?hn ?hr ?_; (case ho => rfl); (case hg => rfl); (case hn => rfl); (case hr => first | (go_simp; done) | (go_simp; rfl)); intro w3e hw; (have h7 := set7 (base := w3a.heap.size) (u0 := .int .i64 0) (u1 := .bool false) (u2 := .slice E2 0 ec2) (u3 := .slice E3 0 ec3) (u4 := .slice E4 0 ec4) (u5 := .slice E5 0 ec5) (u6 := .slice E6 0 ec6) H2e.out.2.1 H2e.out.2.2); (dsimp only at h7); (rw [← hw] at h7); (have H3e := Aside0.mk (H2e.out.1.trans h7.2.2));  clear x0 xf0 x1 xf1 x2 xf2 x3 xf3 x4 xf4 x5 xf5 x6 xf6; clear hw h7)
  | ((with_reducible refine gate_dst (N := 14) rfl ?_); (try (refine gate_guard (by rfl) ?_; dsimp only)); refine box_event ?hg (N := 14) ?hd (cs := #[.int .i64 0, .bool false, .slice none 0 0, .slice none 0 0, .slice none 0 0, .slice none 0 0, .slice none 0 0]) (t := 27) ?hr ?_; (case hd => rfl); (case hg => rfl); (case hr => first | (go_simp; done) | (go_simp; rfl)); intro Xe hg w2e hbox hb; (have H2e : Aside0 (Below w3a.heap.size w3a w2e ∧ w2e.heap[Xe]? = some (.cells #[.int .i64 0, .bool false, .slice none 0 0, .slice none 0 0, .slice none 0 0, .slice none 0 0, .slice none 0 0] 27 (0, 0)) ∧ w3a.heap.size ≤ Xe) := ⟨H1e.out.trans (hb.mono H1e.out.size), hbox, by rw [hg]; exact H1e.out.size⟩); (have x0 : w2e.cell? ⟨Xe, 0, none⟩ = _ := (blk_cell hbox 0).trans rfl); (have xf0 : w2e.frozen? ⟨Xe, 0, none⟩ = false := blk_frozen hbox 0); (have x1 : w2e.cell? ⟨Xe, 1, none⟩ = _ := (blk_cell hbox 1).trans rfl); (have xf1 : w2e.frozen? ⟨Xe, 1, none⟩ = false := blk_frozen hbox 1); (have x2 : w2e.cell? ⟨Xe, 2, none⟩ = _ := (blk_cell hbox 2).trans rfl); (have xf2 : w2e.frozen? ⟨Xe, 2, none⟩ = false := blk_frozen hbox 2); (have x3 : w2e.cell? ⟨Xe, 3, none⟩ = _ := (blk_cell hbox 3).trans rfl); (have xf3 : w2e.frozen? ⟨Xe, 3, none⟩ = false := blk_frozen hbox 3); (have x4 : w2e.cell? ⟨Xe, 4, none⟩ = _ := (blk_cell hbox 4).trans rfl); (have xf4 : w2e.frozen? ⟨Xe, 4, none⟩ = false := blk_frozen hbox 4); (have x5 : w2e.cell? ⟨Xe, 5, none⟩ = _ := (blk_cell hbox 5).trans rfl); (have xf5 : w2e.frozen? ⟨Xe, 5, none⟩ = false := blk_frozen hbox 5); (have x6 : w2e.cell? ⟨Xe, 6, none⟩ = _ := (blk_cell hbox 6).trans rfl); (have xf6 : w2e.frozen? ⟨Xe, 6, none⟩ = false := blk_frozen hbox 6);  clear hg hbox hb)
  | (go_at_call 9; (have z_ := H3d.out); clear z_; refine (decode_v _ (zeroV, 12, 2) (by kernel_rfl) (HEa.out.below H3d.out HEa.out.pos) (Nat.le_of_ble_eq_true (by kernel_rfl))).mono ?_; rintro e w1e ⟨vS, vU, vSe, vSp, vCu, hret, hrow, hb⟩; (obtain ⟨E2, ec2, E3, ec3, E4, ec4, E5, ec5, E6, ec6, rfl, rfl, rfl, rfl, rfl⟩ := hrow.slices); (subst hret); (have H1e := Aside0.mk (H3d.out.trans (hb.mono H3d.out.size))); clear hrow hb)
  | ((with_reducible refine gate_store (t := 27) (p := 11) rfl ?_); refine store_event (t := 27) (p := 11) (v := ?vo_d) (w1 := (((((((w2d.setCell ⟨Xd, 0, none⟩ (.int .i64 0)).setCell ⟨Xd, 1, none⟩ (.bool false)).setCell ⟨Xd, 2, none⟩ (.slice D2 0 dc2)).setCell ⟨Xd, 3, none⟩ (.slice D3 0 dc3)).setCell ⟨Xd, 4, none⟩ (.slice D4 0 dc4)).setCell ⟨Xd, 5, none⟩ (.slice D5 0 dc5)).setCell ⟨Xd, 6, none⟩ (.slice D6 0 dc6))) ?hg ?ho ?hn ?hr ?_; (case ho => rfl); (case hg => rfl); (case hn => rfl); (case hr => first | (go_simp; done) | (go_simp; rfl)); intro w3d hw; (have h7 := set7 (base := w3a.heap.size) (u0 := .int .i64 0) (u1 := .bool false) (u2 := .slice D2 0 dc2) (u3 := .slice D3 0 dc3) (u4 := .slice D4 0 dc4) (u5 := .slice D5 0 dc5) (u6 := .slice D6 0 dc6) H2d.out.2.1 H2d.out.2.2); (dsimp only at h7); (rw [← hw] at h7); (have H3d := Aside0.mk (H2d.out.1.trans h7.2.2));  clear x0 xf0 x1 xf1 x2 xf2 x3 xf3 x4 xf4 x5 xf5 x6 xf6; clear hw h7)
  | ((with_reducible refine gate_dst (N := 11) rfl ?_); (try (refine gate_guard (by rfl) ?_; dsimp only)); refine box_event ?hg (N := 11) ?hd (cs := #[.int .i64 0, .bool false, .slice none 0 0, .slice none 0 0, .slice none 0 0, .slice none 0 0, .slice none 0 0]) (t := 27) ?hr ?_; (case hd => rfl); (case hg => rfl); (case hr => first | (go_simp; done) | (go_simp; rfl)); intro Xd hg w2d hbox hb; (have H2d : Aside0 (Below w3a.heap.size w3a w2d ∧ w2d.heap[Xd]? = some (.cells #[.int .i64 0, .bool false, .slice none 0 0, .slice none 0 0, .slice none 0 0, .slice none 0 0, .slice none 0 0] 27 (0, 0)) ∧ w3a.heap.size ≤ Xd) := ⟨H1d.out.trans (hb.mono H1d.out.size), hbox, by rw [hg]; exact H1d.out.size⟩); (have x0 : w2d.cell? ⟨Xd, 0, none⟩ = _ := (blk_cell hbox 0).trans rfl); (have xf0 : w2d.frozen? ⟨Xd, 0, none⟩ = false := blk_frozen hbox 0); (have x1 : w2d.cell? ⟨Xd, 1, none⟩ = _ := (blk_cell hbox 1).trans rfl); (have xf1 : w2d.frozen? ⟨Xd, 1, none⟩ = false := blk_frozen hbox 1); (have x2 : w2d.cell? ⟨Xd, 2, none⟩ = _ := (blk_cell hbox 2).trans rfl); (have xf2 : w2d.frozen? ⟨Xd, 2, none⟩ = false := blk_frozen hbox 2); (have x3 : w2d.cell? ⟨Xd, 3, none⟩ = _ := (blk_cell hbox 3).trans rfl); (have xf3 : w2d.frozen? ⟨Xd, 3, none⟩ = false := blk_frozen hbox 3); (have x4 : w2d.cell? ⟨Xd, 4, none⟩ = _ := (blk_cell hbox 4).trans rfl); (have xf4 : w2d.frozen? ⟨Xd, 4, none⟩ = false := blk_frozen hbox 4); (have x5 : w2d.cell? ⟨Xd, 5, none⟩ = _ := (blk_cell hbox 5).trans rfl); (have xf5 : w2d.frozen? ⟨Xd, 5, none⟩ = false := blk_frozen hbox 5); (have x6 : w2d.cell? ⟨Xd, 6, none⟩ = _ := (blk_cell hbox 6).trans rfl); (have xf6 : w2d.frozen? ⟨Xd, 6, none⟩ = false := blk_frozen hbox 6);  clear hg hbox hb)
  | (go_at_call 9; (have z_ := H3c.out); clear z_; refine (decode_v _ (zeroV, 230, 0) (by kernel_rfl) (HEa.out.below H3c.out HEa.out.pos) (Nat.le_of_ble_eq_true (by kernel_rfl))).mono ?_; rintro e w1d ⟨vS, vU, vSe, vSp, vCu, hret, hrow, hb⟩; (obtain ⟨D2, dc2, D3, dc3, D4, dc4, D5, dc5, D6, dc6, rfl, rfl, rfl, rfl, rfl⟩ := hrow.slices); (subst hret); (have H1d := Aside0.mk (H3c.out.trans (hb.mono H3c.out.size))); clear hrow hb)
  | ((with_reducible refine gate_store (t := 27) (p := 8) rfl ?_); refine store_event (t := 27) (p := 8) (v := ?vo_c) (w1 := (((((((w2c.setCell ⟨Xc, 0, none⟩ (.int .i64 0)).setCell ⟨Xc, 1, none⟩ (.bool false)).setCell ⟨Xc, 2, none⟩ (.slice C2 0 cc2)).setCell ⟨Xc, 3, none⟩ (.slice C3 0 cc3)).setCell ⟨Xc, 4, none⟩ (.slice C4 0 cc4)).setCell ⟨Xc, 5, none⟩ (.slice C5 0 cc5)).setCell ⟨Xc, 6, none⟩ (.slice C6 0 cc6))) ?hg ?ho ?hn ?hr ?_; (case ho => rfl); (case hg => rfl); (case hn => rfl); (case hr => first | (go_simp; done) | (go_simp; rfl)); intro w3c hw; (have h7 := set7 (base := w3a.heap.size) (u0 := .int .i64 0) (u1 := .bool false) (u2 := .slice C2 0 cc2) (u3 := .slice C3 0 cc3) (u4 := .slice C4 0 cc4) (u5 := .slice C5 0 cc5) (u6 := .slice C6 0 cc6) H2c.out.2.1 H2c.out.2.2); (dsimp only at h7); (rw [← hw] at h7); (have H3c := Aside0.mk (H2c.out.1.trans h7.2.2));  clear x0 xf0 x1 xf1 x2 xf2 x3 xf3 x4 xf4 x5 xf5 x6 xf6; clear hw h7)
  | ((with_reducible refine gate_dst (N := 8) rfl ?_); (try (refine gate_guard (by rfl) ?_; dsimp only)); refine box_event ?hg (N := 8) ?hd (cs := #[.int .i64 0, .bool false, .slice none 0 0, .slice none 0 0, .slice none 0 0, .slice none 0 0, .slice none 0 0]) (t := 27) ?hr ?_; (case hd => rfl); (case hg => rfl); (case hr => first | (go_simp; done) | (go_simp; rfl)); intro Xc hg w2c hbox hb; (have H2c : Aside0 (Below w3a.heap.size w3a w2c ∧ w2c.heap[Xc]? = some (.cells #[.int .i64 0, .bool false, .slice none 0 0, .slice none 0 0, .slice none 0 0, .slice none 0 0, .slice none 0 0] 27 (0, 0)) ∧ w3a.heap.size ≤ Xc) := ⟨H1c.out.trans (hb.mono H1c.out.size), hbox, by rw [hg]; exact H1c.out.size⟩); (have x0 : w2c.cell? ⟨Xc, 0, none⟩ = _ := (blk_cell hbox 0).trans rfl); (have xf0 : w2c.frozen? ⟨Xc, 0, none⟩ = false := blk_frozen hbox 0); (have x1 : w2c.cell? ⟨Xc, 1, none⟩ = _ := (blk_cell hbox 1).trans rfl); (have xf1 : w2c.frozen? ⟨Xc, 1, none⟩ = false := blk_frozen hbox 1); (have x2 : w2c.cell? ⟨Xc, 2, none⟩ = _ := (blk_cell hbox 2).trans rfl); (have xf2 : w2c.frozen? ⟨Xc, 2, none⟩ = false := blk_frozen hbox 2); (have x3 : w2c.cell? ⟨Xc, 3, none⟩ = _ := (blk_cell hbox 3).trans rfl); (have xf3 : w2c.frozen? ⟨Xc, 3, none⟩ = false := blk_frozen hbox 3); (have x4 : w2c.cell? ⟨Xc, 4, none⟩ = _ := (blk_cell hbox 4).trans rfl); (have xf4 : w2c.frozen? ⟨Xc, 4, none⟩ = false := blk_frozen hbox 4); (have x5 : w2c.cell? ⟨Xc, 5, none⟩ = _ := (blk_cell hbox 5).trans rfl); (have xf5 : w2c.frozen? ⟨Xc, 5, none⟩ = false := blk_frozen hbox 5); (have x6 : w2c.cell? ⟨Xc, 6, none⟩ = _ := (blk_cell hbox 6).trans rfl); (have xf6 : w2c.frozen? ⟨Xc, 6, none⟩ = false := blk_frozen hbox 6);  clear hg hbox hb)
  | (go_at_call 9; (have z_ := H3b.out); clear z_; refine (decode_v _ (zeroV, 230, 0) (by kernel_rfl) (HEa.out.below H3b.out HEa.out.pos) (Nat.le_of_ble_eq_true (by kernel_rfl))).mono ?_; rintro e w1c ⟨vS, vU, vSe, vSp, vCu, hret, hrow, hb⟩; (obtain ⟨C2, cc2, C3, cc3, C4, cc4, C5, cc5, C6, cc6, rfl, rfl, rfl, rfl, rfl⟩ := hrow.slices); (subst hret); (have H1c := Aside0.mk (H3b.out.trans (hb.mono H3b.out.size))); clear hrow hb)
  | ((with_reducible refine gate_store (t := 27) (p := 5) rfl ?_); refine store_event (t := 27) (p := 5) (v := ?vo_b) (w1 := (((((((w2b.setCell ⟨Xb, 0, none⟩ (.int .i64 0)).setCell ⟨Xb, 1, none⟩ (.bool false)).setCell ⟨Xb, 2, none⟩ (.slice B2 0 bc2)).setCell ⟨Xb, 3, none⟩ (.slice B3 0 bc3)).setCell ⟨Xb, 4, none⟩ (.slice B4 0 bc4)).setCell ⟨Xb, 5, none⟩ (.slice B5 0 bc5)).setCell ⟨Xb, 6, none⟩ (.slice B6 0 bc6))) ?hg ?ho ?hn ?hr ?_; (case ho => rfl); (case hg => rfl); (case hn => rfl); (case hr => first | (go_simp; done) | (go_simp; rfl)); intro w3b hw; (have h7 := set7 (base := w3a.heap.size) (u0 := .int .i64 0) (u1 := .bool false) (u2 := .slice B2 0 bc2) (u3 := .slice B3 0 bc3) (u4 := .slice B4 0 bc4) (u5 := .slice B5 0 bc5) (u6 := .slice B6 0 bc6) H2b.out.2.1 H2b.out.2.2); (dsimp only at h7); (rw [← hw] at h7); (have H3b := Aside0.mk (H2b.out.1.trans h7.2.2));  clear x0 xf0 x1 xf1 x2 xf2 x3 xf3 x4 xf4 x5 xf5 x6 xf6; clear hw h7)
  | ((with_reducible refine gate_dst (N := 5) rfl ?_); (try (refine gate_guard (by rfl) ?_; dsimp only)); refine box_event ?hg (N := 5) ?hd (cs := #[.int .i64 0, .bool false, .slice none 0 0, .slice none 0 0, .slice none 0 0, .slice none 0 0, .slice none 0 0]) (t := 27) ?hr ?_; (case hd => rfl); (case hg => rfl); (case hr => first | (go_simp; done) | (go_simp; rfl)); intro Xb hg w2b hbox hb; (have H2b : Aside0 (Below w3a.heap.size w3a w2b ∧ w2b.heap[Xb]? = some (.cells #[.int .i64 0, .bool false, .slice none 0 0, .slice none 0 0, .slice none 0 0, .slice none 0 0, .slice none 0 0] 27 (0, 0)) ∧ w3a.heap.size ≤ Xb) := ⟨H1b.out.trans (hb.mono H1b.out.size), hbox, by rw [hg]; exact H1b.out.size⟩); (have x0 : w2b.cell? ⟨Xb, 0, none⟩ = _ := (blk_cell hbox 0).trans rfl); (have xf0 : w2b.frozen? ⟨Xb, 0, none⟩ = false := blk_frozen hbox 0); (have x1 : w2b.cell? ⟨Xb, 1, none⟩ = _ := (blk_cell hbox 1).trans rfl); (have xf1 : w2b.frozen? ⟨Xb, 1, none⟩ = false := blk_frozen hbox 1); (have x2 : w2b.cell? ⟨Xb, 2, none⟩ = _ := (blk_cell hbox 2).trans rfl); (have xf2 : w2b.frozen? ⟨Xb, 2, none⟩ = false := blk_frozen hbox 2); (have x3 : w2b.cell? ⟨Xb, 3, none⟩ = _ := (blk_cell hbox 3).trans rfl); (have xf3 : w2b.frozen? ⟨Xb, 3, none⟩ = false := blk_frozen hbox 3); (have x4 : w2b.cell? ⟨Xb, 4, none⟩ = _ := (blk_cell hbox 4).trans rfl); (have xf4 : w2b.frozen? ⟨Xb, 4, none⟩ = false := blk_frozen hbox 4); (have x5 : w2b.cell? ⟨Xb, 5, none⟩ = _ := (blk_cell hbox 5).trans rfl); (have xf5 : w2b.frozen? ⟨Xb, 5, none⟩ = false := blk_frozen hbox 5); (have x6 : w2b.cell? ⟨Xb, 6, none⟩ = _ := (blk_cell hbox 6).trans rfl); (have xf6 : w2b.frozen? ⟨Xb, 6, none⟩ = false := blk_frozen hbox 6);  clear hg hbox hb)
  | (go_at_call 9; (have z_ := H0a.out); clear z_; refine (decode_v _ (zeroV, 13, 7) (by kernel_rfl) (HEa.out.below H0a.out HEa.out.pos) (Nat.le_of_ble_eq_true (by kernel_rfl))).mono ?_; rintro e w1b ⟨vS, vU, vSe, vSp, vCu, hret, hrow, hb⟩; (obtain ⟨B2, bc2, B3, bc3, B4, bc4, B5, bc5, B6, bc6, rfl, rfl, rfl, rfl, rfl⟩ := hrow.slices); (subst hret); (have H1b := Aside0.mk (H0a.out.trans (hb.mono H0a.out.size))); clear hrow hb)
  | ((with_reducible refine gate_store (t := 27) (p := 2) rfl ?_); refine store_event (t := 27) (p := 2) (v := ?vo_a) (w1 := (((((((w2a.setCell ⟨Xa, 0, none⟩ (.int .i64 0)).setCell ⟨Xa, 1, none⟩ (.bool false)).setCell ⟨Xa, 2, none⟩ (.slice A2 0 ac2)).setCell ⟨Xa, 3, none⟩ (.slice A3 0 ac3)).setCell ⟨Xa, 4, none⟩ (.slice A4 0 ac4)).setCell ⟨Xa, 5, none⟩ (.slice A5 0 ac5)).setCell ⟨Xa, 6, none⟩ (.slice A6 0 ac6))) ?hg ?ho ?hn ?hr ?_; (case ho => rfl); (case hg => rfl); (case hn => rfl); (case hr => first | (go_simp; done) | (go_simp; rfl)); intro w3a hw; (have h7 := set7 (base := w.heap.size) (u0 := .int .i64 0) (u1 := .bool false) (u2 := .slice A2 0 ac2) (u3 := .slice A3 0 ac3) (u4 := .slice A4 0 ac4) (u5 := .slice A5 0 ac5) (u6 := .slice A6 0 ac6) H2a.out.2.1 H2a.out.2.2); (dsimp only at h7); (rw [← hw] at h7); (have H3a := Aside0.mk (H2a.out.1.trans h7.2.2)); (have HX := Aside0.mk (And.intro h7.1 (H2a.out.2.2))); (have HEa := Aside0.mk (HE.out.below H3a.out HE.out.pos)); (have H0a := Aside0.mk (Below.refl w3a.heap.size w3a)); clear x0 xf0 x1 xf1 x2 xf2 x3 xf3 x4 xf4 x5 xf5 x6 xf6; clear hw h7)
  | ((with_reducible refine gate_dst (N := 2) rfl ?_); (try (refine gate_guard (by rfl) ?_; dsimp only)); refine box_event ?hg (N := 2) ?hd (cs := #[.int .i64 0, .bool false, .slice none 0 0, .slice none 0 0, .slice none 0 0, .slice none 0 0, .slice none 0 0]) (t := 27) ?hr ?_; (case hd => rfl); (case hg => rfl); (case hr => first | (go_simp; done) | (go_simp; rfl)); intro Xa hg w2a hbox hb; (have H2a : Aside0 (Below w.heap.size w w2a ∧ w2a.heap[Xa]? = some (.cells #[.int .i64 0, .bool false, .slice none 0 0, .slice none 0 0, .slice none 0 0, .slice none 0 0, .slice none 0 0] 27 (0, 0)) ∧ w.heap.size ≤ Xa) := ⟨H1a.out.trans (hb.mono H1a.out.size), hbox, by rw [hg]; exact H1a.out.size⟩); (have x0 : w2a.cell? ⟨Xa, 0, none⟩ = _ := (blk_cell hbox 0).trans rfl); (have xf0 : w2a.frozen? ⟨Xa, 0, none⟩ = false := blk_frozen hbox 0); (have x1 : w2a.cell? ⟨Xa, 1, none⟩ = _ := (blk_cell hbox 1).trans rfl); (have xf1 : w2a.frozen? ⟨Xa, 1, none⟩ = false := blk_frozen hbox 1); (have x2 : w2a.cell? ⟨Xa, 2, none⟩ = _ := (blk_cell hbox 2).trans rfl); (have xf2 : w2a.frozen? ⟨Xa, 2, none⟩ = false := blk_frozen hbox 2); (have x3 : w2a.cell? ⟨Xa, 3, none⟩ = _ := (blk_cell hbox 3).trans rfl); (have xf3 : w2a.frozen? ⟨Xa, 3, none⟩ = false := blk_frozen hbox 3); (have x4 : w2a.cell? ⟨Xa, 4, none⟩ = _ := (blk_cell hbox 4).trans rfl); (have xf4 : w2a.frozen? ⟨Xa, 4, none⟩ = false := blk_frozen hbox 4); (have x5 : w2a.cell? ⟨Xa, 5, none⟩ = _ := (blk_cell hbox 5).trans rfl); (have xf5 : w2a.frozen? ⟨Xa, 5, none⟩ = false := blk_frozen hbox 5); (have x6 : w2a.cell? ⟨Xa, 6, none⟩ = _ := (blk_cell hbox 6).trans rfl); (have xf6 : w2a.frozen? ⟨Xa, 6, none⟩ = false := blk_frozen hbox 6);  clear hg hbox hb)
  | (go_at_call 9; (have z_ := H0.out); clear z_; refine (decode_v _ (zeroV, 0, 7) (by kernel_rfl) (HE.out.below H0.out HE.out.pos) (Nat.le_of_ble_eq_true (by kernel_rfl))).mono ?_; rintro e w1a ⟨vS, vU, vSe, vSp, vCu, hret, hrow, hb⟩; (obtain ⟨A2, ac2, A3, ac3, A4, ac4, A5, ac5, A6, ac6, rfl, rfl, rfl, rfl, rfl⟩ := hrow.slices); (subst hret); (have H1a := Aside0.mk (H0.out.trans (hb.mono H0.out.size))); clear hrow hb))
 go_upto_region 8 with (first
  | ((with_reducible refine gate_store (t := 27) (p := 17) rfl ?_); refine store_event (t := 27) (p := 17) (v := ?vo_y) (w1 := (((((((w8.setCell ⟨Y, 0, none⟩ (.int .i64 4)).setCell ⟨Y, 1, none⟩ (.bool true)).setCell ⟨Y, 2, none⟩ (.slice (some ⟨w3e.heap.size, 0, none⟩) 2 2)).setCell ⟨Y, 3, none⟩ (.slice none 0 0)).setCell ⟨Y, 4, none⟩ (.slice (some ⟨w3e.heap.size + 1 + 1, 0, none⟩) 1 1)).setCell ⟨Y, 5, none⟩ (.slice (some ⟨w3e.heap.size + 1 + 1 + 1 + 1, 0, none⟩) 1 1)).setCell ⟨Y, 6, none⟩ (.slice (some ⟨w3e.heap.size + 1 + 1 + 1 + 1 + 1 + 1, 0, none⟩) 1 1))) ?hg ?ho ?hn ?hr ?_; (case ho => rfl); (case hg => rfl); (case hn => rfl); (case hr => first | (go_simp; done) | (go_simp; rfl)); intro w9 hw; (have h7 := set7 (base := Y) (u0 := .int .i64 4) (u1 := .bool true) (u2 := .slice (some ⟨w3e.heap.size, 0, none⟩) 2 2) (u3 := .slice none 0 0) (u4 := .slice (some ⟨w3e.heap.size + 1 + 1, 0, none⟩) 1 1) (u5 := .slice (some ⟨w3e.heap.size + 1 + 1 + 1 + 1, 0, none⟩) 1 1) (u6 := .slice (some ⟨w3e.heap.size + 1 + 1 + 1 + 1 + 1 + 1, 0, none⟩) 1 1) HY.out.2.1 (Nat.le_refl _)); (dsimp only at h7); (rw [← hw] at h7); (have hL := lits w3e); (have hb9 : Below (L7 w3e).heap.size (L7 w3e) w9 := HY.out.2.2.2.2.trans (by rw [HY.out.2.2.2.1]; exact h7.2.2)); (have H9 := Aside0.mk (H3e.out.trans ((hL.1.trans (hb9.mono hL.1.size)).mono H3e.out.size))); (have HC9 : Aside0 (Kd.C (Kd.int .i64) w9 (some ⟨w3e.heap.size, 0, none⟩) 2 [1, -1] ∧ Kd.C (Kd.slice 3 (Kd.int .i64)) w9 (some ⟨w3e.heap.size + 1 + 1, 0, none⟩) 1 [[3]] ∧ Kd.C k41 w9 (some ⟨w3e.heap.size + 1 + 1 + 1 + 1, 0, none⟩) 1 ySp ∧ Kd.C k43 w9 (some ⟨w3e.heap.size + 1 + 1 + 1 + 1 + 1 + 1, 0, none⟩) 1 yCu) := ⟨Kd.C_below hL.2.1 hb9, Kd.C_below hL.2.2.1 hb9, Kd.C_below hL.2.2.2.1 hb9, Kd.C_below hL.2.2.2.2 hb9⟩); (have HY9 := Aside0.mk h7.1); clear hw h7 hL hb9; clear x0 xf0 x1 xf1 x2 xf2 x3 xf3 x4 xf4 x5 xf5 x6 xf6)
  | ((with_reducible refine gate_dst (N := 17) rfl ?_); (try (refine gate_guard (by rfl) ?_; dsimp only)); refine box_event ?hg (N := 17) ?hd (cs := #[.int .i64 0, .bool false, .slice none 0 0, .slice none 0 0, .slice none 0 0, .slice none 0 0, .slice none 0 0]) (t := 27) ?hr ?_; (case hd => rfl); (case hg => rfl); (case hr => first | (go_simp; done) | (go_simp; rfl)); intro Y hgY w8 hboxY hbY; (have hL := lits w3e); (have HY : Aside0 (Below w3e.heap.size w3e w8 ∧ w8.heap[Y]? = some (.cells #[.int .i64 0, .bool false, .slice none 0 0, .slice none 0 0, .slice none 0 0, .slice none 0 0, .slice none 0 0] 27 (0, 0)) ∧ w3e.heap.size ≤ Y ∧ (L7 w3e).heap.size = Y ∧ Below (L7 w3e).heap.size (L7 w3e) w8) := ⟨hL.1.trans (hbY.mono hL.1.size), hboxY, by rw [hgY]; exact hL.1.size, hgY.symm, hbY⟩); (have x0 : w8.cell? ⟨Y, 0, none⟩ = _ := (blk_cell hboxY 0).trans rfl); (have xf0 : w8.frozen? ⟨Y, 0, none⟩ = false := blk_frozen hboxY 0); (have x1 : w8.cell? ⟨Y, 1, none⟩ = _ := (blk_cell hboxY 1).trans rfl); (have xf1 : w8.frozen? ⟨Y, 1, none⟩ = false := blk_frozen hboxY 1); (have x2 : w8.cell? ⟨Y, 2, none⟩ = _ := (blk_cell hboxY 2).trans rfl); (have xf2 : w8.frozen? ⟨Y, 2, none⟩ = false := blk_frozen hboxY 2); (have x3 : w8.cell? ⟨Y, 3, none⟩ = _ := (blk_cell hboxY 3).trans rfl); (have xf3 : w8.frozen? ⟨Y, 3, none⟩ = false := blk_frozen hboxY 3); (have x4 : w8.cell? ⟨Y, 4, none⟩ = _ := (blk_cell hboxY 4).trans rfl); (have xf4 : w8.frozen? ⟨Y, 4, none⟩ = false := blk_frozen hboxY 4); (have x5 : w8.cell? ⟨Y, 5, none⟩ = _ := (blk_cell hboxY 5).trans rfl); (have xf5 : w8.frozen? ⟨Y, 5, none⟩ = false := blk_frozen hboxY 5); (have x6 : w8.cell? ⟨Y, 6, none⟩ = _ := (blk_cell hboxY 6).trans rfl); (have xf6 : w8.frozen? ⟨Y, 6, none⟩ = false := blk_frozen hboxY 6);  clear hL hgY hboxY hbY))
 have H9a := Aside0.mk H9.out
 simp only [List.append_eq, List.cons_append, List.nil_append]
 go_wp2_with (first
  | (go_at_call 11; (have z_ := HB13.out); clear z_; refine (chk_six _).mono ?_; rintro e w14 ⟨rfl, hb⟩; (have HB14 := Aside0.mk (HB13.out.trans (hb.mono HB13.out.size))); clear hb)
  | (go_at_call 11; (have z_ := HB12.out); clear z_; refine (chk_y _ _ _ _ _ (Kd.C_below HC9.out.1 HB12.out) (Kd.C_below HC9.out.2.1 HB12.out) (Kd.C_below HC9.out.2.2.1 HB12.out) (Kd.C_below HC9.out.2.2.2 HB12.out)).mono ?_; rintro e w13 ⟨rfl, hb⟩; (have HB13 := Aside0.mk (HB12.out.trans (hb.mono HB12.out.size))); clear y0 y1 y2 y3 y4 y5 y6; clear hb)
  | (go_at_call 13; (have z_ := HB11.out); clear z_; refine (enc_y _ _ _ _ _ (Kd.C_below HC9.out.1 HB11.out) (Kd.C_below HC9.out.2.1 HB11.out) (Kd.C_below HC9.out.2.2.1 HB11.out) (Kd.C_below HC9.out.2.2.2 HB11.out)).mono ?_; rintro e w12 ⟨rfl, hb⟩; (have HB12 := Aside0.mk (HB11.out.trans (hb.mono HB11.out.size))); clear y0 y1 y2 y3 y4 y5 y6; (have hy := blk_below HY9.out HB12.out); (have y0 : w12.cell? ⟨Y, 0, none⟩ = _ := (blk_cell hy 0).trans rfl); (have y1 : w12.cell? ⟨Y, 1, none⟩ = _ := (blk_cell hy 1).trans rfl); (have y2 : w12.cell? ⟨Y, 2, none⟩ = _ := (blk_cell hy 2).trans rfl); (have y3 : w12.cell? ⟨Y, 3, none⟩ = _ := (blk_cell hy 3).trans rfl); (have y4 : w12.cell? ⟨Y, 4, none⟩ = _ := (blk_cell hy 4).trans rfl); (have y5 : w12.cell? ⟨Y, 5, none⟩ = _ := (blk_cell hy 5).trans rfl); (have y6 : w12.cell? ⟨Y, 6, none⟩ = _ := (blk_cell hy 6).trans rfl);  clear hy hb)
  | (go_at_call 15; refine (same_zero _ _ _ _ _ _ _ _ _ _ _).mono ?_; rintro e w11 ⟨rfl, hb⟩; (have HB11 := Aside0.mk (HB10.out.trans (hb.mono HB10.out.size))); (have hy := blk_below HY9.out HB11.out); (have y0 : w11.cell? ⟨Y, 0, none⟩ = _ := (blk_cell hy 0).trans rfl); (have y1 : w11.cell? ⟨Y, 1, none⟩ = _ := (blk_cell hy 1).trans rfl); (have y2 : w11.cell? ⟨Y, 2, none⟩ = _ := (blk_cell hy 2).trans rfl); (have y3 : w11.cell? ⟨Y, 3, none⟩ = _ := (blk_cell hy 3).trans rfl); (have y4 : w11.cell? ⟨Y, 4, none⟩ = _ := (blk_cell hy 4).trans rfl); (have y5 : w11.cell? ⟨Y, 5, none⟩ = _ := (blk_cell hy 5).trans rfl); (have y6 : w11.cell? ⟨Y, 6, none⟩ = _ := (blk_cell hy 6).trans rfl);  clear hy hb; clear x0 x1 x2 x3 x4 x5 x6)
  | (go_at_call 13; refine (enc_zero _).mono ?_; rintro e w10 ⟨rfl, hb⟩; (have HB10 := Aside0.mk hb); (have hx := blk_below (blk_below HX.out.1 H9a.out) hb); (have x0 : w10.cell? ⟨Xa, 0, none⟩ = _ := (blk_cell hx 0).trans rfl); (have x1 : w10.cell? ⟨Xa, 1, none⟩ = _ := (blk_cell hx 1).trans rfl); (have x2 : w10.cell? ⟨Xa, 2, none⟩ = _ := (blk_cell hx 2).trans rfl); (have x3 : w10.cell? ⟨Xa, 3, none⟩ = _ := (blk_cell hx 3).trans rfl); (have x4 : w10.cell? ⟨Xa, 4, none⟩ = _ := (blk_cell hx 4).trans rfl); (have x5 : w10.cell? ⟨Xa, 5, none⟩ = _ := (blk_cell hx 5).trans rfl); (have x6 : w10.cell? ⟨Xa, 6, none⟩ = _ := (blk_cell hx 6).trans rfl);  clear hx hb))
 go_ret
 exact ⟨rfl, H3a.out.trans ((H9.out.trans (HB14.out.mono H9.out.size)).mono H3a.out.size)⟩
def greenwoodlaw23_fixed.f : Option Bool := some true
theorem greenwoodlaw23_fixed.calls (r : Bool) (w : World) (hEV : EV w) (h : greenwoodlaw23_fixed.f = some r) : Calls Tryd.prog 8 #[] w fun e w' => e = .returned (.bool r) ∧ Below w.heap.size w w' := by
 obtain rfl : true = r := Option.some.inj h
 exact fixed_c hEV
end Go.Proofs.YtlekdhejgdfnpaaDoor.P
/- Layer 23: AnswerBack: its value. -/
namespace Go.Proofs.YtlekdhejgdfnpaaDoor.P
open Go.RowKit Go.Proofs.YtlekdhejgdfnpaaDoorW.PrintWords Go.Proofs.YtlekdhejgdfnpaaDoorW.PrintLast Go.Proofs.YtlekdhejgdfnpaaDoorW.PrintMore
open Wr
set_option linter.unusedVariables false
set_option linter.unusedSimpArgs false

theorem check_ok {kd : Int} {no : Bool} {S U : List Int} {Se : List (List Int)} {Sp : List Spl} {Cu : List Cut} (h4 : Se.length ≤ 1000000) (h5 : Sp.length ≤ 1000000) (h6 : Cu.length ≤ 1000000) (h : okV (mkV kd no S U Se Sp Cu) = true) :
 Ev (fun k => answer_Check.f k kd no S U Se Sp Cu) 0 := by
 have := check_ev kd no S U Se Sp Cu h4 h5 h6
 have e : okAns kd S U Se Sp Cu = true := h
 rwa [if_pos e] at this
theorem check_no {kd : Int} {no : Bool} {S U : List Int} {Se : List (List Int)} {Sp : List Spl} {Cu : List Cut} (h4 : Se.length ≤ 1000000) (h5 : Sp.length ≤ 1000000) (h6 : Cu.length ≤ 1000000) (h : okV (mkV kd no S U Se Sp Cu) = false) :
 Ev (fun k => answer_Check.f k kd no S U Se Sp Cu) 230 := by
 have := check_ev kd no S U Se Sp Cu h4 h5 h6
 have e : okAns kd S U Se Sp Cu = false := h
 rw [e, if_neg (by decide)] at this
 exact this
theorem enc_len {x : AnsV} (h : okV x = true) (h1 : x.no ≤ 1) : (encV x).length ≤ 1000000 := by
 obtain ⟨-, h2, h3, ⟨h4, h5⟩, ⟨h6, h7⟩, h8, h9⟩ := (ok_iff x).1 h
 dsimp only at *
 have lLE : ∀ l, LP l → (LE l).length ≤ 520 := fun l hl => by
  have a := encN_len (l.length : Int)
  have b := flat_len' encI 8 l (fun x _ => encI_len x)
  have := hl.1
  unfold LE
  rw [List.length_append]; omega
 have lSE : ∀ y ∈ x.Sp, (SE y).length ≤ 1560 := fun y hy => by
  obtain ⟨q0, q1, q2⟩ := h7 y hy
  have a0 := lLE _ q0
  have a1 := lLE _ q1
  have a2 := lLE _ q2
  unfold SE
  rw [List.length_append, List.length_append]; omega
 have lCE : ∀ y ∈ x.Cu, (CE y).length ≤ 528 := fun y hy => by
  have a0 := lLE _ (h9 y hy).1
  have a1 := encI_len y.f1
  unfold CE
  rw [List.length_append]; omega
 have b1 := encN_len x.kd
 have b2 := encN_len x.no
 have b3 := lLE _ h2
 have b4 := lLE _ h3
 have b5 := encN_len (x.Se.length : Int)
 have b6 := flat_len' LE 520 x.Se (fun l hl => lLE l (h5 l hl))
 have b7 := encN_len (x.Sp.length : Int)
 have b8 := flat_len' SE 1560 x.Sp lSE
 have b9 := encN_len (x.Cu.length : Int)
 have b10 := flat_len' CE 528 x.Cu lCE
 unfold encV ofV e0 e1 e2 e3 e4 e5 cntE
 simp only [List.length_append]
 omega
end Go.Proofs.YtlekdhejgdfnpaaDoor.P
namespace Go.Proofs.YtlekdhejgdfnpaaDoor.P
open Go.RowKit Go.Proofs.YtlekdhejgdfnpaaDoorW.PrintWords Go.Proofs.YtlekdhejgdfnpaaDoorW.PrintLast Go.Proofs.YtlekdhejgdfnpaaDoorW.PrintMore
attribute [local go_sem] max2_int min2_int max_two min_two max_three min_three max_four min_four   -- for this text's walks alone
set_option linter.unusedVariables false
set_option linter.unusedSimpArgs false

/-! ### greenwoodlaw23_AnswerCut: function 5 -/
mutual
def greenwoodlaw23_AnswerCut.j0 : Nat → Int → Bool → Int → Bool → List Int → List Int → List (List Int) → List (S41) → List (S43) → Option (Bool)
 | 0, _, _, _, _, _, _, _, _, _ => none
 | k + 1, x1, x23, x386000, x386001, x386002, x386003, x386004, x386005, x386006 => if x23 = true then ((greenwoodlaw23_fixed.f).bind fun t389 => (some t389)) else ((answer_Encode.f x386000 x386001 x386002 x386003 x386004 x386005 x386006).bind fun t390 => (if t390.size + 1 ≤ 9223372036854775807 then ((answer_Decode.f (t390 ++ (⟨#[0]⟩ : ByteArray))).bind fun bt391 => (if x1 < 0 then (greenwoodlaw23_AnswerCut.j1 k x1 t390 bt391.2.2.2.2.2.2.2.1 bt391.2.2.2.2.2.2.2.2 true) else (greenwoodlaw23_AnswerCut.j1 k x1 t390 bt391.2.2.2.2.2.2.2.1 bt391.2.2.2.2.2.2.2.2 (decide (x1 ≥ (t390.size : Int)))))) else (none)))
def greenwoodlaw23_AnswerCut.j1 : Nat → Int → ByteArray → Int → Int → Bool → Option (Bool)
 | 0, _, _, _, _, _ => none
 | k + 1, x1, x5, x7, x8, x41 => if x41 = true then (if x7 = 13 then (some (x8 == (x5.size : Int))) else (some false)) else (if 0 ≤ x1 then (if x1 ≤ (x5.size : Int) then ((answer_Decode.f (x5.extract 0 (x1 : Int).toNat)).bind fun bt411 => (if bt411.2.2.2.2.2.2.2.1 = 10 then (if bt411.2.2.2.2.2.2.2.2 ≤ x1 then ((greenwoodref23_Same.f k bt411.1 bt411.2.1 bt411.2.2.1 bt411.2.2.2.1 bt411.2.2.2.2.1 bt411.2.2.2.2.2.1 bt411.2.2.2.2.2.2.1 0 false ([] : List Int) ([] : List Int) ([] : List (List Int)) ([] : List (S41)) ([] : List (S43))).bind fun t431 => (if t431 = true then (if x7 = 13 then (some (x8 == (x5.size : Int))) else (some false)) else (some false))) else (some false)) else (some false))) else (none)) else (none))
end
def greenwoodlaw23_AnswerCut.f (k : Nat) (a0_0 : Int) (a0_1 : Bool) (l0_2 : List Int) (l0_3 : List Int) (l0_4 : List (List Int)) (l0_5 : List (S41)) (l0_6 : List (S43)) (a1 : Int) : Option (Bool) := (greenwoodlaw23_fixed.f).bind fun t386 => (if t386 = true then ((greenwoodref23_Small.f k a0_0 a0_1 l0_2 l0_3 l0_4 l0_5 l0_6).bind fun t387 => (if t387 = true then ((answer_Check.f k a0_0 a0_1 l0_2 l0_3 l0_4 l0_5 l0_6).bind fun t388 => (greenwoodlaw23_AnswerCut.j0 k a1 (t388 != 0) a0_0 a0_1 l0_2 l0_3 l0_4 l0_5 l0_6)) else (greenwoodlaw23_AnswerCut.j0 k a1 true a0_0 a0_1 l0_2 l0_3 l0_4 l0_5 l0_6))) else (greenwoodlaw23_AnswerCut.j0 k a1 true a0_0 a0_1 l0_2 l0_3 l0_4 l0_5 l0_6))
set_option maxHeartbeats 8000000 in
set_option maxRecDepth 100000 in
theorem greenwoodlaw23_AnswerCut.callsT (k : Nat) (a0_0 : Int) (a0_1 : Bool) (A0_2 : Option Addr) (c0_2 : Nat) (l0_2 : List Int) (A0_3 : Option Addr) (c0_3 : Nat) (l0_3 : List Int) (A0_4 : Option Addr) (c0_4 : Nat) (l0_4 : List (List Int)) (A0_5 : Option Addr) (c0_5 : Nat) (l0_5 : List (S41)) (A0_6 : Option Addr) (c0_6 : Nat) (l0_6 : List (S43)) (a1 : Int) (r : Bool) (w : World) (hEV : EV w) (hr0_2 : Kd.C (Kd.int .i64) w A0_2 l0_2.length l0_2) (hc0_2 : l0_2.length ≤ c0_2) (hr0_3 : Kd.C (Kd.int .i64) w A0_3 l0_3.length l0_3) (hc0_3 : l0_3.length ≤ c0_3) (hr0_4 : Kd.C (Kd.slice 3 (Kd.int .i64)) w A0_4 l0_4.length l0_4) (hc0_4 : l0_4.length ≤ c0_4) (hr0_5 : Kd.C k41 w A0_5 l0_5.length l0_5) (hc0_5 : l0_5.length ≤ c0_5) (hr0_6 : Kd.C k43 w A0_6 l0_6.length l0_6) (hc0_6 : l0_6.length ≤ c0_6) (hrT : r = true) (h : greenwoodlaw23_AnswerCut.f k a0_0 a0_1 l0_2 l0_3 l0_4 l0_5 l0_6 a1 = some r) :
 Calls Tryd.prog 5 #[.agg #[.int .i64 a0_0, .bool a0_1, .slice A0_2 l0_2.length c0_2, .slice A0_3 l0_3.length c0_3, .slice A0_4 l0_4.length c0_4, .slice A0_5 l0_5.length c0_5, .slice A0_6 l0_6.length c0_6], .int .i64 a1] w fun e w' => e = .returned (.bool r) ∧ Below w.heap.size w w' := by
 have HEV := Aside0.mk hEV
 clear hEV
 have hu27 := Tryd.underlying27
 have HR0_2 := Aside0.mk hr0_2
 have HC0_2 := Aside0.mk hc0_2
 clear hr0_2 hc0_2
 have HR0_3 := Aside0.mk hr0_3
 have HC0_3 := Aside0.mk hc0_3
 clear hr0_3 hc0_3
 have HR0_4 := Aside0.mk hr0_4
 have HC0_4 := Aside0.mk hc0_4
 clear hr0_4 hc0_4
 have HR0_5 := Aside0.mk hr0_5
 have HC0_5 := Aside0.mk hc0_5
 clear hr0_5 hc0_5
 have HR0_6 := Aside0.mk hr0_6
 have HC0_6 := Aside0.mk hc0_6
 clear hr0_6 hc0_6
 have HB := Aside0.mk (Below.refl w.heap.size w)
 have H : ((greenwoodlaw23_fixed.f).bind fun t386 => (if t386 = true then ((greenwoodref23_Small.f k a0_0 a0_1 l0_2 l0_3 l0_4 l0_5 l0_6).bind fun t387 => (if t387 = true then ((answer_Check.f k a0_0 a0_1 l0_2 l0_3 l0_4 l0_5 l0_6).bind fun t388 => (greenwoodlaw23_AnswerCut.j0 k a1 (t388 != 0) a0_0 a0_1 l0_2 l0_3 l0_4 l0_5 l0_6)) else (greenwoodlaw23_AnswerCut.j0 k a1 true a0_0 a0_1 l0_2 l0_3 l0_4 l0_5 l0_6))) else (greenwoodlaw23_AnswerCut.j0 k a1 true a0_0 a0_1 l0_2 l0_3 l0_4 l0_5 l0_6))) = some r := h
 clear h
 have HC3 := Aside0.mk H
 clear H
 go_enter Tryd.func5, Tryd.ntmps5
 go_upto_region 1 with (first | ((with_reducible refine gate_dst (N := 2) rfl ?_); (try (refine gate_guard (by rfl) ?_; dsimp only)); refine box_event ?hg (N := 2) ?hd (cs := #[.int .i64 a0_0, .bool a0_1, .slice A0_2 l0_2.length c0_2, .slice A0_3 l0_3.length c0_3, .slice A0_4 l0_4.length c0_4, .slice A0_5 l0_5.length c0_5, .slice A0_6 l0_6.length c0_6]) (t := 27) ?hr ?_; (case hd => rfl); (case hg => rfl); (case hr => first | (go_simp; done) | (go_simp; rfl)); intro gb385 hg w4 hbox hb; have n0_ := Aside0.mk (below_step (by repeat (first | (with_reducible first | exact HB.out | apply below_alloc | apply pw_below_drewN | apply below_drew1) | exact HB.out)) hb); have n1_ := Aside0.mk (hbox); have n2_ := Aside0.mk ((by rw [hg]; exact (below_size (by repeat (first | (with_reducible first | exact HB.out | apply below_alloc | apply pw_below_drewN | apply below_drew1) | exact HB.out))) : w.heap.size ≤ gb385)); have n3_ := Aside0.mk ((by rw [hg]; exact (below_size (by repeat (first | (with_reducible first | exact HB.out | apply below_alloc | apply pw_below_drewN | apply below_drew1) | exact HB.out))) : w.heap.size ≤ gb385)); clear HB; have HB := n0_; have BK385 := n1_; have GW385 := n2_; have GE385 := n3_; clear n0_ n1_ n2_ n3_; clear hb hbox hg))
 (try simp only [Act.put, List.setIfInBounds_toArray, List.set_cons_zero, List.set_cons_succ])
 go_cut [23] (fun v23 wc => ∃ (kq : Nat) (x23_2 : Bool), v23 = .bool x23_2 ∧ Aside0 (greenwoodlaw23_AnswerCut.j0 kq a1 x23_2 a0_0 a0_1 l0_2 l0_3 l0_4 l0_5 l0_6 = some r) ∧ Aside0 (kq ≤ k) ∧ Aside0 (wc.heap[gb385]? = some (.cells #[.int .i64 a0_0, .bool a0_1, (.slice A0_2 l0_2.length c0_2), (.slice A0_3 l0_3.length c0_3), (.slice A0_4 l0_4.length c0_4), (.slice A0_5 l0_5.length c0_5), (.slice A0_6 l0_6.length c0_6)] 27 (0, 0))) ∧ Aside0 (Below w.heap.size w wc))
 case first =>
  have H := HC3.out
  clear HC3
  replace H := Option.bind_eq_some_iff.mp H
  obtain ⟨t386, A50, H⟩ := H
  replace H : (if t386 = true then ((greenwoodref23_Small.f k a0_0 a0_1 l0_2 l0_3 l0_4 l0_5 l0_6).bind fun t387 => (if t387 = true then ((answer_Check.f k a0_0 a0_1 l0_2 l0_3 l0_4 l0_5 l0_6).bind fun t388 => (greenwoodlaw23_AnswerCut.j0 k a1 (t388 != 0) a0_0 a0_1 l0_2 l0_3 l0_4 l0_5 l0_6)) else (greenwoodlaw23_AnswerCut.j0 k a1 true a0_0 a0_1 l0_2 l0_3 l0_4 l0_5 l0_6))) else (greenwoodlaw23_AnswerCut.j0 k a1 true a0_0 a0_1 l0_2 l0_3 l0_4 l0_5 l0_6)) = some r := H
  have A5 := Aside0.mk A50
  clear A50
  by_cases c6 : t386 = true
  ·subst c6
   have H1 : ((greenwoodref23_Small.f k a0_0 a0_1 l0_2 l0_3 l0_4 l0_5 l0_6).bind fun t387 => (if t387 = true then ((answer_Check.f k a0_0 a0_1 l0_2 l0_3 l0_4 l0_5 l0_6).bind fun t388 => (greenwoodlaw23_AnswerCut.j0 k a1 (t388 != 0) a0_0 a0_1 l0_2 l0_3 l0_4 l0_5 l0_6)) else (greenwoodlaw23_AnswerCut.j0 k a1 true a0_0 a0_1 l0_2 l0_3 l0_4 l0_5 l0_6))) = some r := by rw [if_pos rfl] at H; exact H
   clear H
   have H := H1
   clear H1
   replace H := Option.bind_eq_some_iff.mp H
   obtain ⟨t387, A70, H⟩ := H
   replace H : (if t387 = true then ((answer_Check.f k a0_0 a0_1 l0_2 l0_3 l0_4 l0_5 l0_6).bind fun t388 => (greenwoodlaw23_AnswerCut.j0 k a1 (t388 != 0) a0_0 a0_1 l0_2 l0_3 l0_4 l0_5 l0_6)) else (greenwoodlaw23_AnswerCut.j0 k a1 true a0_0 a0_1 l0_2 l0_3 l0_4 l0_5 l0_6)) = some r := H
   have A7 := Aside0.mk A70
   clear A70
   by_cases c8 : t387 = true
   ·subst c8
    have H1 : ((answer_Check.f k a0_0 a0_1 l0_2 l0_3 l0_4 l0_5 l0_6).bind fun t388 => (greenwoodlaw23_AnswerCut.j0 k a1 (t388 != 0) a0_0 a0_1 l0_2 l0_3 l0_4 l0_5 l0_6)) = some r := by rw [if_pos rfl] at H; exact H
    clear H
    have H := H1
    clear H1
    replace H := Option.bind_eq_some_iff.mp H
    obtain ⟨t388, A90, H⟩ := H
    replace H : (greenwoodlaw23_AnswerCut.j0 k a1 (t388 != 0) a0_0 a0_1 l0_2 l0_3 l0_4 l0_5 l0_6) = some r := H
    have A9 := Aside0.mk A90
    clear A90
    have H' := Aside0.mk H
    clear H
    go_wp2_with (first | ((with_reducible refine gate_callee (f := 8) rfl ?_); refine goesL_ (some 12) rfl rfl Tryd.func8 (by kernel_rfl) rfl #[] rfl (by (try simp only [List.map_toArray, List.map_cons, List.map_nil]); first | done | rfl | (simp only [List.length_drop, List.length_take]; rfl)) ?_; (with_reducible refine (greenwoodlaw23_fixed.calls  true _ ?side1 A5.out).mono ?_); (case side1 => exact EV.below HEV.out (by repeat (first | (with_reducible first | exact HB.out | apply below_alloc | apply pw_below_drewN | apply below_drew1 | refine below_set ?_ GE385.out) | exact HB.out)) (EV.pos HEV.out)); rintro e w10 ⟨rfl, hb⟩; refine ⟨_, rfl, ?_⟩; have n0_ := Aside0.mk (blk_below (g := gb385) (o := .cells #[.int .i64 a0_0, .bool a0_1, .slice A0_2 l0_2.length c0_2, .slice A0_3 l0_3.length c0_3, .slice A0_4 l0_4.length c0_4, .slice A0_5 l0_5.length c0_5, .slice A0_6 l0_6.length c0_6] 27 (0, 0)) (by (with_reducible repeat (first | refine blk_drewN ?_ _ | refine blk_drew ?_ | refine blk_alloc ?_ _)); exact BK385.out) hb); have n1_ := Aside0.mk (below_step (by repeat (first | (with_reducible first | exact HB.out | apply below_alloc | apply pw_below_drewN | apply below_drew1 | refine below_set ?_ GE385.out) | exact HB.out)) hb); clear BK385; clear HB; have BK385 := n0_; have HB := n1_; clear n0_ n1_; (try clear hb); (try clear hb2); (try clear hk); (try clear hi); have hcz11_0 : w10.cell? ⟨gb385, 0, none⟩ = some (.int .i64 a0_0) := (blk_cell BK385.out 0).trans rfl; have hcz11_1 : w10.cell? ⟨gb385, 1, none⟩ = some (.bool a0_1) := (blk_cell BK385.out 1).trans rfl; have hcz11_2 : w10.cell? ⟨gb385, 2, none⟩ = some (.slice A0_2 l0_2.length c0_2) := (blk_cell BK385.out 2).trans rfl; have hcz11_3 : w10.cell? ⟨gb385, 3, none⟩ = some (.slice A0_3 l0_3.length c0_3) := (blk_cell BK385.out 3).trans rfl; have hcz11_4 : w10.cell? ⟨gb385, 4, none⟩ = some (.slice A0_4 l0_4.length c0_4) := (blk_cell BK385.out 4).trans rfl; have hcz11_5 : w10.cell? ⟨gb385, 5, none⟩ = some (.slice A0_5 l0_5.length c0_5) := (blk_cell BK385.out 5).trans rfl; have hcz11_6 : w10.cell? ⟨gb385, 6, none⟩ = some (.slice A0_6 l0_6.length c0_6) := (blk_cell BK385.out 6).trans rfl; have hfz11_0 := blk_frozen BK385.out 0; have hfz11_1 := blk_frozen BK385.out 1; have hfz11_2 := blk_frozen BK385.out 2; have hfz11_3 := blk_frozen BK385.out 3; have hfz11_4 := blk_frozen BK385.out 4; have hfz11_5 := blk_frozen BK385.out 5; have hfz11_6 := blk_frozen BK385.out 6) | (go_at_call 7; (with_reducible refine (greenwoodref23_Small.calls k a0_0 a0_1 _ _ l0_2 _ _ l0_3 _ _ l0_4 _ _ l0_5 _ _ l0_6 true _ ?side1 ?side2 ?side3 ?side4 ?side5 ?side6 ?side7 ?side8 ?side9 ?side10 A7.out).mono ?_); (case side1 => repeat (first | exact (Kd.C_below HR0_2.out HB.out) | (with_reducible refine Kd.C_alloc ?_ _) | (with_reducible refine Kd.C_drewN ?_ _) | (with_reducible refine Kd.C_drew ?_))); (case side2 => exact HC0_2.out); (case side3 => repeat (first | exact (Kd.C_below HR0_3.out HB.out) | (with_reducible refine Kd.C_alloc ?_ _) | (with_reducible refine Kd.C_drewN ?_ _) | (with_reducible refine Kd.C_drew ?_))); (case side4 => exact HC0_3.out); (case side5 => repeat (first | exact (Kd.C_below HR0_4.out HB.out) | (with_reducible refine Kd.C_alloc ?_ _) | (with_reducible refine Kd.C_drewN ?_ _) | (with_reducible refine Kd.C_drew ?_))); (case side6 => exact HC0_4.out); (case side7 => repeat (first | exact (Kd.C_below HR0_5.out HB.out) | (with_reducible refine Kd.C_alloc ?_ _) | (with_reducible refine Kd.C_drewN ?_ _) | (with_reducible refine Kd.C_drew ?_))); (case side8 => exact HC0_5.out); (case side9 => repeat (first | exact (Kd.C_below HR0_6.out HB.out) | (with_reducible refine Kd.C_alloc ?_ _) | (with_reducible refine Kd.C_drewN ?_ _) | (with_reducible refine Kd.C_drew ?_))); (case side10 => exact HC0_6.out); rintro e w12 ⟨rfl, hb⟩; have n0_ := Aside0.mk (blk_below (g := gb385) (o := .cells #[.int .i64 a0_0, .bool a0_1, .slice A0_2 l0_2.length c0_2, .slice A0_3 l0_3.length c0_3, .slice A0_4 l0_4.length c0_4, .slice A0_5 l0_5.length c0_5, .slice A0_6 l0_6.length c0_6] 27 (0, 0)) (by (with_reducible repeat (first | refine blk_drewN ?_ _ | refine blk_drew ?_ | refine blk_alloc ?_ _)); exact BK385.out) hb); have n1_ := Aside0.mk (below_step (by repeat (first | (with_reducible first | exact HB.out | apply below_alloc | apply pw_below_drewN | apply below_drew1 | refine below_set ?_ GE385.out) | exact HB.out)) hb); clear BK385; clear HB; have BK385 := n0_; have HB := n1_; clear n0_ n1_; (try clear hb); (try clear hb2); (try clear hk); (try clear hi); have hcz13_0 : w12.cell? ⟨gb385, 0, none⟩ = some (.int .i64 a0_0) := (blk_cell BK385.out 0).trans rfl; have hcz13_1 : w12.cell? ⟨gb385, 1, none⟩ = some (.bool a0_1) := (blk_cell BK385.out 1).trans rfl; have hcz13_2 : w12.cell? ⟨gb385, 2, none⟩ = some (.slice A0_2 l0_2.length c0_2) := (blk_cell BK385.out 2).trans rfl; have hcz13_3 : w12.cell? ⟨gb385, 3, none⟩ = some (.slice A0_3 l0_3.length c0_3) := (blk_cell BK385.out 3).trans rfl; have hcz13_4 : w12.cell? ⟨gb385, 4, none⟩ = some (.slice A0_4 l0_4.length c0_4) := (blk_cell BK385.out 4).trans rfl; have hcz13_5 : w12.cell? ⟨gb385, 5, none⟩ = some (.slice A0_5 l0_5.length c0_5) := (blk_cell BK385.out 5).trans rfl; have hcz13_6 : w12.cell? ⟨gb385, 6, none⟩ = some (.slice A0_6 l0_6.length c0_6) := (blk_cell BK385.out 6).trans rfl; have hfz13_0 := blk_frozen BK385.out 0; have hfz13_1 := blk_frozen BK385.out 1; have hfz13_2 := blk_frozen BK385.out 2; have hfz13_3 := blk_frozen BK385.out 3; have hfz13_4 := blk_frozen BK385.out 4; have hfz13_5 := blk_frozen BK385.out 5; have hfz13_6 := blk_frozen BK385.out 6) | (go_at_call 11; (with_reducible refine (answer_Check.calls k a0_0 a0_1 (fun k_ => k_ < w.heap.size) _ _ l0_2 (fun k_ => k_ < w.heap.size) _ _ l0_3 (fun k_ => k_ < w.heap.size) _ _ l0_4 (fun k_ => k_ < w.heap.size) _ _ l0_5 (fun k_ => k_ < w.heap.size) _ _ l0_6 t388 _ ?side1 ?side2 ?side3 ?side4 ?side5 A9.out).mono ?_); (case side1 => exact Kd.V_mk HC0_2.out (Kd.F_below (Kd.C_F (Kd.heap_int .i64) HR0_2.out) (by repeat (first | (with_reducible first | exact HB.out | apply below_alloc | apply pw_below_drewN | apply below_drew1 | refine below_set ?_ GE385.out) | exact HB.out)))); (case side2 => exact Kd.V_mk HC0_3.out (Kd.F_below (Kd.C_F (Kd.heap_int .i64) HR0_3.out) (by repeat (first | (with_reducible first | exact HB.out | apply below_alloc | apply pw_below_drewN | apply below_drew1 | refine below_set ?_ GE385.out) | exact HB.out)))); (case side3 => exact Kd.V_mk HC0_4.out (Kd.F_below (Kd.C_F (Kd.heap_slice 3 (Kd.heap_int .i64)) HR0_4.out) (by repeat (first | (with_reducible first | exact HB.out | apply below_alloc | apply pw_below_drewN | apply below_drew1 | refine below_set ?_ GE385.out) | exact HB.out)))); (case side4 => exact Kd.V_mk HC0_5.out (Kd.F_below (Kd.C_F k41_heap HR0_5.out) (by repeat (first | (with_reducible first | exact HB.out | apply below_alloc | apply pw_below_drewN | apply below_drew1 | refine below_set ?_ GE385.out) | exact HB.out)))); (case side5 => exact Kd.V_mk HC0_6.out (Kd.F_below (Kd.C_F k43_heap HR0_6.out) (by repeat (first | (with_reducible first | exact HB.out | apply below_alloc | apply pw_below_drewN | apply below_drew1 | refine below_set ?_ GE385.out) | exact HB.out)))); rintro e w14 ⟨rfl, hb⟩; have n0_ := Aside0.mk (blk_below (g := gb385) (o := .cells #[.int .i64 a0_0, .bool a0_1, .slice A0_2 l0_2.length c0_2, .slice A0_3 l0_3.length c0_3, .slice A0_4 l0_4.length c0_4, .slice A0_5 l0_5.length c0_5, .slice A0_6 l0_6.length c0_6] 27 (0, 0)) (by (with_reducible repeat (first | refine blk_drewN ?_ _ | refine blk_drew ?_ | refine blk_alloc ?_ _)); exact BK385.out) hb); have n1_ := Aside0.mk (below_step (by repeat (first | (with_reducible first | exact HB.out | apply below_alloc | apply pw_below_drewN | apply below_drew1 | refine below_set ?_ GE385.out) | exact HB.out)) hb); clear BK385; clear HB; have BK385 := n0_; have HB := n1_; clear n0_ n1_; (try clear hb); (try clear hb2); (try clear hk); (try clear hi)))
    go_meet
    case rel => exact ⟨_, ((t388 != 0)), (by first | rfl | (simp; done) | (simp [*]; done)), H', ⟨by first | omega | exact Nat.le_refl _⟩, ⟨by (with_reducible repeat (first | refine blk_drewN ?_ _ | refine blk_drew ?_ | refine blk_alloc ?_ _)); exact BK385.out⟩, ⟨by repeat (first | (with_reducible first | exact HB.out | apply below_alloc | apply pw_below_drewN | apply below_drew1 | refine below_set ?_ GE385.out) | exact HB.out)⟩⟩
   ·replace c8 := Bool.eq_false_iff.mpr c8
    subst c8
    have H1 : (greenwoodlaw23_AnswerCut.j0 k a1 true a0_0 a0_1 l0_2 l0_3 l0_4 l0_5 l0_6) = some r := by rw [if_neg (show ¬ (false = true) by decide)] at H; exact H
    clear H
    have H := H1
    clear H1
    have H' := Aside0.mk H
    clear H
    go_wp2_with (first | ((with_reducible refine gate_callee (f := 8) rfl ?_); refine goesL_ (some 12) rfl rfl Tryd.func8 (by kernel_rfl) rfl #[] rfl (by (try simp only [List.map_toArray, List.map_cons, List.map_nil]); first | done | rfl | (simp only [List.length_drop, List.length_take]; rfl)) ?_; (with_reducible refine (greenwoodlaw23_fixed.calls  true _ ?side1 A5.out).mono ?_); (case side1 => exact EV.below HEV.out (by repeat (first | (with_reducible first | exact HB.out | apply below_alloc | apply pw_below_drewN | apply below_drew1 | refine below_set ?_ GE385.out) | exact HB.out)) (EV.pos HEV.out)); rintro e w15 ⟨rfl, hb⟩; refine ⟨_, rfl, ?_⟩; have n0_ := Aside0.mk (blk_below (g := gb385) (o := .cells #[.int .i64 a0_0, .bool a0_1, .slice A0_2 l0_2.length c0_2, .slice A0_3 l0_3.length c0_3, .slice A0_4 l0_4.length c0_4, .slice A0_5 l0_5.length c0_5, .slice A0_6 l0_6.length c0_6] 27 (0, 0)) (by (with_reducible repeat (first | refine blk_drewN ?_ _ | refine blk_drew ?_ | refine blk_alloc ?_ _)); exact BK385.out) hb); have n1_ := Aside0.mk (below_step (by repeat (first | (with_reducible first | exact HB.out | apply below_alloc | apply pw_below_drewN | apply below_drew1 | refine below_set ?_ GE385.out) | exact HB.out)) hb); clear BK385; clear HB; have BK385 := n0_; have HB := n1_; clear n0_ n1_; (try clear hb); (try clear hb2); (try clear hk); (try clear hi); have hcz16_0 : w15.cell? ⟨gb385, 0, none⟩ = some (.int .i64 a0_0) := (blk_cell BK385.out 0).trans rfl; have hcz16_1 : w15.cell? ⟨gb385, 1, none⟩ = some (.bool a0_1) := (blk_cell BK385.out 1).trans rfl; have hcz16_2 : w15.cell? ⟨gb385, 2, none⟩ = some (.slice A0_2 l0_2.length c0_2) := (blk_cell BK385.out 2).trans rfl; have hcz16_3 : w15.cell? ⟨gb385, 3, none⟩ = some (.slice A0_3 l0_3.length c0_3) := (blk_cell BK385.out 3).trans rfl; have hcz16_4 : w15.cell? ⟨gb385, 4, none⟩ = some (.slice A0_4 l0_4.length c0_4) := (blk_cell BK385.out 4).trans rfl; have hcz16_5 : w15.cell? ⟨gb385, 5, none⟩ = some (.slice A0_5 l0_5.length c0_5) := (blk_cell BK385.out 5).trans rfl; have hcz16_6 : w15.cell? ⟨gb385, 6, none⟩ = some (.slice A0_6 l0_6.length c0_6) := (blk_cell BK385.out 6).trans rfl; have hfz16_0 := blk_frozen BK385.out 0; have hfz16_1 := blk_frozen BK385.out 1; have hfz16_2 := blk_frozen BK385.out 2; have hfz16_3 := blk_frozen BK385.out 3; have hfz16_4 := blk_frozen BK385.out 4; have hfz16_5 := blk_frozen BK385.out 5; have hfz16_6 := blk_frozen BK385.out 6) | (go_at_call 7; (with_reducible refine (greenwoodref23_Small.calls k a0_0 a0_1 _ _ l0_2 _ _ l0_3 _ _ l0_4 _ _ l0_5 _ _ l0_6 false _ ?side1 ?side2 ?side3 ?side4 ?side5 ?side6 ?side7 ?side8 ?side9 ?side10 A7.out).mono ?_); (case side1 => repeat (first | exact (Kd.C_below HR0_2.out HB.out) | (with_reducible refine Kd.C_alloc ?_ _) | (with_reducible refine Kd.C_drewN ?_ _) | (with_reducible refine Kd.C_drew ?_))); (case side2 => exact HC0_2.out); (case side3 => repeat (first | exact (Kd.C_below HR0_3.out HB.out) | (with_reducible refine Kd.C_alloc ?_ _) | (with_reducible refine Kd.C_drewN ?_ _) | (with_reducible refine Kd.C_drew ?_))); (case side4 => exact HC0_3.out); (case side5 => repeat (first | exact (Kd.C_below HR0_4.out HB.out) | (with_reducible refine Kd.C_alloc ?_ _) | (with_reducible refine Kd.C_drewN ?_ _) | (with_reducible refine Kd.C_drew ?_))); (case side6 => exact HC0_4.out); (case side7 => repeat (first | exact (Kd.C_below HR0_5.out HB.out) | (with_reducible refine Kd.C_alloc ?_ _) | (with_reducible refine Kd.C_drewN ?_ _) | (with_reducible refine Kd.C_drew ?_))); (case side8 => exact HC0_5.out); (case side9 => repeat (first | exact (Kd.C_below HR0_6.out HB.out) | (with_reducible refine Kd.C_alloc ?_ _) | (with_reducible refine Kd.C_drewN ?_ _) | (with_reducible refine Kd.C_drew ?_))); (case side10 => exact HC0_6.out); rintro e w17 ⟨rfl, hb⟩; have n0_ := Aside0.mk (blk_below (g := gb385) (o := .cells #[.int .i64 a0_0, .bool a0_1, .slice A0_2 l0_2.length c0_2, .slice A0_3 l0_3.length c0_3, .slice A0_4 l0_4.length c0_4, .slice A0_5 l0_5.length c0_5, .slice A0_6 l0_6.length c0_6] 27 (0, 0)) (by (with_reducible repeat (first | refine blk_drewN ?_ _ | refine blk_drew ?_ | refine blk_alloc ?_ _)); exact BK385.out) hb); have n1_ := Aside0.mk (below_step (by repeat (first | (with_reducible first | exact HB.out | apply below_alloc | apply pw_below_drewN | apply below_drew1 | refine below_set ?_ GE385.out) | exact HB.out)) hb); clear BK385; clear HB; have BK385 := n0_; have HB := n1_; clear n0_ n1_; (try clear hb); (try clear hb2); (try clear hk); (try clear hi)))
    go_meet
    case rel => exact ⟨_, (true), (by first | rfl | (simp; done) | (simp [*]; done)), H', ⟨by first | omega | exact Nat.le_refl _⟩, ⟨by (with_reducible repeat (first | refine blk_drewN ?_ _ | refine blk_drew ?_ | refine blk_alloc ?_ _)); exact BK385.out⟩, ⟨by repeat (first | (with_reducible first | exact HB.out | apply below_alloc | apply pw_below_drewN | apply below_drew1 | refine below_set ?_ GE385.out) | exact HB.out)⟩⟩
  ·replace c6 := Bool.eq_false_iff.mpr c6
   subst c6
   have H1 : (greenwoodlaw23_AnswerCut.j0 k a1 true a0_0 a0_1 l0_2 l0_3 l0_4 l0_5 l0_6) = some r := by rw [if_neg (show ¬ (false = true) by decide)] at H; exact H
   clear H
   have H := H1
   clear H1
   have H' := Aside0.mk H
   clear H
   go_wp2_with (first | ((with_reducible refine gate_callee (f := 8) rfl ?_); refine goesL_ (some 12) rfl rfl Tryd.func8 (by kernel_rfl) rfl #[] rfl (by (try simp only [List.map_toArray, List.map_cons, List.map_nil]); first | done | rfl | (simp only [List.length_drop, List.length_take]; rfl)) ?_; (with_reducible refine (greenwoodlaw23_fixed.calls  false _ ?side1 A5.out).mono ?_); (case side1 => exact EV.below HEV.out (by repeat (first | (with_reducible first | exact HB.out | apply below_alloc | apply pw_below_drewN | apply below_drew1 | refine below_set ?_ GE385.out) | exact HB.out)) (EV.pos HEV.out)); rintro e w18 ⟨rfl, hb⟩; refine ⟨_, rfl, ?_⟩; have n0_ := Aside0.mk (blk_below (g := gb385) (o := .cells #[.int .i64 a0_0, .bool a0_1, .slice A0_2 l0_2.length c0_2, .slice A0_3 l0_3.length c0_3, .slice A0_4 l0_4.length c0_4, .slice A0_5 l0_5.length c0_5, .slice A0_6 l0_6.length c0_6] 27 (0, 0)) (by (with_reducible repeat (first | refine blk_drewN ?_ _ | refine blk_drew ?_ | refine blk_alloc ?_ _)); exact BK385.out) hb); have n1_ := Aside0.mk (below_step (by repeat (first | (with_reducible first | exact HB.out | apply below_alloc | apply pw_below_drewN | apply below_drew1 | refine below_set ?_ GE385.out) | exact HB.out)) hb); clear BK385; clear HB; have BK385 := n0_; have HB := n1_; clear n0_ n1_; (try clear hb); (try clear hb2); (try clear hk); (try clear hi)))
   go_meet
   case rel => exact ⟨_, (true), (by first | rfl | (simp; done) | (simp [*]; done)), H', ⟨by first | omega | exact Nat.le_refl _⟩, ⟨by (with_reducible repeat (first | refine blk_drewN ?_ _ | refine blk_drew ?_ | refine blk_alloc ?_ _)); exact BK385.out⟩, ⟨by repeat (first | (with_reducible first | exact HB.out | apply below_alloc | apply pw_below_drewN | apply below_drew1 | refine below_set ?_ GE385.out) | exact HB.out)⟩⟩
 case rest =>
  clear HC3
  try clear p2
  try clear c5
  try clear c6
  try clear c8
  try clear hcz11_0
  try clear hcz11_1
  try clear hcz11_2
  try clear hcz11_3
  try clear hcz11_4
  try clear hcz11_5
  try clear hcz11_6
  try clear hcz13_0
  try clear hcz13_1
  try clear hcz13_2
  try clear hcz13_3
  try clear hcz13_4
  try clear hcz13_5
  try clear hcz13_6
  try clear hcz16_0
  try clear hcz16_1
  try clear hcz16_2
  try clear hcz16_3
  try clear hcz16_4
  try clear hcz16_5
  try clear hcz16_6
  try clear hfz11_0
  try clear hfz11_1
  try clear hfz11_2
  try clear hfz11_3
  try clear hfz11_4
  try clear hfz11_5
  try clear hfz11_6
  try clear hfz13_0
  try clear hfz13_1
  try clear hfz13_2
  try clear hfz13_3
  try clear hfz13_4
  try clear hfz13_5
  try clear hfz13_6
  try clear hfz16_0
  try clear hfz16_1
  try clear hfz16_2
  try clear hfz16_3
  try clear hfz16_4
  try clear hfz16_5
  try clear hfz16_6
  obtain ⟨kq, x23_2, rfl, HA, HJ2, BK385, HB⟩ := hcut
  cases kq with
  | zero => exact absurd HA.out (by simp [greenwoodlaw23_AnswerCut.j0])
  | succ kj2 =>
   have H := HA.out
   clear HA
   simp only [greenwoodlaw23_AnswerCut.j0] at H
   by_cases c19 : x23_2 = true
   ·subst c19
    have H1 : ((greenwoodlaw23_fixed.f).bind fun t389 => (some t389)) = some r := by rw [if_pos rfl] at H; exact H
    clear H
    have H := H1
    clear H1
    replace H := Option.bind_eq_some_iff.mp H
    obtain ⟨t389, A200, H⟩ := H
    replace H : (some t389) = some r := H
    have A20 := Aside0.mk A200
    clear A200
    obtain rfl := Option.some.inj H
    go_wp2_with (first | ((with_reducible refine gate_callee (f := 8) rfl ?_); refine goesL_ (some 24) rfl rfl Tryd.func8 (by kernel_rfl) rfl #[] rfl (by (try simp only [List.map_toArray, List.map_cons, List.map_nil]); first | done | rfl | (simp only [List.length_drop, List.length_take]; rfl)) ?_; (with_reducible refine (greenwoodlaw23_fixed.calls  t389 _ ?side1 A20.out).mono ?_); (case side1 => exact EV.below HEV.out (by repeat (first | (with_reducible first | exact HB.out | apply below_alloc | apply pw_below_drewN | apply below_drew1 | refine below_set ?_ GE385.out) | exact HB.out)) (EV.pos HEV.out)); rintro e w21 ⟨rfl, hb⟩; refine ⟨_, rfl, ?_⟩; have n0_ := Aside0.mk (blk_below (g := gb385) (o := .cells #[.int .i64 a0_0, .bool a0_1, .slice A0_2 l0_2.length c0_2, .slice A0_3 l0_3.length c0_3, .slice A0_4 l0_4.length c0_4, .slice A0_5 l0_5.length c0_5, .slice A0_6 l0_6.length c0_6] 27 (0, 0)) (by (with_reducible repeat (first | refine blk_drewN ?_ _ | refine blk_drew ?_ | refine blk_alloc ?_ _)); exact BK385.out) hb); have n1_ := Aside0.mk (below_step (by repeat (first | (with_reducible first | exact HB.out | apply below_alloc | apply pw_below_drewN | apply below_drew1 | refine below_set ?_ GE385.out) | exact HB.out)) hb); clear BK385; clear HB; have BK385 := n0_; have HB := n1_; clear n0_ n1_; (try clear hb); (try clear hb2); (try clear hk); (try clear hi)))
    go_ret
    exact ⟨by first | rfl | (simp [errW_none, errW_some] <;> rfl) | (simp [*, errW_none, errW_some] <;> rfl), by repeat (first | (with_reducible first | exact HB.out | apply below_alloc | apply pw_below_drewN | apply below_drew1 | refine below_set ?_ GE385.out) | exact HB.out)⟩
   ·replace c19 := Bool.eq_false_iff.mpr c19
    subst c19
    have H1 : ((answer_Encode.f a0_0 a0_1 l0_2 l0_3 l0_4 l0_5 l0_6).bind fun t390 => (if t390.size + 1 ≤ 9223372036854775807 then ((answer_Decode.f (t390 ++ (⟨#[0]⟩ : ByteArray))).bind fun bt391 => (if a1 < 0 then (greenwoodlaw23_AnswerCut.j1 kj2 a1 t390 bt391.2.2.2.2.2.2.2.1 bt391.2.2.2.2.2.2.2.2 true) else (greenwoodlaw23_AnswerCut.j1 kj2 a1 t390 bt391.2.2.2.2.2.2.2.1 bt391.2.2.2.2.2.2.2.2 (decide (a1 ≥ (t390.size : Int)))))) else (none))) = some r := by rw [if_neg (show ¬ (false = true) by decide)] at H; exact H
    clear H
    have H := H1
    clear H1
    replace H := Option.bind_eq_some_iff.mp H
    obtain ⟨t390, A220, H⟩ := H
    replace H : (if t390.size + 1 ≤ 9223372036854775807 then ((answer_Decode.f (t390 ++ (⟨#[0]⟩ : ByteArray))).bind fun bt391 => (if a1 < 0 then (greenwoodlaw23_AnswerCut.j1 kj2 a1 t390 bt391.2.2.2.2.2.2.2.1 bt391.2.2.2.2.2.2.2.2 true) else (greenwoodlaw23_AnswerCut.j1 kj2 a1 t390 bt391.2.2.2.2.2.2.2.1 bt391.2.2.2.2.2.2.2.2 (decide (a1 ≥ (t390.size : Int)))))) else (none)) = some r := H
    have A22 := Aside0.mk A220
    clear A220
    by_cases c23 : t390.size + 1 ≤ 9223372036854775807
    ·rw [if_pos c23] at H
     have c23b0 := eq_true c23
     have c23b1 : decide (t390.size + 1 ≤ 9223372036854775807) = true := decide_eq_true c23
     try have c23b2 : (9223372036854775807 < t390.size + 1) = False := eq_false (Nat.not_lt.2 c23)
     replace H := Option.bind_eq_some_iff.mp H
     obtain ⟨⟨t391, t392, t393, t396, t399, t402, t405, t408, t409⟩, A240, H⟩ := H
     replace H : (if a1 < 0 then (greenwoodlaw23_AnswerCut.j1 kj2 a1 t390 t408 t409 true) else (greenwoodlaw23_AnswerCut.j1 kj2 a1 t390 t408 t409 (decide (a1 ≥ (t390.size : Int))))) = some r := H
     have A24 := Aside0.mk A240
     clear A240
     have HC25 := Aside0.mk H
     clear H
     have hcz26_0 : wc.cell? ⟨gb385, 0, none⟩ = some (.int .i64 a0_0) := (blk_cell BK385.out 0).trans rfl
     have hcz26_1 : wc.cell? ⟨gb385, 1, none⟩ = some (.bool a0_1) := (blk_cell BK385.out 1).trans rfl
     have hcz26_2 : wc.cell? ⟨gb385, 2, none⟩ = some (.slice A0_2 l0_2.length c0_2) := (blk_cell BK385.out 2).trans rfl
     have hcz26_3 : wc.cell? ⟨gb385, 3, none⟩ = some (.slice A0_3 l0_3.length c0_3) := (blk_cell BK385.out 3).trans rfl
     have hcz26_4 : wc.cell? ⟨gb385, 4, none⟩ = some (.slice A0_4 l0_4.length c0_4) := (blk_cell BK385.out 4).trans rfl
     have hcz26_5 : wc.cell? ⟨gb385, 5, none⟩ = some (.slice A0_5 l0_5.length c0_5) := (blk_cell BK385.out 5).trans rfl
     have hcz26_6 : wc.cell? ⟨gb385, 6, none⟩ = some (.slice A0_6 l0_6.length c0_6) := (blk_cell BK385.out 6).trans rfl
     have hfz26_0 := blk_frozen BK385.out 0
     have hfz26_1 := blk_frozen BK385.out 1
     have hfz26_2 := blk_frozen BK385.out 2
     have hfz26_3 := blk_frozen BK385.out 3
     have hfz26_4 := blk_frozen BK385.out 4
     have hfz26_5 := blk_frozen BK385.out 5
     have hfz26_6 := blk_frozen BK385.out 6
     go_upto_region 5 with (first | ((with_reducible refine gate_callee (f := 13) rfl ?_); refine goesL_ (some 26) rfl rfl Tryd.func13 (by kernel_rfl) rfl #[.agg #[.int .i64 a0_0, .bool a0_1, .slice A0_2 l0_2.length c0_2, .slice A0_3 l0_3.length c0_3, .slice A0_4 l0_4.length c0_4, .slice A0_5 l0_5.length c0_5, .slice A0_6 l0_6.length c0_6]] rfl (by (try simp only [List.map_toArray, List.map_cons, List.map_nil]); first | done | rfl | (simp only [List.length_drop, List.length_take]; rfl)) ?_; (with_reducible refine (answer_Encode.calls a0_0 a0_1 _ _ l0_2 _ _ l0_3 _ _ l0_4 _ _ l0_5 _ _ l0_6 t390 _ ?side1 ?side2 ?side3 ?side4 ?side5 ?side6 ?side7 ?side8 ?side9 ?side10 A22.out).mono ?_); (case side1 => repeat (first | exact (Kd.C_below HR0_2.out HB.out) | (with_reducible refine Kd.C_alloc ?_ _) | (with_reducible refine Kd.C_drewN ?_ _) | (with_reducible refine Kd.C_drew ?_))); (case side2 => exact HC0_2.out); (case side3 => repeat (first | exact (Kd.C_below HR0_3.out HB.out) | (with_reducible refine Kd.C_alloc ?_ _) | (with_reducible refine Kd.C_drewN ?_ _) | (with_reducible refine Kd.C_drew ?_))); (case side4 => exact HC0_3.out); (case side5 => repeat (first | exact (Kd.C_below HR0_4.out HB.out) | (with_reducible refine Kd.C_alloc ?_ _) | (with_reducible refine Kd.C_drewN ?_ _) | (with_reducible refine Kd.C_drew ?_))); (case side6 => exact HC0_4.out); (case side7 => repeat (first | exact (Kd.C_below HR0_5.out HB.out) | (with_reducible refine Kd.C_alloc ?_ _) | (with_reducible refine Kd.C_drewN ?_ _) | (with_reducible refine Kd.C_drew ?_))); (case side8 => exact HC0_5.out); (case side9 => repeat (first | exact (Kd.C_below HR0_6.out HB.out) | (with_reducible refine Kd.C_alloc ?_ _) | (with_reducible refine Kd.C_drewN ?_ _) | (with_reducible refine Kd.C_drew ?_))); (case side10 => exact HC0_6.out); rintro e w27 ⟨rfl, hb⟩; refine ⟨_, rfl, ?_⟩; have n0_ := Aside0.mk (blk_below (g := gb385) (o := .cells #[.int .i64 a0_0, .bool a0_1, .slice A0_2 l0_2.length c0_2, .slice A0_3 l0_3.length c0_3, .slice A0_4 l0_4.length c0_4, .slice A0_5 l0_5.length c0_5, .slice A0_6 l0_6.length c0_6] 27 (0, 0)) (by (with_reducible repeat (first | refine blk_drewN ?_ _ | refine blk_drew ?_ | refine blk_alloc ?_ _)); exact BK385.out) hb); have n1_ := Aside0.mk (below_step (by repeat (first | (with_reducible first | exact HB.out | apply below_alloc | apply pw_below_drewN | apply below_drew1 | refine below_set ?_ GE385.out) | exact HB.out)) hb); clear BK385; clear HB; have BK385 := n0_; have HB := n1_; clear n0_ n1_; (try clear hb); (try clear hb2); (try clear hk); (try clear hi)) | ((with_reducible refine gate_callee (f := 9) rfl ?_); refine goesL_ (some 30) rfl rfl Tryd.func9 (by kernel_rfl) rfl #[.string (t390 ++ (⟨#[0]⟩ : ByteArray))] rfl (by (try simp only [List.map_toArray, List.map_cons, List.map_nil]); first | done | rfl | (simp only [List.length_drop, List.length_take]; rfl)) ?_; (with_reducible refine (answer_Decode.calls (t390 ++ (⟨#[0]⟩ : ByteArray)) t391 t392 t393 t396 t399 t402 t405 t408 t409 _ ?side1 A24.out).mono ?_); (case side1 => exact EV.below HEV.out (by repeat (first | (with_reducible first | exact HB.out | apply below_alloc | apply pw_below_drewN | apply below_drew1 | refine below_set ?_ GE385.out) | exact HB.out)) (EV.pos HEV.out)); rintro e w28 ⟨v394, v397, v400, v403, v406, rfl, ho0, ho1, ho2, ho3, ho4, hb⟩; refine ⟨_, rfl, ?_⟩; have n0_ := Aside0.mk (Kd.R_lower ho0 (below_size (by repeat (first | (with_reducible first | exact HB.out | apply below_alloc | apply pw_below_drewN | apply below_drew1 | refine below_set ?_ GE385.out) | exact HB.out)))); have n1_ := Aside0.mk (Kd.R_lower ho1 (below_size (by repeat (first | (with_reducible first | exact HB.out | apply below_alloc | apply pw_below_drewN | apply below_drew1 | refine below_set ?_ GE385.out) | exact HB.out)))); have n2_ := Aside0.mk (Kd.S_lower ho2 (below_size (by repeat (first | (with_reducible first | exact HB.out | apply below_alloc | apply pw_below_drewN | apply below_drew1 | refine below_set ?_ GE385.out) | exact HB.out)))); have n3_ := Aside0.mk (Kd.S_lower ho3 (below_size (by repeat (first | (with_reducible first | exact HB.out | apply below_alloc | apply pw_below_drewN | apply below_drew1 | refine below_set ?_ GE385.out) | exact HB.out)))); have n4_ := Aside0.mk (Kd.S_lower ho4 (below_size (by repeat (first | (with_reducible first | exact HB.out | apply below_alloc | apply pw_below_drewN | apply below_drew1 | refine below_set ?_ GE385.out) | exact HB.out)))); have n5_ := Aside0.mk (blk_below (g := gb385) (o := .cells #[.int .i64 a0_0, .bool a0_1, .slice A0_2 l0_2.length c0_2, .slice A0_3 l0_3.length c0_3, .slice A0_4 l0_4.length c0_4, .slice A0_5 l0_5.length c0_5, .slice A0_6 l0_6.length c0_6] 27 (0, 0)) (by (with_reducible repeat (first | refine blk_drewN ?_ _ | refine blk_drew ?_ | refine blk_alloc ?_ _)); exact BK385.out) hb); have n6_ := Aside0.mk (below_step (by repeat (first | (with_reducible first | exact HB.out | apply below_alloc | apply pw_below_drewN | apply below_drew1 | refine below_set ?_ GE385.out) | exact HB.out)) hb); clear BK385; clear HB; have HO395 := n0_; have HO398 := n1_; have HO401 := n2_; have HO404 := n3_; have HO407 := n4_; have BK385 := n5_; have HB := n6_; clear n0_ n1_ n2_ n3_ n4_ n5_ n6_; (try clear hb); (try clear hb2); (try clear hk); (try clear hi); (try clear ho0); (try clear ho1); (try clear ho2); (try clear ho3); (try clear ho4)) | ((with_reducible refine gate_dst (N := 6) rfl ?_); (try (refine gate_guard (by rfl) ?_; dsimp only)); refine box_event ?hg (N := 6) ?hd (cs := #[.int .i64 0, .bool false, .slice none 0 0, .slice none 0 0, .slice none 0 0, .slice none 0 0, .slice none 0 0]) (t := 27) ?hr ?_; (case hd => rfl); (case hg => rfl); (case hr => first | (go_simp; done) | (go_simp; rfl)); intro gb410 hg w29 hbox hb; have n0_ := Aside0.mk (Kd.R_below (by (with_reducible repeat (first | apply Kd.R_alloc | apply Kd.R_drewN | apply Kd.R_drew)); exact HO395.out) hb); have n1_ := Aside0.mk (Kd.R_below (by (with_reducible repeat (first | apply Kd.R_alloc | apply Kd.R_drewN | apply Kd.R_drew)); exact HO398.out) hb); have n2_ := Aside0.mk (Kd.S_below (by (with_reducible repeat (first | apply Kd.S_alloc | apply Kd.S_drewN | apply Kd.S_drew)); exact HO401.out) hb); have n3_ := Aside0.mk (Kd.S_below (by (with_reducible repeat (first | apply Kd.S_alloc | apply Kd.S_drewN | apply Kd.S_drew)); exact HO404.out) hb); have n4_ := Aside0.mk (Kd.S_below (by (with_reducible repeat (first | apply Kd.S_alloc | apply Kd.S_drewN | apply Kd.S_drew)); exact HO407.out) hb); have n5_ := Aside0.mk (blk_below (g := gb385) (o := .cells #[.int .i64 a0_0, .bool a0_1, .slice A0_2 l0_2.length c0_2, .slice A0_3 l0_3.length c0_3, .slice A0_4 l0_4.length c0_4, .slice A0_5 l0_5.length c0_5, .slice A0_6 l0_6.length c0_6] 27 (0, 0)) (by (with_reducible repeat (first | refine blk_drewN ?_ _ | refine blk_drew ?_ | refine blk_alloc ?_ _)); exact BK385.out) hb); have n6_ := Aside0.mk (below_step (by repeat (first | (with_reducible first | exact HB.out | apply below_alloc | apply pw_below_drewN | apply below_drew1 | refine below_set ?_ GE385.out) | exact HB.out)) hb); have n7_ := Aside0.mk (hbox); have n8_ := Aside0.mk ((by rw [hg]; exact (below_size (by repeat (first | (with_reducible first | exact HB.out | apply below_alloc | apply pw_below_drewN | apply below_drew1 | refine below_set ?_ GE385.out) | exact HB.out))) : w.heap.size ≤ gb410)); have n9_ := Aside0.mk ((by rw [hg]; exact (below_size (by repeat (first | (with_reducible first | exact HB.out | apply below_alloc | apply pw_below_drewN | apply below_drew1 | refine below_set ?_ GE385.out) | exact HB.out))) : w.heap.size ≤ gb410)); have n10_ := Aside0.mk ((by rw [hg]; exact Nat.ne_of_lt (blk_lt (g := gb385) (o := .cells #[.int .i64 a0_0, .bool a0_1, .slice A0_2 l0_2.length c0_2, .slice A0_3 l0_3.length c0_3, .slice A0_4 l0_4.length c0_4, .slice A0_5 l0_5.length c0_5, .slice A0_6 l0_6.length c0_6] 27 (0, 0)) (by (with_reducible repeat (first | refine blk_drewN ?_ _ | refine blk_drew ?_ | refine blk_alloc ?_ _)); exact BK385.out)) : gb385 ≠ gb410)); have n11_ := Aside0.mk ((by rw [hg]; exact Nat.ne_of_gt (blk_lt (g := gb385) (o := .cells #[.int .i64 a0_0, .bool a0_1, .slice A0_2 l0_2.length c0_2, .slice A0_3 l0_3.length c0_3, .slice A0_4 l0_4.length c0_4, .slice A0_5 l0_5.length c0_5, .slice A0_6 l0_6.length c0_6] 27 (0, 0)) (by (with_reducible repeat (first | refine blk_drewN ?_ _ | refine blk_drew ?_ | refine blk_alloc ?_ _)); exact BK385.out)) : gb410 ≠ gb385)); clear HO395; clear HO398; clear HO401; clear HO404; clear HO407; clear BK385; clear HB; have HO395 := n0_; have HO398 := n1_; have HO401 := n2_; have HO404 := n3_; have HO407 := n4_; have BK385 := n5_; have HB := n6_; have BK410 := n7_; have GW410 := n8_; have GE410 := n9_; have NB385_410 := n10_; have NB410_385 := n11_; clear n0_ n1_ n2_ n3_ n4_ n5_ n6_ n7_ n8_ n9_ n10_ n11_; clear hb hbox hg; have hnb30 := NB410_385.out; have hnc30 := NB385_410.out; have hcz31_0 : w29.cell? ⟨gb410, 0, none⟩ = some (.int .i64 0) := (blk_cell BK410.out 0).trans rfl; have hcz31_1 : w29.cell? ⟨gb410, 1, none⟩ = some (.bool false) := (blk_cell BK410.out 1).trans rfl; have hcz31_2 : w29.cell? ⟨gb410, 2, none⟩ = some (.slice none 0 0) := (blk_cell BK410.out 2).trans rfl; have hcz31_3 : w29.cell? ⟨gb410, 3, none⟩ = some (.slice none 0 0) := (blk_cell BK410.out 3).trans rfl; have hcz31_4 : w29.cell? ⟨gb410, 4, none⟩ = some (.slice none 0 0) := (blk_cell BK410.out 4).trans rfl; have hcz31_5 : w29.cell? ⟨gb410, 5, none⟩ = some (.slice none 0 0) := (blk_cell BK410.out 5).trans rfl; have hcz31_6 : w29.cell? ⟨gb410, 6, none⟩ = some (.slice none 0 0) := (blk_cell BK410.out 6).trans rfl; have hfz31_0 := blk_frozen BK410.out 0; have hfz31_1 := blk_frozen BK410.out 1; have hfz31_2 := blk_frozen BK410.out 2; have hfz31_3 := blk_frozen BK410.out 3; have hfz31_4 := blk_frozen BK410.out 4; have hfz31_5 := blk_frozen BK410.out 5; have hfz31_6 := blk_frozen BK410.out 6; obtain ⟨Ao32, co32, eo32⟩ := Kd.R_slice HO395.out; subst eo32; obtain ⟨Ao33, co33, eo33⟩ := Kd.R_slice HO398.out; subst eo33; obtain ⟨Ao34, co34, eo34⟩ := Kd.S_slice HO401.out; subst eo34; obtain ⟨Ao35, co35, eo35⟩ := Kd.S_slice HO404.out; subst eo35; obtain ⟨Ao36, co36, eo36⟩ := Kd.S_slice HO407.out; subst eo36))
     (try simp only [Act.put, List.setIfInBounds_toArray, List.set_cons_zero, List.set_cons_succ])
     go_cut [41] (fun v41 wc => ∃ (kq : Nat) (x41_24 : Bool), v41 = .bool x41_24 ∧ Aside0 (greenwoodlaw23_AnswerCut.j1 kq a1 t390 t408 t409 x41_24 = some r) ∧ Aside0 (kq ≤ kj2) ∧ Aside0 (Kd.R (Kd.int .i64) 3 wc w.heap.size (fun k_ => some k_ ≠ ((.slice Ao33 t396.length co33) : Value).ownBlock) (.slice Ao32 t393.length co32) t393) ∧ Aside0 (Kd.R (Kd.int .i64) 3 wc w.heap.size (fun k_ => some k_ ≠ ((.slice Ao32 t393.length co32) : Value).ownBlock) (.slice Ao33 t396.length co33) t396) ∧ Aside0 (Kd.S (Kd.slice 3 (Kd.int .i64)) 22 wc w.heap.size (fun k_ => some k_ ≠ ((.slice Ao32 t393.length co32) : Value).ownBlock ∧ some k_ ≠ ((.slice Ao33 t396.length co33) : Value).ownBlock) (.slice Ao34 t399.length co34) t399) ∧ Aside0 (Kd.S k41 41 wc w.heap.size (fun k_ => some k_ ≠ ((.slice Ao32 t393.length co32) : Value).ownBlock ∧ some k_ ≠ ((.slice Ao33 t396.length co33) : Value).ownBlock) (.slice Ao35 t402.length co35) t402) ∧ Aside0 (Kd.S k43 43 wc w.heap.size (fun k_ => some k_ ≠ ((.slice Ao32 t393.length co32) : Value).ownBlock ∧ some k_ ≠ ((.slice Ao33 t396.length co33) : Value).ownBlock) (.slice Ao36 t405.length co36) t405) ∧ Aside0 (wc.heap[gb385]? = some (.cells #[.int .i64 a0_0, .bool a0_1, (.slice A0_2 l0_2.length c0_2), (.slice A0_3 l0_3.length c0_3), (.slice A0_4 l0_4.length c0_4), (.slice A0_5 l0_5.length c0_5), (.slice A0_6 l0_6.length c0_6)] 27 (0, 0))) ∧ Aside0 (wc.heap[gb410]? = some (.cells #[.int .i64 t391, .bool t392, (.slice Ao32 t393.length co32), (.slice Ao33 t396.length co33), (.slice Ao34 t399.length co34), (.slice Ao35 t402.length co35), (.slice Ao36 t405.length co36)] 27 (0, 0))) ∧ Aside0 (Below w.heap.size w wc))
     case first =>
      have H := HC25.out
      clear HC25
      by_cases c37 : a1 < 0
      ·rw [if_pos c37] at H
       have c37b0 : decide (a1 < 0) = true := decide_eq_true c37
       clear c37
       (first | rw [c37b0] | (simp only [i64_w, i32_w]; rw [c37b0]) | skip)
       have H' := Aside0.mk H
       clear H
       go_wp2
       go_meet
       case rel => exact ⟨_, (true), (by first | rfl | (simp; done) | (simp [*]; done)), H', ⟨by have := HJ2.out; first | omega | exact Nat.le_refl _⟩, ⟨by (with_reducible repeat (first | apply Kd.R_alloc | apply Kd.R_drewN | apply Kd.R_drew)); exact Kd.R_mono (Kd.R_far (p := ⟨gb410, 6, none⟩) (Kd.R_far (p := ⟨gb410, 5, none⟩) (Kd.R_far (p := ⟨gb410, 4, none⟩) (Kd.R_far (p := ⟨gb410, 3, none⟩) (Kd.R_far (p := ⟨gb410, 2, none⟩) (Kd.R_far (p := ⟨gb410, 1, none⟩) (Kd.R_far (p := ⟨gb410, 0, none⟩) (Kd.R_types HO395.out BK410.out (by decide)) (fun _ hk => hk.2) (.int .i64 t391)) (fun _ hk => hk.2) (.bool t392)) (fun _ hk => hk.2) (.slice Ao32 t393.length co32)) (fun _ hk => hk.2) (.slice Ao33 t396.length co33)) (fun _ hk => hk.2) (.slice Ao34 t399.length co34)) (fun _ hk => hk.2) (.slice Ao35 t402.length co35)) (fun _ hk => hk.2) (.slice Ao36 t405.length co36)) (fun _ hk => hk.1)⟩, ⟨by (with_reducible repeat (first | apply Kd.R_alloc | apply Kd.R_drewN | apply Kd.R_drew)); exact Kd.R_mono (Kd.R_far (p := ⟨gb410, 6, none⟩) (Kd.R_far (p := ⟨gb410, 5, none⟩) (Kd.R_far (p := ⟨gb410, 4, none⟩) (Kd.R_far (p := ⟨gb410, 3, none⟩) (Kd.R_far (p := ⟨gb410, 2, none⟩) (Kd.R_far (p := ⟨gb410, 1, none⟩) (Kd.R_far (p := ⟨gb410, 0, none⟩) (Kd.R_types HO398.out BK410.out (by decide)) (fun _ hk => hk.2) (.int .i64 t391)) (fun _ hk => hk.2) (.bool t392)) (fun _ hk => hk.2) (.slice Ao32 t393.length co32)) (fun _ hk => hk.2) (.slice Ao33 t396.length co33)) (fun _ hk => hk.2) (.slice Ao34 t399.length co34)) (fun _ hk => hk.2) (.slice Ao35 t402.length co35)) (fun _ hk => hk.2) (.slice Ao36 t405.length co36)) (fun _ hk => hk.1)⟩, ⟨by (with_reducible repeat (first | apply Kd.S_alloc | apply Kd.S_drewN | apply Kd.S_drew)); exact Kd.S_mono (Kd.S_far (p := ⟨gb410, 6, none⟩) (Kd.S_far (p := ⟨gb410, 5, none⟩) (Kd.S_far (p := ⟨gb410, 4, none⟩) (Kd.S_far (p := ⟨gb410, 3, none⟩) (Kd.S_far (p := ⟨gb410, 2, none⟩) (Kd.S_far (p := ⟨gb410, 1, none⟩) (Kd.S_far (p := ⟨gb410, 0, none⟩) (Kd.S_types HO401.out BK410.out (by decide)) (fun _ hk => hk.2) (.int .i64 t391)) (fun _ hk => hk.2) (.bool t392)) (fun _ hk => hk.2) (.slice Ao32 t393.length co32)) (fun _ hk => hk.2) (.slice Ao33 t396.length co33)) (fun _ hk => hk.2) (.slice Ao34 t399.length co34)) (fun _ hk => hk.2) (.slice Ao35 t402.length co35)) (fun _ hk => hk.2) (.slice Ao36 t405.length co36)) (fun _ hk => ⟨hk.1.1, hk.1.2⟩)⟩, ⟨by (with_reducible repeat (first | apply Kd.S_alloc | apply Kd.S_drewN | apply Kd.S_drew)); exact Kd.S_mono (Kd.S_far (p := ⟨gb410, 6, none⟩) (Kd.S_far (p := ⟨gb410, 5, none⟩) (Kd.S_far (p := ⟨gb410, 4, none⟩) (Kd.S_far (p := ⟨gb410, 3, none⟩) (Kd.S_far (p := ⟨gb410, 2, none⟩) (Kd.S_far (p := ⟨gb410, 1, none⟩) (Kd.S_far (p := ⟨gb410, 0, none⟩) (Kd.S_types HO404.out BK410.out (by decide)) (fun _ hk => hk.2) (.int .i64 t391)) (fun _ hk => hk.2) (.bool t392)) (fun _ hk => hk.2) (.slice Ao32 t393.length co32)) (fun _ hk => hk.2) (.slice Ao33 t396.length co33)) (fun _ hk => hk.2) (.slice Ao34 t399.length co34)) (fun _ hk => hk.2) (.slice Ao35 t402.length co35)) (fun _ hk => hk.2) (.slice Ao36 t405.length co36)) (fun _ hk => ⟨hk.1.1, hk.1.2⟩)⟩, ⟨by (with_reducible repeat (first | apply Kd.S_alloc | apply Kd.S_drewN | apply Kd.S_drew)); exact Kd.S_mono (Kd.S_far (p := ⟨gb410, 6, none⟩) (Kd.S_far (p := ⟨gb410, 5, none⟩) (Kd.S_far (p := ⟨gb410, 4, none⟩) (Kd.S_far (p := ⟨gb410, 3, none⟩) (Kd.S_far (p := ⟨gb410, 2, none⟩) (Kd.S_far (p := ⟨gb410, 1, none⟩) (Kd.S_far (p := ⟨gb410, 0, none⟩) (Kd.S_types HO407.out BK410.out (by decide)) (fun _ hk => hk.2) (.int .i64 t391)) (fun _ hk => hk.2) (.bool t392)) (fun _ hk => hk.2) (.slice Ao32 t393.length co32)) (fun _ hk => hk.2) (.slice Ao33 t396.length co33)) (fun _ hk => hk.2) (.slice Ao34 t399.length co34)) (fun _ hk => hk.2) (.slice Ao35 t402.length co35)) (fun _ hk => hk.2) (.slice Ao36 t405.length co36)) (fun _ hk => ⟨hk.1.1, hk.1.2⟩)⟩, ⟨by (with_reducible repeat (first | refine blk_drewN ?_ _ | refine blk_drew ?_ | refine blk_alloc ?_ _)); refine blk_far ?_ NB385_410.out _; (with_reducible repeat (first | refine blk_drewN ?_ _ | refine blk_drew ?_ | refine blk_alloc ?_ _)); refine blk_far ?_ NB385_410.out _; (with_reducible repeat (first | refine blk_drewN ?_ _ | refine blk_drew ?_ | refine blk_alloc ?_ _)); refine blk_far ?_ NB385_410.out _; (with_reducible repeat (first | refine blk_drewN ?_ _ | refine blk_drew ?_ | refine blk_alloc ?_ _)); refine blk_far ?_ NB385_410.out _; (with_reducible repeat (first | refine blk_drewN ?_ _ | refine blk_drew ?_ | refine blk_alloc ?_ _)); refine blk_far ?_ NB385_410.out _; (with_reducible repeat (first | refine blk_drewN ?_ _ | refine blk_drew ?_ | refine blk_alloc ?_ _)); refine blk_far ?_ NB385_410.out _; (with_reducible repeat (first | refine blk_drewN ?_ _ | refine blk_drew ?_ | refine blk_alloc ?_ _)); refine blk_far ?_ NB385_410.out _; (with_reducible repeat (first | refine blk_drewN ?_ _ | refine blk_drew ?_ | refine blk_alloc ?_ _)); exact BK385.out⟩, ⟨by (with_reducible repeat (first | refine blk_drewN ?_ _ | refine blk_drew ?_ | refine blk_alloc ?_ _)); refine blk_put (cs := #[.int .i64 t391, .bool t392, .slice Ao32 t393.length co32, .slice Ao33 t396.length co33, .slice Ao34 t399.length co34, .slice Ao35 t402.length co35, .slice none 0 0]) ?_ 6 _ rfl; (with_reducible repeat (first | refine blk_drewN ?_ _ | refine blk_drew ?_ | refine blk_alloc ?_ _)); refine blk_put (cs := #[.int .i64 t391, .bool t392, .slice Ao32 t393.length co32, .slice Ao33 t396.length co33, .slice Ao34 t399.length co34, .slice none 0 0, .slice none 0 0]) ?_ 5 _ rfl; (with_reducible repeat (first | refine blk_drewN ?_ _ | refine blk_drew ?_ | refine blk_alloc ?_ _)); refine blk_put (cs := #[.int .i64 t391, .bool t392, .slice Ao32 t393.length co32, .slice Ao33 t396.length co33, .slice none 0 0, .slice none 0 0, .slice none 0 0]) ?_ 4 _ rfl; (with_reducible repeat (first | refine blk_drewN ?_ _ | refine blk_drew ?_ | refine blk_alloc ?_ _)); refine blk_put (cs := #[.int .i64 t391, .bool t392, .slice Ao32 t393.length co32, .slice none 0 0, .slice none 0 0, .slice none 0 0, .slice none 0 0]) ?_ 3 _ rfl; (with_reducible repeat (first | refine blk_drewN ?_ _ | refine blk_drew ?_ | refine blk_alloc ?_ _)); refine blk_put (cs := #[.int .i64 t391, .bool t392, .slice none 0 0, .slice none 0 0, .slice none 0 0, .slice none 0 0, .slice none 0 0]) ?_ 2 _ rfl; (with_reducible repeat (first | refine blk_drewN ?_ _ | refine blk_drew ?_ | refine blk_alloc ?_ _)); refine blk_put (cs := #[.int .i64 t391, .bool false, .slice none 0 0, .slice none 0 0, .slice none 0 0, .slice none 0 0, .slice none 0 0]) ?_ 1 _ rfl; (with_reducible repeat (first | refine blk_drewN ?_ _ | refine blk_drew ?_ | refine blk_alloc ?_ _)); refine blk_put (cs := #[.int .i64 0, .bool false, .slice none 0 0, .slice none 0 0, .slice none 0 0, .slice none 0 0, .slice none 0 0]) ?_ 0 _ rfl; (with_reducible repeat (first | refine blk_drewN ?_ _ | refine blk_drew ?_ | refine blk_alloc ?_ _)); exact BK410.out⟩, ⟨by repeat (first | (with_reducible first | exact HB.out | apply below_alloc | apply pw_below_drewN | apply below_drew1 | refine below_set ?_ GE385.out | refine below_set ?_ GE410.out) | exact HB.out)⟩⟩
      ·rw [if_neg c37] at H
       have c37b0 : decide (a1 < 0) = false := decide_eq_false c37
       clear c37
       (first | rw [c37b0] | (simp only [i64_w, i32_w]; rw [c37b0]) | skip)
       have H' := Aside0.mk H
       clear H
       go_wp2
       go_meet
       case rel => exact ⟨_, (decide (a1 ≥ (t390.size : Int))), (by first | rfl | (simp; done) | (simp [*]; done)), H', ⟨by have := HJ2.out; first | omega | exact Nat.le_refl _⟩, ⟨by (with_reducible repeat (first | apply Kd.R_alloc | apply Kd.R_drewN | apply Kd.R_drew)); exact Kd.R_mono (Kd.R_far (p := ⟨gb410, 6, none⟩) (Kd.R_far (p := ⟨gb410, 5, none⟩) (Kd.R_far (p := ⟨gb410, 4, none⟩) (Kd.R_far (p := ⟨gb410, 3, none⟩) (Kd.R_far (p := ⟨gb410, 2, none⟩) (Kd.R_far (p := ⟨gb410, 1, none⟩) (Kd.R_far (p := ⟨gb410, 0, none⟩) (Kd.R_types HO395.out BK410.out (by decide)) (fun _ hk => hk.2) (.int .i64 t391)) (fun _ hk => hk.2) (.bool t392)) (fun _ hk => hk.2) (.slice Ao32 t393.length co32)) (fun _ hk => hk.2) (.slice Ao33 t396.length co33)) (fun _ hk => hk.2) (.slice Ao34 t399.length co34)) (fun _ hk => hk.2) (.slice Ao35 t402.length co35)) (fun _ hk => hk.2) (.slice Ao36 t405.length co36)) (fun _ hk => hk.1)⟩, ⟨by (with_reducible repeat (first | apply Kd.R_alloc | apply Kd.R_drewN | apply Kd.R_drew)); exact Kd.R_mono (Kd.R_far (p := ⟨gb410, 6, none⟩) (Kd.R_far (p := ⟨gb410, 5, none⟩) (Kd.R_far (p := ⟨gb410, 4, none⟩) (Kd.R_far (p := ⟨gb410, 3, none⟩) (Kd.R_far (p := ⟨gb410, 2, none⟩) (Kd.R_far (p := ⟨gb410, 1, none⟩) (Kd.R_far (p := ⟨gb410, 0, none⟩) (Kd.R_types HO398.out BK410.out (by decide)) (fun _ hk => hk.2) (.int .i64 t391)) (fun _ hk => hk.2) (.bool t392)) (fun _ hk => hk.2) (.slice Ao32 t393.length co32)) (fun _ hk => hk.2) (.slice Ao33 t396.length co33)) (fun _ hk => hk.2) (.slice Ao34 t399.length co34)) (fun _ hk => hk.2) (.slice Ao35 t402.length co35)) (fun _ hk => hk.2) (.slice Ao36 t405.length co36)) (fun _ hk => hk.1)⟩, ⟨by (with_reducible repeat (first | apply Kd.S_alloc | apply Kd.S_drewN | apply Kd.S_drew)); exact Kd.S_mono (Kd.S_far (p := ⟨gb410, 6, none⟩) (Kd.S_far (p := ⟨gb410, 5, none⟩) (Kd.S_far (p := ⟨gb410, 4, none⟩) (Kd.S_far (p := ⟨gb410, 3, none⟩) (Kd.S_far (p := ⟨gb410, 2, none⟩) (Kd.S_far (p := ⟨gb410, 1, none⟩) (Kd.S_far (p := ⟨gb410, 0, none⟩) (Kd.S_types HO401.out BK410.out (by decide)) (fun _ hk => hk.2) (.int .i64 t391)) (fun _ hk => hk.2) (.bool t392)) (fun _ hk => hk.2) (.slice Ao32 t393.length co32)) (fun _ hk => hk.2) (.slice Ao33 t396.length co33)) (fun _ hk => hk.2) (.slice Ao34 t399.length co34)) (fun _ hk => hk.2) (.slice Ao35 t402.length co35)) (fun _ hk => hk.2) (.slice Ao36 t405.length co36)) (fun _ hk => ⟨hk.1.1, hk.1.2⟩)⟩, ⟨by (with_reducible repeat (first | apply Kd.S_alloc | apply Kd.S_drewN | apply Kd.S_drew)); exact Kd.S_mono (Kd.S_far (p := ⟨gb410, 6, none⟩) (Kd.S_far (p := ⟨gb410, 5, none⟩) (Kd.S_far (p := ⟨gb410, 4, none⟩) (Kd.S_far (p := ⟨gb410, 3, none⟩) (Kd.S_far (p := ⟨gb410, 2, none⟩) (Kd.S_far (p := ⟨gb410, 1, none⟩) (Kd.S_far (p := ⟨gb410, 0, none⟩) (Kd.S_types HO404.out BK410.out (by decide)) (fun _ hk => hk.2) (.int .i64 t391)) (fun _ hk => hk.2) (.bool t392)) (fun _ hk => hk.2) (.slice Ao32 t393.length co32)) (fun _ hk => hk.2) (.slice Ao33 t396.length co33)) (fun _ hk => hk.2) (.slice Ao34 t399.length co34)) (fun _ hk => hk.2) (.slice Ao35 t402.length co35)) (fun _ hk => hk.2) (.slice Ao36 t405.length co36)) (fun _ hk => ⟨hk.1.1, hk.1.2⟩)⟩, ⟨by (with_reducible repeat (first | apply Kd.S_alloc | apply Kd.S_drewN | apply Kd.S_drew)); exact Kd.S_mono (Kd.S_far (p := ⟨gb410, 6, none⟩) (Kd.S_far (p := ⟨gb410, 5, none⟩) (Kd.S_far (p := ⟨gb410, 4, none⟩) (Kd.S_far (p := ⟨gb410, 3, none⟩) (Kd.S_far (p := ⟨gb410, 2, none⟩) (Kd.S_far (p := ⟨gb410, 1, none⟩) (Kd.S_far (p := ⟨gb410, 0, none⟩) (Kd.S_types HO407.out BK410.out (by decide)) (fun _ hk => hk.2) (.int .i64 t391)) (fun _ hk => hk.2) (.bool t392)) (fun _ hk => hk.2) (.slice Ao32 t393.length co32)) (fun _ hk => hk.2) (.slice Ao33 t396.length co33)) (fun _ hk => hk.2) (.slice Ao34 t399.length co34)) (fun _ hk => hk.2) (.slice Ao35 t402.length co35)) (fun _ hk => hk.2) (.slice Ao36 t405.length co36)) (fun _ hk => ⟨hk.1.1, hk.1.2⟩)⟩, ⟨by (with_reducible repeat (first | refine blk_drewN ?_ _ | refine blk_drew ?_ | refine blk_alloc ?_ _)); refine blk_far ?_ NB385_410.out _; (with_reducible repeat (first | refine blk_drewN ?_ _ | refine blk_drew ?_ | refine blk_alloc ?_ _)); refine blk_far ?_ NB385_410.out _; (with_reducible repeat (first | refine blk_drewN ?_ _ | refine blk_drew ?_ | refine blk_alloc ?_ _)); refine blk_far ?_ NB385_410.out _; (with_reducible repeat (first | refine blk_drewN ?_ _ | refine blk_drew ?_ | refine blk_alloc ?_ _)); refine blk_far ?_ NB385_410.out _; (with_reducible repeat (first | refine blk_drewN ?_ _ | refine blk_drew ?_ | refine blk_alloc ?_ _)); refine blk_far ?_ NB385_410.out _; (with_reducible repeat (first | refine blk_drewN ?_ _ | refine blk_drew ?_ | refine blk_alloc ?_ _)); refine blk_far ?_ NB385_410.out _; (with_reducible repeat (first | refine blk_drewN ?_ _ | refine blk_drew ?_ | refine blk_alloc ?_ _)); refine blk_far ?_ NB385_410.out _; (with_reducible repeat (first | refine blk_drewN ?_ _ | refine blk_drew ?_ | refine blk_alloc ?_ _)); exact BK385.out⟩, ⟨by (with_reducible repeat (first | refine blk_drewN ?_ _ | refine blk_drew ?_ | refine blk_alloc ?_ _)); refine blk_put (cs := #[.int .i64 t391, .bool t392, .slice Ao32 t393.length co32, .slice Ao33 t396.length co33, .slice Ao34 t399.length co34, .slice Ao35 t402.length co35, .slice none 0 0]) ?_ 6 _ rfl; (with_reducible repeat (first | refine blk_drewN ?_ _ | refine blk_drew ?_ | refine blk_alloc ?_ _)); refine blk_put (cs := #[.int .i64 t391, .bool t392, .slice Ao32 t393.length co32, .slice Ao33 t396.length co33, .slice Ao34 t399.length co34, .slice none 0 0, .slice none 0 0]) ?_ 5 _ rfl; (with_reducible repeat (first | refine blk_drewN ?_ _ | refine blk_drew ?_ | refine blk_alloc ?_ _)); refine blk_put (cs := #[.int .i64 t391, .bool t392, .slice Ao32 t393.length co32, .slice Ao33 t396.length co33, .slice none 0 0, .slice none 0 0, .slice none 0 0]) ?_ 4 _ rfl; (with_reducible repeat (first | refine blk_drewN ?_ _ | refine blk_drew ?_ | refine blk_alloc ?_ _)); refine blk_put (cs := #[.int .i64 t391, .bool t392, .slice Ao32 t393.length co32, .slice none 0 0, .slice none 0 0, .slice none 0 0, .slice none 0 0]) ?_ 3 _ rfl; (with_reducible repeat (first | refine blk_drewN ?_ _ | refine blk_drew ?_ | refine blk_alloc ?_ _)); refine blk_put (cs := #[.int .i64 t391, .bool t392, .slice none 0 0, .slice none 0 0, .slice none 0 0, .slice none 0 0, .slice none 0 0]) ?_ 2 _ rfl; (with_reducible repeat (first | refine blk_drewN ?_ _ | refine blk_drew ?_ | refine blk_alloc ?_ _)); refine blk_put (cs := #[.int .i64 t391, .bool false, .slice none 0 0, .slice none 0 0, .slice none 0 0, .slice none 0 0, .slice none 0 0]) ?_ 1 _ rfl; (with_reducible repeat (first | refine blk_drewN ?_ _ | refine blk_drew ?_ | refine blk_alloc ?_ _)); refine blk_put (cs := #[.int .i64 0, .bool false, .slice none 0 0, .slice none 0 0, .slice none 0 0, .slice none 0 0, .slice none 0 0]) ?_ 0 _ rfl; (with_reducible repeat (first | refine blk_drewN ?_ _ | refine blk_drew ?_ | refine blk_alloc ?_ _)); exact BK410.out⟩, ⟨by repeat (first | (with_reducible first | exact HB.out | apply below_alloc | apply pw_below_drewN | apply below_drew1 | refine below_set ?_ GE385.out | refine below_set ?_ GE410.out) | exact HB.out)⟩⟩
     case rest =>
      clear HC25
      try clear c1
      try clear c2
      try clear p2
      try clear c3
      try clear c5
      try clear c6
      try clear c8
      try clear c9
      try clear c13
      try clear c19
      try clear c23
      try clear c23b0
      try clear c23b1
      try clear c23b2
      try clear c30
      try clear c37
      try clear c37b0
      try clear hcz11_0
      try clear hcz11_1
      try clear hcz11_2
      try clear hcz11_3
      try clear hcz11_4
      try clear hcz11_5
      try clear hcz11_6
      try clear hcz13_0
      try clear hcz13_1
      try clear hcz13_2
      try clear hcz13_3
      try clear hcz13_4
      try clear hcz13_5
      try clear hcz13_6
      try clear hcz16_0
      try clear hcz16_1
      try clear hcz16_2
      try clear hcz16_3
      try clear hcz16_4
      try clear hcz16_5
      try clear hcz16_6
      try clear hcz26_0
      try clear hcz26_1
      try clear hcz26_2
      try clear hcz26_3
      try clear hcz26_4
      try clear hcz26_5
      try clear hcz26_6
      try clear hcz31_0
      try clear hcz31_1
      try clear hcz31_2
      try clear hcz31_3
      try clear hcz31_4
      try clear hcz31_5
      try clear hcz31_6
      try clear hfz11_0
      try clear hfz11_1
      try clear hfz11_2
      try clear hfz11_3
      try clear hfz11_4
      try clear hfz11_5
      try clear hfz11_6
      try clear hfz13_0
      try clear hfz13_1
      try clear hfz13_2
      try clear hfz13_3
      try clear hfz13_4
      try clear hfz13_5
      try clear hfz13_6
      try clear hfz16_0
      try clear hfz16_1
      try clear hfz16_2
      try clear hfz16_3
      try clear hfz16_4
      try clear hfz16_5
      try clear hfz16_6
      try clear hfz26_0
      try clear hfz26_1
      try clear hfz26_2
      try clear hfz26_3
      try clear hfz26_4
      try clear hfz26_5
      try clear hfz26_6
      try clear hfz31_0
      try clear hfz31_1
      try clear hfz31_2
      try clear hfz31_3
      try clear hfz31_4
      try clear hfz31_5
      try clear hfz31_6
      try clear p2
      obtain ⟨kq, x41_24, rfl, HA, HJ24, HO_411002, HO_411003, HO_411004, HO_411005, HO_411006, BK385, BK410, HB⟩ := hcut
      cases kq with
      | zero => exact absurd HA.out (by simp [greenwoodlaw23_AnswerCut.j1])
      | succ kj24 =>
       have H := HA.out
       clear HA
       simp only [greenwoodlaw23_AnswerCut.j1] at H
       by_cases c38 : x41_24 = true
       ·subst c38
        have H1 : (if t408 = 13 then (some (t409 == (t390.size : Int))) else (some false)) = some r := by rw [if_pos rfl] at H; exact H
        clear H
        have H := H1
        clear H1
        by_cases c39 : t408 = 13
        ·rw [if_pos c39] at H
         have c39b0 : (t408 == 13) = true := beq_iff_eq.mpr c39
         have c39b1 : (t408 != 13) = false := bne_eq_false_iff_eq.mpr c39
         clear c39
         obtain rfl := Option.some.inj H
         go_wp2
         go_ret
         exact ⟨by first | rfl | (simp [errW_none, errW_some] <;> rfl) | (simp [*, errW_none, errW_some] <;> rfl), by repeat (first | (with_reducible first | exact HB.out | apply below_alloc | apply pw_below_drewN | apply below_drew1 | refine below_set ?_ GE385.out | refine below_set ?_ GE410.out) | exact HB.out)⟩
        ·rw [if_neg c39] at H
         have c39b0 : (t408 == 13) = false := beq_eq_false_iff_ne.mpr c39
         have c39b1 : (t408 != 13) = true := bne_iff_ne.mpr c39
         exact absurd ((Option.some.inj H).trans hrT) (by decide)
       ·replace c38 := Bool.eq_false_iff.mpr c38
        subst c38
        have H1 : (if 0 ≤ a1 then (if a1 ≤ (t390.size : Int) then ((answer_Decode.f (t390.extract 0 (a1 : Int).toNat)).bind fun bt411 => (if bt411.2.2.2.2.2.2.2.1 = 10 then (if bt411.2.2.2.2.2.2.2.2 ≤ a1 then ((greenwoodref23_Same.f kj24 bt411.1 bt411.2.1 bt411.2.2.1 bt411.2.2.2.1 bt411.2.2.2.2.1 bt411.2.2.2.2.2.1 bt411.2.2.2.2.2.2.1 0 false ([] : List Int) ([] : List Int) ([] : List (List Int)) ([] : List (S41)) ([] : List (S43))).bind fun t431 => (if t431 = true then (if t408 = 13 then (some (t409 == (t390.size : Int))) else (some false)) else (some false))) else (some false)) else (some false))) else (none)) else (none)) = some r := by rw [if_neg (show ¬ (false = true) by decide)] at H; exact H
        clear H
        have H := H1
        clear H1
        by_cases c40 : 0 ≤ a1
        ·rw [if_pos c40] at H
         have c40b0 := eq_true c40
         have c40b1 : decide (0 ≤ a1) = true := decide_eq_true c40
         clear c40
         by_cases c41 : a1 ≤ (t390.size : Int)
         ·rw [if_pos c41] at H
          have c41b0 := eq_true c41
          have c41b1 : decide (a1 ≤ (t390.size : Int)) = true := decide_eq_true c41
          clear c41
          replace H := Option.bind_eq_some_iff.mp H
          obtain ⟨⟨t411, t412, t413, t416, t419, t422, t425, t428, t429⟩, A420, H⟩ := H
          replace H : (if t428 = 10 then (if t429 ≤ a1 then ((greenwoodref23_Same.f kj24 t411 t412 t413 t416 t419 t422 t425 0 false ([] : List Int) ([] : List Int) ([] : List (List Int)) ([] : List (S41)) ([] : List (S43))).bind fun t431 => (if t431 = true then (if t408 = 13 then (some (t409 == (t390.size : Int))) else (some false)) else (some false))) else (some false)) else (some false)) = some r := H
          have A42 := Aside0.mk A420
          clear A420
          by_cases c43 : t428 = 10
          ·rw [if_pos c43] at H
           have c43b0 : (t428 == 10) = true := beq_iff_eq.mpr c43
           have c43b1 : (t428 != 10) = false := bne_eq_false_iff_eq.mpr c43
           clear c43
           by_cases c44 : t429 ≤ a1
           ·rw [if_pos c44] at H
            have c44b0 : decide (t429 ≤ a1) = true := decide_eq_true c44
            clear c44
            replace H := Option.bind_eq_some_iff.mp H
            obtain ⟨t431, A450, H⟩ := H
            replace H : (if t431 = true then (if t408 = 13 then (some (t409 == (t390.size : Int))) else (some false)) else (some false)) = some r := H
            have A45 := Aside0.mk A450
            clear A450
            by_cases c46 : t431 = true
            ·subst c46
             have H1 : (if t408 = 13 then (some (t409 == (t390.size : Int))) else (some false)) = some r := by rw [if_pos rfl] at H; exact H
             clear H
             have H := H1
             clear H1
             by_cases c47 : t408 = 13
             ·rw [if_pos c47] at H
              have c47b0 : (t408 == 13) = true := beq_iff_eq.mpr c47
              have c47b1 : (t408 != 13) = false := bne_eq_false_iff_eq.mpr c47
              clear c47
              obtain rfl := Option.some.inj H
              go_wp2_with (first | ((with_reducible refine gate_callee (f := 9) rfl ?_); refine goesL_ (some 54) rfl rfl Tryd.func9 (by kernel_rfl) rfl #[.string (t390.extract 0 (a1 : Int).toNat)] rfl (by (try simp only [List.map_toArray, List.map_cons, List.map_nil]); first | done | rfl | (simp only [List.length_drop, List.length_take]; rfl)) ?_; (with_reducible refine (answer_Decode.calls (t390.extract 0 (a1 : Int).toNat) t411 t412 t413 t416 t419 t422 t425 t428 t429 _ ?side1 A42.out).mono ?_); (case side1 => exact EV.below HEV.out (by repeat (first | (with_reducible first | exact HB.out | apply below_alloc | apply pw_below_drewN | apply below_drew1 | refine below_set ?_ GE385.out | refine below_set ?_ GE410.out) | exact HB.out)) (EV.pos HEV.out)); rintro e w48 ⟨v414, v417, v420, v423, v426, rfl, ho0, ho1, ho2, ho3, ho4, hb⟩; refine ⟨_, rfl, ?_⟩; have n0_ := Aside0.mk (Kd.R_mono (Kd.R_told (Kd.R_told (Kd.R_old (by (with_reducible repeat (first | apply Kd.R_alloc | apply Kd.R_drewN | apply Kd.R_drew)); exact HO_411002.out) hb) (Kd.R_base ho0)) (Kd.R_base ho1)) (fun _ h_ => h_.1)); have n1_ := Aside0.mk (Kd.R_mono (Kd.R_told (Kd.R_told (Kd.R_old (by (with_reducible repeat (first | apply Kd.R_alloc | apply Kd.R_drewN | apply Kd.R_drew)); exact HO_411003.out) hb) (Kd.R_base ho0)) (Kd.R_base ho1)) (fun _ h_ => h_.1)); have n2_ := Aside0.mk (Kd.S_mono (Kd.S_told (Kd.S_told (Kd.S_told (Kd.S_old (by (with_reducible repeat (first | apply Kd.S_alloc | apply Kd.S_drewN | apply Kd.S_drew)); exact HO_411004.out) hb) (Kd.R_base ho0)) (Kd.R_base ho1)) (Kd.S_base ho2)) (fun _ h_ => h_.1)); have n3_ := Aside0.mk (Kd.S_mono (Kd.S_told (Kd.S_told (Kd.S_told (Kd.S_old (by (with_reducible repeat (first | apply Kd.S_alloc | apply Kd.S_drewN | apply Kd.S_drew)); exact HO_411005.out) hb) (Kd.R_base ho0)) (Kd.R_base ho1)) (Kd.S_base ho3)) (fun _ h_ => h_.1)); have n4_ := Aside0.mk (Kd.S_mono (Kd.S_told (Kd.S_told (Kd.S_told (Kd.S_old (by (with_reducible repeat (first | apply Kd.S_alloc | apply Kd.S_drewN | apply Kd.S_drew)); exact HO_411006.out) hb) (Kd.R_base ho0)) (Kd.R_base ho1)) (Kd.S_base ho4)) (fun _ h_ => h_.1)); have n5_ := Aside0.mk (Kd.R_lower (Kd.R_new' (Kd.R_new' ho0 (Kd.R_lt (by (with_reducible repeat (first | apply Kd.R_alloc | apply Kd.R_drewN | apply Kd.R_drew)); exact HO_411002.out))) (Kd.R_lt (by (with_reducible repeat (first | apply Kd.R_alloc | apply Kd.R_drewN | apply Kd.R_drew)); exact HO_411003.out))) (below_size (by repeat (first | (with_reducible first | exact HB.out | apply below_alloc | apply pw_below_drewN | apply below_drew1 | refine below_set ?_ GE385.out | refine below_set ?_ GE410.out) | exact HB.out)))); have n6_ := Aside0.mk (Kd.R_lower (Kd.R_new' (Kd.R_new' ho1 (Kd.R_lt (by (with_reducible repeat (first | apply Kd.R_alloc | apply Kd.R_drewN | apply Kd.R_drew)); exact HO_411002.out))) (Kd.R_lt (by (with_reducible repeat (first | apply Kd.R_alloc | apply Kd.R_drewN | apply Kd.R_drew)); exact HO_411003.out))) (below_size (by repeat (first | (with_reducible first | exact HB.out | apply below_alloc | apply pw_below_drewN | apply below_drew1 | refine below_set ?_ GE385.out | refine below_set ?_ GE410.out) | exact HB.out)))); have n7_ := Aside0.mk (Kd.S_lower (Kd.S_new' (Kd.S_new' (Kd.S_new' ho2 (Kd.R_lt (by (with_reducible repeat (first | apply Kd.R_alloc | apply Kd.R_drewN | apply Kd.R_drew)); exact HO_411002.out))) (Kd.R_lt (by (with_reducible repeat (first | apply Kd.R_alloc | apply Kd.R_drewN | apply Kd.R_drew)); exact HO_411003.out))) (Kd.S_lt (by (with_reducible repeat (first | apply Kd.S_alloc | apply Kd.S_drewN | apply Kd.S_drew)); exact HO_411004.out))) (below_size (by repeat (first | (with_reducible first | exact HB.out | apply below_alloc | apply pw_below_drewN | apply below_drew1 | refine below_set ?_ GE385.out | refine below_set ?_ GE410.out) | exact HB.out)))); have n8_ := Aside0.mk (Kd.S_lower (Kd.S_new' (Kd.S_new' (Kd.S_new' ho3 (Kd.R_lt (by (with_reducible repeat (first | apply Kd.R_alloc | apply Kd.R_drewN | apply Kd.R_drew)); exact HO_411002.out))) (Kd.R_lt (by (with_reducible repeat (first | apply Kd.R_alloc | apply Kd.R_drewN | apply Kd.R_drew)); exact HO_411003.out))) (Kd.S_lt (by (with_reducible repeat (first | apply Kd.S_alloc | apply Kd.S_drewN | apply Kd.S_drew)); exact HO_411005.out))) (below_size (by repeat (first | (with_reducible first | exact HB.out | apply below_alloc | apply pw_below_drewN | apply below_drew1 | refine below_set ?_ GE385.out | refine below_set ?_ GE410.out) | exact HB.out)))); have n9_ := Aside0.mk (Kd.S_lower (Kd.S_new' (Kd.S_new' (Kd.S_new' ho4 (Kd.R_lt (by (with_reducible repeat (first | apply Kd.R_alloc | apply Kd.R_drewN | apply Kd.R_drew)); exact HO_411002.out))) (Kd.R_lt (by (with_reducible repeat (first | apply Kd.R_alloc | apply Kd.R_drewN | apply Kd.R_drew)); exact HO_411003.out))) (Kd.S_lt (by (with_reducible repeat (first | apply Kd.S_alloc | apply Kd.S_drewN | apply Kd.S_drew)); exact HO_411006.out))) (below_size (by repeat (first | (with_reducible first | exact HB.out | apply below_alloc | apply pw_below_drewN | apply below_drew1 | refine below_set ?_ GE385.out | refine below_set ?_ GE410.out) | exact HB.out)))); have n10_ := Aside0.mk (blk_below (g := gb385) (o := .cells #[.int .i64 a0_0, .bool a0_1, .slice A0_2 l0_2.length c0_2, .slice A0_3 l0_3.length c0_3, .slice A0_4 l0_4.length c0_4, .slice A0_5 l0_5.length c0_5, .slice A0_6 l0_6.length c0_6] 27 (0, 0)) (by (with_reducible repeat (first | refine blk_drewN ?_ _ | refine blk_drew ?_ | refine blk_alloc ?_ _)); exact BK385.out) hb); have n11_ := Aside0.mk (blk_below (g := gb410) (o := .cells #[.int .i64 t391, .bool t392, .slice Ao32 t393.length co32, .slice Ao33 t396.length co33, .slice Ao34 t399.length co34, .slice Ao35 t402.length co35, .slice Ao36 t405.length co36] 27 (0, 0)) (by (with_reducible repeat (first | refine blk_drewN ?_ _ | refine blk_drew ?_ | refine blk_alloc ?_ _)); exact BK410.out) hb); have n12_ := Aside0.mk (below_step (by repeat (first | (with_reducible first | exact HB.out | apply below_alloc | apply pw_below_drewN | apply below_drew1 | refine below_set ?_ GE385.out | refine below_set ?_ GE410.out) | exact HB.out)) hb); clear HO_411002; clear HO_411003; clear HO_411004; clear HO_411005; clear HO_411006; clear BK385; clear BK410; clear HB; have HO_411002 := n0_; have HO_411003 := n1_; have HO_411004 := n2_; have HO_411005 := n3_; have HO_411006 := n4_; have HO415 := n5_; have HO418 := n6_; have HO421 := n7_; have HO424 := n8_; have HO427 := n9_; have BK385 := n10_; have BK410 := n11_; have HB := n12_; clear n0_ n1_ n2_ n3_ n4_ n5_ n6_ n7_ n8_ n9_ n10_ n11_ n12_; (try clear hb); (try clear hb2); (try clear hk); (try clear hi); (try clear ho0); (try clear ho1); (try clear ho2); (try clear ho3); (try clear ho4)) | ((with_reducible refine gate_dst (N := 9) rfl ?_); (try (refine gate_guard (by rfl) ?_; dsimp only)); refine box_event ?hg (N := 9) ?hd (cs := #[.int .i64 0, .bool false, .slice none 0 0, .slice none 0 0, .slice none 0 0, .slice none 0 0, .slice none 0 0]) (t := 27) ?hr ?_; (case hd => rfl); (case hg => rfl); (case hr => first | (go_simp; done) | (go_simp; rfl)); intro gb430 hg w49 hbox hb; have n0_ := Aside0.mk (Kd.R_below (by (with_reducible repeat (first | apply Kd.R_alloc | apply Kd.R_drewN | apply Kd.R_drew)); exact HO_411002.out) hb); have n1_ := Aside0.mk (Kd.R_below (by (with_reducible repeat (first | apply Kd.R_alloc | apply Kd.R_drewN | apply Kd.R_drew)); exact HO_411003.out) hb); have n2_ := Aside0.mk (Kd.S_below (by (with_reducible repeat (first | apply Kd.S_alloc | apply Kd.S_drewN | apply Kd.S_drew)); exact HO_411004.out) hb); have n3_ := Aside0.mk (Kd.S_below (by (with_reducible repeat (first | apply Kd.S_alloc | apply Kd.S_drewN | apply Kd.S_drew)); exact HO_411005.out) hb); have n4_ := Aside0.mk (Kd.S_below (by (with_reducible repeat (first | apply Kd.S_alloc | apply Kd.S_drewN | apply Kd.S_drew)); exact HO_411006.out) hb); have n5_ := Aside0.mk (Kd.R_below (by (with_reducible repeat (first | apply Kd.R_alloc | apply Kd.R_drewN | apply Kd.R_drew)); exact HO415.out) hb); have n6_ := Aside0.mk (Kd.R_below (by (with_reducible repeat (first | apply Kd.R_alloc | apply Kd.R_drewN | apply Kd.R_drew)); exact HO418.out) hb); have n7_ := Aside0.mk (Kd.S_below (by (with_reducible repeat (first | apply Kd.S_alloc | apply Kd.S_drewN | apply Kd.S_drew)); exact HO421.out) hb); have n8_ := Aside0.mk (Kd.S_below (by (with_reducible repeat (first | apply Kd.S_alloc | apply Kd.S_drewN | apply Kd.S_drew)); exact HO424.out) hb); have n9_ := Aside0.mk (Kd.S_below (by (with_reducible repeat (first | apply Kd.S_alloc | apply Kd.S_drewN | apply Kd.S_drew)); exact HO427.out) hb); have n10_ := Aside0.mk (blk_below (g := gb385) (o := .cells #[.int .i64 a0_0, .bool a0_1, .slice A0_2 l0_2.length c0_2, .slice A0_3 l0_3.length c0_3, .slice A0_4 l0_4.length c0_4, .slice A0_5 l0_5.length c0_5, .slice A0_6 l0_6.length c0_6] 27 (0, 0)) (by (with_reducible repeat (first | refine blk_drewN ?_ _ | refine blk_drew ?_ | refine blk_alloc ?_ _)); exact BK385.out) hb); have n11_ := Aside0.mk (blk_below (g := gb410) (o := .cells #[.int .i64 t391, .bool t392, .slice Ao32 t393.length co32, .slice Ao33 t396.length co33, .slice Ao34 t399.length co34, .slice Ao35 t402.length co35, .slice Ao36 t405.length co36] 27 (0, 0)) (by (with_reducible repeat (first | refine blk_drewN ?_ _ | refine blk_drew ?_ | refine blk_alloc ?_ _)); exact BK410.out) hb); have n12_ := Aside0.mk (below_step (by repeat (first | (with_reducible first | exact HB.out | apply below_alloc | apply pw_below_drewN | apply below_drew1 | refine below_set ?_ GE385.out | refine below_set ?_ GE410.out) | exact HB.out)) hb); have n13_ := Aside0.mk (hbox); have n14_ := Aside0.mk ((by rw [hg]; exact (below_size (by repeat (first | (with_reducible first | exact HB.out | apply below_alloc | apply pw_below_drewN | apply below_drew1 | refine below_set ?_ GE385.out | refine below_set ?_ GE410.out) | exact HB.out))) : w.heap.size ≤ gb430)); have n15_ := Aside0.mk ((by rw [hg]; exact (below_size (by repeat (first | (with_reducible first | exact HB.out | apply below_alloc | apply pw_below_drewN | apply below_drew1 | refine below_set ?_ GE385.out | refine below_set ?_ GE410.out) | exact HB.out))) : w.heap.size ≤ gb430)); have n16_ := Aside0.mk ((by rw [hg]; exact Nat.ne_of_lt (blk_lt (g := gb385) (o := .cells #[.int .i64 a0_0, .bool a0_1, .slice A0_2 l0_2.length c0_2, .slice A0_3 l0_3.length c0_3, .slice A0_4 l0_4.length c0_4, .slice A0_5 l0_5.length c0_5, .slice A0_6 l0_6.length c0_6] 27 (0, 0)) (by (with_reducible repeat (first | refine blk_drewN ?_ _ | refine blk_drew ?_ | refine blk_alloc ?_ _)); exact BK385.out)) : gb385 ≠ gb430)); have n17_ := Aside0.mk ((by rw [hg]; exact Nat.ne_of_gt (blk_lt (g := gb385) (o := .cells #[.int .i64 a0_0, .bool a0_1, .slice A0_2 l0_2.length c0_2, .slice A0_3 l0_3.length c0_3, .slice A0_4 l0_4.length c0_4, .slice A0_5 l0_5.length c0_5, .slice A0_6 l0_6.length c0_6] 27 (0, 0)) (by (with_reducible repeat (first | refine blk_drewN ?_ _ | refine blk_drew ?_ | refine blk_alloc ?_ _)); exact BK385.out)) : gb430 ≠ gb385)); have n18_ := Aside0.mk ((by rw [hg]; exact Nat.ne_of_lt (blk_lt (g := gb410) (o := .cells #[.int .i64 t391, .bool t392, .slice Ao32 t393.length co32, .slice Ao33 t396.length co33, .slice Ao34 t399.length co34, .slice Ao35 t402.length co35, .slice Ao36 t405.length co36] 27 (0, 0)) (by (with_reducible repeat (first | refine blk_drewN ?_ _ | refine blk_drew ?_ | refine blk_alloc ?_ _)); exact BK410.out)) : gb410 ≠ gb430)); have n19_ := Aside0.mk ((by rw [hg]; exact Nat.ne_of_gt (blk_lt (g := gb410) (o := .cells #[.int .i64 t391, .bool t392, .slice Ao32 t393.length co32, .slice Ao33 t396.length co33, .slice Ao34 t399.length co34, .slice Ao35 t402.length co35, .slice Ao36 t405.length co36] 27 (0, 0)) (by (with_reducible repeat (first | refine blk_drewN ?_ _ | refine blk_drew ?_ | refine blk_alloc ?_ _)); exact BK410.out)) : gb430 ≠ gb410)); clear HO_411002; clear HO_411003; clear HO_411004; clear HO_411005; clear HO_411006; clear HO415; clear HO418; clear HO421; clear HO424; clear HO427; clear BK385; clear BK410; clear HB; have HO_411002 := n0_; have HO_411003 := n1_; have HO_411004 := n2_; have HO_411005 := n3_; have HO_411006 := n4_; have HO415 := n5_; have HO418 := n6_; have HO421 := n7_; have HO424 := n8_; have HO427 := n9_; have BK385 := n10_; have BK410 := n11_; have HB := n12_; have BK430 := n13_; have GW430 := n14_; have GE430 := n15_; have NB385_430 := n16_; have NB430_385 := n17_; have NB410_430 := n18_; have NB430_410 := n19_; clear n0_ n1_ n2_ n3_ n4_ n5_ n6_ n7_ n8_ n9_ n10_ n11_ n12_ n13_ n14_ n15_ n16_ n17_ n18_ n19_; clear hb hbox hg; have hnb50 := NB430_385.out; have hnc50 := NB385_430.out; have hnb51 := NB430_410.out; have hnc51 := NB410_430.out; have hcz52_0 : w49.cell? ⟨gb430, 0, none⟩ = some (.int .i64 0) := (blk_cell BK430.out 0).trans rfl; have hcz52_1 : w49.cell? ⟨gb430, 1, none⟩ = some (.bool false) := (blk_cell BK430.out 1).trans rfl; have hcz52_2 : w49.cell? ⟨gb430, 2, none⟩ = some (.slice none 0 0) := (blk_cell BK430.out 2).trans rfl; have hcz52_3 : w49.cell? ⟨gb430, 3, none⟩ = some (.slice none 0 0) := (blk_cell BK430.out 3).trans rfl; have hcz52_4 : w49.cell? ⟨gb430, 4, none⟩ = some (.slice none 0 0) := (blk_cell BK430.out 4).trans rfl; have hcz52_5 : w49.cell? ⟨gb430, 5, none⟩ = some (.slice none 0 0) := (blk_cell BK430.out 5).trans rfl; have hcz52_6 : w49.cell? ⟨gb430, 6, none⟩ = some (.slice none 0 0) := (blk_cell BK430.out 6).trans rfl; have hfz52_0 := blk_frozen BK430.out 0; have hfz52_1 := blk_frozen BK430.out 1; have hfz52_2 := blk_frozen BK430.out 2; have hfz52_3 := blk_frozen BK430.out 3; have hfz52_4 := blk_frozen BK430.out 4; have hfz52_5 := blk_frozen BK430.out 5; have hfz52_6 := blk_frozen BK430.out 6; obtain ⟨Ao53, co53, eo53⟩ := Kd.R_slice HO415.out; subst eo53; obtain ⟨Ao54, co54, eo54⟩ := Kd.R_slice HO418.out; subst eo54; obtain ⟨Ao55, co55, eo55⟩ := Kd.S_slice HO421.out; subst eo55; obtain ⟨Ao56, co56, eo56⟩ := Kd.S_slice HO424.out; subst eo56; obtain ⟨Ao57, co57, eo57⟩ := Kd.S_slice HO427.out; subst eo57) | (go_at_call 15; (refine (greenwoodref23_Same.calls kj24 t411 t412 _ _ t413 _ _ t416 _ _ t419 _ _ t422 _ _ t425 0 false _ _ ([] : List Int) _ _ ([] : List Int) _ _ ([] : List (List Int)) _ _ ([] : List (S41)) _ _ ([] : List (S43)) true _ ?side1 ?side2 ?side3 ?side4 ?side5 ?side6 ?side7 ?side8 ?side9 ?side10 ?side11 ?side12 ?side13 ?side14 ?side15 ?side16 ?side17 ?side18 ?side19 ?side20 A45.out).mono ?_); (case side1 => refine (Kd.R_reads' (e := 3) (base := w.heap.size) (ok := fun k_ => ((some k_ ≠ (.slice Ao54 t416.length co54 : Value).ownBlock ∧ some k_ ≠ (.slice Ao32 t393.length co32 : Value).ownBlock) ∧ some k_ ≠ (.slice Ao33 t396.length co33 : Value).ownBlock)) (n := t413.length) (c := co53) ?_).2.2; exact (by (with_reducible repeat (first | apply Kd.R_alloc | apply Kd.R_drewN | apply Kd.R_drew)); exact (Kd.R_mono (Kd.R_far (p := ⟨gb430, 6, none⟩) (Kd.R_far (p := ⟨gb430, 5, none⟩) (Kd.R_far (p := ⟨gb430, 4, none⟩) (Kd.R_far (p := ⟨gb430, 3, none⟩) (Kd.R_far (p := ⟨gb430, 2, none⟩) (Kd.R_far (p := ⟨gb430, 1, none⟩) (Kd.R_far (p := ⟨gb430, 0, none⟩) (Kd.R_types HO415.out BK430.out (by decide)) (fun _ hk => hk.2) (.int .i64 t411)) (fun _ hk => hk.2) (.bool t412)) (fun _ hk => hk.2) (.slice Ao53 t413.length co53)) (fun _ hk => hk.2) (.slice Ao54 t416.length co54)) (fun _ hk => hk.2) (.slice Ao55 t419.length co55)) (fun _ hk => hk.2) (.slice Ao56 t422.length co56)) (fun _ hk => hk.2) (.slice Ao57 t425.length co57)) (fun _ h_ => h_.1)))); (case side2 => exact (Kd.R_reads' HO415.out).2.1); (case side3 => refine (Kd.R_reads' (e := 3) (base := w.heap.size) (ok := fun k_ => ((some k_ ≠ (.slice Ao53 t413.length co53 : Value).ownBlock ∧ some k_ ≠ (.slice Ao32 t393.length co32 : Value).ownBlock) ∧ some k_ ≠ (.slice Ao33 t396.length co33 : Value).ownBlock)) (n := t416.length) (c := co54) ?_).2.2; exact (by (with_reducible repeat (first | apply Kd.R_alloc | apply Kd.R_drewN | apply Kd.R_drew)); exact (Kd.R_mono (Kd.R_far (p := ⟨gb430, 6, none⟩) (Kd.R_far (p := ⟨gb430, 5, none⟩) (Kd.R_far (p := ⟨gb430, 4, none⟩) (Kd.R_far (p := ⟨gb430, 3, none⟩) (Kd.R_far (p := ⟨gb430, 2, none⟩) (Kd.R_far (p := ⟨gb430, 1, none⟩) (Kd.R_far (p := ⟨gb430, 0, none⟩) (Kd.R_types HO418.out BK430.out (by decide)) (fun _ hk => hk.2) (.int .i64 t411)) (fun _ hk => hk.2) (.bool t412)) (fun _ hk => hk.2) (.slice Ao53 t413.length co53)) (fun _ hk => hk.2) (.slice Ao54 t416.length co54)) (fun _ hk => hk.2) (.slice Ao55 t419.length co55)) (fun _ hk => hk.2) (.slice Ao56 t422.length co56)) (fun _ hk => hk.2) (.slice Ao57 t425.length co57)) (fun _ h_ => h_.1)))); (case side4 => exact (Kd.R_reads' HO418.out).2.1); (case side5 => refine (Kd.S_reads' (e := 22) (base := w.heap.size) (ok := fun k_ => ((((some k_ ≠ (.slice Ao53 t413.length co53 : Value).ownBlock ∧ some k_ ≠ (.slice Ao54 t416.length co54 : Value).ownBlock) ∧ some k_ ≠ (.slice Ao32 t393.length co32 : Value).ownBlock) ∧ some k_ ≠ (.slice Ao33 t396.length co33 : Value).ownBlock) ∧ some k_ ≠ (.slice Ao34 t399.length co34 : Value).ownBlock)) (n := t419.length) (c := co55) ?_).2.2; exact (by (with_reducible repeat (first | apply Kd.S_alloc | apply Kd.S_drewN | apply Kd.S_drew)); exact (Kd.S_mono (Kd.S_far (p := ⟨gb430, 6, none⟩) (Kd.S_far (p := ⟨gb430, 5, none⟩) (Kd.S_far (p := ⟨gb430, 4, none⟩) (Kd.S_far (p := ⟨gb430, 3, none⟩) (Kd.S_far (p := ⟨gb430, 2, none⟩) (Kd.S_far (p := ⟨gb430, 1, none⟩) (Kd.S_far (p := ⟨gb430, 0, none⟩) (Kd.S_types HO421.out BK430.out (by decide)) (fun _ hk => hk.2) (.int .i64 t411)) (fun _ hk => hk.2) (.bool t412)) (fun _ hk => hk.2) (.slice Ao53 t413.length co53)) (fun _ hk => hk.2) (.slice Ao54 t416.length co54)) (fun _ hk => hk.2) (.slice Ao55 t419.length co55)) (fun _ hk => hk.2) (.slice Ao56 t422.length co56)) (fun _ hk => hk.2) (.slice Ao57 t425.length co57)) (fun _ h_ => h_.1)))); (case side6 => exact (Kd.S_reads' HO421.out).2.1); (case side7 => refine (Kd.S_reads' (e := 41) (base := w.heap.size) (ok := fun k_ => ((((some k_ ≠ (.slice Ao53 t413.length co53 : Value).ownBlock ∧ some k_ ≠ (.slice Ao54 t416.length co54 : Value).ownBlock) ∧ some k_ ≠ (.slice Ao32 t393.length co32 : Value).ownBlock) ∧ some k_ ≠ (.slice Ao33 t396.length co33 : Value).ownBlock) ∧ some k_ ≠ (.slice Ao35 t402.length co35 : Value).ownBlock)) (n := t422.length) (c := co56) ?_).2.2; exact (by (with_reducible repeat (first | apply Kd.S_alloc | apply Kd.S_drewN | apply Kd.S_drew)); exact (Kd.S_mono (Kd.S_far (p := ⟨gb430, 6, none⟩) (Kd.S_far (p := ⟨gb430, 5, none⟩) (Kd.S_far (p := ⟨gb430, 4, none⟩) (Kd.S_far (p := ⟨gb430, 3, none⟩) (Kd.S_far (p := ⟨gb430, 2, none⟩) (Kd.S_far (p := ⟨gb430, 1, none⟩) (Kd.S_far (p := ⟨gb430, 0, none⟩) (Kd.S_types HO424.out BK430.out (by decide)) (fun _ hk => hk.2) (.int .i64 t411)) (fun _ hk => hk.2) (.bool t412)) (fun _ hk => hk.2) (.slice Ao53 t413.length co53)) (fun _ hk => hk.2) (.slice Ao54 t416.length co54)) (fun _ hk => hk.2) (.slice Ao55 t419.length co55)) (fun _ hk => hk.2) (.slice Ao56 t422.length co56)) (fun _ hk => hk.2) (.slice Ao57 t425.length co57)) (fun _ h_ => h_.1)))); (case side8 => exact (Kd.S_reads' HO424.out).2.1); (case side9 => refine (Kd.S_reads' (e := 43) (base := w.heap.size) (ok := fun k_ => ((((some k_ ≠ (.slice Ao53 t413.length co53 : Value).ownBlock ∧ some k_ ≠ (.slice Ao54 t416.length co54 : Value).ownBlock) ∧ some k_ ≠ (.slice Ao32 t393.length co32 : Value).ownBlock) ∧ some k_ ≠ (.slice Ao33 t396.length co33 : Value).ownBlock) ∧ some k_ ≠ (.slice Ao36 t405.length co36 : Value).ownBlock)) (n := t425.length) (c := co57) ?_).2.2; exact (by (with_reducible repeat (first | apply Kd.S_alloc | apply Kd.S_drewN | apply Kd.S_drew)); exact (Kd.S_mono (Kd.S_far (p := ⟨gb430, 6, none⟩) (Kd.S_far (p := ⟨gb430, 5, none⟩) (Kd.S_far (p := ⟨gb430, 4, none⟩) (Kd.S_far (p := ⟨gb430, 3, none⟩) (Kd.S_far (p := ⟨gb430, 2, none⟩) (Kd.S_far (p := ⟨gb430, 1, none⟩) (Kd.S_far (p := ⟨gb430, 0, none⟩) (Kd.S_types HO427.out BK430.out (by decide)) (fun _ hk => hk.2) (.int .i64 t411)) (fun _ hk => hk.2) (.bool t412)) (fun _ hk => hk.2) (.slice Ao53 t413.length co53)) (fun _ hk => hk.2) (.slice Ao54 t416.length co54)) (fun _ hk => hk.2) (.slice Ao55 t419.length co55)) (fun _ hk => hk.2) (.slice Ao56 t422.length co56)) (fun _ hk => hk.2) (.slice Ao57 t425.length co57)) (fun _ h_ => h_.1)))); (case side10 => exact (Kd.S_reads' HO427.out).2.1); (case side11 => exact Kd.C_nil _ _); (case side12 => exact Nat.le_refl _); (case side13 => exact Kd.C_nil _ _); (case side14 => exact Nat.le_refl _); (case side15 => exact Kd.C_nil _ _); (case side16 => exact Nat.le_refl _); (case side17 => exact Kd.C_nil _ _); (case side18 => exact Nat.le_refl _); (case side19 => exact Kd.C_nil _ _); (case side20 => exact Nat.le_refl _); rintro e w58 ⟨rfl, hb⟩; have n0_ := Aside0.mk (Kd.R_below (by (with_reducible repeat (first | apply Kd.R_alloc | apply Kd.R_drewN | apply Kd.R_drew)); exact (Kd.R_mono (Kd.R_far (p := ⟨gb430, 6, none⟩) (Kd.R_far (p := ⟨gb430, 5, none⟩) (Kd.R_far (p := ⟨gb430, 4, none⟩) (Kd.R_far (p := ⟨gb430, 3, none⟩) (Kd.R_far (p := ⟨gb430, 2, none⟩) (Kd.R_far (p := ⟨gb430, 1, none⟩) (Kd.R_far (p := ⟨gb430, 0, none⟩) (Kd.R_types HO_411002.out BK430.out (by decide)) (fun _ hk => hk.2) (.int .i64 t411)) (fun _ hk => hk.2) (.bool t412)) (fun _ hk => hk.2) (.slice Ao53 t413.length co53)) (fun _ hk => hk.2) (.slice Ao54 t416.length co54)) (fun _ hk => hk.2) (.slice Ao55 t419.length co55)) (fun _ hk => hk.2) (.slice Ao56 t422.length co56)) (fun _ hk => hk.2) (.slice Ao57 t425.length co57)) (fun _ h_ => h_.1))) hb); have n1_ := Aside0.mk (Kd.R_below (by (with_reducible repeat (first | apply Kd.R_alloc | apply Kd.R_drewN | apply Kd.R_drew)); exact (Kd.R_mono (Kd.R_far (p := ⟨gb430, 6, none⟩) (Kd.R_far (p := ⟨gb430, 5, none⟩) (Kd.R_far (p := ⟨gb430, 4, none⟩) (Kd.R_far (p := ⟨gb430, 3, none⟩) (Kd.R_far (p := ⟨gb430, 2, none⟩) (Kd.R_far (p := ⟨gb430, 1, none⟩) (Kd.R_far (p := ⟨gb430, 0, none⟩) (Kd.R_types HO_411003.out BK430.out (by decide)) (fun _ hk => hk.2) (.int .i64 t411)) (fun _ hk => hk.2) (.bool t412)) (fun _ hk => hk.2) (.slice Ao53 t413.length co53)) (fun _ hk => hk.2) (.slice Ao54 t416.length co54)) (fun _ hk => hk.2) (.slice Ao55 t419.length co55)) (fun _ hk => hk.2) (.slice Ao56 t422.length co56)) (fun _ hk => hk.2) (.slice Ao57 t425.length co57)) (fun _ h_ => h_.1))) hb); have n2_ := Aside0.mk (Kd.S_below (by (with_reducible repeat (first | apply Kd.S_alloc | apply Kd.S_drewN | apply Kd.S_drew)); exact (Kd.S_mono (Kd.S_far (p := ⟨gb430, 6, none⟩) (Kd.S_far (p := ⟨gb430, 5, none⟩) (Kd.S_far (p := ⟨gb430, 4, none⟩) (Kd.S_far (p := ⟨gb430, 3, none⟩) (Kd.S_far (p := ⟨gb430, 2, none⟩) (Kd.S_far (p := ⟨gb430, 1, none⟩) (Kd.S_far (p := ⟨gb430, 0, none⟩) (Kd.S_types HO_411004.out BK430.out (by decide)) (fun _ hk => hk.2) (.int .i64 t411)) (fun _ hk => hk.2) (.bool t412)) (fun _ hk => hk.2) (.slice Ao53 t413.length co53)) (fun _ hk => hk.2) (.slice Ao54 t416.length co54)) (fun _ hk => hk.2) (.slice Ao55 t419.length co55)) (fun _ hk => hk.2) (.slice Ao56 t422.length co56)) (fun _ hk => hk.2) (.slice Ao57 t425.length co57)) (fun _ h_ => h_.1))) hb); have n3_ := Aside0.mk (Kd.S_below (by (with_reducible repeat (first | apply Kd.S_alloc | apply Kd.S_drewN | apply Kd.S_drew)); exact (Kd.S_mono (Kd.S_far (p := ⟨gb430, 6, none⟩) (Kd.S_far (p := ⟨gb430, 5, none⟩) (Kd.S_far (p := ⟨gb430, 4, none⟩) (Kd.S_far (p := ⟨gb430, 3, none⟩) (Kd.S_far (p := ⟨gb430, 2, none⟩) (Kd.S_far (p := ⟨gb430, 1, none⟩) (Kd.S_far (p := ⟨gb430, 0, none⟩) (Kd.S_types HO_411005.out BK430.out (by decide)) (fun _ hk => hk.2) (.int .i64 t411)) (fun _ hk => hk.2) (.bool t412)) (fun _ hk => hk.2) (.slice Ao53 t413.length co53)) (fun _ hk => hk.2) (.slice Ao54 t416.length co54)) (fun _ hk => hk.2) (.slice Ao55 t419.length co55)) (fun _ hk => hk.2) (.slice Ao56 t422.length co56)) (fun _ hk => hk.2) (.slice Ao57 t425.length co57)) (fun _ h_ => h_.1))) hb); have n4_ := Aside0.mk (Kd.S_below (by (with_reducible repeat (first | apply Kd.S_alloc | apply Kd.S_drewN | apply Kd.S_drew)); exact (Kd.S_mono (Kd.S_far (p := ⟨gb430, 6, none⟩) (Kd.S_far (p := ⟨gb430, 5, none⟩) (Kd.S_far (p := ⟨gb430, 4, none⟩) (Kd.S_far (p := ⟨gb430, 3, none⟩) (Kd.S_far (p := ⟨gb430, 2, none⟩) (Kd.S_far (p := ⟨gb430, 1, none⟩) (Kd.S_far (p := ⟨gb430, 0, none⟩) (Kd.S_types HO_411006.out BK430.out (by decide)) (fun _ hk => hk.2) (.int .i64 t411)) (fun _ hk => hk.2) (.bool t412)) (fun _ hk => hk.2) (.slice Ao53 t413.length co53)) (fun _ hk => hk.2) (.slice Ao54 t416.length co54)) (fun _ hk => hk.2) (.slice Ao55 t419.length co55)) (fun _ hk => hk.2) (.slice Ao56 t422.length co56)) (fun _ hk => hk.2) (.slice Ao57 t425.length co57)) (fun _ h_ => h_.1))) hb); have n5_ := Aside0.mk (Kd.R_below (by (with_reducible repeat (first | apply Kd.R_alloc | apply Kd.R_drewN | apply Kd.R_drew)); exact (Kd.R_mono (Kd.R_far (p := ⟨gb430, 6, none⟩) (Kd.R_far (p := ⟨gb430, 5, none⟩) (Kd.R_far (p := ⟨gb430, 4, none⟩) (Kd.R_far (p := ⟨gb430, 3, none⟩) (Kd.R_far (p := ⟨gb430, 2, none⟩) (Kd.R_far (p := ⟨gb430, 1, none⟩) (Kd.R_far (p := ⟨gb430, 0, none⟩) (Kd.R_types HO415.out BK430.out (by decide)) (fun _ hk => hk.2) (.int .i64 t411)) (fun _ hk => hk.2) (.bool t412)) (fun _ hk => hk.2) (.slice Ao53 t413.length co53)) (fun _ hk => hk.2) (.slice Ao54 t416.length co54)) (fun _ hk => hk.2) (.slice Ao55 t419.length co55)) (fun _ hk => hk.2) (.slice Ao56 t422.length co56)) (fun _ hk => hk.2) (.slice Ao57 t425.length co57)) (fun _ h_ => h_.1))) hb); have n6_ := Aside0.mk (Kd.R_below (by (with_reducible repeat (first | apply Kd.R_alloc | apply Kd.R_drewN | apply Kd.R_drew)); exact (Kd.R_mono (Kd.R_far (p := ⟨gb430, 6, none⟩) (Kd.R_far (p := ⟨gb430, 5, none⟩) (Kd.R_far (p := ⟨gb430, 4, none⟩) (Kd.R_far (p := ⟨gb430, 3, none⟩) (Kd.R_far (p := ⟨gb430, 2, none⟩) (Kd.R_far (p := ⟨gb430, 1, none⟩) (Kd.R_far (p := ⟨gb430, 0, none⟩) (Kd.R_types HO418.out BK430.out (by decide)) (fun _ hk => hk.2) (.int .i64 t411)) (fun _ hk => hk.2) (.bool t412)) (fun _ hk => hk.2) (.slice Ao53 t413.length co53)) (fun _ hk => hk.2) (.slice Ao54 t416.length co54)) (fun _ hk => hk.2) (.slice Ao55 t419.length co55)) (fun _ hk => hk.2) (.slice Ao56 t422.length co56)) (fun _ hk => hk.2) (.slice Ao57 t425.length co57)) (fun _ h_ => h_.1))) hb); have n7_ := Aside0.mk (Kd.S_below (by (with_reducible repeat (first | apply Kd.S_alloc | apply Kd.S_drewN | apply Kd.S_drew)); exact (Kd.S_mono (Kd.S_far (p := ⟨gb430, 6, none⟩) (Kd.S_far (p := ⟨gb430, 5, none⟩) (Kd.S_far (p := ⟨gb430, 4, none⟩) (Kd.S_far (p := ⟨gb430, 3, none⟩) (Kd.S_far (p := ⟨gb430, 2, none⟩) (Kd.S_far (p := ⟨gb430, 1, none⟩) (Kd.S_far (p := ⟨gb430, 0, none⟩) (Kd.S_types HO421.out BK430.out (by decide)) (fun _ hk => hk.2) (.int .i64 t411)) (fun _ hk => hk.2) (.bool t412)) (fun _ hk => hk.2) (.slice Ao53 t413.length co53)) (fun _ hk => hk.2) (.slice Ao54 t416.length co54)) (fun _ hk => hk.2) (.slice Ao55 t419.length co55)) (fun _ hk => hk.2) (.slice Ao56 t422.length co56)) (fun _ hk => hk.2) (.slice Ao57 t425.length co57)) (fun _ h_ => h_.1))) hb); have n8_ := Aside0.mk (Kd.S_below (by (with_reducible repeat (first | apply Kd.S_alloc | apply Kd.S_drewN | apply Kd.S_drew)); exact (Kd.S_mono (Kd.S_far (p := ⟨gb430, 6, none⟩) (Kd.S_far (p := ⟨gb430, 5, none⟩) (Kd.S_far (p := ⟨gb430, 4, none⟩) (Kd.S_far (p := ⟨gb430, 3, none⟩) (Kd.S_far (p := ⟨gb430, 2, none⟩) (Kd.S_far (p := ⟨gb430, 1, none⟩) (Kd.S_far (p := ⟨gb430, 0, none⟩) (Kd.S_types HO424.out BK430.out (by decide)) (fun _ hk => hk.2) (.int .i64 t411)) (fun _ hk => hk.2) (.bool t412)) (fun _ hk => hk.2) (.slice Ao53 t413.length co53)) (fun _ hk => hk.2) (.slice Ao54 t416.length co54)) (fun _ hk => hk.2) (.slice Ao55 t419.length co55)) (fun _ hk => hk.2) (.slice Ao56 t422.length co56)) (fun _ hk => hk.2) (.slice Ao57 t425.length co57)) (fun _ h_ => h_.1))) hb); have n9_ := Aside0.mk (Kd.S_below (by (with_reducible repeat (first | apply Kd.S_alloc | apply Kd.S_drewN | apply Kd.S_drew)); exact (Kd.S_mono (Kd.S_far (p := ⟨gb430, 6, none⟩) (Kd.S_far (p := ⟨gb430, 5, none⟩) (Kd.S_far (p := ⟨gb430, 4, none⟩) (Kd.S_far (p := ⟨gb430, 3, none⟩) (Kd.S_far (p := ⟨gb430, 2, none⟩) (Kd.S_far (p := ⟨gb430, 1, none⟩) (Kd.S_far (p := ⟨gb430, 0, none⟩) (Kd.S_types HO427.out BK430.out (by decide)) (fun _ hk => hk.2) (.int .i64 t411)) (fun _ hk => hk.2) (.bool t412)) (fun _ hk => hk.2) (.slice Ao53 t413.length co53)) (fun _ hk => hk.2) (.slice Ao54 t416.length co54)) (fun _ hk => hk.2) (.slice Ao55 t419.length co55)) (fun _ hk => hk.2) (.slice Ao56 t422.length co56)) (fun _ hk => hk.2) (.slice Ao57 t425.length co57)) (fun _ h_ => h_.1))) hb); have n10_ := Aside0.mk (blk_below (g := gb385) (o := .cells #[.int .i64 a0_0, .bool a0_1, .slice A0_2 l0_2.length c0_2, .slice A0_3 l0_3.length c0_3, .slice A0_4 l0_4.length c0_4, .slice A0_5 l0_5.length c0_5, .slice A0_6 l0_6.length c0_6] 27 (0, 0)) (by (with_reducible repeat (first | refine blk_drewN ?_ _ | refine blk_drew ?_ | refine blk_alloc ?_ _)); refine blk_far ?_ NB385_430.out _; (with_reducible repeat (first | refine blk_drewN ?_ _ | refine blk_drew ?_ | refine blk_alloc ?_ _)); refine blk_far ?_ NB385_430.out _; (with_reducible repeat (first | refine blk_drewN ?_ _ | refine blk_drew ?_ | refine blk_alloc ?_ _)); refine blk_far ?_ NB385_430.out _; (with_reducible repeat (first | refine blk_drewN ?_ _ | refine blk_drew ?_ | refine blk_alloc ?_ _)); refine blk_far ?_ NB385_430.out _; (with_reducible repeat (first | refine blk_drewN ?_ _ | refine blk_drew ?_ | refine blk_alloc ?_ _)); refine blk_far ?_ NB385_430.out _; (with_reducible repeat (first | refine blk_drewN ?_ _ | refine blk_drew ?_ | refine blk_alloc ?_ _)); refine blk_far ?_ NB385_430.out _; (with_reducible repeat (first | refine blk_drewN ?_ _ | refine blk_drew ?_ | refine blk_alloc ?_ _)); refine blk_far ?_ NB385_430.out _; (with_reducible repeat (first | refine blk_drewN ?_ _ | refine blk_drew ?_ | refine blk_alloc ?_ _)); exact BK385.out) hb); have n11_ := Aside0.mk (blk_below (g := gb410) (o := .cells #[.int .i64 t391, .bool t392, .slice Ao32 t393.length co32, .slice Ao33 t396.length co33, .slice Ao34 t399.length co34, .slice Ao35 t402.length co35, .slice Ao36 t405.length co36] 27 (0, 0)) (by (with_reducible repeat (first | refine blk_drewN ?_ _ | refine blk_drew ?_ | refine blk_alloc ?_ _)); refine blk_far ?_ NB410_430.out _; (with_reducible repeat (first | refine blk_drewN ?_ _ | refine blk_drew ?_ | refine blk_alloc ?_ _)); refine blk_far ?_ NB410_430.out _; (with_reducible repeat (first | refine blk_drewN ?_ _ | refine blk_drew ?_ | refine blk_alloc ?_ _)); refine blk_far ?_ NB410_430.out _; (with_reducible repeat (first | refine blk_drewN ?_ _ | refine blk_drew ?_ | refine blk_alloc ?_ _)); refine blk_far ?_ NB410_430.out _; (with_reducible repeat (first | refine blk_drewN ?_ _ | refine blk_drew ?_ | refine blk_alloc ?_ _)); refine blk_far ?_ NB410_430.out _; (with_reducible repeat (first | refine blk_drewN ?_ _ | refine blk_drew ?_ | refine blk_alloc ?_ _)); refine blk_far ?_ NB410_430.out _; (with_reducible repeat (first | refine blk_drewN ?_ _ | refine blk_drew ?_ | refine blk_alloc ?_ _)); refine blk_far ?_ NB410_430.out _; (with_reducible repeat (first | refine blk_drewN ?_ _ | refine blk_drew ?_ | refine blk_alloc ?_ _)); exact BK410.out) hb); have n12_ := Aside0.mk (blk_below (g := gb430) (o := .cells #[.int .i64 t411, .bool t412, .slice Ao53 t413.length co53, .slice Ao54 t416.length co54, .slice Ao55 t419.length co55, .slice Ao56 t422.length co56, .slice Ao57 t425.length co57] 27 (0, 0)) (by (with_reducible repeat (first | refine blk_drewN ?_ _ | refine blk_drew ?_ | refine blk_alloc ?_ _)); refine blk_put (cs := #[.int .i64 t411, .bool t412, .slice Ao53 t413.length co53, .slice Ao54 t416.length co54, .slice Ao55 t419.length co55, .slice Ao56 t422.length co56, .slice none 0 0]) ?_ 6 _ rfl; (with_reducible repeat (first | refine blk_drewN ?_ _ | refine blk_drew ?_ | refine blk_alloc ?_ _)); refine blk_put (cs := #[.int .i64 t411, .bool t412, .slice Ao53 t413.length co53, .slice Ao54 t416.length co54, .slice Ao55 t419.length co55, .slice none 0 0, .slice none 0 0]) ?_ 5 _ rfl; (with_reducible repeat (first | refine blk_drewN ?_ _ | refine blk_drew ?_ | refine blk_alloc ?_ _)); refine blk_put (cs := #[.int .i64 t411, .bool t412, .slice Ao53 t413.length co53, .slice Ao54 t416.length co54, .slice none 0 0, .slice none 0 0, .slice none 0 0]) ?_ 4 _ rfl; (with_reducible repeat (first | refine blk_drewN ?_ _ | refine blk_drew ?_ | refine blk_alloc ?_ _)); refine blk_put (cs := #[.int .i64 t411, .bool t412, .slice Ao53 t413.length co53, .slice none 0 0, .slice none 0 0, .slice none 0 0, .slice none 0 0]) ?_ 3 _ rfl; (with_reducible repeat (first | refine blk_drewN ?_ _ | refine blk_drew ?_ | refine blk_alloc ?_ _)); refine blk_put (cs := #[.int .i64 t411, .bool t412, .slice none 0 0, .slice none 0 0, .slice none 0 0, .slice none 0 0, .slice none 0 0]) ?_ 2 _ rfl; (with_reducible repeat (first | refine blk_drewN ?_ _ | refine blk_drew ?_ | refine blk_alloc ?_ _)); refine blk_put (cs := #[.int .i64 t411, .bool false, .slice none 0 0, .slice none 0 0, .slice none 0 0, .slice none 0 0, .slice none 0 0]) ?_ 1 _ rfl; (with_reducible repeat (first | refine blk_drewN ?_ _ | refine blk_drew ?_ | refine blk_alloc ?_ _)); refine blk_put (cs := #[.int .i64 0, .bool false, .slice none 0 0, .slice none 0 0, .slice none 0 0, .slice none 0 0, .slice none 0 0]) ?_ 0 _ rfl; (with_reducible repeat (first | refine blk_drewN ?_ _ | refine blk_drew ?_ | refine blk_alloc ?_ _)); exact BK430.out) hb); have n13_ := Aside0.mk (below_step (by repeat (first | (with_reducible first | exact HB.out | apply below_alloc | apply pw_below_drewN | apply below_drew1 | refine below_set ?_ GE385.out | refine below_set ?_ GE410.out | refine below_set ?_ GE430.out) | exact HB.out)) hb); clear HO_411002; clear HO_411003; clear HO_411004; clear HO_411005; clear HO_411006; clear HO415; clear HO418; clear HO421; clear HO424; clear HO427; clear BK385; clear BK410; clear BK430; clear HB; have HO_411002 := n0_; have HO_411003 := n1_; have HO_411004 := n2_; have HO_411005 := n3_; have HO_411006 := n4_; have HO415 := n5_; have HO418 := n6_; have HO421 := n7_; have HO424 := n8_; have HO427 := n9_; have BK385 := n10_; have BK410 := n11_; have BK430 := n12_; have HB := n13_; clear n0_ n1_ n2_ n3_ n4_ n5_ n6_ n7_ n8_ n9_ n10_ n11_ n12_ n13_; (try clear hb); (try clear hb2); (try clear hk); (try clear hi)))
              go_ret
              exact ⟨by first | rfl | (simp [errW_none, errW_some] <;> rfl) | (simp [*, errW_none, errW_some] <;> rfl), by repeat (first | (with_reducible first | exact HB.out | apply below_alloc | apply pw_below_drewN | apply below_drew1 | refine below_set ?_ GE385.out | refine below_set ?_ GE410.out | refine below_set ?_ GE430.out) | exact HB.out)⟩
             ·rw [if_neg c47] at H
              have c47b0 : (t408 == 13) = false := beq_eq_false_iff_ne.mpr c47
              have c47b1 : (t408 != 13) = true := bne_iff_ne.mpr c47
              exact absurd ((Option.some.inj H).trans hrT) (by decide)
            ·replace c46 := Bool.eq_false_iff.mpr c46
             subst c46
             have H1 : (some false) = some r := by rw [if_neg (show ¬ (false = true) by decide)] at H; exact H
             clear H
             have H := H1
             clear H1
             exact absurd ((Option.some.inj H).trans hrT) (by decide)
           ·rw [if_neg c44] at H
            have c44b0 : decide (t429 ≤ a1) = false := decide_eq_false c44
            clear c44
            exact absurd ((Option.some.inj H).trans hrT) (by decide)
          ·rw [if_neg c43] at H
           have c43b0 : (t428 == 10) = false := beq_eq_false_iff_ne.mpr c43
           have c43b1 : (t428 != 10) = true := bne_iff_ne.mpr c43
           exact absurd ((Option.some.inj H).trans hrT) (by decide)
         ·rw [if_neg c41] at H
          exact absurd H (by simp)
        ·rw [if_neg c40] at H
         exact absurd H (by simp)
    ·rw [if_neg c23] at H
     exact absurd H (by simp)


end Go.Proofs.YtlekdhejgdfnpaaDoor.P
/- Layer 23: AnswerCut: its value. -/
namespace Go.Proofs.YtlekdhejgdfnpaaDoor.P
open Go.RowKit Go.Proofs.YtlekdhejgdfnpaaDoorW.PrintWords Go.Proofs.YtlekdhejgdfnpaaDoorW.PrintLast Go.Proofs.YtlekdhejgdfnpaaDoorW.PrintMore
open Wr
set_option linter.unusedVariables false
set_option linter.unusedSimpArgs false

theorem AnswerCut_ev (kd : Int) (no : Bool) (S U : List Int) (Se : List (List Int)) (Sp : List Spl) (Cu : List Cut) (x1 : Int) (ok0 : OkA S U Se Sp Cu) :
 Ev (fun k => greenwoodlaw23_AnswerCut.f k kd no S U Se Sp Cu x1) true := by
 have fix : Ev (fun k => greenwoodlaw23_AnswerCut.j0 k x1 true kd no S U Se Sp Cu) true := by
  refine Ev.step (fun k => by rw [greenwoodlaw23_AnswerCut.j0]) ?_
  refine Ev.ifp rfl ?_
  exact Ev.bnd (a := true) (Ev.val rfl)
 unfold greenwoodlaw23_AnswerCut.f
 refine Ev.bnd (a := true) ?_
 refine Ev.ifp rfl ?_
 obtain ⟨r0, e0, f0⟩ := small_ev kd no S U Se Sp Cu ok0
 refine Ev.bind e0 ?_
 cases r0 with
 | false => exact Ev.ifn (by decide) fix
 | true =>
 refine Ev.ifp rfl ?_
 obtain ⟨a1, a2, a3, a4, a5⟩ := f0 rfl
 clear f0 e0
 have hX := mkV_no kd no S U Se Sp Cu
 cases hx : okV (mkV kd no S U Se Sp Cu) with
 | false => exact Ev.bind (check_no (by omega) (by omega) (by omega) hx) fix
 | true =>
 refine Ev.bind (check_ok (by omega) (by omega) (by omega) hx) ?_
 show Ev (fun k => greenwoodlaw23_AnswerCut.j0 k x1 false kd no S U Se Sp Cu) true
 refine Ev.step (fun k => by rw [greenwoodlaw23_AnswerCut.j0]) ?_
 refine Ev.ifn (by decide) ?_
 rw [encode_val (kd := kd) (no := no) (S := S) (U := U) (Se := Se) (Sp := Sp) (Cu := Cu) (by omega) (by omega) (by omega), hx, if_pos rfl]
 refine Ev.bnd ?_
 have hl := enc_len hx hX.2.1
 obtain ⟨E, hE⟩ : ∃ E, E = encV (mkV kd no S U Se Sp Cu) := ⟨_, rfl⟩
 have hby : bytesOf (strOfNums E) = E := by rw [hE]; exact bytesOf_sn (encV_by _)
 have hsz : (strOfNums E).size = E.length := size_sn
 rw [← hE] at hl ⊢
 refine Ev.ifp (by rw [hsz]; omega) ?_
 have hsz2 : (strOfNums E ++ (⟨#[0]⟩ : ByteArray)).size ≤ 1000000000 := by
  rw [ByteArray.size_append, hsz]
  have : (⟨#[0]⟩ : ByteArray).size = 1 := rfl
  omega
 rw [decode_val hsz2, bytes_zero, hby, hE, dec_more hx hX.1 hX.2.1, ← hE]
 refine Ev.bnd ?_
 have J1 : ∀ (b : Bool), (b = true ∨ (0 ≤ x1 ∧ x1 < (E.length : Int))) → Ev (fun k => greenwoodlaw23_AnswerCut.j1 k x1 (strOfNums E) 13 (E.length : Int) b) true := by
  intro b hb
  have last : Ev (fun _ : Nat => if (13 : Int) = 13 then (some ((E.length : Int) == ((strOfNums E).size : Int))) else (some false)) true :=
   Ev.ifp rfl (Ev.val (by rw [hsz]; exact beq_self_eq_true _))
  cases b with
  | true =>
   refine Ev.step (fun k => by rw [greenwoodlaw23_AnswerCut.j1]) ?_
   exact Ev.ifp rfl last
  | false =>
   obtain ⟨h0, h1⟩ : 0 ≤ x1 ∧ x1 < (E.length : Int) := by rcases hb with hb | hb; (cases hb); (exact hb)
   obtain ⟨c, rfl⟩ : ∃ c : Nat, x1 = (c : Int) := ⟨x1.toNat, by omega⟩
   have hc : c < (encV (mkV kd no S U Se Sp Cu)).length := by rw [← hE]; omega
   obtain ⟨q, hq, hd⟩ := dec_cut hx hX.1 hX.2.1 hc
   refine Ev.step (fun k => by rw [greenwoodlaw23_AnswerCut.j1]) ?_
   refine Ev.ifn (by decide) ?_
   refine Ev.ifp h0 ?_
   refine Ev.ifp (by rw [hsz]; omega) ?_
   have hsz3 : ((strOfNums E).extract 0 ((c : Int)).toNat).size ≤ 1000000000 := by
    rw [ByteArray.size_extract, hsz]; omega
   rw [decode_val hsz3, bytes_extract, hby, Int.toNat_natCast, hE, hd, ← hE]
   refine Ev.bnd ?_
   refine Ev.ifp rfl ?_
   refine Ev.ifp (show (q : Int) ≤ (c : Int) by omega) ?_
   obtain ⟨r, hr, hiff⟩ := sameA_ev 0 false [] [] [] [] [] 0 false [] [] [] [] [] ⟨by simp, by simp, by simp, by simp, by simp, by simp, by simp, by simp⟩
   obtain rfl : r = true := hiff.2 ⟨rfl, rfl, rfl, rfl, rfl, rfl, rfl⟩
   refine Ev.bind hr ?_
   exact Ev.ifp rfl last
 by_cases hx1 : x1 < 0
 ·exact Ev.ifp hx1 (J1 true (.inl rfl))
 ·refine Ev.ifn hx1 ?_
  rw [hsz]
  refine J1 _ ?_
  by_cases h : x1 ≥ (E.length : Int)
  ·exact .inl (decide_eq_true h)
  ·exact .inr ⟨by omega, by omega⟩
end Go.Proofs.YtlekdhejgdfnpaaDoor.P
/- What a tied row's premise gives a walk: the one variable of the library's, laid; a world that meets it. (Turned from a worked proof of the kit.) -/
namespace Go.Proofs.YtlekdhejgdfnpaaDoor.P
open Go.ChangeShapes Go.WideShapes Go.RowKit
set_option linter.unusedVariables false
set_option linter.unusedSimpArgs false

theorem td_et : Tryd.prog.globalNamed "errors.errorType" = some 0 := by kernel_rfl
theorem td_rt : (Tryd.prog.cutTypes.find? (·.1 == "internal/reflectlite.rtype")).map (·.2) = some 116 := by kernel_rfl
theorem td_oneRow : ((List.range 158).filter fun t => Tryd.prog.rowNamed t [101, 114, 114, 111, 114]) = [66] := by kernel_rfl
theorem td_size : Tryd.prog.types.size = 158 := by kernel_rfl
def laidE {H : Type} : List (String × DataW H) := [("errors.errorType", Rows.laid_errors_errorType)]
theorem ev_of_laid {W : World} (h : laidMetH Tryd.prog laidE W) : EV W := by
 have h' : laidMet Tryd.prog [] W ∧ handlesMet Tryd.prog laidE W := h
 obtain ⟨name, u, ty, e1, e2, e3, e4, e5⟩ := h'.2 _ (List.mem_singleton.2 rfl)
 have en : name = [101, 114, 114, 111, 114] := (Option.some.inj e1).symm
 subst en
 obtain rfl := Option.some.inj (td_rt.symm.trans e2)
 have hm : ty ∈ (List.range 158).filter fun t => Tryd.prog.rowNamed t [101, 114, 114, 111, 114] := List.mem_filter.2 ⟨List.mem_range.2 (by rw [← td_size]; exact e3), e4⟩
 rw [td_oneRow] at hm
 obtain rfl := List.mem_singleton.1 hm
 have hh : typeHandle Tryd.prog 66 = .pointer (some ⟨1, 66, none⟩) := by kernel_rfl
 rw [hh] at e5
 have := World.var?_cell td_et e5 0
 unfold EV
 simpa using this
noncomputable def laidWorld (os : Os) : World :=
 let w0 := World.holding Tryd.prog os ⟨#[], #[], []⟩
 { w0 with heap := w0.heap.modify 0 fun
  | .cells _ t frozen => .cells #[.iface 116 (.agg #[.pointer (some ⟨1, 66, none⟩)])] t frozen
  | o => o }
theorem laidWorld_met (os : Os) (args : Array Value) : laidMetH Tryd.prog laidE ((laidWorld os).forCall (fun _ _ => 0) ⟨#[], args, []⟩).memory :=
 laidMetH_of_parts (laidMet_nil _ _) (by kernel_rfl)
end Go.Proofs.YtlekdhejgdfnpaaDoor.P
/- What came in, opened: an answer. -/
namespace Go.Proofs.YtlekdhejgdfnpaaDoor.P
open Go.RowKit Go.WideShapes Go.Proofs.YtlekdhejgdfnpaaDoorW.PrintWords Go.Proofs.YtlekdhejgdfnpaaDoorW.PrintLast Go.Proofs.YtlekdhejgdfnpaaDoorW.PrintMore
set_option linter.unusedVariables false
set_option linter.unusedSimpArgs false

theorem cells_spl : Tryd.prog.cellsOf 41 = 3 := by kernel_rfl
theorem cells_cut : Tryd.prog.cellsOf 43 = 2 := by kernel_rfl
theorem cells_ans : Tryd.prog.cellsOf 27 = 7 := by kernel_rfl
theorem opens_il : Opens Tryd.prog 22 (Kd.slice 3 (Kd.int .i64)) (fun _ => True) :=
 (opens_slice 3 Tryd.underlying22 (by kernel_rfl) (opens_int Tryd.underlying3 (by kernel_rfl))).mono (fun _ _ => trivial)
set_option maxRecDepth 100000 in
theorem opens_spl : Opens Tryd.prog 41 k41 (fun _ => True) :=
 ⟨cells_spl, fun {H enc w base fuel held cs x} h => by
  obtain ⟨xs, n, rfl, _, hl, hlen, hf⟩ := DataW.trod_struct Tryd.underlying41 h
  rw [cells_spl] at hl
  match cs, hl with
  | [v0, v1, v2], _ =>
   match xs, hlen with
   | [y0, y1, y2], _ =>
    have g0 : DataW.trod enc Tryd.prog w base (fun _ => true) held n 22 [v0] = some y0 := hf 0 _ rfl
    have g1 : DataW.trod enc Tryd.prog w base (fun _ => true) held n 22 [v1] = some y1 := hf 1 _ rfl
    have g2 : DataW.trod enc Tryd.prog w base (fun _ => true) held n 22 [v2] = some y2 := hf 2 _ rfl
    obtain ⟨l0, ⟨A0, c0, e0, hc0, hr0⟩, _⟩ := opens_il.op g0
    obtain ⟨l1, ⟨A1, c1, e1, hc1, hr1⟩, _⟩ := opens_il.op g1
    obtain ⟨l2, ⟨A2, c2, e2, hc2, hr2⟩, _⟩ := opens_il.op g2
    have e0 := List.head_eq_of_cons_eq e0
    have e1 := List.head_eq_of_cons_eq e1
    have e2 := List.head_eq_of_cons_eq e2
    subst e0 e1 e2
    exact ⟨⟨l0, l1, l2⟩, k41_mk w ⟨l0, l1, l2⟩ hc0 hr0 hc1 hr1 hc2 hr2, trivial⟩⟩
set_option maxRecDepth 100000 in
theorem opens_cut : Opens Tryd.prog 43 k43 (fun _ => True) :=
 ⟨cells_cut, fun {H enc w base fuel held cs x} h => by
  obtain ⟨xs, n, rfl, _, hl, hlen, hf⟩ := DataW.trod_struct Tryd.underlying43 h
  rw [cells_cut] at hl
  match cs, hl with
  | [v0, v1], _ =>
   match xs, hlen with
   | [y0, y1], _ =>
    have g0 : DataW.trod enc Tryd.prog w base (fun _ => true) held n 22 [v0] = some y0 := hf 0 _ rfl
    have g1 : DataW.trod enc Tryd.prog w base (fun _ => true) held n 3 [v1] = some y1 := hf 1 _ rfl
    obtain ⟨l0, ⟨A0, c0, e0, hc0, hr0⟩, _⟩ := opens_il.op g0
    obtain ⟨a1, e1, _, w1⟩ := DataW.trod_int Tryd.underlying3 g1
    have e0 := List.head_eq_of_cons_eq e0
    have e1 := List.head_eq_of_cons_eq e1
    subst e0 e1
    exact ⟨⟨l0, a1⟩, k43_mk w ⟨l0, a1⟩ hc0 hr0, trivial⟩⟩
theorem opens_ills : Opens Tryd.prog 23 (Kd.slice 22 (Kd.slice 3 (Kd.int .i64))) (fun _ => True) :=
 (opens_slice 22 Tryd.underlying23 (by kernel_rfl) opens_il).mono (fun _ _ => trivial)
theorem opens_spls : Opens Tryd.prog 24 (Kd.slice 41 k41) (fun _ => True) :=
 (opens_slice 41 Tryd.underlying24 (by kernel_rfl) opens_spl).mono (fun _ _ => trivial)
theorem opens_cuts : Opens Tryd.prog 25 (Kd.slice 43 k43) (fun _ => True) :=
 (opens_slice 43 Tryd.underlying25 (by kernel_rfl) opens_cut).mono (fun _ _ => trivial)
/-- how long a slice may be, whose bytes are within reach -/
theorem sl_len {H : Type} {enc : TypeId × Value → H} {w : World} {base fuel : Nat} {held : Bool} {t e : TypeId} {x : DataW H × List MemPlace} {A : Option Addr} {len c : Nat} (ht : Tryd.prog.underlying t = some (.slice e)) (hb : 1 ≤ Tryd.prog.bytesOf e)
 (h : DataW.trod enc Tryd.prog w base (fun _ => true) held fuel t [.slice A len c] = some x) (hw : ∀ n ∈ x.1.weights Tryd.prog t, n ≤ reachBytes) : len ≤ 140737488355328 := by
 rcases DataW.trod_slice ht h with ⟨e1, _⟩ | ⟨a, len', cap, elems, rest, n, _, e1, e2, _, _, _, hl, _⟩
 ·have e3 := List.head_eq_of_cons_eq e1
  injection e3 with _ e4 _
  omega
 ·have e3 := List.head_eq_of_cons_eq e1
  injection e3 with _ e4 _
  subst e4
  subst e2
  have h1 := hw (((elems.map (·.1)).length + (rest.map (·.1)).length) * Tryd.prog.bytesOf e) (by simp [DataW.weights, ht])
  rw [List.length_map] at h1
  have h2 : elems.length + (rest.map (·.1)).length ≤ (elems.length + (rest.map (·.1)).length) * Tryd.prog.bytesOf e := Nat.le_mul_of_pos_right _ hb
  have h3 := reachBytes_lt
  omega
set_option maxRecDepth 100000 in
theorem ans_arg {r : Reach} {H : Type} {enc : TypeId × Value → H} {w W0 : World} {base b0 : Nat} {held : Bool} {v : Value} {dd : DataW H} {ps : List MemPlace} (hv : Value.okWide Tryd.prog W0 r b0 27 v)
 (ht : DataW.Trod enc Tryd.prog w base (fun _ => true) held 27 v dd ps) (hw : ∀ n ∈ dd.weights Tryd.prog 27, n ≤ reachBytes) :
 ∃ (a0 : Int) (a1 : Bool) (A2 : Option Addr) (c2 : Nat) (l2 : List Int) (A3 : Option Addr) (c3 : Nat) (l3 : List Int) (A4 : Option Addr) (c4 : Nat) (l4 : List (List Int)) (A5 : Option Addr) (c5 : Nat) (l5 : List Spl) (A6 : Option Addr) (c6 : Nat) (l6 : List Cut),
  v = .agg #[.int .i64 a0, .bool a1, .slice A2 l2.length c2, .slice A3 l3.length c3, .slice A4 l4.length c4, .slice A5 l5.length c5, .slice A6 l6.length c6] ∧ Kd.C (Kd.int .i64) w A2 l2.length l2 ∧ l2.length ≤ c2 ∧ Kd.C (Kd.int .i64) w A3 l3.length l3 ∧ l3.length ≤ c3 ∧
  Kd.C (Kd.slice 3 (Kd.int .i64)) w A4 l4.length l4 ∧ l4.length ≤ c4 ∧ Kd.C k41 w A5 l5.length l5 ∧ l5.length ≤ c5 ∧ Kd.C k43 w A6 l6.length l6 ∧ l6.length ≤ c6 ∧ OkA l2 l3 l4 l5 l6 := by
 obtain ⟨cs, rfl, _⟩ := okWide_struct Tryd.underlying27 hv
 obtain ⟨fuel, hf0⟩ := ht
 obtain ⟨xs, n, rfl, hx, hl, hlen, hf⟩ := DataW.trod_struct Tryd.underlying27 hf0
 rw [cells_ans] at hl
 obtain rfl : dd = .agg (xs.map (·.1)) := congrArg Prod.fst hx
 obtain ⟨cs⟩ := cs
 match cs, hl with
 | [v0, v1, v2, v3, v4, v5, v6], _ =>
  match xs, hlen with
  | [y0, y1, y2, y3, y4, y5, y6], _ =>
   have g0 : DataW.trod enc Tryd.prog w base (fun _ => true) held n 3 [v0] = some y0 := hf 0 _ rfl
   have g1 : DataW.trod enc Tryd.prog w base (fun _ => true) held n 4 [v1] = some y1 := hf 1 _ rfl
   have g2 : DataW.trod enc Tryd.prog w base (fun _ => true) held n 22 [v2] = some y2 := hf 2 _ rfl
   have g3 : DataW.trod enc Tryd.prog w base (fun _ => true) held n 22 [v3] = some y3 := hf 3 _ rfl
   have g4 : DataW.trod enc Tryd.prog w base (fun _ => true) held n 23 [v4] = some y4 := hf 4 _ rfl
   have g5 : DataW.trod enc Tryd.prog w base (fun _ => true) held n 24 [v5] = some y5 := hf 5 _ rfl
   have g6 : DataW.trod enc Tryd.prog w base (fun _ => true) held n 25 [v6] = some y6 := hf 6 _ rfl
   have hwt : ∀ (j : Nat) (t : TypeId) (d : DataW H), ([3, 4, 22, 22, 23, 24, 25] : List TypeId)[j]? = some t → ([y0.1, y1.1, y2.1, y3.1, y4.1, y5.1, y6.1] : List (DataW H))[j]? = some d → ∀ m ∈ d.weights Tryd.prog t, m ≤ reachBytes := fun j t d h1 h2 m hm => by
    refine hw m ?_
    have h3 := DataW.weights_mem_each (P := Tryd.prog) h1 h2 m hm
    rw [DataW.weights, Tryd.underlying27]
    exact h3
   obtain ⟨a0, e0, _, _⟩ := DataW.trod_int Tryd.underlying3 g0
   obtain ⟨a1, e1, _⟩ := DataW.trod_bool Tryd.underlying4 g1
   obtain ⟨l2, ⟨A2, c2, e2, hc2, hr2⟩, _⟩ := opens_il.op g2
   obtain ⟨l3, ⟨A3, c3, e3, hc3, hr3⟩, _⟩ := opens_il.op g3
   obtain ⟨l4, ⟨A4, c4, e4, hc4, hr4⟩, _⟩ := opens_ills.op g4
   obtain ⟨l5, ⟨A5, c5, e5, hc5, hr5⟩, _⟩ := opens_spls.op g5
   obtain ⟨l6, ⟨A6, c6, e6, hc6, hr6⟩, _⟩ := opens_cuts.op g6
   have e0 := List.head_eq_of_cons_eq e0
   have e1 := List.head_eq_of_cons_eq e1
   have e2 := List.head_eq_of_cons_eq e2
   have e3 := List.head_eq_of_cons_eq e3
   have e4 := List.head_eq_of_cons_eq e4
   have e5 := List.head_eq_of_cons_eq e5
   have e6 := List.head_eq_of_cons_eq e6
   subst e0 e1 e2 e3 e4 e5 e6
   exact ⟨a0, a1, A2, c2, l2, A3, c3, l3, A4, c4, l4, A5, c5, l5, A6, c6, l6, rfl, hr2, hc2, hr3, hc3, hr4, hc4, hr5, hc5, hr6, hc6,
    sl_len Tryd.underlying22 (of_decide_eq_true (by kernel_rfl)) g2 (hwt 2 _ _ rfl rfl), sl_len Tryd.underlying22 (of_decide_eq_true (by kernel_rfl)) g3 (hwt 3 _ _ rfl rfl), sl_len Tryd.underlying23 (of_decide_eq_true (by kernel_rfl)) g4 (hwt 4 _ _ rfl rfl),
    sl_len Tryd.underlying24 (of_decide_eq_true (by kernel_rfl)) g5 (hwt 5 _ _ rfl rfl), sl_len Tryd.underlying25 (of_decide_eq_true (by kernel_rfl)) g6 (hwt 6 _ _ rfl rfl)⟩
end Go.Proofs.YtlekdhejgdfnpaaDoor.P
