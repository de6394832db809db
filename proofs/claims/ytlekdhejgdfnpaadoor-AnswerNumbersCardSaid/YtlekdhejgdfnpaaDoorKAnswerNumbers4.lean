/- Texts of this claim's own repository, merged by wip/tool/pack.py: AnsT, AnsLa, AnsLb, AnsW, AnsX, AnsLbk, AnsNa, AnsNb, TiedC. -/
import Derived.Test.YtlekdhejgdfnpaaDoorRows
import Derived.ChangeSame
import Derived.ChangeVars
import Derived.JoinedOf
import Derived.RowKit
import Derived.RowKitTokens
import Derived.LaidLaws
import Derived.LaidHandle
import Derived.Stop.Joined
import Derived.Test.YtlekdhejgdfnpaaDoorKAnswerNumbers3
set_option linter.unusedVariables false
set_option linter.unusedSimpArgs false
/- Layer 23: an answer's bytes, read and written. -/
namespace Go.Proofs.YtlekdhejgdfnpaaDoor.P
open Go.RowKit Go.Proofs.YtlekdhejgdfnpaaDoorW.PrintWords Go.Proofs.YtlekdhejgdfnpaaDoorW.PrintLast Go.Proofs.YtlekdhejgdfnpaaDoorW.PrintMore
open Wr
set_option linter.unusedVariables false
set_option linter.unusedSimpArgs false

section
variable {α : Type} {F : Rdr α} {E : α → List Int} {P : α → Prop} {most : Int}
def cntB (most : Int) (F : Rdr α) : Rdr (Int × List α) := bindR (countR most) (fun n => manyR F n.toNat)
def cntL (most : Int) (F : Rdr α) : Rdr (List α) := fun S st => ((cntB most F S st).1.2, (cntB most F S st).2)
def cntE (E : α → List Int) (l : List α) : List Int := encN (l.length : Int) ++ l.flatMap E
def cntP (most : Int) (P : α → Prop) (l : List α) : Prop := (l.length : Int) ≤ most ∧ ∀ x ∈ l, P x
theorem count_err : ErrOk (countR most) := ErrOk.sim (count_sim most) (head_err most)
theorem cnt_err (h : ErrOk F) : ErrOk (cntL most F) := ErrOk.map (F := cntB most F) Prod.snd (fun _ _ => rfl) (ErrOk.bind count_err (fun n => many_err h _))
theorem cnt_split : ∀ y, cntP most P y → ∃ x : Int × List α, (BndP most x.1 ∧ AllP P x.1.toNat x.2) ∧ x.2 = y ∧ encN x.1 ++ x.2.flatMap E = cntE E y :=
 fun y hy => ⟨((y.length : Int), y), ⟨⟨by dsimp only; omega, hy.1⟩, by simp, hy.2⟩, rfl, rfl⟩
theorem cntB_enc (hm : most ≤ MX) (h : EncOk F E P) : EncOk (cntB most F) (fun x => encN x.1 ++ x.2.flatMap E) (fun x => BndP most x.1 ∧ AllP P x.1.toNat x.2) := EncOk.bind (EncOk.sim (count_sim most) (head_enc hm)) (fun n _ => many_enc h n.toNat)
theorem cnt_enc (hm : most ≤ MX) (h : EncOk F E P) : EncOk (cntL most F) (cntE E) (cntP most P) := EncOk.map2 Prod.snd (fun _ _ => rfl) cnt_split (cntB_enc hm h)
theorem cntB_cut (hm : most ≤ MX) (h : CutOk F E P) (he : EncOk F E P) (hr : ErrOk F) : CutOk (cntB most F) (fun x => encN x.1 ++ x.2.flatMap E) (fun x => BndP most x.1 ∧ AllP P x.1.toNat x.2) :=
 CutOk.bind (CutOk.sim (count_sim most) (head_cut hm)) (EncOk.sim (count_sim most) (head_enc hm)) (fun n _ => many_cut h he hr n.toNat) (fun n => many_err hr _)
theorem cnt_cut (hm : most ≤ MX) (h : CutOk F E P) (he : EncOk F E P) (hr : ErrOk F) : CutOk (cntL most F) (cntE E) (cntP most P) := CutOk.map2 Prod.snd (fun _ _ => rfl) cnt_split (cntB_cut hm h he hr)
theorem cntB_back (h : BackOk F E P) (hr : ErrOk F) : BackOk (cntB most F) (fun x => encN x.1 ++ x.2.flatMap E) (fun x => BndP most x.1 ∧ AllP P x.1.toNat x.2) :=
 BackOk.bind (BackOk.sim (count_sim most) (head_back most)) (fun n _ => many_back h hr n.toNat) (fun n => many_err hr _)
theorem cnt_back (h : BackOk F E P) (hr : ErrOk F) : BackOk (cntL most F) (cntE E) (cntP most P) := by
 refine BackOk.map Prod.snd (fun _ _ => rfl) ?_ (cntB_back h hr)
 rintro ⟨n, l⟩ ⟨⟨h0, h1⟩, h2, h3⟩
 dsimp only at *
 refine ⟨⟨by omega, h3⟩, ?_⟩
 show encN (l.length : Int) ++ _ = _
 rw [h2, show ((n.toNat : Nat) : Int) = n by omega]
end
/-! ### an answer -/
def a5 : Rdr (List Spl × List Cut) := bindR (cntL 65 splF) (fun _ => cntL 200 cutF)
def a4 : Rdr (List (List Int) × (List Spl × List Cut)) := bindR (cntL 200 lstF) (fun _ => a5)
def a3 : Rdr (List Int × (List (List Int) × (List Spl × List Cut))) := bindR lstF (fun _ => a4)
def a2 : Rdr (List Int × (List Int × (List (List Int) × (List Spl × List Cut)))) := bindR lstF (fun _ => a3)
def a1 : Rdr (Int × (List Int × (List Int × (List (List Int) × (List Spl × List Cut))))) := bindR numF (fun _ => a2)
def a0 : Rdr (Int × (Int × (List Int × (List Int × (List (List Int) × (List Spl × List Cut)))))) := bindR numF (fun _ => a1)
def toV (q : Int × (Int × (List Int × (List Int × (List (List Int) × (List Spl × List Cut)))))) : AnsV := ⟨q.1, q.2.1, q.2.2.1, q.2.2.2.1, q.2.2.2.2.1, q.2.2.2.2.2.1, q.2.2.2.2.2.2⟩
theorem ans_map (S : List Int) (st : St) : ansF S st = (toV (a0 S st).1, (a0 S st).2) := by
 unfold ansF toV a0 a1 a2 a3 a4 a5 cntL cntB bindR manyR countR
 dsimp only
def e5 (x : List Spl × List Cut) : List Int := cntE SE x.1 ++ cntE CE x.2
def e4 (x : List (List Int) × (List Spl × List Cut)) : List Int := cntE LE x.1 ++ e5 x.2
def e3 (x : List Int × (List (List Int) × (List Spl × List Cut))) : List Int := LE x.1 ++ e4 x.2
def e2 (x : List Int × (List Int × (List (List Int) × (List Spl × List Cut)))) : List Int := LE x.1 ++ e3 x.2
def e1 (x : Int × (List Int × (List Int × (List (List Int) × (List Spl × List Cut))))) : List Int := encN x.1 ++ e2 x.2
def e0 (x : Int × (Int × (List Int × (List Int × (List (List Int) × (List Spl × List Cut)))))) : List Int := encN x.1 ++ e1 x.2
def p5 (x : List Spl × List Cut) : Prop := cntP 65 SP x.1 ∧ cntP 200 CP x.2
def p4 (x : List (List Int) × (List Spl × List Cut)) : Prop := cntP 200 LP x.1 ∧ p5 x.2
def p3 (x : List Int × (List (List Int) × (List Spl × List Cut))) : Prop := LP x.1 ∧ p4 x.2
def p2 (x : List Int × (List Int × (List (List Int) × (List Spl × List Cut)))) : Prop := LP x.1 ∧ p3 x.2
def p1 (x : Int × (List Int × (List Int × (List (List Int) × (List Spl × List Cut))))) : Prop := NumP x.1 ∧ p2 x.2
def p0 (x : Int × (Int × (List Int × (List Int × (List (List Int) × (List Spl × List Cut)))))) : Prop := NumP x.1 ∧ p1 x.2
theorem r5 : ErrOk a5 := ErrOk.bind (cnt_err spl_err) (fun _ => cnt_err cut_err)
theorem r4 : ErrOk a4 := ErrOk.bind (cnt_err lst_err) (fun _ => r5)
theorem r3 : ErrOk a3 := ErrOk.bind lst_err (fun _ => r4)
theorem r2 : ErrOk a2 := ErrOk.bind lst_err (fun _ => r3)
theorem r1 : ErrOk a1 := ErrOk.bind numR_err (fun _ => r2)
theorem n5 : EncOk a5 e5 p5 := EncOk.bind (cnt_enc (by decide) spl_enc) (fun _ _ => cnt_enc (by decide) cut_enc)
theorem n4 : EncOk a4 e4 p4 := EncOk.bind (cnt_enc (by decide) lst_enc) (fun _ _ => n5)
theorem n3 : EncOk a3 e3 p3 := EncOk.bind lst_enc (fun _ _ => n4)
theorem n2 : EncOk a2 e2 p2 := EncOk.bind lst_enc (fun _ _ => n3)
theorem n1 : EncOk a1 e1 p1 := EncOk.bind num_enc (fun _ _ => n2)
theorem n0 : EncOk a0 e0 p0 := EncOk.bind num_enc (fun _ _ => n1)
theorem c5 : CutOk a5 e5 p5 := CutOk.bind (cnt_cut (by decide) spl_cut spl_enc spl_err) (cnt_enc (by decide) spl_enc) (fun _ _ => cnt_cut (by decide) cut_cut cut_enc cut_err) (fun _ => cnt_err cut_err)
theorem c4 : CutOk a4 e4 p4 := CutOk.bind (cnt_cut (by decide) lst_cut lst_enc lst_err) (cnt_enc (by decide) lst_enc) (fun _ _ => c5) (fun _ => r5)
theorem c3 : CutOk a3 e3 p3 := CutOk.bind lst_cut lst_enc (fun _ _ => c4) (fun _ => r4)
theorem c2 : CutOk a2 e2 p2 := CutOk.bind lst_cut lst_enc (fun _ _ => c3) (fun _ => r3)
theorem c1 : CutOk a1 e1 p1 := CutOk.bind num_cut num_enc (fun _ _ => c2) (fun _ => r2)
theorem c0 : CutOk a0 e0 p0 := CutOk.bind num_cut num_enc (fun _ _ => c1) (fun _ => r1)
theorem b5 : BackOk a5 e5 p5 := BackOk.bind (cnt_back spl_back spl_err) (fun _ _ => cnt_back cut_back cut_err) (fun _ => cnt_err cut_err)
theorem b4 : BackOk a4 e4 p4 := BackOk.bind (cnt_back lst_back lst_err) (fun _ _ => b5) (fun _ => r5)
theorem b3 : BackOk a3 e3 p3 := BackOk.bind lst_back (fun _ _ => b4) (fun _ => r4)
theorem b2 : BackOk a2 e2 p2 := BackOk.bind lst_back (fun _ _ => b3) (fun _ => r3)
theorem b1 : BackOk a1 e1 p1 := BackOk.bind num_back (fun _ _ => b2) (fun _ => r2)
theorem b0 : BackOk a0 e0 p0 := BackOk.bind num_back (fun _ _ => b1) (fun _ => r1)
def ofV (x : AnsV) : Int × (Int × (List Int × (List Int × (List (List Int) × (List Spl × List Cut))))) := (x.kd, x.no, x.S, x.U, x.Se, x.Sp, x.Cu)
def encV (x : AnsV) : List Int := e0 (ofV x)
def PV (x : AnsV) : Prop := p0 (ofV x)
theorem ans_enc : EncOk ansF encV PV := EncOk.map2 toV ans_map (fun y hy => ⟨ofV y, hy, rfl, rfl⟩) n0
/-! ### what may be -/
theorem few_LP (l : List Int) : badA l = false ↔ LP l := by
 unfold badA fewB LP
 rw [Bool.not_eq_false', Bool.and_eq_true, decide_eq_true_eq, Bool.not_eq_true', List.any_eq_false]
 constructor
 ·rintro ⟨h1, h2⟩
  refine ⟨by omega, fun x hx => ?_⟩
  have := h2 x hx
  simp [outA] at this
  unfold IntP
  omega
 ·rintro ⟨h1, h2⟩
  refine ⟨by omega, fun x hx => ?_⟩
  have := h2 x hx
  unfold IntP at this
  simp [outA]
  omega
theorem ok_iff (x : AnsV) : okV x = true ↔ (0 ≤ x.kd ∧ x.kd < 6) ∧ p2 (x.S, x.U, x.Se, x.Sp, x.Cu) := by
 unfold okV okAns p2 p3 p4 p5 cntP SP CP
 simp only [Bool.and_eq_true, decide_eq_true_eq, Bool.not_eq_true', List.any_eq_false]
 constructor
 ·rintro ⟨⟨⟨⟨⟨h0, h1⟩, h2⟩, h3⟩, h4⟩, h5⟩
  have key : ∀ l, l ∈ ([x.S, x.U] ++ x.Se ++ x.Sp.flatMap (fun y => [y.f0, y.f1, y.f2]) ++ x.Cu.flatMap (fun c => [c.f0, [c.f1]])) → LP l := fun l hl => (few_LP l).1 (by have := h5 l hl; simpa using this)
  refine ⟨⟨h0, h1⟩, key _ ?_, key _ ?_, ⟨by omega, fun l hl => key _ ?_⟩, ⟨by omega, fun y hy => ⟨key _ ?_, key _ ?_, key _ ?_⟩⟩, by omega, fun c hc => ⟨key _ ?_, ?_⟩⟩
  ·simp
  ·simp
  ·simp [hl]
  ·exact List.mem_append_left _ (List.mem_append_right _ (List.mem_flatMap.2 ⟨y, hy, by simp⟩))
  ·exact List.mem_append_left _ (List.mem_append_right _ (List.mem_flatMap.2 ⟨y, hy, by simp⟩))
  ·exact List.mem_append_left _ (List.mem_append_right _ (List.mem_flatMap.2 ⟨y, hy, by simp⟩))
  ·exact List.mem_append_right _ (List.mem_flatMap.2 ⟨c, hc, by simp⟩)
  ·exact (key [c.f1] (List.mem_append_right _ (List.mem_flatMap.2 ⟨c, hc, by simp⟩))).2 _ (by simp)
 ·rintro ⟨⟨h0, h1⟩, h2, h3, ⟨h4, h5⟩, ⟨h6, h7⟩, h8, h9⟩
  refine ⟨⟨⟨⟨⟨h0, h1⟩, by omega⟩, by omega⟩, by omega⟩, fun l hl => ?_⟩
  have : LP l := by
   rcases List.mem_append.1 hl with hl | hl
   ·rcases List.mem_append.1 hl with hl | hl
    ·rcases List.mem_append.1 hl with hl | hl
     ·rcases List.mem_cons.1 hl with rfl | hl
      ·exact h2
      ·rcases List.mem_cons.1 hl with rfl | hl
       ·exact h3
       ·cases hl
     ·exact h5 l hl
    ·obtain ⟨y, hy, hl⟩ := List.mem_flatMap.1 hl
     obtain ⟨q0, q1, q2⟩ := h7 y hy
     rcases List.mem_cons.1 hl with rfl | hl
     ·exact q0
     ·rcases List.mem_cons.1 hl with rfl | hl
      ·exact q1
      ·rcases List.mem_cons.1 hl with rfl | hl
       ·exact q2
       ·cases hl
   ·obtain ⟨c, hc, hl⟩ := List.mem_flatMap.1 hl
    obtain ⟨q0, q1⟩ := h9 c hc
    rcases List.mem_cons.1 hl with rfl | hl
    ·exact q0
    ·rcases List.mem_cons.1 hl with rfl | hl
     ·exact ⟨by simp, fun z hz => by obtain rfl := List.mem_singleton.1 hz; exact q1⟩
     ·cases hl
  have := (few_LP l).2 this
  simpa using this
theorem ok_PV {x : AnsV} (h : okV x = true) (h0 : 0 ≤ x.no) (h1 : x.no ≤ 1) : PV x := by
 obtain ⟨⟨k0, k1⟩, h2⟩ := (ok_iff x).1 h
 exact ⟨⟨k0, by show x.kd ≤ MX; simp only [MX]; omega⟩, ⟨h0, by show x.no ≤ MX; simp only [MX]; omega⟩, h2⟩
/-! ### decV of what is written, of what is cut, and back -/
theorem dec_enc {x : AnsV} (h : okV x = true) (h0 : 0 ≤ x.no) (h1 : x.no ≤ 1) : decV (encV x) = (x, 0, ((encV x).length : Int)) := by
 have e := ans_enc [] [] x (ok_PV h h0 h1)
 simp only [List.nil_append, List.append_nil, List.length_nil, Nat.zero_add] at e
 rw [decV_ok e, if_neg (Nat.lt_irrefl _), if_neg (fun hh => by rcases hh with hh | hh; (exact absurd hh (by omega)); (rw [h] at hh; cases hh))]
theorem lists_LE {l : List Int} (h : LP l) : encL encI l = LE l := encL_all (fun x hx => by
 obtain ⟨m, h1, h2, h3⟩ := encI_enc (h.2 x hx)
 rw [h2, Ne, encN_nil]
 have := h1.1; have := h1.2; omega)
end Go.Proofs.YtlekdhejgdfnpaaDoor.P
/- Layer 23: values of the document's Same and Small. -/
namespace Go.Proofs.YtlekdhejgdfnpaaDoor.P
open Go.RowKit Go.Proofs.YtlekdhejgdfnpaaDoorW.PrintWords Go.Proofs.YtlekdhejgdfnpaaDoorW.PrintLast Go.Proofs.YtlekdhejgdfnpaaDoorW.PrintMore
set_option linter.unusedVariables false
set_option linter.unusedSimpArgs false

theorem wr1 {i n : Nat} (h : i < n) (hn : n ≤ 1000000) : wrap64 ((i : Int) + 1) = ((i + 1 : Nat) : Int) := by unfold wrap64; omega
theorem rdL {l : List (List Int)} {i : Nat} (h : i < l.length) : rd_L1 l (i : Int) = l[i] := by simp [rd_L1, List.getD_eq_getElem?_getD, List.getElem?_eq_getElem h]
theorem drop_iff {α : Type} {a b : List α} {i : Nat} (h : i < a.length) (h' : i < b.length) : a.drop i = b.drop i ↔ a[i] = b[i] ∧ a.drop (i + 1) = b.drop (i + 1) := by
 rw [List.drop_eq_getElem_cons h, List.drop_eq_getElem_cons h', List.cons.injEq]
/-! ### Lists -/
theorem lists_l1 (a b : List (List Int)) (i : Nat) (hi : i < a.length) (hj : i < b.length) (hl : a[i].length = b[i].length) (hn : a[i].length ≤ 1000000) (ha : a.length ≤ 1000000) (b0 : Bool) (H : Ev (fun k => greenwoodref13_Lists.l0 k a b ((i + 1 : Nat) : Int)) b0) :
 ∀ (d j : Nat), a[i].length - j = d → j ≤ a[i].length → ∃ r, Ev (fun k => greenwoodref13_Lists.l1 k a b (i : Int) (j : Int)) r ∧ (r = true ↔ a[i].drop j = b[i].drop j ∧ b0 = true) := by
 intro d
 induction d with
 | zero =>
  intro j h1 h2
  refine ⟨b0, Ev.step (fun k => by rw [greenwoodref13_Lists.l1]) ?_, ?_⟩
  ·refine Ev.ifp (by omega) (Ev.ifp (by omega) ?_)
   rw [rdL hi]
   refine Ev.ifn (by omega) ?_
   rw [wr1 hi ha]; exact H
  ·rw [List.drop_of_length_le (by omega), List.drop_of_length_le (by omega)]
   simp
 | succ d ih =>
  intro j h1 h2
  have hja : j < a[i].length := by omega
  have hjb : j < b[i].length := by omega
  by_cases he : a[i][j] = b[i][j]
  ·obtain ⟨r, hr, hiff⟩ := ih (j + 1) (by omega) (by omega)
   refine ⟨r, Ev.step (fun k => by rw [greenwoodref13_Lists.l1]) ?_, ?_⟩
   ·refine Ev.ifp (by omega) (Ev.ifp (by omega) ?_)
    rw [rdL hi, rdL hj]
    refine Ev.ifp (by omega) (Ev.ifp (by omega) (Ev.ifp (by omega) (Ev.ifp (by omega) ?_)))
    rw [rd_at hja, rd_at hjb, wr1 hja hn]
    exact Ev.ifp he hr
   ·rw [drop_iff hja hjb, hiff]
    exact ⟨fun h => ⟨⟨he, h.1⟩, h.2⟩, fun h => ⟨h.1.2, h.2⟩⟩
  ·refine ⟨false, Ev.step (fun k => by rw [greenwoodref13_Lists.l1]) ?_, ?_⟩
   ·refine Ev.ifp (by omega) (Ev.ifp (by omega) ?_)
    rw [rdL hi, rdL hj]
    refine Ev.ifp (by omega) (Ev.ifp (by omega) (Ev.ifp (by omega) (Ev.ifp (by omega) ?_)))
    rw [rd_at hja, rd_at hjb]
    exact Ev.ifn he (Ev.val rfl)
   ·rw [drop_iff hja hjb]
    exact ⟨fun h => absurd h (by decide), fun h => absurd h.1.1 he⟩
theorem lists_l0 (a b : List (List Int)) (hl : a.length = b.length) (ha : a.length ≤ 1000000) (hin : ∀ l ∈ a, l.length ≤ 1000000) : ∀ (d i : Nat), a.length - i = d → i ≤ a.length → ∃ r, Ev (fun k => greenwoodref13_Lists.l0 k a b (i : Int)) r ∧ (r = true ↔ a.drop i = b.drop i) := by
 intro d
 induction d with
 | zero =>
  intro i h1 h2
  refine ⟨true, Ev.step (fun k => by rw [greenwoodref13_Lists.l0]) (Ev.ifn (by omega) (Ev.val rfl)), ?_⟩
  rw [List.drop_of_length_le (by omega), List.drop_of_length_le (by omega)]; simp
 | succ d ih =>
  intro i h1 h2
  have hi : i < a.length := by omega
  have hj : i < b.length := by omega
  obtain ⟨b0, h0, hb0⟩ := ih (i + 1) (by omega) (by omega)
  by_cases hlen : a[i].length = b[i].length
  ·obtain ⟨r, hr, hiff⟩ := lists_l1 a b i hi hj hlen (hin _ (List.getElem_mem hi)) ha b0 h0 a[i].length 0 (by omega) (by omega)
   refine ⟨r, Ev.step (fun k => by rw [greenwoodref13_Lists.l0]) ?_, ?_⟩
   ·refine Ev.ifp (by omega) (Ev.ifp (by omega) (Ev.ifp (by omega) ?_))
    rw [rdL hi, rdL hj]
    exact Ev.ifp (by omega) hr
   ·rw [drop_iff hi hj, hiff, hb0]; simp
  ·refine ⟨false, Ev.step (fun k => by rw [greenwoodref13_Lists.l0]) ?_, ?_⟩
   ·refine Ev.ifp (by omega) (Ev.ifp (by omega) (Ev.ifp (by omega) ?_))
    rw [rdL hi, rdL hj]
    exact Ev.ifn (by omega) (Ev.val rfl)
   ·rw [drop_iff hi hj]
    exact ⟨fun h => absurd h (by decide), fun h => absurd (congrArg List.length h.1) hlen⟩
theorem lists_ev (a b : List (List Int)) (ha : a.length ≤ 1000000) (hin : ∀ l ∈ a, l.length ≤ 1000000) : ∃ r, Ev (fun k => greenwoodref13_Lists.f k a b) r ∧ (r = true ↔ a = b) := by
 unfold greenwoodref13_Lists.f
 by_cases hl : a.length = b.length
 ·obtain ⟨r, hr, hiff⟩ := lists_l0 a b hl ha hin a.length 0 (by omega) (by omega)
  exact ⟨r, Ev.ifp (by omega) hr, by simpa using hiff⟩
 ·exact ⟨false, Ev.ifn (by omega) (Ev.val rfl), fun h => absurd h (by decide), fun h => absurd (congrArg List.length h) hl⟩
/-! ### splits -/
theorem same15_l0 (a b : List Int) (hl : a.length = b.length) (hn : a.length ≤ 1000000) : ∀ (d i : Nat), a.length - i = d → i ≤ a.length → ∃ r, Ev (fun k => greenwoodref15_same.l0 k a b (i : Int)) r ∧ (r = true ↔ a.drop i = b.drop i) := by
 intro d
 induction d with
 | zero =>
  intro i h1 h2
  refine ⟨true, Ev.step (fun k => by rw [greenwoodref15_same.l0]) (Ev.ifn (by omega) (Ev.val rfl)), ?_⟩
  rw [List.drop_of_length_le (by omega), List.drop_of_length_le (by omega)]; simp
 | succ d ih =>
  intro i h1 h2
  have hi : i < a.length := by omega
  have hj : i < b.length := by omega
  obtain ⟨r, hr, hiff⟩ := ih (i + 1) (by omega) (by omega)
  by_cases he : a[i] = b[i]
  ·refine ⟨r, Ev.step (fun k => by rw [greenwoodref15_same.l0]) ?_, by rw [drop_iff hi hj, hiff]; exact ⟨fun h => ⟨he, h⟩, fun h => h.2⟩⟩
   refine Ev.ifp (by omega) (Ev.ifp (by omega) (Ev.ifp (by omega) ?_))
   rw [rd_at hi, rd_at hj, wr1 hi hn]
   exact Ev.ifp he hr
  ·refine ⟨false, Ev.step (fun k => by rw [greenwoodref15_same.l0]) ?_, by rw [drop_iff hi hj]; exact ⟨fun h => absurd h (by decide), fun h => absurd h.1 he⟩⟩
   refine Ev.ifp (by omega) (Ev.ifp (by omega) (Ev.ifp (by omega) ?_))
   rw [rd_at hi, rd_at hj]
   exact Ev.ifn he (Ev.val rfl)
theorem same15_ev (a b : List Int) (hn : a.length ≤ 1000000) : ∃ r, Ev (fun k => greenwoodref15_same.f k a b) r ∧ (r = true ↔ a = b) := by
 unfold greenwoodref15_same.f
 by_cases hl : a.length = b.length
 ·obtain ⟨r, hr, hiff⟩ := same15_l0 a b hl hn a.length 0 (by omega) (by omega)
  exact ⟨r, Ev.ifp (by omega) hr, by simpa using hiff⟩
 ·exact ⟨false, Ev.ifn (by omega) (Ev.val rfl), fun h => absurd h (by decide), fun h => absurd (congrArg List.length h) hl⟩
theorem spl_ext {a b : Spl} : a = b ↔ a.f0 = b.f0 ∧ a.f1 = b.f1 ∧ a.f2 = b.f2 := by
 obtain ⟨a0, a1, a2⟩ := a
 obtain ⟨b0, b1, b2⟩ := b
 simp
theorem cut_ext {a b : Cut} : a = b ↔ a.f1 = b.f1 ∧ a.f0 = b.f0 := by
 obtain ⟨a0, a1⟩ := a
 obtain ⟨b0, b1⟩ := b
 simp [And.comm]
def SplN (y : Spl) : Prop := y.f0.length ≤ 1000000 ∧ y.f1.length ≤ 1000000 ∧ y.f2.length ≤ 1000000
theorem spls_l0 (a b : List Spl) (hl : a.length = b.length) (ha : a.length ≤ 1000000) (hin : ∀ y ∈ a, SplN y) : ∀ (d i : Nat), a.length - i = d → i ≤ a.length → ∃ r, Ev (fun k => greenwoodref15_Same.l0 k a b (i : Int)) r ∧ (r = true ↔ a.drop i = b.drop i) := by
 intro d
 induction d with
 | zero =>
  intro i h1 h2
  refine ⟨true, Ev.step (fun k => by rw [greenwoodref15_Same.l0]) (Ev.ifn (by omega) (Ev.val rfl)), ?_⟩
  rw [List.drop_of_length_le (by omega), List.drop_of_length_le (by omega)]; simp
 | succ d ih =>
  intro i h1 h2
  have hi : i < a.length := by omega
  have hj : i < b.length := by omega
  obtain ⟨r, hr, hiff⟩ := ih (i + 1) (by omega) (by omega)
  obtain ⟨q0, q1, q2⟩ := hin _ (List.getElem_mem hi)
  obtain ⟨r0, e0, f0⟩ := same15_ev a[i].f0 b[i].f0 q0
  obtain ⟨r1, e1, f1⟩ := same15_ev a[i].f1 b[i].f1 q1
  obtain ⟨r2, e2, f2⟩ := same15_ev a[i].f2 b[i].f2 q2
  rw [drop_iff hi hj, spl_ext, ← f0, ← f1, ← f2, ← hiff]
  have go : ∀ r', Ev (fun k => if r0 = true then ((greenwoodref15_same.f k a[i].f1 b[i].f1).bind fun t210 => (if t210 = true then ((greenwoodref15_same.f k a[i].f2 b[i].f2).bind fun t213 => (if t213 = true then (greenwoodref15_Same.l0 k a b (wrap64 ((i : Int) + 1))) else (some false))) else (some false))) else (some false)) r' → Ev (fun k => greenwoodref15_Same.l0 k a b (i : Int)) r' := fun r' h => by
   refine Ev.step (fun k => by rw [greenwoodref15_Same.l0]) ?_
   refine Ev.ifp (by omega) (Ev.ifp (by omega) (Ev.ifp (by omega) ?_))
   rw [rd_41 hi, rd_41 hj]
   exact Ev.bind e0 h
  cases r0 with
  | false => exact ⟨false, go _ (Ev.ifn (by decide) (Ev.val rfl)), by simp⟩
  | true =>
   cases r1 with
   | false => exact ⟨false, go _ (Ev.ifp rfl (Ev.bind e1 (Ev.ifn (by decide) (Ev.val rfl)))), by simp⟩
   | true =>
    cases r2 with
    | false => exact ⟨false, go _ (Ev.ifp rfl (Ev.bind e1 (Ev.ifp rfl (Ev.bind e2 (Ev.ifn (by decide) (Ev.val rfl)))))), by simp⟩
    | true => exact ⟨r, go _ (Ev.ifp rfl (Ev.bind e1 (Ev.ifp rfl (Ev.bind e2 (Ev.ifp rfl (by rw [wr1 hi ha]; exact hr)))))), by simp⟩
theorem spls_ev (a b : List Spl) (ha : a.length ≤ 1000000) (hin : ∀ y ∈ a, SplN y) : ∃ r, Ev (fun k => greenwoodref15_Same.f k a b) r ∧ (r = true ↔ a = b) := by
 unfold greenwoodref15_Same.f
 by_cases hl : a.length = b.length
 ·obtain ⟨r, hr, hiff⟩ := spls_l0 a b hl ha hin a.length 0 (by omega) (by omega)
  exact ⟨r, Ev.ifp (by omega) hr, by simpa using hiff⟩
 ·exact ⟨false, Ev.ifn (by omega) (Ev.val rfl), fun h => absurd h (by decide), fun h => absurd (congrArg List.length h) hl⟩
/-! ### cuts -/
theorem cuts_l0 (a b : List Cut) (hl : a.length = b.length) (ha : a.length ≤ 1000000) (hin : ∀ y ∈ a, y.f0.length ≤ 1000000) : ∀ (d i : Nat), a.length - i = d → i ≤ a.length → ∃ r, Ev (fun k => greenwoodref23_Cuts.l0 k a b (i : Int)) r ∧ (r = true ↔ a.drop i = b.drop i) := by
 intro d
 induction d with
 | zero =>
  intro i h1 h2
  refine ⟨true, Ev.step (fun k => by rw [greenwoodref23_Cuts.l0]) (Ev.ifn (by omega) (Ev.val rfl)), ?_⟩
  rw [List.drop_of_length_le (by omega), List.drop_of_length_le (by omega)]; simp
 | succ d ih =>
  intro i h1 h2
  have hi : i < a.length := by omega
  have hj : i < b.length := by omega
  obtain ⟨r, hr, hiff⟩ := ih (i + 1) (by omega) (by omega)
  have e0 := same_ev a[i].f0 b[i].f0 (hin _ (List.getElem_mem hi))
  rw [drop_iff hi hj, cut_ext, ← hiff]
  by_cases hy : a[i].f1 = b[i].f1
  ·by_cases hs : a[i].f0 = b[i].f0
   ·rw [decide_eq_true hs] at e0
    refine ⟨r, Ev.step (fun k => by rw [greenwoodref23_Cuts.l0]) ?_, by simp [hy, hs]⟩
    refine Ev.ifp (by omega) (Ev.ifp (by omega) (Ev.ifp (by omega) ?_))
    rw [rd_43 hi, rd_43 hj]
    exact Ev.ifp hy (Ev.bind e0 (Ev.ifp rfl (by rw [wr1 hi ha]; exact hr)))
   ·rw [decide_eq_false hs] at e0
    refine ⟨false, Ev.step (fun k => by rw [greenwoodref23_Cuts.l0]) ?_, by simp [hs]⟩
    refine Ev.ifp (by omega) (Ev.ifp (by omega) (Ev.ifp (by omega) ?_))
    rw [rd_43 hi, rd_43 hj]
    exact Ev.ifp hy (Ev.bind e0 (Ev.ifn (by decide) (Ev.val rfl)))
  ·refine ⟨false, Ev.step (fun k => by rw [greenwoodref23_Cuts.l0]) ?_, by simp [hy]⟩
   refine Ev.ifp (by omega) (Ev.ifp (by omega) (Ev.ifp (by omega) ?_))
   rw [rd_43 hi, rd_43 hj]
   exact Ev.ifn hy (Ev.val rfl)
theorem cuts_ev (a b : List Cut) (ha : a.length ≤ 1000000) (hin : ∀ y ∈ a, y.f0.length ≤ 1000000) : ∃ r, Ev (fun k => greenwoodref23_Cuts.f k a b) r ∧ (r = true ↔ a = b) := by
 unfold greenwoodref23_Cuts.f
 by_cases hl : a.length = b.length
 ·obtain ⟨r, hr, hiff⟩ := cuts_l0 a b hl ha hin a.length 0 (by omega) (by omega)
  exact ⟨r, Ev.ifp (by omega) hr, by simpa using hiff⟩
 ·exact ⟨false, Ev.ifn (by omega) (Ev.val rfl), fun h => absurd h (by decide), fun h => absurd (congrArg List.length h) hl⟩
/-! ### Same -/
def LenN (S U : List Int) (Se : List (List Int)) (Sp : List Spl) (Cu : List Cut) : Prop :=
 S.length ≤ 1000000 ∧ U.length ≤ 1000000 ∧ Se.length ≤ 1000000 ∧ (∀ l ∈ Se, l.length ≤ 1000000) ∧ Sp.length ≤ 1000000 ∧ (∀ y ∈ Sp, SplN y) ∧ Cu.length ≤ 1000000 ∧ ∀ y ∈ Cu, y.f0.length ≤ 1000000
theorem sameA_ev (kd : Int) (no : Bool) (S U : List Int) (Se : List (List Int)) (Sp : List Spl) (Cu : List Cut) (kd' : Int) (no' : Bool) (S' U' : List Int) (Se' : List (List Int)) (Sp' : List Spl) (Cu' : List Cut) (h : LenN S U Se Sp Cu) :
 ∃ r, Ev (fun k => greenwoodref23_Same.f k kd no S U Se Sp Cu kd' no' S' U' Se' Sp' Cu') r ∧ (r = true ↔ kd = kd' ∧ no = no' ∧ S = S' ∧ U = U' ∧ Se = Se' ∧ Sp = Sp' ∧ Cu = Cu') := by
 obtain ⟨h1, h2, h3, h4, h5, h6, h7, h8⟩ := h
 unfold greenwoodref23_Same.f
 have eS := same_ev S S' h1
 have eU := same_ev U U' h2
 obtain ⟨r3, e3, f3⟩ := lists_ev Se Se' h3 h4
 obtain ⟨r4, e4, f4⟩ := spls_ev Sp Sp' h5 h6
 obtain ⟨r5, e5, f5⟩ := cuts_ev Cu Cu' h7 h8
 rw [← f3, ← f4, ← f5]
 by_cases hk : kd = kd'
 ·by_cases hn : no = no'
  ·by_cases hS : S = S'
   ·rw [decide_eq_true hS] at eS
    by_cases hU : U = U'
    ·rw [decide_eq_true hU] at eU
     cases r3 with
     | false => exact ⟨false, Ev.ifp hk (Ev.ifp (by simp [hn]) (Ev.bind eS (Ev.ifp rfl (Ev.bind eU (Ev.ifp rfl (Ev.bind e3 (Ev.ifn (by decide) (Ev.val rfl)))))))), by simp⟩
     | true =>
      cases r4 with
      | false => exact ⟨false, Ev.ifp hk (Ev.ifp (by simp [hn]) (Ev.bind eS (Ev.ifp rfl (Ev.bind eU (Ev.ifp rfl (Ev.bind e3 (Ev.ifp rfl (Ev.bind e4 (Ev.ifn (by decide) (Ev.val rfl)))))))))), by simp⟩
      | true => exact ⟨r5, Ev.ifp hk (Ev.ifp (by simp [hn]) (Ev.bind eS (Ev.ifp rfl (Ev.bind eU (Ev.ifp rfl (Ev.bind e3 (Ev.ifp rfl (Ev.bind e4 (Ev.ifp rfl (Ev.bind e5 (Ev.val rfl))))))))))), by simp [hk, hn, hS, hU]⟩
    ·rw [decide_eq_false hU] at eU
     exact ⟨false, Ev.ifp hk (Ev.ifp (by simp [hn]) (Ev.bind eS (Ev.ifp rfl (Ev.bind eU (Ev.ifn (by decide) (Ev.val rfl)))))), by simp [hU]⟩
   ·rw [decide_eq_false hS] at eS
    exact ⟨false, Ev.ifp hk (Ev.ifp (by simp [hn]) (Ev.bind eS (Ev.ifn (by decide) (Ev.val rfl)))), by simp [hS]⟩
  ·exact ⟨false, Ev.ifp hk (Ev.ifn (by simpa using hn) (Ev.val rfl)), by simp [hn]⟩
 ·exact ⟨false, Ev.ifn hk (Ev.val rfl), by simp [hk]⟩
section
variable (kd : Int) (no : Bool) (S U : List Int) (Se : List (List Int)) (Sp : List Spl) (Cu : List Cut)
end
end Go.Proofs.YtlekdhejgdfnpaaDoor.P
/- Layer 23: what the laws stand on: bytes as strings, the closed values of Encode, Decode and Check. -/
namespace Go.Proofs.YtlekdhejgdfnpaaDoor.P
open Go.RowKit Go.Proofs.YtlekdhejgdfnpaaDoorW.PrintWords Go.Proofs.YtlekdhejgdfnpaaDoorW.PrintLast Go.Proofs.YtlekdhejgdfnpaaDoorW.PrintMore
open Wr
set_option linter.unusedVariables false
set_option linter.unusedSimpArgs false

/-! ### an answer's bytes -/
def mkV (kd : Int) (no : Bool) (S U : List Int) (Se : List (List Int)) (Sp : List Spl) (Cu : List Cut) : AnsV := ⟨kd, if no = true then 1 else 0, S, U, Se, Sp, Cu⟩
theorem mkV_no (kd : Int) (no : Bool) (S U : List Int) (Se : List (List Int)) (Sp : List Spl) (Cu : List Cut) : 0 ≤ (mkV kd no S U Se Sp Cu).no ∧ (mkV kd no S U Se Sp Cu).no ≤ 1 ∧ ((mkV kd no S U Se Sp Cu).no == 1) = no := by
 cases no <;> simp [mkV]
theorem flat_LE {ls : List (List Int)} (h : ∀ l ∈ ls, LP l) : listsB ls = ls.flatMap LE := by
 unfold listsB
 induction ls with
 | nil => rfl
 | cons a r ih => rw [List.flatMap_cons, List.flatMap_cons, ih (fun l hl => h l (List.mem_cons_of_mem _ hl)), lists_LE (h a (List.mem_cons_self ..))]
theorem flat_congr {α : Type} {f g : α → List Int} : ∀ (l : List α), (∀ x ∈ l, f x = g x) → l.flatMap f = l.flatMap g := by
 intro l
 induction l with
 | nil => intro _; rfl
 | cons a r ih => intro h; rw [List.flatMap_cons, List.flatMap_cons, h a (List.mem_cons_self ..), ih (fun x hx => h x (List.mem_cons_of_mem _ hx))]
theorem enc_eq {kd : Int} {no : Bool} {S U : List Int} {Se : List (List Int)} {Sp : List Spl} {Cu : List Cut} (h : okAns kd S U Se Sp Cu = true) : encAns kd no S U Se Sp Cu = encV (mkV kd no S U Se Sp Cu) := by
 obtain ⟨-, h2, h3, ⟨-, h5⟩, ⟨-, h7⟩, -, h9⟩ := (ok_iff (mkV kd no S U Se Sp Cu)).1 h
 unfold encAns encV ofV e0 e1 e2 e3 e4 e5 cntE mkV
 dsimp only
 have hS : listsB [S, U] = LE S ++ LE U := by rw [flat_LE (ls := [S, U]) (fun l hl => by rcases List.mem_cons.1 hl with rfl | hl; (exact h2); (rcases List.mem_cons.1 hl with rfl | hl; (exact h3); (cases hl)))]; simp
 have hSe : listsB Se = Se.flatMap LE := flat_LE (fun l hl => h5 l hl)
 have hSp : Sp.flatMap (fun y => listsB [y.f0, y.f1, y.f2]) = Sp.flatMap SE := flat_congr Sp (fun y hy => by
  obtain ⟨q0, q1, q2⟩ := h7 y hy
  rw [flat_LE (fun l hl => by
   rcases List.mem_cons.1 hl with rfl | hl
   ·exact q0
   ·rcases List.mem_cons.1 hl with rfl | hl
    ·exact q1
    ·rcases List.mem_cons.1 hl with rfl | hl
     ·exact q2
     ·cases hl)]
  simp [SE])
 have hCu : Cu.flatMap (fun c => listsB [c.f0] ++ encI c.f1) = Cu.flatMap CE := flat_congr Cu (fun c hc => by
  rw [flat_LE (fun l hl => by
   rcases List.mem_cons.1 hl with rfl | hl
   ·exact (h9 c hc).1
   ·cases hl)]
  simp [CE])
 rw [hS, hSe, hSp, hCu]
 simp only [List.append_assoc]
theorem ok_len {x : AnsV} (h : okV x = true) : LenN x.S x.U x.Se x.Sp x.Cu := by
 obtain ⟨-, h2, h3, ⟨h4, h5⟩, ⟨h6, h7⟩, h8, h9⟩ := (ok_iff x).1 h
 dsimp only at *
 exact ⟨by have := h2.1; omega, by have := h3.1; omega, by omega, fun l hl => by have := (h5 l hl).1; omega, by omega, fun y hy => ⟨by have := (h7 y hy).1.1; omega, by have := (h7 y hy).2.1.1; omega, by have := (h7 y hy).2.2.1; omega⟩, by omega, fun y hy => by have := (h9 y hy).1.1; omega⟩
theorem LE_by (l : List Int) : ∀ x ∈ LE l, 0 ≤ x ∧ x ≤ 255 := by
 intro x hx
 rcases List.mem_append.1 hx with hx | hx
 ·exact encN_by _ x hx
 ·obtain ⟨n, _, hx⟩ := List.mem_flatMap.1 hx
  exact encI_by n x hx
theorem cntE_by {α : Type} {E : α → List Int} (h : ∀ y, ∀ x ∈ E y, 0 ≤ x ∧ x ≤ 255) (l : List α) : ∀ x ∈ cntE E l, 0 ≤ x ∧ x ≤ 255 := by
 intro x hx
 rcases List.mem_append.1 hx with hx | hx
 ·exact encN_by _ x hx
 ·obtain ⟨n, _, hx⟩ := List.mem_flatMap.1 hx
  exact h n x hx
theorem app_by {a b : List Int} (ha : ∀ x ∈ a, 0 ≤ x ∧ x ≤ 255) (hb : ∀ x ∈ b, 0 ≤ x ∧ x ≤ 255) : ∀ x ∈ a ++ b, 0 ≤ x ∧ x ≤ 255 := by
 intro x hx
 rcases List.mem_append.1 hx with hx | hx
 ·exact ha x hx
 ·exact hb x hx
theorem encV_by (x : AnsV) : ∀ b ∈ encV x, 0 ≤ b ∧ b ≤ 255 :=
 app_by (encN_by _) (app_by (encN_by _) (app_by (LE_by _) (app_by (LE_by _) (app_by (cntE_by LE_by _) (app_by (cntE_by (fun y => app_by (LE_by _) (app_by (LE_by _) (LE_by _))) _) (cntE_by (fun y => app_by (LE_by _) (encI_by _)) _))))))
/-! ### the closed values -/
theorem encode_val {kd : Int} {no : Bool} {S U : List Int} {Se : List (List Int)} {Sp : List Spl} {Cu : List Cut} (h4 : Se.length ≤ 1000000) (h5 : Sp.length ≤ 1000000) (h6 : Cu.length ≤ 1000000) :
 answer_Encode.f kd no S U Se Sp Cu = some (strOfNums (if okV (mkV kd no S U Se Sp Cu) = true then encV (mkV kd no S U Se Sp Cu) else [])) := by
 unfold answer_Encode.f
 rw [if_pos ⟨h4, h5, h6⟩]
 have e : okV (mkV kd no S U Se Sp Cu) = okAns kd S U Se Sp Cu := rfl
 rw [e]
 by_cases h : okAns kd S U Se Sp Cu = true
 ·rw [if_pos h, if_pos h, enc_eq h]
 ·rw [if_neg h, if_neg h]
theorem size_sn {l : List Int} : (strOfNums l).size = l.length := by
 have : (strOfNums l).size = (strOfNums l).data.size := rfl
 rw [this]
 simp [strOfNums]
end Go.Proofs.YtlekdhejgdfnpaaDoor.P
/- layer 23's fixed calls: what their walk stands on. -/
namespace Go.Proofs.YtlekdhejgdfnpaaDoor.P
open Go.RowKit Go.Proofs.YtlekdhejgdfnpaaDoorW.PrintWords Go.Proofs.YtlekdhejgdfnpaaDoorW.PrintLast Go.Proofs.YtlekdhejgdfnpaaDoorW.PrintMore
open Wr
set_option linter.unusedVariables false
set_option linter.unusedSimpArgs false

theorem C_zero {α : Type} (d : Kd α) (w : World) (A : Option Addr) : Kd.C d w A 0 [] := ⟨rfl, by simp, fun h => absurd h (by simp)⟩
theorem C_sing {α : Type} (d : Kd α) {w : World} {g : Nat} {x : α} {cs : List Value} {t : TypeId} (hh : w.heap[g]? = some (.cells cs.toArray t (0, 0))) (hl : cs.length = d.sz) (hK : d.K w x cs) : Kd.C d w (some ⟨g, 0, none⟩) 1 [x] := by
 refine ⟨rfl, by simp, fun _ => ⟨_, rfl, fun j p hj => ?_⟩⟩
 have hj0 : j = 0 := by have := (List.getElem?_eq_some_iff.1 hj).1; simpa using this
 subst hj0
 obtain rfl : x = p := by simpa using hj
 refine ⟨cs, hl, hK, fun i u hu => ?_⟩
 have e : ((⟨g, 0, none⟩ : Addr).add (0 * d.sz + i)) = ⟨g, i, none⟩ := by simp [Addr.add]; omega
 rw [e, blk_cell hh]
 simpa using hu
theorem C_two2 {w : World} {g : Nat} {a b : Int} {t : TypeId} (hh : w.heap[g]? = some (.cells #[.int .i64 a, .int .i64 b] t (0, 0))) : Kd.C (Kd.int .i64) w (some ⟨g, 0, none⟩) 2 [a, b] := by
 refine ⟨rfl, by simp, fun _ => ⟨_, rfl, fun j p hj => ?_⟩⟩
 refine ⟨[.int .i64 p], rfl, rfl, fun i u hu => ?_⟩
 have hi : i = 0 := by have := (List.getElem?_eq_some_iff.1 hu).1; simpa using this
 subst hi
 have hu' : Value.int .i64 p = u := by simpa using hu
 subst hu'
 match j, hj with
 | 0, hj => obtain rfl : a = p := by simpa using hj
            exact (blk_cell hh 0).trans rfl
 | 1, hj => obtain rfl : b = p := by simpa using hj
            exact (blk_cell hh 1).trans rfl
 | j + 2, hj => simp at hj
theorem check_C {W : World} {A2 A3 A4 A5 A6 : Option Addr} {c2 c3 c4 c5 c6 : Nat} (a0 : Int) (no : Bool) (S U : List Int) (Se : List (List Int)) (Sp : List Spl) (Cu : List Cut)
 (h2 : Kd.C (Kd.int .i64) W A2 S.length S) (k2 : S.length ≤ c2) (h3 : Kd.C (Kd.int .i64) W A3 U.length U) (k3 : U.length ≤ c3) (h4 : Kd.C (Kd.slice 3 (Kd.int .i64)) W A4 Se.length Se) (k4 : Se.length ≤ c4) (h5 : Kd.C k41 W A5 Sp.length Sp) (k5 : Sp.length ≤ c5) (h6 : Kd.C k43 W A6 Cu.length Cu) (k6 : Cu.length ≤ c6)
 (he : Se.length ≤ 1000000) (hs : Sp.length ≤ 1000000) (hc : Cu.length ≤ 1000000) :
 Calls Tryd.prog 11 #[.agg #[.int .i64 a0, .bool no, .slice A2 S.length c2, .slice A3 U.length c3, .slice A4 Se.length c4, .slice A5 Sp.length c5, .slice A6 Cu.length c6]] W fun e w' => e = .returned (.int .i64 (if okAns a0 S U Se Sp Cu = true then 0 else 230)) ∧ Below W.heap.size W w' := by
 obtain ⟨k, hk⟩ := (check_ev a0 no S U Se Sp Cu he hs hc).rounds
 exact answer_Check.calls k a0 no (fun _ => True) A2 c2 S (fun _ => True) A3 c3 U (fun _ => True) A4 c4 Se (fun _ => True) A5 c5 Sp (fun _ => True) A6 c6 Cu _ W (V_of_C (Kd.heap_int _) h2 k2) (V_of_C (Kd.heap_int _) h3 k3) (V_of_C (Kd.heap_slice _ (Kd.heap_int _)) h4 k4) (V_of_C k41_heap h5 k5) (V_of_C k43_heap h6 k6) hk
theorem enc_zero (W : World) : Calls Tryd.prog 13 #[.agg #[.int .i64 0, .bool false, .slice none 0 0, .slice none 0 0, .slice none 0 0, .slice none 0 0, .slice none 0 0]] W fun e w' => e = .returned (.string ⟨#[0, 0, 0, 0, 0, 0, 0]⟩) ∧ Below W.heap.size W w' :=
 answer_Encode.calls 0 false none 0 [] none 0 [] none 0 [] none 0 [] none 0 [] _ W (C_zero _ _ _) (Nat.le_refl _) (C_zero _ _ _) (Nat.le_refl _) (C_zero _ _ _) (Nat.le_refl _) (C_zero _ _ _) (Nat.le_refl _) (C_zero _ _ _) (Nat.le_refl _) (by kernel_rfl)
theorem chk_six (W : World) : Calls Tryd.prog 11 #[.agg #[.int .i64 6, .bool false, .slice none 0 0, .slice none 0 0, .slice none 0 0, .slice none 0 0, .slice none 0 0]] W fun e w' => e = .returned (.int .i64 230) ∧ Below W.heap.size W w' :=
 check_C 6 false [] [] [] [] [] (C_zero _ _ _) (Nat.le_refl _) (C_zero _ _ _) (Nat.le_refl _) (C_zero _ _ _) (Nat.le_refl _) (C_zero _ _ _) (Nat.le_refl _) (C_zero _ _ _) (Nat.le_refl _) (by simp) (by simp) (by simp)
theorem same_zero (W : World) (A2 A3 A4 A5 A6 : Option Addr) (c2 c3 c4 c5 c6 : Nat) : Calls Tryd.prog 15 #[.agg #[.int .i64 0, .bool false, .slice A2 0 c2, .slice A3 0 c3, .slice A4 0 c4, .slice A5 0 c5, .slice A6 0 c6], .agg #[.int .i64 0, .bool false, .slice none 0 0, .slice none 0 0, .slice none 0 0, .slice none 0 0, .slice none 0 0]] W fun e w' => e = .returned (.bool true) ∧ Below W.heap.size W w' :=
 (greenwoodref23_Same.calls 10 0 false A2 c2 [] A3 c3 [] A4 c4 [] A5 c5 [] A6 c6 [] 0 false none 0 [] none 0 [] none 0 [] none 0 [] none 0 [] true W (C_zero _ _ _) (Nat.zero_le _) (C_zero _ _ _) (Nat.zero_le _) (C_zero _ _ _) (Nat.zero_le _) (C_zero _ _ _) (Nat.zero_le _) (C_zero _ _ _) (Nat.zero_le _) (C_zero _ _ _) (Nat.le_refl _) (C_zero _ _ _) (Nat.le_refl _) (C_zero _ _ _) (Nat.le_refl _) (C_zero _ _ _) (Nat.le_refl _) (C_zero _ _ _) (Nat.le_refl _) (by kernel_rfl))
def ySp : List Spl := [⟨[], [2], []⟩]
def yCu : List Cut := [⟨[0], -2⟩]
abbrev L1 (w : World) : World := w.alloc (.cells #[.int .i64 1, .int .i64 (-1)] 3 (0, 0))
abbrev L2 (w : World) : World := (L1 w).alloc (.cells #[.int .i64 3] 3 (0, 0))
abbrev L3 (w : World) : World := (L2 w).alloc (.cells #[.slice (some ⟨w.heap.size + 1, 0, none⟩) 1 1] 22 (0, 0))
abbrev L4 (w : World) : World := (L3 w).alloc (.cells #[.int .i64 2] 3 (0, 0))
abbrev L5 (w : World) : World := (L4 w).alloc (.cells #[.slice none 0 0, .slice (some ⟨w.heap.size + 1 + 1 + 1, 0, none⟩) 1 1, .slice none 0 0] 41 (0, 0))
abbrev L6 (w : World) : World := (L5 w).alloc (.cells #[.int .i64 0] 3 (0, 0))
abbrev L7 (w : World) : World := (L6 w).alloc (.cells #[.slice (some ⟨w.heap.size + 1 + 1 + 1 + 1 + 1, 0, none⟩) 1 1, .int .i64 (-2)] 43 (0, 0))
theorem asz (w : World) (o : Obj) : (w.alloc o).heap.size = w.heap.size + 1 := Array.size_push ..
theorem lits (w : World) : Below w.heap.size w (L7 w) ∧ Kd.C (Kd.int .i64) (L7 w) (some ⟨w.heap.size, 0, none⟩) 2 [1, -1] ∧ Kd.C (Kd.slice 3 (Kd.int .i64)) (L7 w) (some ⟨w.heap.size + 1 + 1, 0, none⟩) 1 [[3]] ∧
 Kd.C k41 (L7 w) (some ⟨w.heap.size + 1 + 1 + 1 + 1, 0, none⟩) 1 ySp ∧ Kd.C k43 (L7 w) (some ⟨w.heap.size + 1 + 1 + 1 + 1 + 1 + 1, 0, none⟩) 1 yCu := by
 have hsz : ∀ (n : Nat) (W : World) (o : Obj), W.heap.size = n → (W.alloc o).heap[n]? = some o ∧ (W.alloc o).heap.size = n + 1 := fun n W o h => by subst h; exact ⟨blk_new W o, asz W o⟩
 obtain ⟨b1, z1⟩ := hsz _ w (.cells #[.int .i64 1, .int .i64 (-1)] 3 (0, 0)) rfl
 obtain ⟨b2, z2⟩ := hsz _ (L1 w) (.cells #[.int .i64 3] 3 (0, 0)) z1
 obtain ⟨b3, z3⟩ := hsz _ (L2 w) (.cells #[.slice (some ⟨w.heap.size + 1, 0, none⟩) 1 1] 22 (0, 0)) z2
 obtain ⟨b4, z4⟩ := hsz _ (L3 w) (.cells #[.int .i64 2] 3 (0, 0)) z3
 obtain ⟨b5, z5⟩ := hsz _ (L4 w) (.cells #[.slice none 0 0, .slice (some ⟨w.heap.size + 1 + 1 + 1, 0, none⟩) 1 1, .slice none 0 0] 41 (0, 0)) z4
 obtain ⟨b6, z6⟩ := hsz _ (L5 w) (.cells #[.int .i64 0] 3 (0, 0)) z5
 obtain ⟨b7, z7⟩ := hsz _ (L6 w) (.cells #[.slice (some ⟨w.heap.size + 1 + 1 + 1 + 1 + 1, 0, none⟩) 1 1, .int .i64 (-2)] 43 (0, 0)) z6
 have hb : ∀ (W : World) (o : Obj), Below W.heap.size W (W.alloc o) := fun W o => below_alloc (Below.refl _ _) o
 have c1 : (L7 w).heap[w.heap.size]? = some (.cells #[.int .i64 1, .int .i64 (-1)] 3 (0, 0)) := blk_alloc (blk_alloc (blk_alloc (blk_alloc (blk_alloc (blk_alloc b1 _) _) _) _) _) _
 have c2 : (L7 w).heap[w.heap.size + 1]? = some (.cells #[.int .i64 3] 3 (0, 0)) := blk_alloc (blk_alloc (blk_alloc (blk_alloc (blk_alloc b2 _) _) _) _) _
 have c3 : (L7 w).heap[w.heap.size + 1 + 1]? = some (.cells #[.slice (some ⟨w.heap.size + 1, 0, none⟩) 1 1] 22 (0, 0)) := blk_alloc (blk_alloc (blk_alloc (blk_alloc b3 _) _) _) _
 have c4 : (L7 w).heap[w.heap.size + 1 + 1 + 1]? = some (.cells #[.int .i64 2] 3 (0, 0)) := blk_alloc (blk_alloc (blk_alloc b4 _) _) _
 have c5 : (L7 w).heap[w.heap.size + 1 + 1 + 1 + 1]? = some (.cells #[.slice none 0 0, .slice (some ⟨w.heap.size + 1 + 1 + 1, 0, none⟩) 1 1, .slice none 0 0] 41 (0, 0)) := blk_alloc (blk_alloc b5 _) _
 have c6 : (L7 w).heap[w.heap.size + 1 + 1 + 1 + 1 + 1]? = some (.cells #[.int .i64 0] 3 (0, 0)) := blk_alloc b6 _
 have hbel : Below w.heap.size w (L7 w) := by
  refine ⟨rfl, rfl, rfl, ?_, fun k hk => ?_⟩
  ·rw [z7]; omega
  ·have h1 := (hb w (.cells #[.int .i64 1, .int .i64 (-1)] 3 (0, 0))).block k hk
   have h2 := (hb (L1 w) (.cells #[.int .i64 3] 3 (0, 0))).block k (by rw [z1]; omega)
   have h3 := (hb (L2 w) (.cells #[.slice (some ⟨w.heap.size + 1, 0, none⟩) 1 1] 22 (0, 0))).block k (by rw [z2]; omega)
   have h4 := (hb (L3 w) (.cells #[.int .i64 2] 3 (0, 0))).block k (by rw [z3]; omega)
   have h5 := (hb (L4 w) (.cells #[.slice none 0 0, .slice (some ⟨w.heap.size + 1 + 1 + 1, 0, none⟩) 1 1, .slice none 0 0] 41 (0, 0))).block k (by rw [z4]; omega)
   have h6 := (hb (L5 w) (.cells #[.int .i64 0] 3 (0, 0))).block k (by rw [z5]; omega)
   have h7 := (hb (L6 w) (.cells #[.slice (some ⟨w.heap.size + 1 + 1 + 1 + 1 + 1, 0, none⟩) 1 1, .int .i64 (-2)] 43 (0, 0))).block k (by rw [z6]; omega)
   exact h7.trans (h6.trans (h5.trans (h4.trans (h3.trans (h2.trans h1)))))
 have i3 : Kd.C (Kd.int .i64) (L7 w) (some ⟨w.heap.size + 1, 0, none⟩) 1 [3] := C_sing (Kd.int .i64) (cs := [.int .i64 3]) c2 rfl rfl
 have i2 : Kd.C (Kd.int .i64) (L7 w) (some ⟨w.heap.size + 1 + 1 + 1, 0, none⟩) 1 [2] := C_sing (Kd.int .i64) (cs := [.int .i64 2]) c4 rfl rfl
 have i0 : Kd.C (Kd.int .i64) (L7 w) (some ⟨w.heap.size + 1 + 1 + 1 + 1 + 1, 0, none⟩) 1 [0] := C_sing (Kd.int .i64) (cs := [.int .i64 0]) c6 rfl rfl
 refine ⟨hbel, C_two2 c1, C_sing (Kd.slice 3 (Kd.int .i64)) (cs := [.slice (some ⟨w.heap.size + 1, 0, none⟩) 1 1]) c3 rfl ⟨_, 1, rfl, by simp, i3⟩, ?_, ?_⟩
 ·exact C_sing k41 (cs := [.slice none 0 0, .slice (some ⟨w.heap.size + 1 + 1 + 1, 0, none⟩) 1 1, .slice none 0 0]) c5 rfl (k41_mk (L7 w) ⟨[], [2], []⟩ (Nat.le_refl _) (C_zero _ _ _) (Nat.le_refl _) i2 (Nat.le_refl _) (C_zero _ _ _))
 ·exact C_sing k43 (cs := [.slice (some ⟨w.heap.size + 1 + 1 + 1 + 1 + 1, 0, none⟩) 1 1, .int .i64 (-2)]) b7 rfl (k43_mk (L7 w) ⟨[0], -2⟩ (Nat.le_refl _) i0)

theorem enc_y (W : World) (A2 A4 A5 A6 : Option Addr) (h2 : Kd.C (Kd.int .i64) W A2 2 [1, -1]) (h4 : Kd.C (Kd.slice 3 (Kd.int .i64)) W A4 1 [[3]]) (h5 : Kd.C k41 W A5 1 ySp) (h6 : Kd.C k43 W A6 1 yCu) : Calls Tryd.prog 13 #[.agg #[.int .i64 4, .bool true, .slice A2 2 2, .slice none 0 0, .slice A4 1 1, .slice A5 1 1, .slice A6 1 1]] W fun e w' => e = .returned (.string ⟨#[4, 1, 2, 2, 1, 0, 1, 1, 6, 1, 0, 1, 4, 0, 1, 1, 0, 3]⟩) ∧ Below W.heap.size W w' :=
 answer_Encode.calls 4 true A2 2 [1, -1] none 0 [] A4 1 [[3]] A5 1 ySp A6 1 yCu _ W h2 (Nat.le_refl _) (C_zero _ _ _) (Nat.le_refl _) h4 (Nat.le_refl _) h5 (Nat.le_refl _) h6 (Nat.le_refl _) (by kernel_rfl)
theorem chk_y (W : World) (A2 A4 A5 A6 : Option Addr) (h2 : Kd.C (Kd.int .i64) W A2 2 [1, -1]) (h4 : Kd.C (Kd.slice 3 (Kd.int .i64)) W A4 1 [[3]]) (h5 : Kd.C k41 W A5 1 ySp) (h6 : Kd.C k43 W A6 1 yCu) : Calls Tryd.prog 11 #[.agg #[.int .i64 4, .bool true, .slice A2 2 2, .slice none 0 0, .slice A4 1 1, .slice A5 1 1, .slice A6 1 1]] W fun e w' => e = .returned (.int .i64 0) ∧ Below W.heap.size W w' :=
 check_C 4 true [1, -1] [] [[3]] ySp yCu h2 (Nat.le_refl _) (C_zero _ _ _) (Nat.le_refl _) h4 (Nat.le_refl _) h5 (Nat.le_refl _) h6 (Nat.le_refl _) (by simp) (by simp [ySp]) (by simp [yCu])
end Go.Proofs.YtlekdhejgdfnpaaDoor.P
/- layer 23's fixed calls, walked. (Written by wip/tool/ansx.py.) -/
namespace Go.Proofs.YtlekdhejgdfnpaaDoor.P
open Go.RowKit Go.Proofs.YtlekdhejgdfnpaaDoorW.PrintWords Go.Proofs.YtlekdhejgdfnpaaDoorW.PrintLast Go.Proofs.YtlekdhejgdfnpaaDoorW.PrintMore
open Wr
set_option linter.unusedVariables false
set_option linter.unusedSimpArgs false

theorem decode_v {w : World} (s : ByteArray) (v : AnsV × Int × Int) (hv : decV (bytesOf s) = v) (hE : EV w) (hs : s.size ≤ 1000000000) :
 Calls Tryd.prog 9 #[.string s] w fun e w' => ∃ vS vU vSe vSp vCu, e = .returned (.tuple #[.agg #[.int .i64 v.1.kd, .bool (v.1.no == 1), vS, vU, vSe, vSp, vCu], .int .i64 v.2.1, .int .i64 v.2.2]) ∧ RowsA w' w.heap.size vS vU vSe vSp vCu v.1 ∧ Below w.heap.size w w' := by
 subst hv; exact decode_c s hE hs
set_option maxHeartbeats 16000000 in
set_option maxRecDepth 100000 in
theorem fixed_c {w : World} (hE : EV w) :
 Calls Tryd.prog 8 #[] w fun e w' => e = .returned (.bool true) ∧ Below w.heap.size w w' := by
 have HE := Aside0.mk hE
 have H0 := Aside0.mk (Below.refl w.heap.size w)
 clear hE
 go_enter Tryd.func8, Tryd.ntmps8
 go_upto_region 7 with (first
  | ((with_reducible refine gate_store (t := 27) (p := 14) rfl ?_); refine store_event (t := 27) (p := 14) (v := ?vo_e) (w1 := (((((((w2e.setCell ⟨Xe, 0, none⟩ (.int .i64 0)).setCell ⟨Xe, 1, none⟩ (.bool false)).setCell ⟨Xe, 2, none⟩ (.slice E2 0 ec2)).setCell ⟨Xe, 3, none⟩ (.slice E3 0 ec3)).setCell ⟨Xe, 4, none⟩ (.slice E4 0 ec4)).setCell ⟨Xe, 5, none⟩ (.slice E5 0 ec5)).setCell ⟨Xe, 6, none⟩ (.slice E6 0 ec6))) ?hg ?ho ?hn ?hr ?_; (case ho => rfl); (case hg => rfl); (case hn => rfl); (case hr => first | (go_simp; done) | (go_simp; rfl)); intro w3e hw; (have h7 := set7 (base := w3a.heap.size) (u0 := .int .i64 0) (u1 := .bool false) (u2 := .slice E2 0 ec2) (u3 := .slice E3 0 ec3) (u4 := .slice E4 0 ec4) (u5 := .slice E5 0 ec5) (u6 := .slice E6 0 ec6) H2e.out.2.1 H2e.out.2.2); (dsimp only at h7); (rw [← hw] at h7); (have H3e := Aside0.mk (H2e.out.1.trans h7.2.2));  clear x0 xf0 x1 xf1 x2 xf2 x3 xf3 x4 xf4 x5 xf5 x6 xf6; clear hw h7)
  | ((with_reducible refine gate_dst (N := 14) rfl ?_); (try (refine gate_guard (by rfl) ?_; dsimp only)); refine box_event ?hg (N := 14) ?hd (cs := #[.int .i64 0, .bool false, .slice none 0 0, .slice none 0 0, .slice none 0 0, .slice none 0 0, .slice none 0 0]) (t := 27) ?hr ?_; (case hd => rfl); (case hg => rfl); (case hr => first | (go_simp; done) | (go_simp; rfl)); intro Xe hg w2e hbox hb; (have H2e : Aside0 (Below w3a.heap.size w3a w2e ∧ w2e.heap[Xe]? = some (.cells #[.int .i64 0, .bool false, .slice none 0 0, .slice none 0 0, .slice none 0 0, .slice none 0 0, .slice none 0 0] 27 (0, 0)) ∧ w3a.heap.size ≤ Xe) := ⟨H1e.out.trans (hb.mono H1e.out.size), hbox, by rw [hg]; exact H1e.out.size⟩); (have x0 : w2e.cell? ⟨Xe, 0, none⟩ = _ := (blk_cell hbox 0).trans rfl); (have xf0 : w2e.frozen? ⟨Xe, 0, none⟩ = false := blk_frozen hbox 0); (have x1 : w2e.cell? ⟨Xe, 1, none⟩ = _ := (blk_cell hbox 1).trans rfl); (have xf1 : w2e.frozen? ⟨Xe, 1, none⟩ = false := blk_frozen hbox 1); (have x2 : w2e.cell? ⟨Xe, 2, none⟩ = _ := (blk_cell hbox 2).trans rfl); (have xf2 : w2e.frozen? ⟨Xe, 2, none⟩ = false := blk_frozen hbox 2); (have x3 : w2e.cell? ⟨Xe, 3, none⟩ = _ := (blk_cell hbox 3).trans rfl); (have xf3 : w2e.frozen? ⟨Xe, 3, none⟩ = false := blk_frozen hbox 3); (have x4 : w2e.cell? ⟨Xe, 4, none⟩ = _ := (blk_cell hbox 4).trans rfl); (have xf4 : w2e.frozen? ⟨Xe, 4, none⟩ = false := blk_frozen hbox 4); (have x5 : w2e.cell? ⟨Xe, 5, none⟩ = _ := (blk_cell hbox 5).trans rfl); (have xf5 : w2e.frozen? ⟨Xe, 5, none⟩ = false := blk_frozen hbox 5); (have x6 : w2e.cell? ⟨Xe, 6, none⟩ = _ := (blk_cell hbox 6).trans rfl); (have xf6 : w2e.frozen? ⟨Xe, 6, none⟩ = false := blk_frozen hbox 6);  clear hg hbox hb)
  | (go_at_call 9; (have z_ := H3d.out); clear z_; refine (decode_v _ (zeroV, 12, 2) (by kernel_rfl) (HEa.out.below H3d.out HEa.out.pos) (Nat.le_of_ble_eq_true (by kernel_rfl))).mono ?_; rintro e w1e ⟨vS, vU, vSe, vSp, vCu, hret, hrow, hb⟩; (obtain ⟨E2, ec2, E3, ec3, E4, ec4, E5, ec5, E6, ec6, rfl, rfl, rfl, rfl, rfl⟩ := hrow.slices); (subst hret); (have H1e := Aside0.mk (H3d.out.trans (hb.mono H3d.out.size))); clear hrow hb)
  | ((with_reducible refine gate_store (t := 27) (p := 11) rfl ?_); refine store_event (t := 27) (p := 11) (v := ?vo_d) (w1 := (((((((w2d.setCell ⟨Xd, 0, none⟩ (.int .i64 0)).setCell ⟨Xd, 1, none⟩ (.bool false)).setCell ⟨Xd, 2, none⟩ (.slice D2 0 dc2)).setCell ⟨Xd, 3, none⟩ (.slice D3 0 dc3)).setCell ⟨Xd, 4, none⟩ (.slice D4 0 dc4)).setCell ⟨Xd, 5, none⟩ (.slice D5 0 dc5)).setCell ⟨Xd, 6, none⟩ (.slice D6 0 dc6))) ?hg ?ho ?hn ?hr ?_; (case ho => rfl); (case hg => rfl); (case hn => rfl); (case hr => first | (go_simp; done) | (go_simp; rfl)); intro w3d hw; (have h7 := set7 (base := w3a.heap.size) (u0 := .int .i64 0) (u1 := .bool false) (u2 := .slice D2 0 dc2) (u3 := .slice D3 0 dc3) (u4 := .slice D4 0 dc4) (u5 := .slice D5 0 dc5) (u6 := .slice D6 0 dc6) H2d.out.2.1 H2d.out.2.2); (dsimp only at h7); (rw [← hw] at h7); (have H3d := Aside0.mk (H2d.out.1.trans h7.2.2));  clear x0 xf0 x1 xf1 x2 xf2 x3 xf3 x4 xf4 x5 xf5 x6 xf6; clear hw h7)
  | ((with_reducible refine gate_dst (N := 11) rfl ?_); (try (refine gate_guard (by rfl) ?_; dsimp only)); refine box_event ?hg (N := 11) ?hd (cs := #[.int .i64 0, .bool false, .slice none 0 0, .slice none 0 0, .slice none 0 0, .slice none 0 0, .slice none 0 0]) (t := 27) ?hr ?_; (case hd => rfl); (case hg => rfl); (case hr => first | (go_simp; done) | (go_simp; rfl)); intro Xd hg w2d hbox hb; (have H2d : Aside0 (Below w3a.heap.size w3a w2d ∧ w2d.heap[Xd]? = some (.cells #[.int .i64 0, .bool false, .slice none 0 0, .slice none 0 0, .slice none 0 0, .slice none 0 0, .slice none 0 0] 27 (0, 0)) ∧ w3a.heap.size ≤ Xd) := ⟨H1d.out.trans (hb.mono H1d.out.size), hbox, by rw [hg]; exact H1d.out.size⟩); (have x0 : w2d.cell? ⟨Xd, 0, none⟩ = _ := (blk_cell hbox 0).trans rfl); (have xf0 : w2d.frozen? ⟨Xd, 0, none⟩ = false := blk_frozen hbox 0); (have x1 : w2d.cell? ⟨Xd, 1, none⟩ = _ := (blk_cell hbox 1).trans rfl); (have xf1 : w2d.frozen? ⟨Xd, 1, none⟩ = false := blk_frozen hbox 1); (have x2 : w2d.cell? ⟨Xd, 2, none⟩ = _ := (blk_cell hbox 2).trans rfl); (have xf2 : w2d.frozen? ⟨Xd, 2, none⟩ = false := blk_frozen hbox 2); (have x3 : w2d.cell? ⟨Xd, 3, none⟩ = _ := (blk_cell hbox 3).trans rfl); (have xf3 : w2d.frozen? ⟨Xd, 3, none⟩ = false := blk_frozen hbox 3); (have x4 : w2d.cell? ⟨Xd, 4, none⟩ = _ := (blk_cell hbox 4).trans rfl); (have xf4 : w2d.frozen? ⟨Xd, 4, none⟩ = false := blk_frozen hbox 4); (have x5 : w2d.cell? ⟨Xd, 5, none⟩ = _ := (blk_cell hbox 5).trans rfl); (have xf5 : w2d.frozen? ⟨Xd, 5, none⟩ = false := blk_frozen hbox 5); (have x6 : w2d.cell? ⟨Xd, 6, none⟩ = _ := (blk_cell hbox 6).trans rfl); (have xf6 : w2d.frozen? ⟨Xd, 6, none⟩ = false := blk_frozen hbox 6);  clear hg hbox hb)
  | (go_at_call 9; (have z_ := H3c.out); clear z_; refine (decode_v _ (zeroV, 230, 0) (by kernel_rfl) (HEa.out.below H3c.out HEa.out.pos) (Nat.le_of_ble_eq_true (by kernel_rfl))).mono ?_; rintro e w1d ⟨vS, vU, vSe, vSp, vCu, hret, hrow, hb⟩; (obtain ⟨D2, dc2, D3, dc3, D4, dc4, D5, dc5, D6, dc6, rfl, rfl, rfl, rfl, rfl⟩ := hrow.slices); (subst hret); (have H1d := Aside0.mk (H3c.out.trans (hb.mono H3c.out.size))); clear hrow hb)
  | ((with_reducible refine gate_store (t := 27) (p := 8) rfl ?_); refine store_event (t := 27) (p := 8) (v := ?vo_c) (w1 := (((((((w2c.setCell ⟨Xc, 0, none⟩ (.int .i64 0)).setCell ⟨Xc, 1, none⟩ (.bool false)).setCell ⟨Xc, 2, none⟩ (.slice C2 0 cc2)).setCell ⟨Xc, 3, none⟩ (.slice C3 0 cc3)).setCell ⟨Xc, 4, none⟩ (.slice C4 0 cc4)).setCell ⟨Xc, 5, none⟩ (.slice C5 0 cc5)).setCell ⟨Xc, 6, none⟩ (.slice C6 0 cc6))) ?hg ?ho ?hn ?hr ?_; (case ho => rfl); (case hg => rfl); (case hn => rfl); (case hr => first | (go_simp; done) | (go_simp; rfl)); intro w3c hw; (have h7 := set7 (base := w3a.heap.size) (u0 := .int .i64 0) (u1 := .bool false) (u2 := .slice C2 0 cc2) (u3 := .slice C3 0 cc3) (u4 := .slice C4 0 cc4) (u5 := .slice C5 0 cc5) (u6 := .slice C6 0 cc6) H2c.out.2.1 H2c.out.2.2); (dsimp only at h7); (rw [← hw] at h7); (have H3c := Aside0.mk (H2c.out.1.trans h7.2.2));  clear x0 xf0 x1 xf1 x2 xf2 x3 xf3 x4 xf4 x5 xf5 x6 xf6; clear hw h7)
  | ((with_reducible refine gate_dst (N := 8) rfl ?_); (try (refine gate_guard (by rfl) ?_; dsimp only)); refine box_event ?hg (N := 8) ?hd (cs := #[.int .i64 0, .bool false, .slice none 0 0, .slice none 0 0, .slice none 0 0, .slice none 0 0, .slice none 0 0]) (t := 27) ?hr ?_; (case hd => rfl); (case hg => rfl); (case hr => first | (go_simp; done) | (go_simp; rfl)); intro Xc hg w2c hbox hb; (have H2c : Aside0 (Below w3a.heap.size w3a w2c ∧ w2c.heap[Xc]? = some (.cells #[.int .i64 0, .bool false, .slice none 0 0, .slice none 0 0, .slice none 0 0, .slice none 0 0, .slice none 0 0] 27 (0, 0)) ∧ w3a.heap.size ≤ Xc) := ⟨H1c.out.trans (hb.mono H1c.out.size), hbox, by rw [hg]; exact H1c.out.size⟩); (have x0 : w2c.cell? ⟨Xc, 0, none⟩ = _ := (blk_cell hbox 0).trans rfl); (have xf0 : w2c.frozen? ⟨Xc, 0, none⟩ = false := blk_frozen hbox 0); (have x1 : w2c.cell? ⟨Xc, 1, none⟩ = _ := (blk_cell hbox 1).trans rfl); (have xf1 : w2c.frozen? ⟨Xc, 1, none⟩ = false := blk_frozen hbox 1); (have x2 : w2c.cell? ⟨Xc, 2, none⟩ = _ := (blk_cell hbox 2).trans rfl); (have xf2 : w2c.frozen? ⟨Xc, 2, none⟩ = false := blk_frozen hbox 2); (have x3 : w2c.cell? ⟨Xc, 3, none⟩ = _ := (blk_cell hbox 3).trans rfl); (have xf3 : w2c.frozen? ⟨Xc, 3, none⟩ = false := blk_frozen hbox 3); (have x4 : w2c.cell? ⟨Xc, 4, none⟩ = _ := (blk_cell hbox 4).trans rfl); (have xf4 : w2c.frozen? ⟨Xc, 4, none⟩ = false := blk_frozen hbox 4); (have x5 : w2c.cell? ⟨Xc, 5, none⟩ = _ := (blk_cell hbox 5).trans rfl); (have xf5 : w2c.frozen? ⟨Xc, 5, none⟩ = false := blk_frozen hbox 5); (have x6 : w2c.cell? ⟨Xc, 6, none⟩ = _ := (blk_cell hbox 6).trans rfl); (have xf6 : w2c.frozen? ⟨Xc, 6, none⟩ = false := blk_frozen hbox 6);  clear hg hbox hb)
  | (go_at_call 9; (have z_ := H3b.out); clear z_; refine (decode_v _ (zeroV, 230, 0) (by kernel_rfl) (HEa.out.below H3b.out HEa.out.pos) (Nat.le_of_ble_eq_true (by kernel_rfl))).mono ?_; rintro e w1c ⟨vS, vU, vSe, vSp, vCu, hret, hrow, hb⟩; (obtain ⟨C2, cc2, C3, cc3, C4, cc4, C5, cc5, C6, cc6, rfl, rfl, rfl, rfl, rfl⟩ := hrow.slices); (subst hret); (have H1c := Aside0.mk (H3b.out.trans (hb.mono H3b.out.size))); clear hrow hb)
  | ((with_reducible refine gate_store (t := 27) (p := 5) rfl ?_); refine store_event (t := 27) (p := 5) (v := ?vo_b) (w1 := (((((((w2b.setCell ⟨Xb, 0, none⟩ (.int .i64 0)).setCell ⟨Xb, 1, none⟩ (.bool false)).setCell ⟨Xb, 2, none⟩ (.slice B2 0 bc2)).setCell ⟨Xb, 3, none⟩ (.slice B3 0 bc3)).setCell ⟨Xb, 4, none⟩ (.slice B4 0 bc4)).setCell ⟨Xb, 5, none⟩ (.slice B5 0 bc5)).setCell ⟨Xb, 6, none⟩ (.slice B6 0 bc6))) ?hg ?ho ?hn ?hr ?_; (case ho => rfl); (case hg => rfl); (case hn => rfl); (case hr => first | (go_simp; done) | (go_simp; rfl)); intro w3b hw; (have h7 := set7 (base := w3a.heap.size) (u0 := .int .i64 0) (u1 := .bool false) (u2 := .slice B2 0 bc2) (u3 := .slice B3 0 bc3) (u4 := .slice B4 0 bc4) (u5 := .slice B5 0 bc5) (u6 := .slice B6 0 bc6) H2b.out.2.1 H2b.out.2.2); (dsimp only at h7); (rw [← hw] at h7); (have H3b := Aside0.mk (H2b.out.1.trans h7.2.2));  clear x0 xf0 x1 xf1 x2 xf2 x3 xf3 x4 xf4 x5 xf5 x6 xf6; clear hw h7)
  | ((with_reducible refine gate_dst (N := 5) rfl ?_); (try (refine gate_guard (by rfl) ?_; dsimp only)); refine box_event ?hg (N := 5) ?hd (cs := #[.int .i64 0, .bool false, .slice none 0 0, .slice none 0 0, .slice none 0 0, .slice none 0 0, .slice none 0 0]) (t := 27) ?hr ?_; (case hd => rfl); (case hg => rfl); (case hr => first | (go_simp; done) | (go_simp; rfl)); intro Xb hg w2b hbox hb; (have H2b : Aside0 (Below w3a.heap.size w3a w2b ∧ w2b.heap[Xb]? = some (.cells #[.int .i64 0, .bool false, .slice none 0 0, .slice none 0 0, .slice none 0 0, .slice none 0 0, .slice none 0 0] 27 (0, 0)) ∧ w3a.heap.size ≤ Xb) := ⟨H1b.out.trans (hb.mono H1b.out.size), hbox, by rw [hg]; exact H1b.out.size⟩); (have x0 : w2b.cell? ⟨Xb, 0, none⟩ = _ := (blk_cell hbox 0).trans rfl); (have xf0 : w2b.frozen? ⟨Xb, 0, none⟩ = false := blk_frozen hbox 0); (have x1 : w2b.cell? ⟨Xb, 1, none⟩ = _ := (blk_cell hbox 1).trans rfl); (have xf1 : w2b.frozen? ⟨Xb, 1, none⟩ = false := blk_frozen hbox 1); (have x2 : w2b.cell? ⟨Xb, 2, none⟩ = _ := (blk_cell hbox 2).trans rfl); (have xf2 : w2b.frozen? ⟨Xb, 2, none⟩ = false := blk_frozen hbox 2); (have x3 : w2b.cell? ⟨Xb, 3, none⟩ = _ := (blk_cell hbox 3).trans rfl); (have xf3 : w2b.frozen? ⟨Xb, 3, none⟩ = false := blk_frozen hbox 3); (have x4 : w2b.cell? ⟨Xb, 4, none⟩ = _ := (blk_cell hbox 4).trans rfl); (have xf4 : w2b.frozen? ⟨Xb, 4, none⟩ = false := blk_frozen hbox 4); (have x5 : w2b.cell? ⟨Xb, 5, none⟩ = _ := (blk_cell hbox 5).trans rfl); (have xf5 : w2b.frozen? ⟨Xb, 5, none⟩ = false := blk_frozen hbox 5); (have x6 : w2b.cell? ⟨Xb, 6, none⟩ = _ := (blk_cell hbox 6).trans rfl); (have xf6 : w2b.frozen? ⟨Xb, 6, none⟩ = false := blk_frozen hbox 6);  clear hg hbox hb)
  | (go_at_call 9; (have z_ := H0a.out); clear z_; refine (decode_v _ (zeroV, 13, 7) (by kernel_rfl) (HEa.out.below H0a.out HEa.out.pos) (Nat.le_of_ble_eq_true (by kernel_rfl))).mono ?_; rintro e w1b ⟨vS, vU, vSe, vSp, vCu, hret, hrow, hb⟩; (obtain ⟨B2, bc2, B3, bc3, B4, bc4, B5, bc5, B6, bc6, rfl, rfl, rfl, rfl, rfl⟩ := hrow.slices); (subst hret); (have H1b := Aside0.mk (H0a.out.trans (hb.mono H0a.out.size))); clear hrow hb)
  | ((with_reducible refine gate_store (t := 27) (p := 2) rfl ?_); refine store_event (t := 27) (p := 2) (v := ?vo_a) (w1 := (((((((w2a.setCell ⟨Xa, 0, none⟩ (.int .i64 0)).setCell ⟨Xa, 1, none⟩ (.bool false)).setCell ⟨Xa, 2, none⟩ (.slice A2 0 ac2)).setCell ⟨Xa, 3, none⟩ (.slice A3 0 ac3)).setCell ⟨Xa, 4, none⟩ (.slice A4 0 ac4)).setCell ⟨Xa, 5, none⟩ (.slice A5 0 ac5)).setCell ⟨Xa, 6, none⟩ (.slice A6 0 ac6))) ?hg ?ho ?hn ?hr ?_; (case ho => rfl); (case hg => rfl); (case hn => rfl); (case hr => first | (go_simp; done) | (go_simp; rfl)); intro w3a hw; (have h7 := set7 (base := w.heap.size) (u0 := .int .i64 0) (u1 := .bool false) (u2 := .slice A2 0 ac2) (u3 := .slice A3 0 ac3) (u4 := .slice A4 0 ac4) (u5 := .slice A5 0 ac5) (u6 := .slice A6 0 ac6) H2a.out.2.1 H2a.out.2.2); (dsimp only at h7); (rw [← hw] at h7); (have H3a := Aside0.mk (H2a.out.1.trans h7.2.2)); (have HX := Aside0.mk (And.intro h7.1 (H2a.out.2.2))); (have HEa := Aside0.mk (HE.out.below H3a.out HE.out.pos)); (have H0a := Aside0.mk (Below.refl w3a.heap.size w3a)); clear x0 xf0 x1 xf1 x2 xf2 x3 xf3 x4 xf4 x5 xf5 x6 xf6; clear hw h7)
  | ((with_reducible refine gate_dst (N := 2) rfl ?_); (try (refine gate_guard (by rfl) ?_; dsimp only)); refine box_event ?hg (N := 2) ?hd (cs := #[.int .i64 0, .bool false, .slice none 0 0, .slice none 0 0, .slice none 0 0, .slice none 0 0, .slice none 0 0]) (t := 27) ?hr ?_; (case hd => rfl); (case hg => rfl); (case hr => first | (go_simp; done) | (go_simp; rfl)); intro Xa hg w2a hbox hb; (have H2a : Aside0 (Below w.heap.size w w2a ∧ w2a.heap[Xa]? = some (.cells #[.int .i64 0, .bool false, .slice none 0 0, .slice none 0 0, .slice none 0 0, .slice none 0 0, .slice none 0 0] 27 (0, 0)) ∧ w.heap.size ≤ Xa) := ⟨H1a.out.trans (hb.mono H1a.out.size), hbox, by rw [hg]; exact H1a.out.size⟩); (have x0 : w2a.cell? ⟨Xa, 0, none⟩ = _ := (blk_cell hbox 0).trans rfl); (have xf0 : w2a.frozen? ⟨Xa, 0, none⟩ = false := blk_frozen hbox 0); (have x1 : w2a.cell? ⟨Xa, 1, none⟩ = _ := (blk_cell hbox 1).trans rfl); (have xf1 : w2a.frozen? ⟨Xa, 1, none⟩ = false := blk_frozen hbox 1); (have x2 : w2a.cell? ⟨Xa, 2, none⟩ = _ := (blk_cell hbox 2).trans rfl); (have xf2 : w2a.frozen? ⟨Xa, 2, none⟩ = false := blk_frozen hbox 2); (have x3 : w2a.cell? ⟨Xa, 3, none⟩ = _ := (blk_cell hbox 3).trans rfl); (have xf3 : w2a.frozen? ⟨Xa, 3, none⟩ = false := blk_frozen hbox 3); (have x4 : w2a.cell? ⟨Xa, 4, none⟩ = _ := (blk_cell hbox 4).trans rfl); (have xf4 : w2a.frozen? ⟨Xa, 4, none⟩ = false := blk_frozen hbox 4); (have x5 : w2a.cell? ⟨Xa, 5, none⟩ = _ := (blk_cell hbox 5).trans rfl); (have xf5 : w2a.frozen? ⟨Xa, 5, none⟩ = false := blk_frozen hbox 5); (have x6 : w2a.cell? ⟨Xa, 6, none⟩ = _ := (blk_cell hbox 6).trans rfl); (have xf6 : w2a.frozen? ⟨Xa, 6, none⟩ = false := blk_frozen hbox 6);  clear hg hbox hb)
  | (go_at_call 9; (have z_ := H0.out); clear z_; refine (decode_v _ (zeroV, 0, 7) (by kernel_rfl) (HE.out.below H0.out HE.out.pos) (Nat.le_of_ble_eq_true (by kernel_rfl))).mono ?_; rintro e w1a ⟨vS, vU, vSe, vSp, vCu, hret, hrow, hb⟩; (obtain ⟨A2, ac2, A3, ac3, A4, ac4, A5, ac5, A6, ac6, rfl, rfl, rfl, rfl, rfl⟩ := hrow.slices); (subst hret); (have H1a := Aside0.mk (H0.out.trans (hb.mono H0.out.size))); clear hrow hb))
 go_upto_region 8 with (first
  | ((with_reducible refine gate_store (t := 27) (p := 17) rfl ?_); refine store_event (t := 27) (p := 17) (v := ?vo_y) (w1 := (((((((w8.setCell ⟨Y, 0, none⟩ (.int .i64 4)).setCell ⟨Y, 1, none⟩ (.bool true)).setCell ⟨Y, 2, none⟩ (.slice (some ⟨w3e.heap.size, 0, none⟩) 2 2)).setCell ⟨Y, 3, none⟩ (.slice none 0 0)).setCell ⟨Y, 4, none⟩ (.slice (some ⟨w3e.heap.size + 1 + 1, 0, none⟩) 1 1)).setCell ⟨Y, 5, none⟩ (.slice (some ⟨w3e.heap.size + 1 + 1 + 1 + 1, 0, none⟩) 1 1)).setCell ⟨Y, 6, none⟩ (.slice (some ⟨w3e.heap.size + 1 + 1 + 1 + 1 + 1 + 1, 0, none⟩) 1 1))) ?hg ?ho ?hn ?hr ?_; (case ho => rfl); (case hg => rfl); (case hn => rfl); (case hr => first | (go_simp; done) | (go_simp; rfl)); intro w9 hw; (have h7 := set7 (base := Y) (u0 := .int .i64 4) (u1 := .bool true) (u2 := .slice (some ⟨w3e.heap.size, 0, none⟩) 2 2) (u3 := .slice none 0 0) (u4 := .slice (some ⟨w3e.heap.size + 1 + 1, 0, none⟩) 1 1) (u5 := .slice (some ⟨w3e.heap.size + 1 + 1 + 1 + 1, 0, none⟩) 1 1) (u6 := .slice (some ⟨w3e.heap.size + 1 + 1 + 1 + 1 + 1 + 1, 0, none⟩) 1 1) HY.out.2.1 (Nat.le_refl _)); (dsimp only at h7); (rw [← hw] at h7); (have hL := lits w3e); (have hb9 : Below (L7 w3e).heap.size (L7 w3e) w9 := HY.out.2.2.2.2.trans (by rw [HY.out.2.2.2.1]; exact h7.2.2)); (have H9 := Aside0.mk (H3e.out.trans ((hL.1.trans (hb9.mono hL.1.size)).mono H3e.out.size))); (have HC9 : Aside0 (Kd.C (Kd.int .i64) w9 (some ⟨w3e.heap.size, 0, none⟩) 2 [1, -1] ∧ Kd.C (Kd.slice 3 (Kd.int .i64)) w9 (some ⟨w3e.heap.size + 1 + 1, 0, none⟩) 1 [[3]] ∧ Kd.C k41 w9 (some ⟨w3e.heap.size + 1 + 1 + 1 + 1, 0, none⟩) 1 ySp ∧ Kd.C k43 w9 (some ⟨w3e.heap.size + 1 + 1 + 1 + 1 + 1 + 1, 0, none⟩) 1 yCu) := ⟨Kd.C_below hL.2.1 hb9, Kd.C_below hL.2.2.1 hb9, Kd.C_below hL.2.2.2.1 hb9, Kd.C_below hL.2.2.2.2 hb9⟩); (have HY9 := Aside0.mk h7.1); clear hw h7 hL hb9; clear x0 xf0 x1 xf1 x2 xf2 x3 xf3 x4 xf4 x5 xf5 x6 xf6)
  | ((with_reducible refine gate_dst (N := 17) rfl ?_); (try (refine gate_guard (by rfl) ?_; dsimp only)); refine box_event ?hg (N := 17) ?hd (cs := #[.int .i64 0, .bool false, .slice none 0 0, .slice none 0 0, .slice none 0 0, .slice none 0 0, .slice none 0 0]) (t := 27) ?hr ?_; (case hd => rfl); (case hg => rfl); (case hr => first | (go_simp; done) | (go_simp; rfl)); intro Y hgY w8 hboxY hbY; (have hL := lits w3e); (have HY : Aside0 (Below w3e.heap.size w3e w8 ∧ w8.heap[Y]? = some (.cells #[.int .i64 0, .bool false, .slice none 0 0, .slice none 0 0, .slice none 0 0, .slice none 0 0, .slice none 0 0] 27 (0, 0)) ∧ w3e.heap.size ≤ Y ∧ (L7 w3e).heap.size = Y ∧ Below (L7 w3e).heap.size (L7 w3e) w8) := ⟨hL.1.trans (hbY.mono hL.1.size), hboxY, by rw [hgY]; exact hL.1.size, hgY.symm, hbY⟩); (have x0 : w8.cell? ⟨Y, 0, none⟩ = _ := (blk_cell hboxY 0).trans rfl); (have xf0 : w8.frozen? ⟨Y, 0, none⟩ = false := blk_frozen hboxY 0); (have x1 : w8.cell? ⟨Y, 1, none⟩ = _ := (blk_cell hboxY 1).trans rfl); (have xf1 : w8.frozen? ⟨Y, 1, none⟩ = false := blk_frozen hboxY 1); (have x2 : w8.cell? ⟨Y, 2, none⟩ = _ := (blk_cell hboxY 2).trans rfl); (have xf2 : w8.frozen? ⟨Y, 2, none⟩ = false := blk_frozen hboxY 2); (have x3 : w8.cell? ⟨Y, 3, none⟩ = _ := (blk_cell hboxY 3).trans rfl); (have xf3 : w8.frozen? ⟨Y, 3, none⟩ = false := blk_frozen hboxY 3); (have x4 : w8.cell? ⟨Y, 4, none⟩ = _ := (blk_cell hboxY 4).trans rfl); (have xf4 : w8.frozen? ⟨Y, 4, none⟩ = false := blk_frozen hboxY 4); (have x5 : w8.cell? ⟨Y, 5, none⟩ = _ := (blk_cell hboxY 5).trans rfl); (have xf5 : w8.frozen? ⟨Y, 5, none⟩ = false := blk_frozen hboxY 5); (have x6 : w8.cell? ⟨Y, 6, none⟩ = _ := (blk_cell hboxY 6).trans rfl); (have xf6 : w8.frozen? ⟨Y, 6, none⟩ = false := blk_frozen hboxY 6);  clear hL hgY hboxY hbY))
 have H9a := Aside0.mk H9.out
 simp only [List.append_eq, List.cons_append, List.nil_append]
 go_wp2_with (first
  | (go_at_call 11; (have z_ := HB13.out); clear z_; refine (chk_six _).mono ?_; rintro e w14 ⟨rfl, hb⟩; (have HB14 := Aside0.mk (HB13.out.trans (hb.mono HB13.out.size))); clear hb)
  | (go_at_call 11; (have z_ := HB12.out); clear z_; refine (chk_y _ _ _ _ _ (Kd.C_below HC9.out.1 HB12.out) (Kd.C_below HC9.out.2.1 HB12.out) (Kd.C_below HC9.out.2.2.1 HB12.out) (Kd.C_below HC9.out.2.2.2 HB12.out)).mono ?_; rintro e w13 ⟨rfl, hb⟩; (have HB13 := Aside0.mk (HB12.out.trans (hb.mono HB12.out.size))); clear y0 y1 y2 y3 y4 y5 y6; clear hb)
  | (go_at_call 13; (have z_ := HB11.out); clear z_; refine (enc_y _ _ _ _ _ (Kd.C_below HC9.out.1 HB11.out) (Kd.C_below HC9.out.2.1 HB11.out) (Kd.C_below HC9.out.2.2.1 HB11.out) (Kd.C_below HC9.out.2.2.2 HB11.out)).mono ?_; rintro e w12 ⟨rfl, hb⟩; (have HB12 := Aside0.mk (HB11.out.trans (hb.mono HB11.out.size))); clear y0 y1 y2 y3 y4 y5 y6; (have hy := blk_below HY9.out HB12.out); (have y0 : w12.cell? ⟨Y, 0, none⟩ = _ := (blk_cell hy 0).trans rfl); (have y1 : w12.cell? ⟨Y, 1, none⟩ = _ := (blk_cell hy 1).trans rfl); (have y2 : w12.cell? ⟨Y, 2, none⟩ = _ := (blk_cell hy 2).trans rfl); (have y3 : w12.cell? ⟨Y, 3, none⟩ = _ := (blk_cell hy 3).trans rfl); (have y4 : w12.cell? ⟨Y, 4, none⟩ = _ := (blk_cell hy 4).trans rfl); (have y5 : w12.cell? ⟨Y, 5, none⟩ = _ := (blk_cell hy 5).trans rfl); (have y6 : w12.cell? ⟨Y, 6, none⟩ = _ := (blk_cell hy 6).trans rfl);  clear hy hb)
  | (go_at_call 15; refine (same_zero _ _ _ _ _ _ _ _ _ _ _).mono ?_; rintro e w11 ⟨rfl, hb⟩; (have HB11 := Aside0.mk (HB10.out.trans (hb.mono HB10.out.size))); (have hy := blk_below HY9.out HB11.out); (have y0 : w11.cell? ⟨Y, 0, none⟩ = _ := (blk_cell hy 0).trans rfl); (have y1 : w11.cell? ⟨Y, 1, none⟩ = _ := (blk_cell hy 1).trans rfl); (have y2 : w11.cell? ⟨Y, 2, none⟩ = _ := (blk_cell hy 2).trans rfl); (have y3 : w11.cell? ⟨Y, 3, none⟩ = _ := (blk_cell hy 3).trans rfl); (have y4 : w11.cell? ⟨Y, 4, none⟩ = _ := (blk_cell hy 4).trans rfl); (have y5 : w11.cell? ⟨Y, 5, none⟩ = _ := (blk_cell hy 5).trans rfl); (have y6 : w11.cell? ⟨Y, 6, none⟩ = _ := (blk_cell hy 6).trans rfl);  clear hy hb; clear x0 x1 x2 x3 x4 x5 x6)
  | (go_at_call 13; refine (enc_zero _).mono ?_; rintro e w10 ⟨rfl, hb⟩; (have HB10 := Aside0.mk hb); (have hx := blk_below (blk_below HX.out.1 H9a.out) hb); (have x0 : w10.cell? ⟨Xa, 0, none⟩ = _ := (blk_cell hx 0).trans rfl); (have x1 : w10.cell? ⟨Xa, 1, none⟩ = _ := (blk_cell hx 1).trans rfl); (have x2 : w10.cell? ⟨Xa, 2, none⟩ = _ := (blk_cell hx 2).trans rfl); (have x3 : w10.cell? ⟨Xa, 3, none⟩ = _ := (blk_cell hx 3).trans rfl); (have x4 : w10.cell? ⟨Xa, 4, none⟩ = _ := (blk_cell hx 4).trans rfl); (have x5 : w10.cell? ⟨Xa, 5, none⟩ = _ := (blk_cell hx 5).trans rfl); (have x6 : w10.cell? ⟨Xa, 6, none⟩ = _ := (blk_cell hx 6).trans rfl);  clear hx hb))
 go_ret
 exact ⟨rfl, H3a.out.trans ((H9.out.trans (HB14.out.mono H9.out.size)).mono H3a.out.size)⟩
end Go.Proofs.YtlekdhejgdfnpaaDoor.P
/- Layer 23: AnswerBack: its value. -/
namespace Go.Proofs.YtlekdhejgdfnpaaDoor.P
open Go.RowKit Go.Proofs.YtlekdhejgdfnpaaDoorW.PrintWords Go.Proofs.YtlekdhejgdfnpaaDoorW.PrintLast Go.Proofs.YtlekdhejgdfnpaaDoorW.PrintMore
open Wr
set_option linter.unusedVariables false
set_option linter.unusedSimpArgs false

theorem enc_len {x : AnsV} (h : okV x = true) (h1 : x.no ≤ 1) : (encV x).length ≤ 1000000 := by
 obtain ⟨-, h2, h3, ⟨h4, h5⟩, ⟨h6, h7⟩, h8, h9⟩ := (ok_iff x).1 h
 dsimp only at *
 have lLE : ∀ l, LP l → (LE l).length ≤ 520 := fun l hl => by
  have a := encN_len (l.length : Int)
  have b := flat_len' encI 8 l (fun x _ => encI_len x)
  have := hl.1
  unfold LE
  rw [List.length_append]; omega
 have lSE : ∀ y ∈ x.Sp, (SE y).length ≤ 1560 := fun y hy => by
  obtain ⟨q0, q1, q2⟩ := h7 y hy
  have a0 := lLE _ q0
  have a1 := lLE _ q1
  have a2 := lLE _ q2
  unfold SE
  rw [List.length_append, List.length_append]; omega
 have lCE : ∀ y ∈ x.Cu, (CE y).length ≤ 528 := fun y hy => by
  have a0 := lLE _ (h9 y hy).1
  have a1 := encI_len y.f1
  unfold CE
  rw [List.length_append]; omega
 have b1 := encN_len x.kd
 have b2 := encN_len x.no
 have b3 := lLE _ h2
 have b4 := lLE _ h3
 have b5 := encN_len (x.Se.length : Int)
 have b6 := flat_len' LE 520 x.Se (fun l hl => lLE l (h5 l hl))
 have b7 := encN_len (x.Sp.length : Int)
 have b8 := flat_len' SE 1560 x.Sp lSE
 have b9 := encN_len (x.Cu.length : Int)
 have b10 := flat_len' CE 528 x.Cu lCE
 unfold encV ofV e0 e1 e2 e3 e4 e5 cntE
 simp only [List.length_append]
 omega
end Go.Proofs.YtlekdhejgdfnpaaDoor.P
/- layer 23's AnswerNumbers: what its walk stands on. -/
namespace Go.Proofs.YtlekdhejgdfnpaaDoor.P
open Go.RowKit Go.Proofs.YtlekdhejgdfnpaaDoorW.PrintWords Go.Proofs.YtlekdhejgdfnpaaDoorW.PrintLast Go.Proofs.YtlekdhejgdfnpaaDoorW.PrintMore
open Wr
set_option linter.unusedVariables false
set_option linter.unusedSimpArgs false

def inB (x : Int) : Bool := decide (-562949953421312 ≤ x) && decide (x ≤ 562949953421312)
def goodB (l : List Int) (a1 : Int) : Bool := (decide (l.length ≤ 64) && decide (0 ≤ a1) && decide (a1 ≤ 5)) && l.all inB
theorem good_iff (l : List Int) (a1 : Int) : goodB l a1 = true ↔ (0 ≤ a1 ∧ a1 < 6) ∧ LP l := by
 unfold goodB LP inB IntP
 simp only [Bool.and_eq_true, decide_eq_true_eq, List.all_eq_true]
 constructor
 ·rintro ⟨⟨⟨h1, h2⟩, h3⟩, h4⟩
  exact ⟨⟨h2, by omega⟩, h1, h4⟩
 ·rintro ⟨⟨h2, h3⟩, h1, h4⟩
  exact ⟨⟨⟨h1, h2⟩, by omega⟩, h4⟩
def nX (l : List Int) (a1 : Int) : AnsV := mkV a1 false l [] [] [] []
def nY (l : List Int) (a1 : Int) : AnsV := mkV a1 false [] [] [l] [] []
theorem LP_nil : LP [] := ⟨by simp, fun x hx => by cases hx⟩
theorem okX (l : List Int) (a1 : Int) : okV (nX l a1) = goodB l a1 := by
 have h : okV (nX l a1) = true ↔ goodB l a1 = true := by
  rw [ok_iff, good_iff]
  constructor
  ·rintro ⟨h1, h2, -⟩; exact ⟨h1, h2⟩
  ·rintro ⟨h1, h2⟩
   exact ⟨h1, h2, LP_nil, ⟨by simp [nX, mkV], fun x hx => by cases hx⟩, ⟨by simp [nX, mkV], fun x hx => by cases hx⟩, by simp [nX, mkV], fun x hx => by cases hx⟩
 cases hb : goodB l a1 with
 | true => exact h.2 hb
 | false =>
  cases ha : okV (nX l a1) with
  | false => rfl
  | true => rw [h.1 ha] at hb; cases hb
theorem okY (l : List Int) (a1 : Int) : okV (nY l a1) = goodB l a1 := by
 have h : okV (nY l a1) = true ↔ goodB l a1 = true := by
  rw [ok_iff, good_iff]
  constructor
  ·rintro ⟨h1, -, -, ⟨-, h2⟩, -⟩; exact ⟨h1, h2 l (by simp [nY, mkV])⟩
  ·rintro ⟨h1, h2⟩
   exact ⟨h1, LP_nil, LP_nil, ⟨by simp [nY, mkV], fun x hx => by rw [List.mem_singleton.1 (show x ∈ [l] from hx)]; exact h2⟩, ⟨by simp [nY, mkV], fun x hx => by cases hx⟩, by simp [nY, mkV], fun x hx => by cases hx⟩
 cases hb : goodB l a1 with
 | true => exact h.2 hb
 | false =>
  cases ha : okV (nY l a1) with
  | false => rfl
  | true => rw [h.1 ha] at hb; cases hb
section
variable {W : World} {A0 B : Option Addr} {c0 : Nat} (l : List Int) (a1 : Int)
theorem chX (h : Kd.C (Kd.int .i64) W A0 l.length l) (hc : l.length ≤ c0) : Calls Tryd.prog 11 #[.agg #[.int .i64 a1, .bool false, .slice A0 l.length c0, .slice none 0 0, .slice none 0 0, .slice none 0 0, .slice none 0 0]] W fun e w' => e = .returned (.int .i64 (if goodB l a1 = true then 0 else 230)) ∧ Below W.heap.size W w' := by
 have := check_C a1 false l [] [] [] [] h hc (C_zero (Kd.int .i64) W none) (Nat.le_refl _) (C_zero (Kd.slice 3 (Kd.int .i64)) W none) (Nat.le_refl _) (C_zero k41 W none) (Nat.le_refl _) (C_zero k43 W none) (Nat.le_refl _) (by simp) (by simp) (by simp)
 rw [← okX]
 exact this
theorem chY (h : Kd.C (Kd.slice 3 (Kd.int .i64)) W B 1 [l]) : Calls Tryd.prog 11 #[.agg #[.int .i64 a1, .bool false, .slice none 0 0, .slice none 0 0, .slice B 1 1, .slice none 0 0, .slice none 0 0]] W fun e w' => e = .returned (.int .i64 (if goodB l a1 = true then 0 else 230)) ∧ Below W.heap.size W w' := by
 have := check_C a1 false [] [] [l] [] [] (C_zero (Kd.int .i64) W none) (Nat.le_refl _) (C_zero (Kd.int .i64) W none) (Nat.le_refl _) h (Nat.le_refl _) (C_zero k41 W none) (Nat.le_refl _) (C_zero k43 W none) (Nat.le_refl _) (by simp) (by simp) (by simp)
 rw [← okY]
 exact this
theorem enX (h : Kd.C (Kd.int .i64) W A0 l.length l) (hc : l.length ≤ c0) : Calls Tryd.prog 13 #[.agg #[.int .i64 a1, .bool false, .slice A0 l.length c0, .slice none 0 0, .slice none 0 0, .slice none 0 0, .slice none 0 0]] W fun e w' => e = .returned (.string (strOfNums (if goodB l a1 = true then encV (nX l a1) else []))) ∧ Below W.heap.size W w' := by
 have := answer_Encode.calls a1 false A0 c0 l none 0 [] none 0 [] none 0 [] none 0 [] _ W h hc (C_zero (Kd.int .i64) W none) (Nat.le_refl _) (C_zero (Kd.slice 3 (Kd.int .i64)) W none) (Nat.le_refl _) (C_zero k41 W none) (Nat.le_refl _) (C_zero k43 W none) (Nat.le_refl _) (encode_val (by simp) (by simp) (by simp))
 rw [← okX]
 exact this
theorem enY (h : Kd.C (Kd.slice 3 (Kd.int .i64)) W B 1 [l]) : Calls Tryd.prog 13 #[.agg #[.int .i64 a1, .bool false, .slice none 0 0, .slice none 0 0, .slice B 1 1, .slice none 0 0, .slice none 0 0]] W fun e w' => e = .returned (.string (strOfNums (if goodB l a1 = true then encV (nY l a1) else []))) ∧ Below W.heap.size W w' := by
 have := answer_Encode.calls a1 false none 0 [] none 0 [] B 1 [l] none 0 [] none 0 [] _ W (C_zero (Kd.int .i64) W none) (Nat.le_refl _) (C_zero (Kd.int .i64) W none) (Nat.le_refl _) h (Nat.le_refl _) (C_zero k41 W none) (Nat.le_refl _) (C_zero k43 W none) (Nat.le_refl _) (encode_val (by simp) (by simp) (by simp))
 rw [← okY]
 exact this
end
theorem dec_of {x : AnsV} (h : okV x = true) (h0 : 0 ≤ x.no) (h1 : x.no ≤ 1) : decV (bytesOf (strOfNums (encV x))) = (x, 0, ((encV x).length : Int)) ∧ (strOfNums (encV x)).size ≤ 1000000000 := by
 rw [bytesOf_sn (encV_by _)]
 refine ⟨dec_enc h h0 h1, ?_⟩
 rw [size_sn]
 have := enc_len h h1
 omega
theorem dec_nil : decV (bytesOf (strOfNums [])) = (zeroV, 10, 0) ∧ (strOfNums []).size ≤ 1000000000 := ⟨by kernel_rfl, Nat.le_of_ble_eq_true (by kernel_rfl)⟩
theorem same_self {x : AnsV} (h : okV x = true) (b : Bool) (hb : (x.no == 1) = b) : ∃ k, greenwoodref23_Same.f k x.kd (x.no == 1) x.S x.U x.Se x.Sp x.Cu x.kd b x.S x.U x.Se x.Sp x.Cu = some true := by
 obtain ⟨r, hr, hiff⟩ := sameA_ev x.kd (x.no == 1) x.S x.U x.Se x.Sp x.Cu x.kd b x.S x.U x.Se x.Sp x.Cu (ok_len h)
 obtain rfl : r = true := hiff.2 ⟨rfl, hb, rfl, rfl, rfl, rfl, rfl⟩
 exact hr.rounds
theorem same_rows {W : World} {n0 : Nat} {A2 A3 A4 A5 A6 B2 B3 B4 B5 B6 : Option Addr} {c2 c3 c4 c5 c6 d2 d3 d4 d5 d6 : Nat} {x : AnsV} {kd' : Int} {no' : Bool} {S' U' : List Int} {Se' : List (List Int)} {Sp' : List Spl} {Cu' : List Cut}
 (h : RowsA W n0 (.slice A2 x.S.length c2) (.slice A3 x.U.length c3) (.slice A4 x.Se.length c4) (.slice A5 x.Sp.length c5) (.slice A6 x.Cu.length c6) x) (hs : ∃ k, greenwoodref23_Same.f k x.kd (x.no == 1) x.S x.U x.Se x.Sp x.Cu kd' no' S' U' Se' Sp' Cu' = some true)
 (h2 : Kd.C (Kd.int .i64) W B2 S'.length S') (k2 : S'.length ≤ d2) (h3 : Kd.C (Kd.int .i64) W B3 U'.length U') (k3 : U'.length ≤ d3) (h4 : Kd.C (Kd.slice 3 (Kd.int .i64)) W B4 Se'.length Se') (k4 : Se'.length ≤ d4) (h5 : Kd.C k41 W B5 Sp'.length Sp') (k5 : Sp'.length ≤ d5) (h6 : Kd.C k43 W B6 Cu'.length Cu') (k6 : Cu'.length ≤ d6) :
 Calls Tryd.prog 15 #[.agg #[.int .i64 x.kd, .bool (x.no == 1), .slice A2 x.S.length c2, .slice A3 x.U.length c3, .slice A4 x.Se.length c4, .slice A5 x.Sp.length c5, .slice A6 x.Cu.length c6], .agg #[.int .i64 kd', .bool no', .slice B2 S'.length d2, .slice B3 U'.length d3, .slice B4 Se'.length d4, .slice B5 Sp'.length d5, .slice B6 Cu'.length d6]] W fun e w' => e = .returned (.bool true) ∧ Below W.heap.size W w' := by
 obtain ⟨n1, n2, a1, a2, a3, g1, g2, g3, g4, g5⟩ := h
 obtain ⟨k, hk⟩ := hs
 obtain ⟨_, p2, q2⟩ := Kd.R_reads' g1
 obtain ⟨_, p3, q3⟩ := Kd.R_reads' g2
 obtain ⟨_, p4, q4⟩ := Kd.S_reads' g3
 obtain ⟨_, p5, q5⟩ := Kd.S_reads' g4
 obtain ⟨_, p6, q6⟩ := Kd.S_reads' g5
 exact greenwoodref23_Same.calls k x.kd (x.no == 1) A2 c2 x.S A3 c3 x.U A4 c4 x.Se A5 c5 x.Sp A6 c6 x.Cu kd' no' B2 d2 S' B3 d3 U' B4 d4 Se' B5 d5 Sp' B6 d6 Cu' true W q2 p2 q3 p3 q4 p4 q5 p5 q6 p6 h2 k2 h3 k3 h4 k4 h5 k5 h6 k6 hk
end Go.Proofs.YtlekdhejgdfnpaaDoor.P
/- layer 23's AnswerNumbers, walked. (Written by wip/tool/ansnb.py.) -/
namespace Go.Proofs.YtlekdhejgdfnpaaDoor.P
open Go.RowKit Go.Proofs.YtlekdhejgdfnpaaDoorW.PrintWords Go.Proofs.YtlekdhejgdfnpaaDoorW.PrintLast Go.Proofs.YtlekdhejgdfnpaaDoorW.PrintMore
open Wr
set_option linter.unusedVariables false
set_option linter.unusedSimpArgs false

set_option maxHeartbeats 16000000 in
set_option maxRecDepth 100000 in
theorem numbers_main {w : World} {A0 : Option Addr} {c0 : Nat} (l : List Int) (a1 : Int) (hr0 : Kd.C (Kd.int .i64) w A0 l.length l) (hc0 : l.length ≤ c0) (hE : EV w) (h100 : l.length ≤ 100) :
 Calls Tryd.prog 6 #[.slice A0 l.length c0, .int .i64 a1] w fun e w' => e = .returned (.bool true) ∧ Below w.heap.size w w' := by
 have HE := Aside0.mk hE
 have HR := Aside0.mk hr0
 have HC0 := Aside0.mk hc0
 have HL := Aside0.mk h100
 have y100 : decide ((100 : Int) < (l.length : Int)) = false := decide_eq_false (by omega)
 have hlen : l.length ≤ 100 := h100
 clear hE hr0 hc0 h100
 go_enter Tryd.func6, Tryd.ntmps6
 go_upto_region 3 with (go_at_call 8; refine (fixed_c HE.out).mono ?_; rintro e w1 ⟨rfl, hb⟩; (have HW1 := Aside0.mk hb); clear hb)
 obtain ⟨g0, hg0⟩ : ∃ g, g = (decide (l.length ≤ 64) && decide (0 ≤ a1) && decide (a1 ≤ 5)) := ⟨_, rfl⟩
 have HG0 := Aside0.mk hg0
 clear hg0
 go_cut [5] from 15 (fun v5 wc => v5 = .bool g0 ∧ wc = w1)
 case first =>
  have h := HG0.out
  by_cases h1 : l.length ≤ 64
  ·have z1 : decide ((l.length : Int) ≤ 64) = true := decide_eq_true (by omega)
   rcases Bool.eq_false_or_eq_true (decide (0 ≤ a1)) with h2 | h2 <;> rcases Bool.eq_false_or_eq_true (decide (a1 ≤ 5)) with h3 | h3
   all_goals
    rw [decide_eq_true h1, h2, h3] at h
    simp only [Bool.and_true, Bool.and_false] at h
    subst h
    go_wp2
    go_meet
    case rel => exact ⟨rfl, rfl⟩
  ·have z1 : decide ((l.length : Int) ≤ 64) = false := decide_eq_false (by omega)
   rw [decide_eq_false h1] at h
   simp only [Bool.false_and] at h
   subst h
   go_wp2
   go_meet
   case rel => exact ⟨rfl, rfl⟩
 case rest =>
  obtain ⟨rfl, hwc⟩ := hcut
  subst wc
  go_upto_block 0 with fail
  go_wp2
  go_loopw [5, 6] (fun v5 v6 wr => ∃ (i : Nat) (g : Bool), i ≤ l.length ∧ v5 = .bool g ∧ v6 = .int .i64 (i : Int) ∧ wr = w1 ∧ Aside0 (g = (g0 && (l.take i).all inB))) (fun _ v6 _ => (l.length - (intOf v6).toNat))
  case atStart => exact ⟨0, g0, Nat.zero_le _, rfl, rfl, rfl, ⟨by simp⟩⟩
  case round =>
   obtain ⟨i, g, hi, rfl, rfl, hwr, HG⟩ := hrel
   subst wr
   by_cases hlt : i < l.length
   ·obtain ⟨ad, e, hx⟩ := Kd.at_int (Kd.C_below HR.out HW1.out) (i : Int) (by omega) (by omega)
    rw [rd_at hlt, show ((i : Int)).toNat = i from rfl] at hx
    have HS : Aside0 ((g0 && (l.take (i + 1)).all inB) = (g && inB l[i])) := ⟨by rw [HG.out, List.take_succ_eq_append_getElem hlt, List.all_append, Bool.and_assoc]; simp⟩
    subst e
    generalize l[i] = q at *
    have hi100 : i < 100 := by omega
    obtain ⟨b1, hb1⟩ : ∃ b, decide ((-562949953421312 : Int) ≤ q) = b := ⟨_, rfl⟩
    obtain ⟨b2, hb2⟩ : ∃ b, decide (q ≤ (562949953421312 : Int)) = b := ⟨_, rfl⟩
    have HQ : Aside0 (inB q = (b1 && b2)) := ⟨by unfold inB; rw [hb1, hb2]⟩
    cases g <;> cases b1 <;> cases b2
    all_goals
     go_wp2
     repeat (go_quiet (fail); try go_wp2)
     go_roundw
     case measure => simp [intOf]; omega
     case rel => first | exact ⟨i + 1, false, by omega, (by first | rfl | trivial), by go_num, (by first | rfl | trivial), ⟨by rw [HS.out, HQ.out]; rfl⟩⟩ | exact ⟨i + 1, true, by omega, (by first | rfl | trivial), by go_num, (by first | rfl | trivial), ⟨by rw [HS.out, HQ.out]; rfl⟩⟩
   ·have hgf : g = goodB l a1 := by
     rw [HG.out, HG0.out, List.take_of_length_le (by omega)]; rfl
    clear HG HG0
    have CHX := Aside0.mk (fun (W : World) (h : Kd.C (Kd.int .i64) W A0 l.length l) => chX l a1 h HC0.out)
    have CHY := Aside0.mk (fun (W : World) (B : Option Addr) (h : Kd.C (Kd.slice 3 (Kd.int .i64)) W B 1 [l]) => chY l a1 h)
    have ENCX := Aside0.mk (fun (W : World) (h : Kd.C (Kd.int .i64) W A0 l.length l) => enX l a1 h HC0.out)
    have ENCY := Aside0.mk (fun (W : World) (B : Option Addr) (h : Kd.C (Kd.slice 3 (Kd.int .i64)) W B 1 [l]) => enY l a1 h)
    have hokX := okX l a1
    have hokY := okY l a1
    rw [← hgf] at CHX CHY ENCX ENCY hokX hokY
    cases g with
    | true =>
     have hdX := dec_of hokX (mkV_no a1 false l [] [] [] []).1 (mkV_no a1 false l [] [] [] []).2.1
     have hdY := dec_of hokY (mkV_no a1 false [] [] [l] [] []).1 (mkV_no a1 false [] [] [l] [] []).2.1
     have HDX := Aside0.mk hdX.1
     have HSX := Aside0.mk hdX.2
     have HDY := Aside0.mk hdY.1
     have HSY := Aside0.mk hdY.2
     have SAX : Aside0 (∃ k, greenwoodref23_Same.f k (nX l a1).kd ((nX l a1).no == 1) (nX l a1).S (nX l a1).U (nX l a1).Se (nX l a1).Sp (nX l a1).Cu a1 false l [] [] [] [] = some true) := ⟨same_self hokX false rfl⟩
     have SAY : Aside0 (∃ k, greenwoodref23_Same.f k (nY l a1).kd ((nY l a1).no == 1) (nY l a1).S (nY l a1).U (nY l a1).Se (nY l a1).Sp (nY l a1).Cu a1 false [] [] [l] [] [] = some true) := ⟨same_self hokY false rfl⟩
     rw [if_pos rfl] at CHX CHY ENCX ENCY
     clear hdX hdY hokX hokY hgf
     generalize nX l a1 = encX at *
     generalize nY l a1 = encY at *
     go_wp2_with (first
      | (go_at_call 15; (have z_ := HB16.out); clear z_; refine (same_rows HQ16.out.1 SAY.out (C_zero _ _ _) (Nat.le_refl _) (C_zero _ _ _) (Nat.le_refl _) (Kd.C_below HF5.out.2.1 HB16.out) (Nat.le_refl _) (C_zero _ _ _) (Nat.le_refl _) (C_zero _ _ _) (Nat.le_refl _)).mono ?_; rintro e w17 ⟨rfl, hb⟩; (have HB17 := Aside0.mk (HB16.out.trans (hb.mono HB16.out.size))); clear hb)
      | (go_at_call 15; (have z_ := HB15.out); clear z_; refine (same_rows HZ15.out.1 SAX.out (Kd.C_below HF5.out.1 HB15.out) HC0.out (C_zero _ _ _) (Nat.le_refl _) (C_zero _ _ _) (Nat.le_refl _) (C_zero _ _ _) (Nat.le_refl _) (C_zero _ _ _) (Nat.le_refl _)).mono ?_; rintro e w16 ⟨rfl, hb⟩; (have HB16 := Aside0.mk (HB15.out.trans (hb.mono HB15.out.size))); (have HQ16 := Aside0.mk (And.intro (HQ15.out.1.below hb) (blk_below HQ15.out.2 hb))); clear x0 x1 x2 x3 x4 x5 x6; clear z0 z1 z2 z3 z4 z5 z6; (have hy := blk_below HF5.out.2.2.2 HB16.out); (have hz := HQ16.out.2); (have y0 : w16.cell? ⟨Y1, 0, none⟩ = _ := (blk_cell hy 0).trans rfl); (have y1 : w16.cell? ⟨Y1, 1, none⟩ = _ := (blk_cell hy 1).trans rfl); (have y2 : w16.cell? ⟨Y1, 2, none⟩ = _ := (blk_cell hy 2).trans rfl); (have y3 : w16.cell? ⟨Y1, 3, none⟩ = _ := (blk_cell hy 3).trans rfl); (have y4 : w16.cell? ⟨Y1, 4, none⟩ = _ := (blk_cell hy 4).trans rfl); (have y5 : w16.cell? ⟨Y1, 5, none⟩ = _ := (blk_cell hy 5).trans rfl); (have y6 : w16.cell? ⟨Y1, 6, none⟩ = _ := (blk_cell hy 6).trans rfl);  (have z0 : w16.cell? ⟨Z2, 0, none⟩ = _ := (blk_cell hz 0).trans rfl); (have z1 : w16.cell? ⟨Z2, 1, none⟩ = _ := (blk_cell hz 1).trans rfl); (have z2 : w16.cell? ⟨Z2, 2, none⟩ = _ := (blk_cell hz 2).trans rfl); (have z3 : w16.cell? ⟨Z2, 3, none⟩ = _ := (blk_cell hz 3).trans rfl); (have z4 : w16.cell? ⟨Z2, 4, none⟩ = _ := (blk_cell hz 4).trans rfl); (have z5 : w16.cell? ⟨Z2, 5, none⟩ = _ := (blk_cell hz 5).trans rfl); (have z6 : w16.cell? ⟨Z2, 6, none⟩ = _ := (blk_cell hz 6).trans rfl);  clear hb hy hz)
      | ((with_reducible refine gate_store (t := 27) (p := 12) rfl ?_); refine store_event (t := 27) (p := 12) (v := ?vo4_) (w1 := (((((((w14.setCell ⟨Z2, 0, none⟩ (.int .i64 encY.kd)).setCell ⟨Z2, 1, none⟩ (.bool (encY.no == 1))).setCell ⟨Z2, 2, none⟩ (.slice E2 encY.S.length ec2)).setCell ⟨Z2, 3, none⟩ (.slice E3 encY.U.length ec3)).setCell ⟨Z2, 4, none⟩ (.slice E4 encY.Se.length ec4)).setCell ⟨Z2, 5, none⟩ (.slice E5 encY.Sp.length ec5)).setCell ⟨Z2, 6, none⟩ (.slice E6 encY.Cu.length ec6))) ?hg ?ho ?hn ?hr ?_; (case ho => rfl); (case hg => rfl); (case hn => rfl); (case hr => first | (go_simp; done) | (go_simp; rfl)); intro w15 hw; (have h7 := set7 (base := w13.heap.size) (u0 := .int .i64 encY.kd) (u1 := .bool (encY.no == 1)) (u2 := .slice E2 encY.S.length ec2) (u3 := .slice E3 encY.U.length ec3) (u4 := .slice E4 encY.Se.length ec4) (u5 := .slice E5 encY.Sp.length ec5) (u6 := .slice E6 encY.Cu.length ec6) H14.out.2.1 H14.out.2.2); (dsimp only at h7); (rw [← hw] at h7); (have hb15 := H14.out.1.trans h7.2.2); (have HB15 := Aside0.mk (HB13.out.trans (hb15.mono HB13.out.size))); (have HZ15 := Aside0.mk (And.intro (HZ13.out.1.below hb15) (blk_below HZ13.out.2 hb15))); (have HQ15 := Aside0.mk (And.intro ((HRe.out.below H14.out.1).keepX H14.out.2.1 h7.2.1) h7.1)); clear x0 xf0 x1 xf1 x2 xf2 x3 xf3 x4 xf4 x5 xf5 x6 xf6; (have hx := blk_below HF5.out.2.2.1 HB15.out); (have hz := HZ15.out.2); (have x0 : w15.cell? ⟨X1, 0, none⟩ = _ := (blk_cell hx 0).trans rfl); (have x1 : w15.cell? ⟨X1, 1, none⟩ = _ := (blk_cell hx 1).trans rfl); (have x2 : w15.cell? ⟨X1, 2, none⟩ = _ := (blk_cell hx 2).trans rfl); (have x3 : w15.cell? ⟨X1, 3, none⟩ = _ := (blk_cell hx 3).trans rfl); (have x4 : w15.cell? ⟨X1, 4, none⟩ = _ := (blk_cell hx 4).trans rfl); (have x5 : w15.cell? ⟨X1, 5, none⟩ = _ := (blk_cell hx 5).trans rfl); (have x6 : w15.cell? ⟨X1, 6, none⟩ = _ := (blk_cell hx 6).trans rfl);  (have z0 : w15.cell? ⟨Z1, 0, none⟩ = _ := (blk_cell hz 0).trans rfl); (have z1 : w15.cell? ⟨Z1, 1, none⟩ = _ := (blk_cell hz 1).trans rfl); (have z2 : w15.cell? ⟨Z1, 2, none⟩ = _ := (blk_cell hz 2).trans rfl); (have z3 : w15.cell? ⟨Z1, 3, none⟩ = _ := (blk_cell hz 3).trans rfl); (have z4 : w15.cell? ⟨Z1, 4, none⟩ = _ := (blk_cell hz 4).trans rfl); (have z5 : w15.cell? ⟨Z1, 5, none⟩ = _ := (blk_cell hz 5).trans rfl); (have z6 : w15.cell? ⟨Z1, 6, none⟩ = _ := (blk_cell hz 6).trans rfl);  clear hx hz; clear hw h7 hb15)
      | ((with_reducible refine gate_dst (N := 12) rfl ?_); (try (refine gate_guard (by rfl) ?_; dsimp only)); refine box_event ?hg (N := 12) ?hd (cs := #[.int .i64 0, .bool false, .slice none 0 0, .slice none 0 0, .slice none 0 0, .slice none 0 0, .slice none 0 0]) (t := 27) ?hr ?_; (case hd => rfl); (case hg => rfl); (case hr => first | (go_simp; done) | (go_simp; rfl)); intro Z2 hg w14 hbox hb; (have H14 : Aside0 (Below w13.heap.size w13 w14 ∧ w14.heap[Z2]? = some (.cells #[.int .i64 0, .bool false, .slice none 0 0, .slice none 0 0, .slice none 0 0, .slice none 0 0, .slice none 0 0] 27 (0, 0)) ∧ w13.heap.size ≤ Z2) := ⟨hb, hbox, Nat.le_of_eq hg.symm⟩); (have x0 : w14.cell? ⟨Z2, 0, none⟩ = _ := (blk_cell hbox 0).trans rfl); (have xf0 : w14.frozen? ⟨Z2, 0, none⟩ = false := blk_frozen hbox 0); (have x1 : w14.cell? ⟨Z2, 1, none⟩ = _ := (blk_cell hbox 1).trans rfl); (have xf1 : w14.frozen? ⟨Z2, 1, none⟩ = false := blk_frozen hbox 1); (have x2 : w14.cell? ⟨Z2, 2, none⟩ = _ := (blk_cell hbox 2).trans rfl); (have xf2 : w14.frozen? ⟨Z2, 2, none⟩ = false := blk_frozen hbox 2); (have x3 : w14.cell? ⟨Z2, 3, none⟩ = _ := (blk_cell hbox 3).trans rfl); (have xf3 : w14.frozen? ⟨Z2, 3, none⟩ = false := blk_frozen hbox 3); (have x4 : w14.cell? ⟨Z2, 4, none⟩ = _ := (blk_cell hbox 4).trans rfl); (have xf4 : w14.frozen? ⟨Z2, 4, none⟩ = false := blk_frozen hbox 4); (have x5 : w14.cell? ⟨Z2, 5, none⟩ = _ := (blk_cell hbox 5).trans rfl); (have xf5 : w14.frozen? ⟨Z2, 5, none⟩ = false := blk_frozen hbox 5); (have x6 : w14.cell? ⟨Z2, 6, none⟩ = _ := (blk_cell hbox 6).trans rfl); (have xf6 : w14.frozen? ⟨Z2, 6, none⟩ = false := blk_frozen hbox 6);  clear hg hbox hb)
      | (go_at_call 9; (have z_ := HB12.out); clear z_; refine (decode_v _ (encY, 0, ((encV encY).length : Int)) HDY.out (HE.out.below (HW5.out.trans (HB12.out.mono HW5.out.size)) HE.out.pos) HSY.out).mono ?_; rintro e w13 ⟨vS, vU, vSe, vSp, vCu, hret, hrow, hb⟩; (obtain ⟨E2, ec2, E3, ec3, E4, ec4, E5, ec5, E6, ec6, rfl, rfl, rfl, rfl, rfl⟩ := hrow.slices); (subst hret); (have HB13 := Aside0.mk (HB12.out.trans (hb.mono HB12.out.size))); (have HRe := Aside0.mk hrow); (have HZ13 := Aside0.mk (And.intro (HZ12.out.1.below hb) (blk_below HZ12.out.2 hb))); clear hrow hb)
      | (go_at_call 13; (have z_ := HB11.out); clear z_; refine (ENCY.out w11 _ (Kd.C_below HF5.out.2.1 HB11.out)).mono ?_; rintro e w12 ⟨rfl, hb⟩; (have HB12 := Aside0.mk (HB11.out.trans (hb.mono HB11.out.size))); (have HZ12 := Aside0.mk (And.intro (HZ11.out.1.below hb) (blk_below HZ11.out.2 hb))); clear y0 y1 y2 y3 y4 y5 y6; clear hb)
      | ((with_reducible refine gate_store (t := 27) (p := 9) rfl ?_); refine store_event (t := 27) (p := 9) (v := ?vo3_) (w1 := (((((((w10.setCell ⟨Z1, 0, none⟩ (.int .i64 encX.kd)).setCell ⟨Z1, 1, none⟩ (.bool (encX.no == 1))).setCell ⟨Z1, 2, none⟩ (.slice D2 encX.S.length dc2)).setCell ⟨Z1, 3, none⟩ (.slice D3 encX.U.length dc3)).setCell ⟨Z1, 4, none⟩ (.slice D4 encX.Se.length dc4)).setCell ⟨Z1, 5, none⟩ (.slice D5 encX.Sp.length dc5)).setCell ⟨Z1, 6, none⟩ (.slice D6 encX.Cu.length dc6))) ?hg ?ho ?hn ?hr ?_; (case ho => rfl); (case hg => rfl); (case hn => rfl); (case hr => first | (go_simp; done) | (go_simp; rfl)); intro w11 hw; (have h7 := set7 (base := w9.heap.size) (u0 := .int .i64 encX.kd) (u1 := .bool (encX.no == 1)) (u2 := .slice D2 encX.S.length dc2) (u3 := .slice D3 encX.U.length dc3) (u4 := .slice D4 encX.Se.length dc4) (u5 := .slice D5 encX.Sp.length dc5) (u6 := .slice D6 encX.Cu.length dc6) H10.out.2.1 H10.out.2.2); (dsimp only at h7); (rw [← hw] at h7); (have HB11 := Aside0.mk (HB9.out.trans ((H10.out.1.trans h7.2.2).mono HB9.out.size))); (have HZ11 := Aside0.mk (And.intro ((HRd.out.below H10.out.1).keepX H10.out.2.1 h7.2.1) h7.1)); clear x0 xf0 x1 xf1 x2 xf2 x3 xf3 x4 xf4 x5 xf5 x6 xf6; (have hy := blk_below HF5.out.2.2.2 HB11.out); (have y0 : w11.cell? ⟨Y1, 0, none⟩ = _ := (blk_cell hy 0).trans rfl); (have y1 : w11.cell? ⟨Y1, 1, none⟩ = _ := (blk_cell hy 1).trans rfl); (have y2 : w11.cell? ⟨Y1, 2, none⟩ = _ := (blk_cell hy 2).trans rfl); (have y3 : w11.cell? ⟨Y1, 3, none⟩ = _ := (blk_cell hy 3).trans rfl); (have y4 : w11.cell? ⟨Y1, 4, none⟩ = _ := (blk_cell hy 4).trans rfl); (have y5 : w11.cell? ⟨Y1, 5, none⟩ = _ := (blk_cell hy 5).trans rfl); (have y6 : w11.cell? ⟨Y1, 6, none⟩ = _ := (blk_cell hy 6).trans rfl);  clear hw h7 hy)
      | ((with_reducible refine gate_dst (N := 9) rfl ?_); (try (refine gate_guard (by rfl) ?_; dsimp only)); refine box_event ?hg (N := 9) ?hd (cs := #[.int .i64 0, .bool false, .slice none 0 0, .slice none 0 0, .slice none 0 0, .slice none 0 0, .slice none 0 0]) (t := 27) ?hr ?_; (case hd => rfl); (case hg => rfl); (case hr => first | (go_simp; done) | (go_simp; rfl)); intro Z1 hg w10 hbox hb; (have H10 : Aside0 (Below w9.heap.size w9 w10 ∧ w10.heap[Z1]? = some (.cells #[.int .i64 0, .bool false, .slice none 0 0, .slice none 0 0, .slice none 0 0, .slice none 0 0, .slice none 0 0] 27 (0, 0)) ∧ w9.heap.size ≤ Z1) := ⟨hb, hbox, Nat.le_of_eq hg.symm⟩); (have HB10 := Aside0.mk (HB9.out.trans (hb.mono HB9.out.size))); (have x0 : w10.cell? ⟨Z1, 0, none⟩ = _ := (blk_cell hbox 0).trans rfl); (have xf0 : w10.frozen? ⟨Z1, 0, none⟩ = false := blk_frozen hbox 0); (have x1 : w10.cell? ⟨Z1, 1, none⟩ = _ := (blk_cell hbox 1).trans rfl); (have xf1 : w10.frozen? ⟨Z1, 1, none⟩ = false := blk_frozen hbox 1); (have x2 : w10.cell? ⟨Z1, 2, none⟩ = _ := (blk_cell hbox 2).trans rfl); (have xf2 : w10.frozen? ⟨Z1, 2, none⟩ = false := blk_frozen hbox 2); (have x3 : w10.cell? ⟨Z1, 3, none⟩ = _ := (blk_cell hbox 3).trans rfl); (have xf3 : w10.frozen? ⟨Z1, 3, none⟩ = false := blk_frozen hbox 3); (have x4 : w10.cell? ⟨Z1, 4, none⟩ = _ := (blk_cell hbox 4).trans rfl); (have xf4 : w10.frozen? ⟨Z1, 4, none⟩ = false := blk_frozen hbox 4); (have x5 : w10.cell? ⟨Z1, 5, none⟩ = _ := (blk_cell hbox 5).trans rfl); (have xf5 : w10.frozen? ⟨Z1, 5, none⟩ = false := blk_frozen hbox 5); (have x6 : w10.cell? ⟨Z1, 6, none⟩ = _ := (blk_cell hbox 6).trans rfl); (have xf6 : w10.frozen? ⟨Z1, 6, none⟩ = false := blk_frozen hbox 6);  clear hg hbox hb)
      | (go_at_call 9; (have z_ := HB8.out); clear z_; refine (decode_v _ (encX, 0, ((encV encX).length : Int)) HDX.out (HE.out.below (HW5.out.trans (HB8.out.mono HW5.out.size)) HE.out.pos) HSX.out).mono ?_; rintro e w9 ⟨vS, vU, vSe, vSp, vCu, hret, hrow, hb⟩; (obtain ⟨D2, dc2, D3, dc3, D4, dc4, D5, dc5, D6, dc6, rfl, rfl, rfl, rfl, rfl⟩ := hrow.slices); (subst hret); (have HB9 := Aside0.mk (HB8.out.trans (hb.mono HB8.out.size))); (have HRd := Aside0.mk hrow);  clear hrow hb)
      | (go_at_call 13; (have z_ := HB7.out); clear z_; refine (ENCX.out w7 (Kd.C_below HF5.out.1 HB7.out)).mono ?_; rintro e w8 ⟨rfl, hb⟩; (have HB8 := Aside0.mk (HB7.out.trans (hb.mono HB7.out.size))); clear x0 x1 x2 x3 x4 x5 x6; clear hb)
      | (go_at_call 11; (have z_ := HB6.out); clear z_; refine (CHY.out w6 _ (Kd.C_below HF5.out.2.1 HB6.out)).mono ?_; rintro e w7 ⟨rfl, hb⟩; (have HB7 := Aside0.mk (HB6.out.trans (hb.mono HB6.out.size))); clear y0 y1 y2 y3 y4 y5 y6; (have hx := blk_below HF5.out.2.2.1 HB7.out); (have x0 : w7.cell? ⟨X1, 0, none⟩ = _ := (blk_cell hx 0).trans rfl); (have x1 : w7.cell? ⟨X1, 1, none⟩ = _ := (blk_cell hx 1).trans rfl); (have x2 : w7.cell? ⟨X1, 2, none⟩ = _ := (blk_cell hx 2).trans rfl); (have x3 : w7.cell? ⟨X1, 3, none⟩ = _ := (blk_cell hx 3).trans rfl); (have x4 : w7.cell? ⟨X1, 4, none⟩ = _ := (blk_cell hx 4).trans rfl); (have x5 : w7.cell? ⟨X1, 5, none⟩ = _ := (blk_cell hx 5).trans rfl); (have x6 : w7.cell? ⟨X1, 6, none⟩ = _ := (blk_cell hx 6).trans rfl);  clear hb hx)
      | (go_at_call 11; (have z_ := HB5.out); clear z_; refine (CHX.out w5 HF5.out.1).mono ?_; rintro e w6 ⟨rfl, hb⟩; (have HB6 := Aside0.mk (HB5.out.trans (hb.mono HB5.out.size))); clear x0 x1 x2 x3 x4 x5 x6; (have hy := blk_below HF5.out.2.2.2 HB6.out); (have y0 : w6.cell? ⟨Y1, 0, none⟩ = _ := (blk_cell hy 0).trans rfl); (have y1 : w6.cell? ⟨Y1, 1, none⟩ = _ := (blk_cell hy 1).trans rfl); (have y2 : w6.cell? ⟨Y1, 2, none⟩ = _ := (blk_cell hy 2).trans rfl); (have y3 : w6.cell? ⟨Y1, 3, none⟩ = _ := (blk_cell hy 3).trans rfl); (have y4 : w6.cell? ⟨Y1, 4, none⟩ = _ := (blk_cell hy 4).trans rfl); (have y5 : w6.cell? ⟨Y1, 5, none⟩ = _ := (blk_cell hy 5).trans rfl); (have y6 : w6.cell? ⟨Y1, 6, none⟩ = _ := (blk_cell hy 6).trans rfl);  clear hb hy)
      | ((with_reducible refine gate_store (t := 27) (p := 8) rfl ?_); refine store_event (t := 27) (p := 8) (v := ?vo2_) (w1 := (((((((w4.setCell ⟨Y1, 0, none⟩ (.int .i64 a1)).setCell ⟨Y1, 1, none⟩ (.bool false)).setCell ⟨Y1, 2, none⟩ (.slice none 0 0)).setCell ⟨Y1, 3, none⟩ (.slice none 0 0)).setCell ⟨Y1, 4, none⟩ (.slice (some ⟨w3.heap.size, 0, none⟩) 1 1)).setCell ⟨Y1, 5, none⟩ (.slice none 0 0)).setCell ⟨Y1, 6, none⟩ (.slice none 0 0))) ?hg ?ho ?hn ?hr ?_; (case ho => rfl); (case hg => rfl); (case hn => rfl); (case hr => first | (go_simp; done) | (go_simp; rfl)); intro w5 hw; (have h7 := set7 (base := w3.heap.size + 1) (u0 := .int .i64 a1) (u1 := .bool false) (u2 := .slice none 0 0) (u3 := .slice none 0 0) (u4 := .slice (some ⟨w3.heap.size, 0, none⟩) 1 1) (u5 := .slice none 0 0) (u6 := .slice none 0 0) H4.out.2.1 H4.out.2.2.1); (dsimp only at h7); (rw [← hw] at h7); (have hb35 : Below w3.heap.size w3 w5 := H4.out.1.trans (h7.2.2.mono (Nat.le_succ _))); (have hb5 : Below w.heap.size w w5 := HW1.out.trans ((H3.out.1.trans (hb35.mono H3.out.1.size)).mono HW1.out.size)); (have hC : Kd.C (Kd.int .i64) w5 A0 l.length l := Kd.C_below HR.out hb5); (have hB5 : w5.heap[w3.heap.size]? = some (.cells #[.slice A0 l.length c0] 22 (0, 0)) := (h7.2.2.block _ (Nat.lt_succ_self _)).trans H4.out.2.2.2); (have HF5 : Aside0 (Kd.C (Kd.int .i64) w5 A0 l.length l ∧ Kd.C (Kd.slice 3 (Kd.int .i64)) w5 (some ⟨w3.heap.size, 0, none⟩) 1 [l] ∧ w5.heap[X1]? = some (.cells #[.int .i64 a1, .bool false, .slice A0 l.length c0, .slice none 0 0, .slice none 0 0, .slice none 0 0, .slice none 0 0] 27 (0, 0)) ∧ w5.heap[Y1]? = some (.cells #[.int .i64 a1, .bool false, .slice none 0 0, .slice none 0 0, .slice (some ⟨w3.heap.size, 0, none⟩) 1 1, .slice none 0 0, .slice none 0 0] 27 (0, 0))) := ⟨hC, C_sing (Kd.slice 3 (Kd.int .i64)) (cs := [.slice A0 l.length c0]) hB5 rfl ⟨A0, c0, rfl, HC0.out, hC⟩, blk_below H3.out.2 hb35, h7.1⟩); (have HW5 := Aside0.mk hb5); (have HB5 := Aside0.mk (Below.refl w5.heap.size w5)); (have hx := HF5.out.2.2.1); clear x0 xf0 x1 xf1 x2 xf2 x3 xf3 x4 xf4 x5 xf5 x6 xf6; (have x0 : w5.cell? ⟨X1, 0, none⟩ = _ := (blk_cell hx 0).trans rfl); (have x1 : w5.cell? ⟨X1, 1, none⟩ = _ := (blk_cell hx 1).trans rfl); (have x2 : w5.cell? ⟨X1, 2, none⟩ = _ := (blk_cell hx 2).trans rfl); (have x3 : w5.cell? ⟨X1, 3, none⟩ = _ := (blk_cell hx 3).trans rfl); (have x4 : w5.cell? ⟨X1, 4, none⟩ = _ := (blk_cell hx 4).trans rfl); (have x5 : w5.cell? ⟨X1, 5, none⟩ = _ := (blk_cell hx 5).trans rfl); (have x6 : w5.cell? ⟨X1, 6, none⟩ = _ := (blk_cell hx 6).trans rfl);  clear hw h7 hb35 hb5 hC hB5 hx)
      | ((with_reducible refine gate_dst (N := 8) rfl ?_); (try (refine gate_guard (by rfl) ?_; dsimp only)); refine box_event ?hg (N := 8) ?hd (cs := #[.int .i64 0, .bool false, .slice none 0 0, .slice none 0 0, .slice none 0 0, .slice none 0 0, .slice none 0 0]) (t := 27) ?hr ?_; (case hd => rfl); (case hg => rfl); (case hr => first | (go_simp; done) | (go_simp; rfl)); intro Y1 hg w4 hbox hb; (have hB : (w3.alloc (.cells #[.slice A0 l.length c0] 22 (0, 0))).heap.size = w3.heap.size + 1 := Array.size_push ..); (have H4 : Aside0 (Below w3.heap.size w3 w4 ∧ w4.heap[Y1]? = some (.cells #[.int .i64 0, .bool false, .slice none 0 0, .slice none 0 0, .slice none 0 0, .slice none 0 0, .slice none 0 0] 27 (0, 0)) ∧ w3.heap.size + 1 ≤ Y1 ∧ w4.heap[w3.heap.size]? = some (.cells #[.slice A0 l.length c0] 22 (0, 0))) := ⟨(below_alloc (Below.refl _ _) _).trans (hb.mono (by rw [hB]; omega)), hbox, by rw [hg, hB]; exact Nat.le_refl _, blk_below (blk_new w3 _) hb⟩); (have x0 : w4.cell? ⟨Y1, 0, none⟩ = _ := (blk_cell hbox 0).trans rfl); (have xf0 : w4.frozen? ⟨Y1, 0, none⟩ = false := blk_frozen hbox 0); (have x1 : w4.cell? ⟨Y1, 1, none⟩ = _ := (blk_cell hbox 1).trans rfl); (have xf1 : w4.frozen? ⟨Y1, 1, none⟩ = false := blk_frozen hbox 1); (have x2 : w4.cell? ⟨Y1, 2, none⟩ = _ := (blk_cell hbox 2).trans rfl); (have xf2 : w4.frozen? ⟨Y1, 2, none⟩ = false := blk_frozen hbox 2); (have x3 : w4.cell? ⟨Y1, 3, none⟩ = _ := (blk_cell hbox 3).trans rfl); (have xf3 : w4.frozen? ⟨Y1, 3, none⟩ = false := blk_frozen hbox 3); (have x4 : w4.cell? ⟨Y1, 4, none⟩ = _ := (blk_cell hbox 4).trans rfl); (have xf4 : w4.frozen? ⟨Y1, 4, none⟩ = false := blk_frozen hbox 4); (have x5 : w4.cell? ⟨Y1, 5, none⟩ = _ := (blk_cell hbox 5).trans rfl); (have xf5 : w4.frozen? ⟨Y1, 5, none⟩ = false := blk_frozen hbox 5); (have x6 : w4.cell? ⟨Y1, 6, none⟩ = _ := (blk_cell hbox 6).trans rfl); (have xf6 : w4.frozen? ⟨Y1, 6, none⟩ = false := blk_frozen hbox 6);  clear hB hg hbox hb)
      | ((with_reducible refine gate_store (t := 27) (p := 7) rfl ?_); refine store_event (t := 27) (p := 7) (v := ?vo1_) (w1 := (((((((w2.setCell ⟨X1, 0, none⟩ (.int .i64 a1)).setCell ⟨X1, 1, none⟩ (.bool false)).setCell ⟨X1, 2, none⟩ (.slice A0 l.length c0)).setCell ⟨X1, 3, none⟩ (.slice none 0 0)).setCell ⟨X1, 4, none⟩ (.slice none 0 0)).setCell ⟨X1, 5, none⟩ (.slice none 0 0)).setCell ⟨X1, 6, none⟩ (.slice none 0 0))) ?hg ?ho ?hn ?hr ?_; (case ho => rfl); (case hg => rfl); (case hn => rfl); (case hr => first | (go_simp; done) | (go_simp; rfl)); intro w3 hw; (have h7 := set7 (base := w1.heap.size) (u0 := .int .i64 a1) (u1 := .bool false) (u2 := .slice A0 l.length c0) (u3 := .slice none 0 0) (u4 := .slice none 0 0) (u5 := .slice none 0 0) (u6 := .slice none 0 0) H2.out.2.1 H2.out.2.2); (dsimp only at h7); (rw [← hw] at h7); (have H3 := Aside0.mk (And.intro (H2.out.1.trans h7.2.2) h7.1)); clear x0 xf0 x1 xf1 x2 xf2 x3 xf3 x4 xf4 x5 xf5 x6 xf6; clear hw h7)
      | ((with_reducible refine gate_dst (N := 7) rfl ?_); (try (refine gate_guard (by rfl) ?_; dsimp only)); refine box_event ?hg (N := 7) ?hd (cs := #[.int .i64 0, .bool false, .slice none 0 0, .slice none 0 0, .slice none 0 0, .slice none 0 0, .slice none 0 0]) (t := 27) ?hr ?_; (case hd => rfl); (case hg => rfl); (case hr => first | (go_simp; done) | (go_simp; rfl)); intro X1 hg w2 hbox hb; (have H2 : Aside0 (Below w1.heap.size w1 w2 ∧ w2.heap[X1]? = some (.cells #[.int .i64 0, .bool false, .slice none 0 0, .slice none 0 0, .slice none 0 0, .slice none 0 0, .slice none 0 0] 27 (0, 0)) ∧ w1.heap.size ≤ X1) := ⟨hb, hbox, Nat.le_of_eq hg.symm⟩); (have x0 : w2.cell? ⟨X1, 0, none⟩ = _ := (blk_cell hbox 0).trans rfl); (have xf0 : w2.frozen? ⟨X1, 0, none⟩ = false := blk_frozen hbox 0); (have x1 : w2.cell? ⟨X1, 1, none⟩ = _ := (blk_cell hbox 1).trans rfl); (have xf1 : w2.frozen? ⟨X1, 1, none⟩ = false := blk_frozen hbox 1); (have x2 : w2.cell? ⟨X1, 2, none⟩ = _ := (blk_cell hbox 2).trans rfl); (have xf2 : w2.frozen? ⟨X1, 2, none⟩ = false := blk_frozen hbox 2); (have x3 : w2.cell? ⟨X1, 3, none⟩ = _ := (blk_cell hbox 3).trans rfl); (have xf3 : w2.frozen? ⟨X1, 3, none⟩ = false := blk_frozen hbox 3); (have x4 : w2.cell? ⟨X1, 4, none⟩ = _ := (blk_cell hbox 4).trans rfl); (have xf4 : w2.frozen? ⟨X1, 4, none⟩ = false := blk_frozen hbox 4); (have x5 : w2.cell? ⟨X1, 5, none⟩ = _ := (blk_cell hbox 5).trans rfl); (have xf5 : w2.frozen? ⟨X1, 5, none⟩ = false := blk_frozen hbox 5); (have x6 : w2.cell? ⟨X1, 6, none⟩ = _ := (blk_cell hbox 6).trans rfl); (have xf6 : w2.frozen? ⟨X1, 6, none⟩ = false := blk_frozen hbox 6);  clear hg hbox hb))
     go_ret
     exact ⟨rfl, HW5.out.trans (HB17.out.mono HW5.out.size)⟩
    | false =>
     rw [if_neg (by decide)] at CHX CHY ENCX ENCY
     have HDZ := Aside0.mk dec_nil.1
     have HSZ := Aside0.mk dec_nil.2
     clear hokX hokY hgf
     go_wp2_with (first
      | ((with_reducible refine gate_store (t := 27) (p := 12) rfl ?_); refine store_event (t := 27) (p := 12) (v := ?vo6_) (w1 := (((((((w14.setCell ⟨Z2, 0, none⟩ (.int .i64 zeroV.kd)).setCell ⟨Z2, 1, none⟩ (.bool (zeroV.no == 1))).setCell ⟨Z2, 2, none⟩ (.slice E2 zeroV.S.length ec2)).setCell ⟨Z2, 3, none⟩ (.slice E3 zeroV.U.length ec3)).setCell ⟨Z2, 4, none⟩ (.slice E4 zeroV.Se.length ec4)).setCell ⟨Z2, 5, none⟩ (.slice E5 zeroV.Sp.length ec5)).setCell ⟨Z2, 6, none⟩ (.slice E6 zeroV.Cu.length ec6))) ?hg ?ho ?hn ?hr ?_; (case ho => rfl); (case hg => rfl); (case hn => rfl); (case hr => first | (go_simp; done) | (go_simp; rfl)); intro w15 hw; (have h7 := set7 (base := w13.heap.size) (u0 := .int .i64 zeroV.kd) (u1 := .bool (zeroV.no == 1)) (u2 := .slice E2 zeroV.S.length ec2) (u3 := .slice E3 zeroV.U.length ec3) (u4 := .slice E4 zeroV.Se.length ec4) (u5 := .slice E5 zeroV.Sp.length ec5) (u6 := .slice E6 zeroV.Cu.length ec6) H14.out.2.1 H14.out.2.2); (dsimp only at h7); (rw [← hw] at h7); (have hb15 := H14.out.1.trans h7.2.2); (have HB15 := Aside0.mk (HB13.out.trans (hb15.mono HB13.out.size))); (have HZ15 := Aside0.mk (And.intro (HZ13.out.1.below hb15) (blk_below HZ13.out.2 hb15))); (have HQ15 := Aside0.mk (And.intro ((HRe.out.below H14.out.1).keepX H14.out.2.1 h7.2.1) h7.1)); clear x0 xf0 x1 xf1 x2 xf2 x3 xf3 x4 xf4 x5 xf5 x6 xf6; clear hw h7 hb15)
      | ((with_reducible refine gate_dst (N := 12) rfl ?_); (try (refine gate_guard (by rfl) ?_; dsimp only)); refine box_event ?hg (N := 12) ?hd (cs := #[.int .i64 0, .bool false, .slice none 0 0, .slice none 0 0, .slice none 0 0, .slice none 0 0, .slice none 0 0]) (t := 27) ?hr ?_; (case hd => rfl); (case hg => rfl); (case hr => first | (go_simp; done) | (go_simp; rfl)); intro Z2 hg w14 hbox hb; (have H14 : Aside0 (Below w13.heap.size w13 w14 ∧ w14.heap[Z2]? = some (.cells #[.int .i64 0, .bool false, .slice none 0 0, .slice none 0 0, .slice none 0 0, .slice none 0 0, .slice none 0 0] 27 (0, 0)) ∧ w13.heap.size ≤ Z2) := ⟨hb, hbox, Nat.le_of_eq hg.symm⟩); (have x0 : w14.cell? ⟨Z2, 0, none⟩ = _ := (blk_cell hbox 0).trans rfl); (have xf0 : w14.frozen? ⟨Z2, 0, none⟩ = false := blk_frozen hbox 0); (have x1 : w14.cell? ⟨Z2, 1, none⟩ = _ := (blk_cell hbox 1).trans rfl); (have xf1 : w14.frozen? ⟨Z2, 1, none⟩ = false := blk_frozen hbox 1); (have x2 : w14.cell? ⟨Z2, 2, none⟩ = _ := (blk_cell hbox 2).trans rfl); (have xf2 : w14.frozen? ⟨Z2, 2, none⟩ = false := blk_frozen hbox 2); (have x3 : w14.cell? ⟨Z2, 3, none⟩ = _ := (blk_cell hbox 3).trans rfl); (have xf3 : w14.frozen? ⟨Z2, 3, none⟩ = false := blk_frozen hbox 3); (have x4 : w14.cell? ⟨Z2, 4, none⟩ = _ := (blk_cell hbox 4).trans rfl); (have xf4 : w14.frozen? ⟨Z2, 4, none⟩ = false := blk_frozen hbox 4); (have x5 : w14.cell? ⟨Z2, 5, none⟩ = _ := (blk_cell hbox 5).trans rfl); (have xf5 : w14.frozen? ⟨Z2, 5, none⟩ = false := blk_frozen hbox 5); (have x6 : w14.cell? ⟨Z2, 6, none⟩ = _ := (blk_cell hbox 6).trans rfl); (have xf6 : w14.frozen? ⟨Z2, 6, none⟩ = false := blk_frozen hbox 6);  clear hg hbox hb)
      | (go_at_call 9; (have z_ := HB12.out); clear z_; refine (decode_v _ (zeroV, 10, 0) HDZ.out (HE.out.below (HW5.out.trans (HB12.out.mono HW5.out.size)) HE.out.pos) HSZ.out).mono ?_; rintro e w13 ⟨vS, vU, vSe, vSp, vCu, hret, hrow, hb⟩; (obtain ⟨E2, ec2, E3, ec3, E4, ec4, E5, ec5, E6, ec6, rfl, rfl, rfl, rfl, rfl⟩ := hrow.slices); (subst hret); (have HB13 := Aside0.mk (HB12.out.trans (hb.mono HB12.out.size))); (have HRe := Aside0.mk hrow); (have HZ13 := Aside0.mk (And.intro (HZ12.out.1.below hb) (blk_below HZ12.out.2 hb))); clear hrow hb)
      | (go_at_call 13; (have z_ := HB11.out); clear z_; refine (ENCY.out w11 _ (Kd.C_below HF5.out.2.1 HB11.out)).mono ?_; rintro e w12 ⟨rfl, hb⟩; (have HB12 := Aside0.mk (HB11.out.trans (hb.mono HB11.out.size))); (have HZ12 := Aside0.mk (And.intro (HZ11.out.1.below hb) (blk_below HZ11.out.2 hb))); clear y0 y1 y2 y3 y4 y5 y6; clear hb)
      | ((with_reducible refine gate_store (t := 27) (p := 9) rfl ?_); refine store_event (t := 27) (p := 9) (v := ?vo5_) (w1 := (((((((w10.setCell ⟨Z1, 0, none⟩ (.int .i64 zeroV.kd)).setCell ⟨Z1, 1, none⟩ (.bool (zeroV.no == 1))).setCell ⟨Z1, 2, none⟩ (.slice D2 zeroV.S.length dc2)).setCell ⟨Z1, 3, none⟩ (.slice D3 zeroV.U.length dc3)).setCell ⟨Z1, 4, none⟩ (.slice D4 zeroV.Se.length dc4)).setCell ⟨Z1, 5, none⟩ (.slice D5 zeroV.Sp.length dc5)).setCell ⟨Z1, 6, none⟩ (.slice D6 zeroV.Cu.length dc6))) ?hg ?ho ?hn ?hr ?_; (case ho => rfl); (case hg => rfl); (case hn => rfl); (case hr => first | (go_simp; done) | (go_simp; rfl)); intro w11 hw; (have h7 := set7 (base := w9.heap.size) (u0 := .int .i64 zeroV.kd) (u1 := .bool (zeroV.no == 1)) (u2 := .slice D2 zeroV.S.length dc2) (u3 := .slice D3 zeroV.U.length dc3) (u4 := .slice D4 zeroV.Se.length dc4) (u5 := .slice D5 zeroV.Sp.length dc5) (u6 := .slice D6 zeroV.Cu.length dc6) H10.out.2.1 H10.out.2.2); (dsimp only at h7); (rw [← hw] at h7); (have HB11 := Aside0.mk (HB9.out.trans ((H10.out.1.trans h7.2.2).mono HB9.out.size))); (have HZ11 := Aside0.mk (And.intro ((HRd.out.below H10.out.1).keepX H10.out.2.1 h7.2.1) h7.1)); clear x0 xf0 x1 xf1 x2 xf2 x3 xf3 x4 xf4 x5 xf5 x6 xf6; (have hy := blk_below HF5.out.2.2.2 HB11.out); (have y0 : w11.cell? ⟨Y1, 0, none⟩ = _ := (blk_cell hy 0).trans rfl); (have y1 : w11.cell? ⟨Y1, 1, none⟩ = _ := (blk_cell hy 1).trans rfl); (have y2 : w11.cell? ⟨Y1, 2, none⟩ = _ := (blk_cell hy 2).trans rfl); (have y3 : w11.cell? ⟨Y1, 3, none⟩ = _ := (blk_cell hy 3).trans rfl); (have y4 : w11.cell? ⟨Y1, 4, none⟩ = _ := (blk_cell hy 4).trans rfl); (have y5 : w11.cell? ⟨Y1, 5, none⟩ = _ := (blk_cell hy 5).trans rfl); (have y6 : w11.cell? ⟨Y1, 6, none⟩ = _ := (blk_cell hy 6).trans rfl);  clear hw h7 hy)
      | ((with_reducible refine gate_dst (N := 9) rfl ?_); (try (refine gate_guard (by rfl) ?_; dsimp only)); refine box_event ?hg (N := 9) ?hd (cs := #[.int .i64 0, .bool false, .slice none 0 0, .slice none 0 0, .slice none 0 0, .slice none 0 0, .slice none 0 0]) (t := 27) ?hr ?_; (case hd => rfl); (case hg => rfl); (case hr => first | (go_simp; done) | (go_simp; rfl)); intro Z1 hg w10 hbox hb; (have H10 : Aside0 (Below w9.heap.size w9 w10 ∧ w10.heap[Z1]? = some (.cells #[.int .i64 0, .bool false, .slice none 0 0, .slice none 0 0, .slice none 0 0, .slice none 0 0, .slice none 0 0] 27 (0, 0)) ∧ w9.heap.size ≤ Z1) := ⟨hb, hbox, Nat.le_of_eq hg.symm⟩); (have HB10 := Aside0.mk (HB9.out.trans (hb.mono HB9.out.size))); (have x0 : w10.cell? ⟨Z1, 0, none⟩ = _ := (blk_cell hbox 0).trans rfl); (have xf0 : w10.frozen? ⟨Z1, 0, none⟩ = false := blk_frozen hbox 0); (have x1 : w10.cell? ⟨Z1, 1, none⟩ = _ := (blk_cell hbox 1).trans rfl); (have xf1 : w10.frozen? ⟨Z1, 1, none⟩ = false := blk_frozen hbox 1); (have x2 : w10.cell? ⟨Z1, 2, none⟩ = _ := (blk_cell hbox 2).trans rfl); (have xf2 : w10.frozen? ⟨Z1, 2, none⟩ = false := blk_frozen hbox 2); (have x3 : w10.cell? ⟨Z1, 3, none⟩ = _ := (blk_cell hbox 3).trans rfl); (have xf3 : w10.frozen? ⟨Z1, 3, none⟩ = false := blk_frozen hbox 3); (have x4 : w10.cell? ⟨Z1, 4, none⟩ = _ := (blk_cell hbox 4).trans rfl); (have xf4 : w10.frozen? ⟨Z1, 4, none⟩ = false := blk_frozen hbox 4); (have x5 : w10.cell? ⟨Z1, 5, none⟩ = _ := (blk_cell hbox 5).trans rfl); (have xf5 : w10.frozen? ⟨Z1, 5, none⟩ = false := blk_frozen hbox 5); (have x6 : w10.cell? ⟨Z1, 6, none⟩ = _ := (blk_cell hbox 6).trans rfl); (have xf6 : w10.frozen? ⟨Z1, 6, none⟩ = false := blk_frozen hbox 6);  clear hg hbox hb)
      | (go_at_call 9; (have z_ := HB8.out); clear z_; refine (decode_v _ (zeroV, 10, 0) HDZ.out (HE.out.below (HW5.out.trans (HB8.out.mono HW5.out.size)) HE.out.pos) HSZ.out).mono ?_; rintro e w9 ⟨vS, vU, vSe, vSp, vCu, hret, hrow, hb⟩; (obtain ⟨D2, dc2, D3, dc3, D4, dc4, D5, dc5, D6, dc6, rfl, rfl, rfl, rfl, rfl⟩ := hrow.slices); (subst hret); (have HB9 := Aside0.mk (HB8.out.trans (hb.mono HB8.out.size))); (have HRd := Aside0.mk hrow);  clear hrow hb)
      | (go_at_call 13; (have z_ := HB7.out); clear z_; refine (ENCX.out w7 (Kd.C_below HF5.out.1 HB7.out)).mono ?_; rintro e w8 ⟨rfl, hb⟩; (have HB8 := Aside0.mk (HB7.out.trans (hb.mono HB7.out.size))); clear x0 x1 x2 x3 x4 x5 x6; clear hb)
      | (go_at_call 11; (have z_ := HB6.out); clear z_; refine (CHY.out w6 _ (Kd.C_below HF5.out.2.1 HB6.out)).mono ?_; rintro e w7 ⟨rfl, hb⟩; (have HB7 := Aside0.mk (HB6.out.trans (hb.mono HB6.out.size))); clear y0 y1 y2 y3 y4 y5 y6; (have hx := blk_below HF5.out.2.2.1 HB7.out); (have x0 : w7.cell? ⟨X1, 0, none⟩ = _ := (blk_cell hx 0).trans rfl); (have x1 : w7.cell? ⟨X1, 1, none⟩ = _ := (blk_cell hx 1).trans rfl); (have x2 : w7.cell? ⟨X1, 2, none⟩ = _ := (blk_cell hx 2).trans rfl); (have x3 : w7.cell? ⟨X1, 3, none⟩ = _ := (blk_cell hx 3).trans rfl); (have x4 : w7.cell? ⟨X1, 4, none⟩ = _ := (blk_cell hx 4).trans rfl); (have x5 : w7.cell? ⟨X1, 5, none⟩ = _ := (blk_cell hx 5).trans rfl); (have x6 : w7.cell? ⟨X1, 6, none⟩ = _ := (blk_cell hx 6).trans rfl);  clear hb hx)
      | (go_at_call 11; (have z_ := HB5.out); clear z_; refine (CHX.out w5 HF5.out.1).mono ?_; rintro e w6 ⟨rfl, hb⟩; (have HB6 := Aside0.mk (HB5.out.trans (hb.mono HB5.out.size))); clear x0 x1 x2 x3 x4 x5 x6; (have hy := blk_below HF5.out.2.2.2 HB6.out); (have y0 : w6.cell? ⟨Y1, 0, none⟩ = _ := (blk_cell hy 0).trans rfl); (have y1 : w6.cell? ⟨Y1, 1, none⟩ = _ := (blk_cell hy 1).trans rfl); (have y2 : w6.cell? ⟨Y1, 2, none⟩ = _ := (blk_cell hy 2).trans rfl); (have y3 : w6.cell? ⟨Y1, 3, none⟩ = _ := (blk_cell hy 3).trans rfl); (have y4 : w6.cell? ⟨Y1, 4, none⟩ = _ := (blk_cell hy 4).trans rfl); (have y5 : w6.cell? ⟨Y1, 5, none⟩ = _ := (blk_cell hy 5).trans rfl); (have y6 : w6.cell? ⟨Y1, 6, none⟩ = _ := (blk_cell hy 6).trans rfl);  clear hb hy)
      | ((with_reducible refine gate_store (t := 27) (p := 8) rfl ?_); refine store_event (t := 27) (p := 8) (v := ?vo2_) (w1 := (((((((w4.setCell ⟨Y1, 0, none⟩ (.int .i64 a1)).setCell ⟨Y1, 1, none⟩ (.bool false)).setCell ⟨Y1, 2, none⟩ (.slice none 0 0)).setCell ⟨Y1, 3, none⟩ (.slice none 0 0)).setCell ⟨Y1, 4, none⟩ (.slice (some ⟨w3.heap.size, 0, none⟩) 1 1)).setCell ⟨Y1, 5, none⟩ (.slice none 0 0)).setCell ⟨Y1, 6, none⟩ (.slice none 0 0))) ?hg ?ho ?hn ?hr ?_; (case ho => rfl); (case hg => rfl); (case hn => rfl); (case hr => first | (go_simp; done) | (go_simp; rfl)); intro w5 hw; (have h7 := set7 (base := w3.heap.size + 1) (u0 := .int .i64 a1) (u1 := .bool false) (u2 := .slice none 0 0) (u3 := .slice none 0 0) (u4 := .slice (some ⟨w3.heap.size, 0, none⟩) 1 1) (u5 := .slice none 0 0) (u6 := .slice none 0 0) H4.out.2.1 H4.out.2.2.1); (dsimp only at h7); (rw [← hw] at h7); (have hb35 : Below w3.heap.size w3 w5 := H4.out.1.trans (h7.2.2.mono (Nat.le_succ _))); (have hb5 : Below w.heap.size w w5 := HW1.out.trans ((H3.out.1.trans (hb35.mono H3.out.1.size)).mono HW1.out.size)); (have hC : Kd.C (Kd.int .i64) w5 A0 l.length l := Kd.C_below HR.out hb5); (have hB5 : w5.heap[w3.heap.size]? = some (.cells #[.slice A0 l.length c0] 22 (0, 0)) := (h7.2.2.block _ (Nat.lt_succ_self _)).trans H4.out.2.2.2); (have HF5 : Aside0 (Kd.C (Kd.int .i64) w5 A0 l.length l ∧ Kd.C (Kd.slice 3 (Kd.int .i64)) w5 (some ⟨w3.heap.size, 0, none⟩) 1 [l] ∧ w5.heap[X1]? = some (.cells #[.int .i64 a1, .bool false, .slice A0 l.length c0, .slice none 0 0, .slice none 0 0, .slice none 0 0, .slice none 0 0] 27 (0, 0)) ∧ w5.heap[Y1]? = some (.cells #[.int .i64 a1, .bool false, .slice none 0 0, .slice none 0 0, .slice (some ⟨w3.heap.size, 0, none⟩) 1 1, .slice none 0 0, .slice none 0 0] 27 (0, 0))) := ⟨hC, C_sing (Kd.slice 3 (Kd.int .i64)) (cs := [.slice A0 l.length c0]) hB5 rfl ⟨A0, c0, rfl, HC0.out, hC⟩, blk_below H3.out.2 hb35, h7.1⟩); (have HW5 := Aside0.mk hb5); (have HB5 := Aside0.mk (Below.refl w5.heap.size w5)); (have hx := HF5.out.2.2.1); clear x0 xf0 x1 xf1 x2 xf2 x3 xf3 x4 xf4 x5 xf5 x6 xf6; (have x0 : w5.cell? ⟨X1, 0, none⟩ = _ := (blk_cell hx 0).trans rfl); (have x1 : w5.cell? ⟨X1, 1, none⟩ = _ := (blk_cell hx 1).trans rfl); (have x2 : w5.cell? ⟨X1, 2, none⟩ = _ := (blk_cell hx 2).trans rfl); (have x3 : w5.cell? ⟨X1, 3, none⟩ = _ := (blk_cell hx 3).trans rfl); (have x4 : w5.cell? ⟨X1, 4, none⟩ = _ := (blk_cell hx 4).trans rfl); (have x5 : w5.cell? ⟨X1, 5, none⟩ = _ := (blk_cell hx 5).trans rfl); (have x6 : w5.cell? ⟨X1, 6, none⟩ = _ := (blk_cell hx 6).trans rfl);  clear hw h7 hb35 hb5 hC hB5 hx)
      | ((with_reducible refine gate_dst (N := 8) rfl ?_); (try (refine gate_guard (by rfl) ?_; dsimp only)); refine box_event ?hg (N := 8) ?hd (cs := #[.int .i64 0, .bool false, .slice none 0 0, .slice none 0 0, .slice none 0 0, .slice none 0 0, .slice none 0 0]) (t := 27) ?hr ?_; (case hd => rfl); (case hg => rfl); (case hr => first | (go_simp; done) | (go_simp; rfl)); intro Y1 hg w4 hbox hb; (have hB : (w3.alloc (.cells #[.slice A0 l.length c0] 22 (0, 0))).heap.size = w3.heap.size + 1 := Array.size_push ..); (have H4 : Aside0 (Below w3.heap.size w3 w4 ∧ w4.heap[Y1]? = some (.cells #[.int .i64 0, .bool false, .slice none 0 0, .slice none 0 0, .slice none 0 0, .slice none 0 0, .slice none 0 0] 27 (0, 0)) ∧ w3.heap.size + 1 ≤ Y1 ∧ w4.heap[w3.heap.size]? = some (.cells #[.slice A0 l.length c0] 22 (0, 0))) := ⟨(below_alloc (Below.refl _ _) _).trans (hb.mono (by rw [hB]; omega)), hbox, by rw [hg, hB]; exact Nat.le_refl _, blk_below (blk_new w3 _) hb⟩); (have x0 : w4.cell? ⟨Y1, 0, none⟩ = _ := (blk_cell hbox 0).trans rfl); (have xf0 : w4.frozen? ⟨Y1, 0, none⟩ = false := blk_frozen hbox 0); (have x1 : w4.cell? ⟨Y1, 1, none⟩ = _ := (blk_cell hbox 1).trans rfl); (have xf1 : w4.frozen? ⟨Y1, 1, none⟩ = false := blk_frozen hbox 1); (have x2 : w4.cell? ⟨Y1, 2, none⟩ = _ := (blk_cell hbox 2).trans rfl); (have xf2 : w4.frozen? ⟨Y1, 2, none⟩ = false := blk_frozen hbox 2); (have x3 : w4.cell? ⟨Y1, 3, none⟩ = _ := (blk_cell hbox 3).trans rfl); (have xf3 : w4.frozen? ⟨Y1, 3, none⟩ = false := blk_frozen hbox 3); (have x4 : w4.cell? ⟨Y1, 4, none⟩ = _ := (blk_cell hbox 4).trans rfl); (have xf4 : w4.frozen? ⟨Y1, 4, none⟩ = false := blk_frozen hbox 4); (have x5 : w4.cell? ⟨Y1, 5, none⟩ = _ := (blk_cell hbox 5).trans rfl); (have xf5 : w4.frozen? ⟨Y1, 5, none⟩ = false := blk_frozen hbox 5); (have x6 : w4.cell? ⟨Y1, 6, none⟩ = _ := (blk_cell hbox 6).trans rfl); (have xf6 : w4.frozen? ⟨Y1, 6, none⟩ = false := blk_frozen hbox 6);  clear hB hg hbox hb)
      | ((with_reducible refine gate_store (t := 27) (p := 7) rfl ?_); refine store_event (t := 27) (p := 7) (v := ?vo1_) (w1 := (((((((w2.setCell ⟨X1, 0, none⟩ (.int .i64 a1)).setCell ⟨X1, 1, none⟩ (.bool false)).setCell ⟨X1, 2, none⟩ (.slice A0 l.length c0)).setCell ⟨X1, 3, none⟩ (.slice none 0 0)).setCell ⟨X1, 4, none⟩ (.slice none 0 0)).setCell ⟨X1, 5, none⟩ (.slice none 0 0)).setCell ⟨X1, 6, none⟩ (.slice none 0 0))) ?hg ?ho ?hn ?hr ?_; (case ho => rfl); (case hg => rfl); (case hn => rfl); (case hr => first | (go_simp; done) | (go_simp; rfl)); intro w3 hw; (have h7 := set7 (base := w1.heap.size) (u0 := .int .i64 a1) (u1 := .bool false) (u2 := .slice A0 l.length c0) (u3 := .slice none 0 0) (u4 := .slice none 0 0) (u5 := .slice none 0 0) (u6 := .slice none 0 0) H2.out.2.1 H2.out.2.2); (dsimp only at h7); (rw [← hw] at h7); (have H3 := Aside0.mk (And.intro (H2.out.1.trans h7.2.2) h7.1)); clear x0 xf0 x1 xf1 x2 xf2 x3 xf3 x4 xf4 x5 xf5 x6 xf6; clear hw h7)
      | ((with_reducible refine gate_dst (N := 7) rfl ?_); (try (refine gate_guard (by rfl) ?_; dsimp only)); refine box_event ?hg (N := 7) ?hd (cs := #[.int .i64 0, .bool false, .slice none 0 0, .slice none 0 0, .slice none 0 0, .slice none 0 0, .slice none 0 0]) (t := 27) ?hr ?_; (case hd => rfl); (case hg => rfl); (case hr => first | (go_simp; done) | (go_simp; rfl)); intro X1 hg w2 hbox hb; (have H2 : Aside0 (Below w1.heap.size w1 w2 ∧ w2.heap[X1]? = some (.cells #[.int .i64 0, .bool false, .slice none 0 0, .slice none 0 0, .slice none 0 0, .slice none 0 0, .slice none 0 0] 27 (0, 0)) ∧ w1.heap.size ≤ X1) := ⟨hb, hbox, Nat.le_of_eq hg.symm⟩); (have x0 : w2.cell? ⟨X1, 0, none⟩ = _ := (blk_cell hbox 0).trans rfl); (have xf0 : w2.frozen? ⟨X1, 0, none⟩ = false := blk_frozen hbox 0); (have x1 : w2.cell? ⟨X1, 1, none⟩ = _ := (blk_cell hbox 1).trans rfl); (have xf1 : w2.frozen? ⟨X1, 1, none⟩ = false := blk_frozen hbox 1); (have x2 : w2.cell? ⟨X1, 2, none⟩ = _ := (blk_cell hbox 2).trans rfl); (have xf2 : w2.frozen? ⟨X1, 2, none⟩ = false := blk_frozen hbox 2); (have x3 : w2.cell? ⟨X1, 3, none⟩ = _ := (blk_cell hbox 3).trans rfl); (have xf3 : w2.frozen? ⟨X1, 3, none⟩ = false := blk_frozen hbox 3); (have x4 : w2.cell? ⟨X1, 4, none⟩ = _ := (blk_cell hbox 4).trans rfl); (have xf4 : w2.frozen? ⟨X1, 4, none⟩ = false := blk_frozen hbox 4); (have x5 : w2.cell? ⟨X1, 5, none⟩ = _ := (blk_cell hbox 5).trans rfl); (have xf5 : w2.frozen? ⟨X1, 5, none⟩ = false := blk_frozen hbox 5); (have x6 : w2.cell? ⟨X1, 6, none⟩ = _ := (blk_cell hbox 6).trans rfl); (have xf6 : w2.frozen? ⟨X1, 6, none⟩ = false := blk_frozen hbox 6);  clear hg hbox hb))
     go_ret
     exact ⟨rfl, HW5.out.trans (HB15.out.mono HW5.out.size)⟩
set_option maxHeartbeats 4000000 in
set_option maxRecDepth 100000 in
theorem numbers_long {w : World} {A0 : Option Addr} {c0 : Nat} (l : List Int) (a1 : Int) (hE : EV w) (h100 : ¬ l.length ≤ 100) :
 Calls Tryd.prog 6 #[.slice A0 l.length c0, .int .i64 a1] w fun e w' => e = .returned (.bool true) ∧ Below w.heap.size w w' := by
 have HE := Aside0.mk hE
 have y100 : decide ((100 : Int) < (l.length : Int)) = true := decide_eq_true (by omega)
 clear hE h100
 go_enter Tryd.func6, Tryd.ntmps6
 go_wp2_with (first
  | (go_at_call 8; (have z_ := HW1.out); clear z_; refine (fixed_c (HE.out.below HW1.out HE.out.pos)).mono ?_; rintro e w2 ⟨rfl, hb⟩; (have HW2 := Aside0.mk (HW1.out.trans (hb.mono HW1.out.size))); clear hb)
  | (go_at_call 8; refine (fixed_c HE.out).mono ?_; rintro e w1 ⟨rfl, hb⟩; (have HW1 := Aside0.mk hb); clear hb))
 go_ret
 exact ⟨rfl, HW2.out⟩
theorem greenwoodlaw23_AnswerNumbers.callsT (A0 : Option Addr) (c0 : Nat) (l0 : List Int) (a1 : Int) (r : Bool) (w : World) (hE : EV w) (hr0 : Kd.C (Kd.int .i64) w A0 l0.length l0) (hc0 : l0.length ≤ c0) (hrT : r = true) (h : (some true : Option Bool) = some r) :
 Calls Tryd.prog 6 #[.slice A0 l0.length c0, .int .i64 a1] w fun e w' => e = .returned (.bool r) ∧ Below w.heap.size w w' := by
 subst hrT
 by_cases h100 : l0.length ≤ 100
 ·exact numbers_main l0 a1 hr0 hc0 hE h100
 ·exact numbers_long l0 a1 hE h100
theorem AnswerNumbers_ev (l : List Int) (a : Int) : (some true : Option Bool) = some true := rfl
end Go.Proofs.YtlekdhejgdfnpaaDoor.P
/- What a tied row's premise gives a walk: the one variable of the library's, laid; a world that meets it. (Turned from a worked proof of the kit.) -/
namespace Go.Proofs.YtlekdhejgdfnpaaDoor.P
open Go.ChangeShapes Go.WideShapes Go.RowKit
set_option linter.unusedVariables false
set_option linter.unusedSimpArgs false

theorem td_et : Tryd.prog.globalNamed "errors.errorType" = some 0 := by kernel_rfl
theorem td_rt : (Tryd.prog.cutTypes.find? (·.1 == "internal/reflectlite.rtype")).map (·.2) = some 116 := by kernel_rfl
theorem td_oneRow : ((List.range 158).filter fun t => Tryd.prog.rowNamed t [101, 114, 114, 111, 114]) = [66] := by kernel_rfl
theorem td_size : Tryd.prog.types.size = 158 := by kernel_rfl
def laidE {H : Type} : List (String × DataW H) := [("errors.errorType", Rows.laid_errors_errorType)]
theorem ev_of_laid {W : World} (h : laidMetH Tryd.prog laidE W) : EV W := by
 have h' : laidMet Tryd.prog [] W ∧ handlesMet Tryd.prog laidE W := h
 obtain ⟨name, u, ty, e1, e2, e3, e4, e5⟩ := h'.2 _ (List.mem_singleton.2 rfl)
 have en : name = [101, 114, 114, 111, 114] := (Option.some.inj e1).symm
 subst en
 obtain rfl := Option.some.inj (td_rt.symm.trans e2)
 have hm : ty ∈ (List.range 158).filter fun t => Tryd.prog.rowNamed t [101, 114, 114, 111, 114] := List.mem_filter.2 ⟨List.mem_range.2 (by rw [← td_size]; exact e3), e4⟩
 rw [td_oneRow] at hm
 obtain rfl := List.mem_singleton.1 hm
 have hh : typeHandle Tryd.prog 66 = .pointer (some ⟨1, 66, none⟩) := by kernel_rfl
 rw [hh] at e5
 have := World.var?_cell td_et e5 0
 unfold EV
 simpa using this
noncomputable def laidWorld (os : Os) : World :=
 let w0 := World.holding Tryd.prog os ⟨#[], #[], []⟩
 { w0 with heap := w0.heap.modify 0 fun
  | .cells _ t frozen => .cells #[.iface 116 (.agg #[.pointer (some ⟨1, 66, none⟩)])] t frozen
  | o => o }
theorem laidWorld_met (os : Os) (args : Array Value) : laidMetH Tryd.prog laidE ((laidWorld os).forCall (fun _ _ => 0) ⟨#[], args, []⟩).memory :=
 laidMetH_of_parts (laidMet_nil _ _) (by kernel_rfl)
end Go.Proofs.YtlekdhejgdfnpaaDoor.P
