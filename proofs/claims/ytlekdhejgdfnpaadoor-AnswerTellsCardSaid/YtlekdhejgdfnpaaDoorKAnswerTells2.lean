/- Texts of this claim's own repository, merged by wip/tool/pack.py: Px9, Px10, Px11A, WireRa, WireRb, AnsQ, WireF, WireG, EvCell, WireH, WireEb, AnsJ, AnsK, Shelf, WireJb, AnsB, AnsC, Opn, AnsD, AnsL. -/
import Derived.LaidEql
import Derived.Stop.Asserts
import Derived.RowKitTokens
import Derived.Shelf.Strings.Builder1
import Derived.Shelf.Strings.BuilderF
import Derived.Shelf.Strings.BuilderK
import Derived.Shelf.Strings.BuilderCap
import Derived.Test.YtlekdhejgdfnpaaDoorProg
import Derived.Deep.Slices
import Derived.ChangeArms
import Derived.ProofKit
import Derived.Test.YtlekdhejgdfnpaaDoorKAnswerTells1
set_option linter.unusedVariables false
set_option linter.unusedSimpArgs false
namespace Go.Proofs.YtlekdhejgdfnpaaDoor.P
open Go.RowKit Go.Proofs.YtlekdhejgdfnpaaDoorW.PrintWords Go.Proofs.YtlekdhejgdfnpaaDoorW.PrintLast Go.Proofs.YtlekdhejgdfnpaaDoorW.PrintMore
attribute [local go_sem] max2_int min2_int max_two min_two max_three min_three max_four min_four   -- for this text's walks alone

/-! ### greenwoodref23_Cuts: function 41 -/
def greenwoodref23_Cuts.l0 : Nat → List (S43) → List (S43) → Int → Option (Bool)
 | 0, _, _, _ => none
 | k + 1, x0, x1, x5 => if x5 < (x0.length : Int) then (if 0 ≤ x5 then (if x5 < (x1.length : Int) then (if ((rd_T43 x0 x5).f1) = ((rd_T43 x1 x5).f1) then ((greenwoodref01_Same.f k ((rd_T43 x0 x5).f0) ((rd_T43 x1 x5).f0)).bind fun t218 => (if t218 = true then (greenwoodref23_Cuts.l0 k x0 x1 (wrap64 (x5 + 1))) else (some false))) else (some false)) else (none)) else (none)) else (some true)
def greenwoodref23_Cuts.f (k : Nat) (l0 : List (S43)) (l1 : List (S43)) : Option (Bool) := if (l0.length : Int) = (l1.length : Int) then (greenwoodref23_Cuts.l0 k l0 l1 0) else (some false)
set_option maxHeartbeats 8000000 in
set_option maxRecDepth 100000 in
theorem greenwoodref23_Cuts.calls (k : Nat) (A0 : Option Addr) (c0 : Nat) (l0 : List (S43)) (A1 : Option Addr) (c1 : Nat) (l1 : List (S43)) (r : Bool) (w : World) (hr0 : Kd.C k43 w A0 l0.length l0) (hc0 : l0.length ≤ c0) (hr1 : Kd.C k43 w A1 l1.length l1) (hc1 : l1.length ≤ c1) (h : greenwoodref23_Cuts.f k l0 l1 = some r) :
 Calls Tryd.prog 41 #[.slice A0 l0.length c0, .slice A1 l1.length c1] w fun e w' => e = .returned (.bool r) ∧ Drawn0 w w' := by
 have HR0 := Aside0.mk hr0
 have HC0 := Aside0.mk hc0
 clear hr0 hc0
 have HR1 := Aside0.mk hr1
 have HC1 := Aside0.mk hc1
 clear hr1 hc1
 have H : (if (l0.length : Int) = (l1.length : Int) then (greenwoodref23_Cuts.l0 k l0 l1 0) else (some false)) = some r := h
 clear h
 by_cases c3 : (l0.length : Int) = (l1.length : Int)
 ·rw [if_pos c3] at H
  have c3b0 : ((l0.length : Int) == (l1.length : Int)) = true := beq_iff_eq.mpr c3
  have c3b1 : ((l0.length : Int) != (l1.length : Int)) = false := bne_eq_false_iff_eq.mpr c3
  have c3b2 : (l0.length == l1.length) = true := by first | simpa using c3 | (simp at c3 ⊢; omega)
  clear c3
  have H' := Aside0.mk H
  clear H
  go_enter Tryd.func41, Tryd.ntmps41
  go_wp2
  repeat (go_quiet (fail); try go_wp2)
  go_loopg [5] k (fun kq v5 w' => ∃ (x5_1 : Int), v5 = .int .i64 x5_1 ∧ Aside0 (greenwoodref23_Cuts.l0 kq l0 l1 x5_1 = some r) ∧ Aside0 (kq ≤ k) ∧ Drawn0 w w')
  case atStart => exact ⟨(0), (by first | rfl | (simp; done) | (simp [*]; done)), H', ⟨Nat.le_refl _⟩, by repeat (first | exact Drawn0.refl _ | apply Drawn0.step)⟩
  case round =>
   clear H'
   try clear c1
   try clear p2
   try clear c3
   try clear c3b0
   try clear c3b1
   try clear c3b2
   obtain ⟨x5_1, rfl, HA, HK1, ⟨m1, rfl⟩⟩ := hrel
   cases gk with
   | zero => exact absurd HA.out (by simp [greenwoodref23_Cuts.l0])
   | succ k1 =>
    have H := HA.out
    clear HA
    simp only [greenwoodref23_Cuts.l0] at H
    by_cases c4 : x5_1 < (l0.length : Int)
    ·rw [if_pos c4] at H
     have c4b0 : decide (x5_1 < (l0.length : Int)) = true := decide_eq_true c4
     clear c4
     by_cases c5 : 0 ≤ x5_1
     ·rw [if_pos c5] at H
      have c5b0 : decide (0 ≤ x5_1) = true := decide_eq_true c5
      clear c5
      by_cases c6 : x5_1 < (l1.length : Int)
      ·rw [if_pos c6] at H
       have c6b0 : decide (x5_1 < (l1.length : Int)) = true := decide_eq_true c6
       clear c6
       by_cases c7 : ((rd_T43 l0 x5_1).f1) = ((rd_T43 l1 x5_1).f1)
       ·rw [if_pos c7] at H
        have c7b0 : (((rd_T43 l0 x5_1).f1) == ((rd_T43 l1 x5_1).f1)) = true := beq_iff_eq.mpr c7
        have c7b1 : (((rd_T43 l0 x5_1).f1) != ((rd_T43 l1 x5_1).f1)) = false := bne_eq_false_iff_eq.mpr c7
        clear c7
        replace H := Option.bind_eq_some_iff.mp H
        obtain ⟨t218, A80, H⟩ := H
        replace H : (if t218 = true then (greenwoodref23_Cuts.l0 k1 l0 l1 (wrap64 (x5_1 + 1))) else (some false)) = some r := H
        have A8 := Aside0.mk A80
        clear A80
        by_cases c9 : t218 = true
        ·subst c9
         have H1 : (greenwoodref23_Cuts.l0 k1 l0 l1 (wrap64 (x5_1 + 1))) = some r := by rw [if_pos rfl] at H; exact H
         clear H
         have H := H1
         clear H1
         have H' := Aside0.mk H
         clear H
         have p214 : 0 ≤ (x5_1 : Int) := of_decide_eq_true (by first | (with_reducible assumption) | assumption)
         have q214 : x5_1 < (l0.length : Int) := of_decide_eq_true (by first | (with_reducible assumption) | assumption)
         obtain ⟨ad214, A214_0, c214_0, e214, hx214_0, hx214_1, hl214_0, hi214_0⟩ := at_T43 HR0.out x5_1 p214 q214
         cases e214
         have HR214_0 := Aside0.mk hi214_0
         have HC214_0 := Aside0.mk hl214_0
         clear hi214_0 hl214_0
         replace p214 := eq_true p214
         replace q214 := eq_true q214
         have p215 : 0 ≤ (x5_1 : Int) := of_decide_eq_true (by first | (with_reducible assumption) | assumption)
         have q215 : x5_1 < (l1.length : Int) := of_decide_eq_true (by first | (with_reducible assumption) | assumption)
         obtain ⟨ad215, A215_0, c215_0, e215, hx215_0, hx215_1, hl215_0, hi215_0⟩ := at_T43 HR1.out x5_1 p215 q215
         cases e215
         have HR215_0 := Aside0.mk hi215_0
         have HC215_0 := Aside0.mk hl215_0
         clear hi215_0 hl215_0
         replace p215 := eq_true p215
         replace q215 := eq_true q215
         have p216 : 0 ≤ (x5_1 : Int) := of_decide_eq_true (by first | (with_reducible assumption) | assumption)
         have q216 : x5_1 < (l0.length : Int) := of_decide_eq_true (by first | (with_reducible assumption) | assumption)
         obtain ⟨ad216, A216_0, c216_0, e216, hx216_0, hx216_1, hl216_0, hi216_0⟩ := at_T43 HR0.out x5_1 p216 q216
         obtain rfl : ad214 = ad216 := (by injection e216)
         have HR216_0 := Aside0.mk hi216_0
         have HC216_0 := Aside0.mk hl216_0
         clear hi216_0 hl216_0
         replace p216 := eq_true p216
         replace q216 := eq_true q216
         have ea_ := Option.some.inj (hx214_0.symm.trans hx216_0)
         injection ea_ with ea_ en_ ec_
         subst ea_
         subst ec_
         clear en_
         have p217 : 0 ≤ (x5_1 : Int) := of_decide_eq_true (by first | (with_reducible assumption) | assumption)
         have q217 : x5_1 < (l1.length : Int) := of_decide_eq_true (by first | (with_reducible assumption) | assumption)
         obtain ⟨ad217, A217_0, c217_0, e217, hx217_0, hx217_1, hl217_0, hi217_0⟩ := at_T43 HR1.out x5_1 p217 q217
         obtain rfl : ad215 = ad217 := (by injection e217)
         have HR217_0 := Aside0.mk hi217_0
         have HC217_0 := Aside0.mk hl217_0
         clear hi217_0 hl217_0
         replace p217 := eq_true p217
         replace q217 := eq_true q217
         have ea_ := Option.some.inj (hx215_0.symm.trans hx217_0)
         injection ea_ with ea_ en_ ec_
         subst ea_
         subst ec_
         clear en_
         go_wp2_with (first | (go_at_call 38; (with_reducible refine (greenwoodref01_Same.calls k1 _ _ ((rd_T43 l0 x5_1).f0) _ _ ((rd_T43 l1 x5_1).f0) true _ ?side1 ?side2 ?side3 ?side4 A8.out).mono ?_); (case side1 => repeat (first | exact HR216_0.out | (with_reducible refine Kd.C_alloc ?_ _) | (with_reducible refine Kd.C_drewN ?_ _) | (with_reducible refine Kd.C_drew ?_))); (case side2 => exact HC216_0.out); (case side3 => repeat (first | exact HR217_0.out | (with_reducible refine Kd.C_alloc ?_ _) | (with_reducible refine Kd.C_drewN ?_ _) | (with_reducible refine Kd.C_drew ?_))); (case side4 => exact HC217_0.out); rintro e w' ⟨rfl, ⟨nd, rfl⟩⟩; (try first | exact ⟨rfl, _, World.drewN_drewN _ _ _⟩ | exact ⟨rfl, _, Eq.trans (World.drewN_drewN _ _ _) (congrArg (World.drewN _) (Nat.add_assoc _ _ _))⟩)))
         repeat (go_quiet (first | (go_at_call 38; (with_reducible refine (greenwoodref01_Same.calls k1 _ _ ((rd_T43 l0 x5_1).f0) _ _ ((rd_T43 l1 x5_1).f0) true _ ?side1 ?side2 ?side3 ?side4 A8.out).mono ?_); (case side1 => repeat (first | exact HR216_0.out | (with_reducible refine Kd.C_alloc ?_ _) | (with_reducible refine Kd.C_drewN ?_ _) | (with_reducible refine Kd.C_drew ?_))); (case side2 => exact HC216_0.out); (case side3 => repeat (first | exact HR217_0.out | (with_reducible refine Kd.C_alloc ?_ _) | (with_reducible refine Kd.C_drewN ?_ _) | (with_reducible refine Kd.C_drew ?_))); (case side4 => exact HC217_0.out); rintro e w' ⟨rfl, ⟨nd, rfl⟩⟩; (try first | exact ⟨rfl, _, World.drewN_drewN _ _ _⟩ | exact ⟨rfl, _, Eq.trans (World.drewN_drewN _ _ _) (congrArg (World.drewN _) (Nat.add_assoc _ _ _))⟩))); try go_wp2_with (first | (go_at_call 38; (with_reducible refine (greenwoodref01_Same.calls k1 _ _ ((rd_T43 l0 x5_1).f0) _ _ ((rd_T43 l1 x5_1).f0) true _ ?side1 ?side2 ?side3 ?side4 A8.out).mono ?_); (case side1 => repeat (first | exact HR216_0.out | (with_reducible refine Kd.C_alloc ?_ _) | (with_reducible refine Kd.C_drewN ?_ _) | (with_reducible refine Kd.C_drew ?_))); (case side2 => exact HC216_0.out); (case side3 => repeat (first | exact HR217_0.out | (with_reducible refine Kd.C_alloc ?_ _) | (with_reducible refine Kd.C_drewN ?_ _) | (with_reducible refine Kd.C_drew ?_))); (case side4 => exact HC217_0.out); rintro e w' ⟨rfl, ⟨nd, rfl⟩⟩; (try first | exact ⟨rfl, _, World.drewN_drewN _ _ _⟩ | exact ⟨rfl, _, Eq.trans (World.drewN_drewN _ _ _) (congrArg (World.drewN _) (Nat.add_assoc _ _ _))⟩))))
         go_roundg k1
         case measure => have := HK1.out; omega
         case rel => exact ⟨(wrap64 (x5_1 + 1)), (by first | rfl | (simp; done) | (simp [*]; done)), H', ⟨by have := HK1.out; omega⟩, by repeat (first | exact Drawn0.refl _ | apply Drawn0.step)⟩
        ·replace c9 := Bool.eq_false_iff.mpr c9
         subst c9
         have H1 : (some false) = some r := by rw [if_neg (show ¬ (false = true) by decide)] at H; exact H
         clear H
         have H := H1
         clear H1
         obtain rfl := Option.some.inj H
         have p214 : 0 ≤ (x5_1 : Int) := of_decide_eq_true (by first | (with_reducible assumption) | assumption)
         have q214 : x5_1 < (l0.length : Int) := of_decide_eq_true (by first | (with_reducible assumption) | assumption)
         obtain ⟨ad214, A214_0, c214_0, e214, hx214_0, hx214_1, hl214_0, hi214_0⟩ := at_T43 HR0.out x5_1 p214 q214
         cases e214
         have HR214_0 := Aside0.mk hi214_0
         have HC214_0 := Aside0.mk hl214_0
         clear hi214_0 hl214_0
         replace p214 := eq_true p214
         replace q214 := eq_true q214
         have p215 : 0 ≤ (x5_1 : Int) := of_decide_eq_true (by first | (with_reducible assumption) | assumption)
         have q215 : x5_1 < (l1.length : Int) := of_decide_eq_true (by first | (with_reducible assumption) | assumption)
         obtain ⟨ad215, A215_0, c215_0, e215, hx215_0, hx215_1, hl215_0, hi215_0⟩ := at_T43 HR1.out x5_1 p215 q215
         cases e215
         have HR215_0 := Aside0.mk hi215_0
         have HC215_0 := Aside0.mk hl215_0
         clear hi215_0 hl215_0
         replace p215 := eq_true p215
         replace q215 := eq_true q215
         have p216 : 0 ≤ (x5_1 : Int) := of_decide_eq_true (by first | (with_reducible assumption) | assumption)
         have q216 : x5_1 < (l0.length : Int) := of_decide_eq_true (by first | (with_reducible assumption) | assumption)
         obtain ⟨ad216, A216_0, c216_0, e216, hx216_0, hx216_1, hl216_0, hi216_0⟩ := at_T43 HR0.out x5_1 p216 q216
         obtain rfl : ad214 = ad216 := (by injection e216)
         have HR216_0 := Aside0.mk hi216_0
         have HC216_0 := Aside0.mk hl216_0
         clear hi216_0 hl216_0
         replace p216 := eq_true p216
         replace q216 := eq_true q216
         have ea_ := Option.some.inj (hx214_0.symm.trans hx216_0)
         injection ea_ with ea_ en_ ec_
         subst ea_
         subst ec_
         clear en_
         have p217 : 0 ≤ (x5_1 : Int) := of_decide_eq_true (by first | (with_reducible assumption) | assumption)
         have q217 : x5_1 < (l1.length : Int) := of_decide_eq_true (by first | (with_reducible assumption) | assumption)
         obtain ⟨ad217, A217_0, c217_0, e217, hx217_0, hx217_1, hl217_0, hi217_0⟩ := at_T43 HR1.out x5_1 p217 q217
         obtain rfl : ad215 = ad217 := (by injection e217)
         have HR217_0 := Aside0.mk hi217_0
         have HC217_0 := Aside0.mk hl217_0
         clear hi217_0 hl217_0
         replace p217 := eq_true p217
         replace q217 := eq_true q217
         have ea_ := Option.some.inj (hx215_0.symm.trans hx217_0)
         injection ea_ with ea_ en_ ec_
         subst ea_
         subst ec_
         clear en_
         go_wp2_with (first | (go_at_call 38; (with_reducible refine (greenwoodref01_Same.calls k1 _ _ ((rd_T43 l0 x5_1).f0) _ _ ((rd_T43 l1 x5_1).f0) false _ ?side1 ?side2 ?side3 ?side4 A8.out).mono ?_); (case side1 => repeat (first | exact HR216_0.out | (with_reducible refine Kd.C_alloc ?_ _) | (with_reducible refine Kd.C_drewN ?_ _) | (with_reducible refine Kd.C_drew ?_))); (case side2 => exact HC216_0.out); (case side3 => repeat (first | exact HR217_0.out | (with_reducible refine Kd.C_alloc ?_ _) | (with_reducible refine Kd.C_drewN ?_ _) | (with_reducible refine Kd.C_drew ?_))); (case side4 => exact HC217_0.out); rintro e w' ⟨rfl, ⟨nd, rfl⟩⟩; (try first | exact ⟨rfl, _, World.drewN_drewN _ _ _⟩ | exact ⟨rfl, _, Eq.trans (World.drewN_drewN _ _ _) (congrArg (World.drewN _) (Nat.add_assoc _ _ _))⟩)))
         repeat (go_quiet (first | (go_at_call 38; (with_reducible refine (greenwoodref01_Same.calls k1 _ _ ((rd_T43 l0 x5_1).f0) _ _ ((rd_T43 l1 x5_1).f0) false _ ?side1 ?side2 ?side3 ?side4 A8.out).mono ?_); (case side1 => repeat (first | exact HR216_0.out | (with_reducible refine Kd.C_alloc ?_ _) | (with_reducible refine Kd.C_drewN ?_ _) | (with_reducible refine Kd.C_drew ?_))); (case side2 => exact HC216_0.out); (case side3 => repeat (first | exact HR217_0.out | (with_reducible refine Kd.C_alloc ?_ _) | (with_reducible refine Kd.C_drewN ?_ _) | (with_reducible refine Kd.C_drew ?_))); (case side4 => exact HC217_0.out); rintro e w' ⟨rfl, ⟨nd, rfl⟩⟩; (try first | exact ⟨rfl, _, World.drewN_drewN _ _ _⟩ | exact ⟨rfl, _, Eq.trans (World.drewN_drewN _ _ _) (congrArg (World.drewN _) (Nat.add_assoc _ _ _))⟩))); try go_wp2_with (first | (go_at_call 38; (with_reducible refine (greenwoodref01_Same.calls k1 _ _ ((rd_T43 l0 x5_1).f0) _ _ ((rd_T43 l1 x5_1).f0) false _ ?side1 ?side2 ?side3 ?side4 A8.out).mono ?_); (case side1 => repeat (first | exact HR216_0.out | (with_reducible refine Kd.C_alloc ?_ _) | (with_reducible refine Kd.C_drewN ?_ _) | (with_reducible refine Kd.C_drew ?_))); (case side2 => exact HC216_0.out); (case side3 => repeat (first | exact HR217_0.out | (with_reducible refine Kd.C_alloc ?_ _) | (with_reducible refine Kd.C_drewN ?_ _) | (with_reducible refine Kd.C_drew ?_))); (case side4 => exact HC217_0.out); rintro e w' ⟨rfl, ⟨nd, rfl⟩⟩; (try first | exact ⟨rfl, _, World.drewN_drewN _ _ _⟩ | exact ⟨rfl, _, Eq.trans (World.drewN_drewN _ _ _) (congrArg (World.drewN _) (Nat.add_assoc _ _ _))⟩))))
         go_ret
         exact ⟨by first | rfl | (simp; done) | (simp [*]; done), by repeat (first | exact Drawn0.refl _ | apply Drawn0.step)⟩
       ·rw [if_neg c7] at H
        have c7b0 : (((rd_T43 l0 x5_1).f1) == ((rd_T43 l1 x5_1).f1)) = false := beq_eq_false_iff_ne.mpr c7
        have c7b1 : (((rd_T43 l0 x5_1).f1) != ((rd_T43 l1 x5_1).f1)) = true := bne_iff_ne.mpr c7
        obtain rfl := Option.some.inj H
        have p214 : 0 ≤ (x5_1 : Int) := of_decide_eq_true (by first | (with_reducible assumption) | assumption)
        have q214 : x5_1 < (l0.length : Int) := of_decide_eq_true (by first | (with_reducible assumption) | assumption)
        obtain ⟨ad214, A214_0, c214_0, e214, hx214_0, hx214_1, hl214_0, hi214_0⟩ := at_T43 HR0.out x5_1 p214 q214
        cases e214
        have HR214_0 := Aside0.mk hi214_0
        have HC214_0 := Aside0.mk hl214_0
        clear hi214_0 hl214_0
        replace p214 := eq_true p214
        replace q214 := eq_true q214
        have p215 : 0 ≤ (x5_1 : Int) := of_decide_eq_true (by first | (with_reducible assumption) | assumption)
        have q215 : x5_1 < (l1.length : Int) := of_decide_eq_true (by first | (with_reducible assumption) | assumption)
        obtain ⟨ad215, A215_0, c215_0, e215, hx215_0, hx215_1, hl215_0, hi215_0⟩ := at_T43 HR1.out x5_1 p215 q215
        cases e215
        have HR215_0 := Aside0.mk hi215_0
        have HC215_0 := Aside0.mk hl215_0
        clear hi215_0 hl215_0
        replace p215 := eq_true p215
        replace q215 := eq_true q215
        go_wp2
        repeat (go_quiet (fail); try go_wp2)
        go_ret
        exact ⟨by first | rfl | (simp; done) | (simp [*]; done), by repeat (first | exact Drawn0.refl _ | apply Drawn0.step)⟩
      ·rw [if_neg c6] at H
       exact absurd H (by simp)
     ·rw [if_neg c5] at H
      exact absurd H (by simp)
    ·rw [if_neg c4] at H
     have c4b0 : decide (x5_1 < (l0.length : Int)) = false := decide_eq_false c4
     clear c4
     obtain rfl := Option.some.inj H
     go_wp2
     repeat (go_quiet (fail); try go_wp2)
     go_ret
     exact ⟨by first | rfl | (simp; done) | (simp [*]; done), by repeat (first | exact Drawn0.refl _ | apply Drawn0.step)⟩
 ·rw [if_neg c3] at H
  have c3b0 : ((l0.length : Int) == (l1.length : Int)) = false := beq_eq_false_iff_ne.mpr c3
  have c3b1 : ((l0.length : Int) != (l1.length : Int)) = true := bne_iff_ne.mpr c3
  have c3b2 : (l0.length == l1.length) = false := by first | simpa using c3 | (simp at c3 ⊢; omega)
  obtain rfl := Option.some.inj H
  go_enter Tryd.func41, Tryd.ntmps41
  go_wp2
  repeat (go_quiet (fail); try go_wp2)
  go_ret
  exact ⟨by first | rfl | (simp; done) | (simp [*]; done), by repeat (first | exact Drawn0.refl _ | apply Drawn0.step)⟩

/-! ### greenwoodref23_Same: function 15 -/
def greenwoodref23_Same.f (k : Nat) (a0_0 : Int) (a0_1 : Bool) (l0_2 : List Int) (l0_3 : List Int) (l0_4 : List (List Int)) (l0_5 : List (S41)) (l0_6 : List (S43)) (a1_0 : Int) (a1_1 : Bool) (l1_2 : List Int) (l1_3 : List Int) (l1_4 : List (List Int)) (l1_5 : List (S41)) (l1_6 : List (S43)) : Option (Bool) := if a0_0 = a1_0 then (if (a0_1 == a1_1) = true then ((greenwoodref01_Same.f k l0_2 l1_2).bind fun t221 => (if t221 = true then ((greenwoodref01_Same.f k l0_3 l1_3).bind fun t222 => (if t222 = true then ((greenwoodref13_Lists.f k l0_4 l1_4).bind fun t223 => (if t223 = true then ((greenwoodref15_Same.f k l0_5 l1_5).bind fun t224 => (if t224 = true then ((greenwoodref23_Cuts.f k l0_6 l1_6).bind fun t225 => (some t225)) else (some false))) else (some false))) else (some false))) else (some false))) else (some false)) else (some false)
set_option maxHeartbeats 8000000 in
set_option maxRecDepth 100000 in
theorem greenwoodref23_Same.calls (k : Nat) (a0_0 : Int) (a0_1 : Bool) (A0_2 : Option Addr) (c0_2 : Nat) (l0_2 : List Int) (A0_3 : Option Addr) (c0_3 : Nat) (l0_3 : List Int) (A0_4 : Option Addr) (c0_4 : Nat) (l0_4 : List (List Int)) (A0_5 : Option Addr) (c0_5 : Nat) (l0_5 : List (S41)) (A0_6 : Option Addr) (c0_6 : Nat) (l0_6 : List (S43)) (a1_0 : Int) (a1_1 : Bool) (A1_2 : Option Addr) (c1_2 : Nat) (l1_2 : List Int) (A1_3 : Option Addr) (c1_3 : Nat) (l1_3 : List Int) (A1_4 : Option Addr) (c1_4 : Nat) (l1_4 : List (List Int)) (A1_5 : Option Addr) (c1_5 : Nat) (l1_5 : List (S41)) (A1_6 : Option Addr) (c1_6 : Nat) (l1_6 : List (S43)) (r : Bool) (w : World) (hr0_2 : Kd.C (Kd.int .i64) w A0_2 l0_2.length l0_2) (hc0_2 : l0_2.length ≤ c0_2) (hr0_3 : Kd.C (Kd.int .i64) w A0_3 l0_3.length l0_3) (hc0_3 : l0_3.length ≤ c0_3) (hr0_4 : Kd.C (Kd.slice 3 (Kd.int .i64)) w A0_4 l0_4.length l0_4) (hc0_4 : l0_4.length ≤ c0_4) (hr0_5 : Kd.C k41 w A0_5 l0_5.length l0_5) (hc0_5 : l0_5.length ≤ c0_5) (hr0_6 : Kd.C k43 w A0_6 l0_6.length l0_6) (hc0_6 : l0_6.length ≤ c0_6) (hr1_2 : Kd.C (Kd.int .i64) w A1_2 l1_2.length l1_2) (hc1_2 : l1_2.length ≤ c1_2) (hr1_3 : Kd.C (Kd.int .i64) w A1_3 l1_3.length l1_3) (hc1_3 : l1_3.length ≤ c1_3) (hr1_4 : Kd.C (Kd.slice 3 (Kd.int .i64)) w A1_4 l1_4.length l1_4) (hc1_4 : l1_4.length ≤ c1_4) (hr1_5 : Kd.C k41 w A1_5 l1_5.length l1_5) (hc1_5 : l1_5.length ≤ c1_5) (hr1_6 : Kd.C k43 w A1_6 l1_6.length l1_6) (hc1_6 : l1_6.length ≤ c1_6) (h : greenwoodref23_Same.f k a0_0 a0_1 l0_2 l0_3 l0_4 l0_5 l0_6 a1_0 a1_1 l1_2 l1_3 l1_4 l1_5 l1_6 = some r) :
 Calls Tryd.prog 15 #[.agg #[.int .i64 a0_0, .bool a0_1, .slice A0_2 l0_2.length c0_2, .slice A0_3 l0_3.length c0_3, .slice A0_4 l0_4.length c0_4, .slice A0_5 l0_5.length c0_5, .slice A0_6 l0_6.length c0_6], .agg #[.int .i64 a1_0, .bool a1_1, .slice A1_2 l1_2.length c1_2, .slice A1_3 l1_3.length c1_3, .slice A1_4 l1_4.length c1_4, .slice A1_5 l1_5.length c1_5, .slice A1_6 l1_6.length c1_6]] w fun e w' => e = .returned (.bool r) ∧ Below w.heap.size w w' := by
 have HA := Aside0.mk (And.intro hr0_2 (And.intro hr0_3 (And.intro hr0_4 (And.intro hr0_5 hr0_6))))
 have HB := Aside0.mk (And.intro hr1_2 (And.intro hr1_3 (And.intro hr1_4 (And.intro hr1_5 hr1_6))))
 have HC := Aside0.mk (And.intro hc0_2 (And.intro hc0_3 (And.intro hc0_4 (And.intro hc0_5 hc0_6))))
 have HD := Aside0.mk (And.intro hc1_2 (And.intro hc1_3 (And.intro hc1_4 (And.intro hc1_5 hc1_6))))
 clear hr0_2 hr0_3 hr0_4 hr0_5 hr0_6 hr1_2 hr1_3 hr1_4 hr1_5 hr1_6 hc0_2 hc0_3 hc0_4 hc0_5 hc0_6 hc1_2 hc1_3 hc1_4 hc1_5 hc1_6
 have HF := Aside0.mk h
 clear h
 go_enter Tryd.func15, Tryd.ntmps15
 go_upto_region 1 with (first
  | ((with_reducible refine gate_dst (N := 3) rfl ?_); (try (refine gate_guard (by rfl) ?_; dsimp only)); refine box_event ?hg (N := 3) ?hd (cs := #[.int .i64 a1_0, .bool a1_1, .slice A1_2 l1_2.length c1_2, .slice A1_3 l1_3.length c1_3, .slice A1_4 l1_4.length c1_4, .slice A1_5 l1_5.length c1_5, .slice A1_6 l1_6.length c1_6]) (t := 27) ?hr ?_; (case hd => rfl); (case hg => rfl); (case hr => first | (go_simp; done) | (go_simp; rfl)); intro Y hgY w2 hby hb2; have HY := Aside0.mk (And.intro hby (And.intro (blk_below HX.out.1 hb2) (HX.out.2.trans (hb2.mono HX.out.2.size)))); clear hgY hby hb2)
  | ((with_reducible refine gate_dst (N := 2) rfl ?_); (try (refine gate_guard (by rfl) ?_; dsimp only)); refine box_event ?hg (N := 2) ?hd (cs := #[.int .i64 a0_0, .bool a0_1, .slice A0_2 l0_2.length c0_2, .slice A0_3 l0_3.length c0_3, .slice A0_4 l0_4.length c0_4, .slice A0_5 l0_5.length c0_5, .slice A0_6 l0_6.length c0_6]) (t := 27) ?hr ?_; (case hd => rfl); (case hg => rfl); (case hr => first | (go_simp; done) | (go_simp; rfl)); intro X hgX w1 hbx hb1; have HX := Aside0.mk (And.intro hbx hb1); clear hgX hbx hb1))
 have hbp : ∀ p : Bw w2, Below w.heap.size w p.v := fun p => HY.out.2.2.trans (p.h.mono HY.out.2.2.size)
 have lA := bw_cell HY.out.2.1
 have lB := bw_cell HY.out.1
 have a0 := lA 0 _ rfl
 have a1 := lA 1 _ rfl
 have a2 := lA 2 _ rfl
 have a3 := lA 3 _ rfl
 have a4 := lA 4 _ rfl
 have a5 := lA 5 _ rfl
 have a6 := lA 6 _ rfl
 have b0 := lB 0 _ rfl
 have b1 := lB 1 _ rfl
 have b2 := lB 2 _ rfl
 have b3 := lB 3 _ rfl
 have b4 := lB 4 _ rfl
 have b5 := lB 5 _ rfl
 have b6 := lB 6 _ rfl
 have h := HF.out
 unfold greenwoodref23_Same.f at h
 clear lA lB HF
 by_cases c1 : a0_0 = a1_0
 rw [if_pos c1] at h
 have e1 : (a0_0 == a1_0) = true := beq_iff_eq.mpr c1
 clear c1
 cases e2 : (a0_1 == a1_1)
 rotate_left
 rw [if_pos e2] at h
 obtain ⟨t1, q1, h⟩ := Option.bind_eq_some_iff.mp h
 have H1 := Aside0.mk (fun p : Bw w2 => calls_bel (greenwoodref01_Same.calls k _ _ _ _ _ _ t1 p.v (Kd.C_below HA.out.1 (hbp p)) HC.out.1 (Kd.C_below HB.out.1 (hbp p)) HD.out.1 q1))
 clear q1
 cases t1
 rotate_left
 simp only [if_true] at h
 obtain ⟨t2, q2, h⟩ := Option.bind_eq_some_iff.mp h
 have H2 := Aside0.mk (fun p : Bw w2 => calls_bel (greenwoodref01_Same.calls k _ _ _ _ _ _ t2 p.v (Kd.C_below HA.out.2.1 (hbp p)) HC.out.2.1 (Kd.C_below HB.out.2.1 (hbp p)) HD.out.2.1 q2))
 clear q2
 cases t2
 rotate_left
 simp only [if_true] at h
 obtain ⟨t3, q3, h⟩ := Option.bind_eq_some_iff.mp h
 have H3 := Aside0.mk (fun p : Bw w2 => calls_bel (greenwoodref13_Lists.calls k _ _ _ _ _ _ t3 p.v (Kd.C_below HA.out.2.2.1 (hbp p)) HC.out.2.2.1 (Kd.C_below HB.out.2.2.1 (hbp p)) HD.out.2.2.1 q3))
 clear q3
 cases t3
 rotate_left
 simp only [if_true] at h
 obtain ⟨t4, q4, h⟩ := Option.bind_eq_some_iff.mp h
 have H4 := Aside0.mk (fun p : Bw w2 => greenwoodref15_Same.calls k _ _ _ _ _ _ t4 p.v (Kd.C_below HA.out.2.2.2.1 (hbp p)) HC.out.2.2.2.1 (Kd.C_below HB.out.2.2.2.1 (hbp p)) HD.out.2.2.2.1 q4)
 clear q4
 cases t4
 rotate_left
 simp only [if_true] at h
 obtain ⟨t5, q5, h⟩ := Option.bind_eq_some_iff.mp h
 have H5 := Aside0.mk (fun p : Bw w2 => calls_bel (greenwoodref23_Cuts.calls k _ _ _ _ _ _ t5 p.v (Kd.C_below HA.out.2.2.2.2 (hbp p)) HC.out.2.2.2.2 (Kd.C_below HB.out.2.2.2.2 (hbp p)) HD.out.2.2.2.2 q5))
 clear q5
 all_goals (try (rename_i c1; rw [if_neg c1] at h; have e1 : (a0_0 == a1_0) = false := beq_eq_false_iff_ne.mpr c1; clear c1))
 all_goals (try (rw [e2] at h; simp only [Bool.false_eq_true, if_false] at h))
 all_goals (try simp only [Bool.false_eq_true, if_false] at h)
 all_goals (obtain rfl := Option.some.inj h; clear h)
 all_goals (
  show Code.wp _ _ _ _ (Bw.v (⟨w2, Below.refl _ _⟩ : Bw w2))
  generalize (⟨w2, Below.refl _ _⟩ : Bw w2) = p0
  go_wp2_with (first
   | (go_at_call 41; refine (bw_call H5.out p4).mono ?_; rintro e _ ⟨rfl, p5, rfl⟩)
   | (go_at_call 40; refine (bw_call H4.out p3).mono ?_; rintro e _ ⟨rfl, p4, rfl⟩)
   | (go_at_call 39; refine (bw_call H3.out p2).mono ?_; rintro e _ ⟨rfl, p3, rfl⟩)
   | (go_at_call 38; refine (bw_call H2.out p1).mono ?_; rintro e _ ⟨rfl, p2, rfl⟩)
   | (go_at_call 38; refine (bw_call H1.out p0).mono ?_; rintro e _ ⟨rfl, p1, rfl⟩))
  go_ret
  first
   | exact ⟨rfl, hbp p5⟩
   | exact ⟨rfl, hbp p4⟩
   | exact ⟨rfl, hbp p3⟩
   | exact ⟨rfl, hbp p2⟩
   | exact ⟨rfl, hbp p1⟩
   | exact ⟨rfl, hbp p0⟩)
def IsS55 (w0 W : World) (g : Nat) (f0 : ByteArray) (f1 : Int) (f2 : Int) : Prop := W.heap[g]? = some (.cells #[.string f0, .int .i64 f1, .int .i64 f2] 55 (0, 0)) ∧ w0.heap.size ≤ g
theorem IsS55.grown {w0 W : World} {g : Nat} {f0 : ByteArray} {f1 : Int} {f2 : Int} {W1 : World} {row : Option Nat} (h : IsS55 w0 W g f0 f1 f2) (hw : W.grownBy W1 row) (hne : some g ≠ row) : IsS55 w0 W1 g f0 f1 f2 := by
 obtain ⟨hb, hg⟩ := h
 exact ⟨blk_grown hb hw hne, hg⟩
theorem IsS55.fresh {w0 W : World} {g : Nat} {f0 : ByteArray} {f1 : Int} {f2 : Int} (h : IsS55 w0 W g f0 f1 f2) : ∀ k, W.heap.size ≤ k → k ≠ g := by
 obtain ⟨hb, hg⟩ := h
 exact Kd.freshB hb
theorem IsS55.kept {w0 W : World} {g : Nat} {f0 : ByteArray} {f1 : Int} {f2 : Int} {W1 : World} {S : Nat → Prop} (h : IsS55 w0 W g f0 f1 f2) (hk : Kept W W1 S) (hne : ¬ S g) : IsS55 w0 W1 g f0 f1 f2 := by
 obtain ⟨hb, hg⟩ := h
 exact ⟨blk_kept hb hk hne, hg⟩
theorem IsS55.below {w0 W : World} {g : Nat} {f0 : ByteArray} {f1 : Int} {f2 : Int} {W1 : World} (h : IsS55 w0 W g f0 f1 f2) (hw : Below W.heap.size W W1) : IsS55 w0 W1 g f0 f1 f2 := h.grown (grown_of_below hw none) (by simp)
theorem IsS55.alloc {w0 W : World} {g : Nat} {f0 : ByteArray} {f1 : Int} {f2 : Int} (h : IsS55 w0 W g f0 f1 f2) (o : Obj) : IsS55 w0 (W.alloc o) g f0 f1 f2 := h.below (below_alloc (Below.refl _ _) o)
theorem IsS55.drewN {w0 W : World} {g : Nat} {f0 : ByteArray} {f1 : Int} {f2 : Int} (h : IsS55 w0 W g f0 f1 f2) (m : Nat) : IsS55 w0 (W.drewN m) g f0 f1 f2 := h
theorem IsS55.drew {w0 W : World} {g : Nat} {f0 : ByteArray} {f1 : Int} {f2 : Int} (h : IsS55 w0 W g f0 f1 f2) : IsS55 w0 W.drew g f0 f1 f2 := h
theorem IsS55.at_ {w0 W : World} {g : Nat} {f0 : ByteArray} {f1 : Int} {f2 : Int} {w' : World} {m : Nat} (hq : W.drewN m = w') (h : IsS55 w0 W g f0 f1 f2) : IsS55 w0 w' g f0 f1 f2 := by subst hq; exact IsS55.drewN h m
theorem IsS55.apart {w0 W : World} {g : Nat} {f0 : ByteArray} {f1 : Int} {f2 : Int} {α : Type} {d : Kd α} {e : Nat} {base : Nat} {ok : Nat → Prop} {v : Value} {xs : List α} (h : IsS55 w0 W g f0 f1 f2) (ho : d.R e W base ok v xs) (ht : ∀ q, q ∈ e :: d.E → q ≠ 55) : d.R e W base (fun k => ok k ∧ k ≠ g) v xs := by
 obtain ⟨hb, hg⟩ := h
 exact Kd.R_types ho hb ht
theorem IsS55.own_ne {w0 W : World} {g : Nat} {f0 : ByteArray} {f1 : Int} {f2 : Int} {α : Type} {d : Kd α} {e : Nat} {base : Nat} {ok : Nat → Prop} {v : Value} {xs : List α} (h : IsS55 w0 W g f0 f1 f2) (ho : d.R e W base ok v xs) (ht : e ≠ 55) : some g ≠ v.ownBlock := by
 obtain ⟨hb, hg⟩ := h
 exact Kd.R_ne ho hb ht
theorem IsS55.lt {w0 W : World} {g : Nat} {f0 : ByteArray} {f1 : Int} {f2 : Int} (h : IsS55 w0 W g f0 f1 f2) : g < W.heap.size := by
 obtain ⟨hb, hg⟩ := h
 exact blk_lt hb
theorem IsS55.ge {w0 W : World} {g : Nat} {f0 : ByteArray} {f1 : Int} {f2 : Int} (h : IsS55 w0 W g f0 f1 f2) : w0.heap.size ≤ g := by
 obtain ⟨hb, hg⟩ := h
 exact hg
theorem IsS55.far {w0 W : World} {g : Nat} {f0 : ByteArray} {f1 : Int} {f2 : Int} {p : Addr} (h : IsS55 w0 W g f0 f1 f2) (hne : g ≠ p.block) (u : Value) : IsS55 w0 (W.setCell p u) g f0 f1 f2 := by
 obtain ⟨hb, hg⟩ := h
 exact ⟨blk_far hb hne u, hg⟩
theorem cellS55_0 {W : World} {g : Nat} {f0 : ByteArray} {f1 : Int} {f2 : Int} (h : W.heap[g]? = some (.cells #[.string f0, .int .i64 f1, .int .i64 f2] 55 (0, 0))) : W.cell? ⟨g, 0, none⟩ = some (.string f0) := (blk_cell h 0).trans rfl
theorem IsS55.set_0 {w0 W : World} {g : Nat} {f0 : ByteArray} {f1 : Int} {f2 : Int} (h : IsS55 w0 W g f0 f1 f2) (x : ByteArray) : IsS55 w0 (W.setCell ⟨g, 0, none⟩ (.string x)) g x f1 f2 := by
 obtain ⟨hb, hg⟩ := h
 exact ⟨by simpa using blk_set hb 0 (.string x), hg⟩
theorem cellS55_1 {W : World} {g : Nat} {f0 : ByteArray} {f1 : Int} {f2 : Int} (h : W.heap[g]? = some (.cells #[.string f0, .int .i64 f1, .int .i64 f2] 55 (0, 0))) : W.cell? ⟨g, 1, none⟩ = some (.int .i64 f1) := (blk_cell h 1).trans rfl
theorem IsS55.set_1 {w0 W : World} {g : Nat} {f0 : ByteArray} {f1 : Int} {f2 : Int} (h : IsS55 w0 W g f0 f1 f2) (x : Int) : IsS55 w0 (W.setCell ⟨g, 1, none⟩ (.int .i64 x)) g f0 x f2 := by
 obtain ⟨hb, hg⟩ := h
 exact ⟨by simpa using blk_set hb 1 (.int .i64 x), hg⟩
theorem cellS55_2 {W : World} {g : Nat} {f0 : ByteArray} {f1 : Int} {f2 : Int} (h : W.heap[g]? = some (.cells #[.string f0, .int .i64 f1, .int .i64 f2] 55 (0, 0))) : W.cell? ⟨g, 2, none⟩ = some (.int .i64 f2) := (blk_cell h 2).trans rfl
theorem IsS55.set_2 {w0 W : World} {g : Nat} {f0 : ByteArray} {f1 : Int} {f2 : Int} (h : IsS55 w0 W g f0 f1 f2) (x : Int) : IsS55 w0 (W.setCell ⟨g, 2, none⟩ (.int .i64 x)) g f0 f1 x := by
 obtain ⟨hb, hg⟩ := h
 exact ⟨by simpa using blk_set hb 2 (.int .i64 x), hg⟩
theorem IsS55.new (w0 W : World) (f0 : ByteArray) (f1 : Int) (f2 : Int) (hB : Below w0.heap.size w0 W) : IsS55 w0 (W.alloc (.cells #[.string f0, .int .i64 f1, .int .i64 f2] 55)) W.heap.size f0 f1 f2 := ⟨by simpa using heap_alloc_new W _, hB.size⟩

/-! ### greenwoodref01_Reader_fail: function 49 -/
def greenwoodref01_Reader_fail.f (s0_0 : ByteArray) (s0_1 : Int) (s0_2 : Int) (a1 : Int) : Option (Int × ByteArray × Int × Int) := some (0, s0_0, s0_1, a1)
set_option maxHeartbeats 8000000 in
set_option maxRecDepth 100000 in
theorem greenwoodref01_Reader_fail.calls (g : Nat) (s0_0 : ByteArray) (s0_1 : Int) (s0_2 : Int) (a1 : Int) (r1 : Int) (r2 : ByteArray) (r3 : Int) (r4 : Int) (w0 w : World) (hI : IsS55 w0 w g s0_0 s0_1 s0_2) (hB : Below w0.heap.size w0 w) (h : greenwoodref01_Reader_fail.f s0_0 s0_1 s0_2 a1 = some (r1, r2, r3, r4)) :
 Calls Tryd.prog 49 #[.pointer (some ⟨g, 0, none⟩), .int .i64 a1] w fun e w' => e = .returned (.int .i64 r1) ∧ IsS55 w0 w' g r2 r3 r4 ∧ Below w0.heap.size w0 w' ∧ KeepBut w w' g none := by
 have HI0 := Aside0.mk hI
 have HK := Aside0.mk (KeepBut.refl w g none)
 have HL := Aside0.mk hB.size
 clear hI
 have HW0 := Aside0.mk hB.size
 have HB := Aside0.mk hB
 clear hB
 have H : (some (0, s0_0, s0_1, a1)) = some (r1, r2, r3, r4) := h
 clear h
 simp only [Option.some.injEq, Prod.mk.injEq] at H
 obtain ⟨rfl, rfl, rfl, rfl⟩ := H
 obtain ⟨HGz3, hgz3⟩ := HI0.out
 have hcz3_0 := cellS55_0 HGz3
 have hcz3_1 := cellS55_1 HGz3
 have hcz3_2 := cellS55_2 HGz3
 have hfz3_0 := blk_frozen HGz3 0
 have hfz3_1 := blk_frozen HGz3 1
 have hfz3_2 := blk_frozen HGz3 2
 clear HGz3 hgz3
 go_enter Tryd.func49, Tryd.ntmps49
 go_wp2
 go_ret
 exact ⟨by first | rfl | (simp [errW_none, errW_some] <;> rfl) | (simp [*, errW_none, errW_some] <;> rfl), by repeat (first | (with_reducible first | exact HI0.out | apply IsS55.alloc | apply IsS55.drewN | apply IsS55.drew | apply IsS55.set_0 | apply IsS55.set_1 | apply IsS55.set_2) | exact HI0.out), by repeat (first | (with_reducible first | exact HB.out | apply below_alloc | apply pw_below_drewN | apply below_drew1 | refine below_set ?_ (IsS55.ge HI0.out)) | exact HB.out), by repeat (first | (with_reducible first | exact HK.out | apply KeepBut.set_ | apply keep_drewN | apply keep_drew | apply keep_alloc) | exact HK.out)⟩

/-! ### greenwoodref01_Reader_Num: function 19 -/
def greenwoodref01_Reader_Num.l0 : Nat → Int → Int → Int → ByteArray → Int → Int → Option (Int × ByteArray × Int × Int)
 | 0, _, _, _, _, _, _ => none
 | k + 1, x3, x4, x5, x1000, x1001, x1002 => if x5 < 8 then (if (wrap64 (x1001 + x5)) = (x1000.size : Int) then ((greenwoodref01_Reader_fail.f x1000 x1001 x1002 10).bind fun bt230 => (some (bt230.1, bt230.2.1, bt230.2.2.1, bt230.2.2.2))) else (if 0 ≤ (wrap64 (x1001 + x5)) then (if (wrap64 (x1001 + x5)) < (x1000.size : Int) then (if (wrap64 (bt x1000 (wrap64 (x1001 + x5)))) < 128 then (if (wrap64 (bt x1000 (wrap64 (x1001 + x5)))) = 0 then (if x5 > 0 then ((greenwoodref01_Reader_fail.f x1000 x1001 x1002 11).bind fun bt234 => (some (bt234.1, bt234.2.1, bt234.2.2.1, bt234.2.2.2))) else (if (wrap64 (x3 + (wrap64 ((wrap64 (bt x1000 (wrap64 (x1001 + x5)))) * x4)))) > 1125899906842624 then ((greenwoodref01_Reader_fail.f x1000 x1001 x1002 11).bind fun bt238 => (some (bt238.1, bt238.2.1, bt238.2.2.1, bt238.2.2.2))) else (some (wrap64 (x3 + (wrap64 ((wrap64 (bt x1000 (wrap64 (x1001 + x5)))) * x4))), x1000, wrap64 ((wrap64 (x1001 + x5)) + 1), x1002)))) else (if (wrap64 (x3 + (wrap64 ((wrap64 (bt x1000 (wrap64 (x1001 + x5)))) * x4)))) > 1125899906842624 then ((greenwoodref01_Reader_fail.f x1000 x1001 x1002 11).bind fun bt242 => (some (bt242.1, bt242.2.1, bt242.2.2.1, bt242.2.2.2))) else (some (wrap64 (x3 + (wrap64 ((wrap64 (bt x1000 (wrap64 (x1001 + x5)))) * x4))), x1000, wrap64 ((wrap64 (x1001 + x5)) + 1), x1002)))) else (greenwoodref01_Reader_Num.l0 k (wrap64 (x3 + (wrap64 ((wrap64 ((wrap64 (bt x1000 (wrap64 (x1001 + x5)))) - 128)) * x4)))) (wrap64 (x4 * 128)) (wrap64 (x5 + 1)) x1000 x1001 x1002)) else (none)) else (none))) else ((greenwoodref01_Reader_fail.f x1000 x1001 x1002 11).bind fun bt226 => (some (bt226.1, bt226.2.1, bt226.2.2.1, bt226.2.2.2)))
def greenwoodref01_Reader_Num.f (k : Nat) (s0_0 : ByteArray) (s0_1 : Int) (s0_2 : Int) : Option (Int × ByteArray × Int × Int) := if s0_2 = 0 then (greenwoodref01_Reader_Num.l0 k 0 1 0 s0_0 s0_1 s0_2) else (some (0, s0_0, s0_1, s0_2))
set_option maxHeartbeats 8000000 in
set_option maxRecDepth 100000 in
theorem greenwoodref01_Reader_Num.calls (k : Nat) (g : Nat) (s0_0 : ByteArray) (s0_1 : Int) (s0_2 : Int) (r1 : Int) (r2 : ByteArray) (r3 : Int) (r4 : Int) (w0 w : World) (hI : IsS55 w0 w g s0_0 s0_1 s0_2) (hB : Below w0.heap.size w0 w) (h : greenwoodref01_Reader_Num.f k s0_0 s0_1 s0_2 = some (r1, r2, r3, r4)) :
 Calls Tryd.prog 19 #[.pointer (some ⟨g, 0, none⟩)] w fun e w' => e = .returned (.int .i64 r1) ∧ IsS55 w0 w' g r2 r3 r4 ∧ Below w0.heap.size w0 w' ∧ KeepBut w w' g none := by
 have HI0 := Aside0.mk hI
 have HK := Aside0.mk (KeepBut.refl w g none)
 have HL := Aside0.mk hB.size
 clear hI
 have HW0 := Aside0.mk hB.size
 have HB := Aside0.mk hB
 clear hB
 have H : (if s0_2 = 0 then (greenwoodref01_Reader_Num.l0 k 0 1 0 s0_0 s0_1 s0_2) else (some (0, s0_0, s0_1, s0_2))) = some (r1, r2, r3, r4) := h
 clear h
 by_cases c2 : s0_2 = 0
 ·rw [if_pos c2] at H
  have c2b0 : (s0_2 == 0) = true := beq_iff_eq.mpr c2
  have c2b1 : (s0_2 != 0) = false := bne_eq_false_iff_eq.mpr c2
  clear c2
  have H' := Aside0.mk H
  clear H
  obtain ⟨HGz3, hgz3⟩ := HI0.out
  have hcz3_0 := cellS55_0 HGz3
  have hcz3_1 := cellS55_1 HGz3
  have hcz3_2 := cellS55_2 HGz3
  have hfz3_0 := blk_frozen HGz3 0
  have hfz3_1 := blk_frozen HGz3 1
  have hfz3_2 := blk_frozen HGz3 2
  clear HGz3 hgz3
  go_enter Tryd.func19, Tryd.ntmps19
  go_wp2
  repeat (go_quiet (fail); try go_wp2)
  go_loopg [3, 4, 5] k (fun kq v3 v4 v5 w' => ∃ (x3_1 : Int) (x4_1 : Int) (x5_1 : Int) (x1000_1 : ByteArray) (x1001_1 : Int) (x1002_1 : Int), v3 = .int .i64 x3_1 ∧ v4 = .int .i64 x4_1 ∧ v5 = .int .i64 x5_1 ∧ Aside0 (greenwoodref01_Reader_Num.l0 kq x3_1 x4_1 x5_1 x1000_1 x1001_1 x1002_1 = some (r1, r2, r3, r4)) ∧ Aside0 (kq ≤ k) ∧ Aside0 (IsS55 w0 w' g x1000_1 x1001_1 x1002_1) ∧ Aside0 (KeepBut w w' g none) ∧ Aside0 (Below w0.heap.size w0 w'))
  case atStart => exact ⟨(0), (1), (0), (s0_0), (s0_1), (s0_2), (by first | rfl | (simp; done) | (simp [*]; done)), (by first | rfl | (simp; done) | (simp [*]; done)), (by first | rfl | (simp; done) | (simp [*]; done)), H', ⟨Nat.le_refl _⟩, ⟨by repeat (first | (with_reducible first | exact HI0.out | apply IsS55.alloc | apply IsS55.drewN | apply IsS55.drew | apply IsS55.set_0 | apply IsS55.set_1 | apply IsS55.set_2) | exact HI0.out)⟩, ⟨by repeat (first | (with_reducible first | exact HK.out | apply KeepBut.set_ | apply keep_drewN | apply keep_drew | apply keep_alloc) | exact HK.out)⟩, ⟨by repeat (first | (with_reducible first | exact HB.out | apply below_alloc | apply pw_below_drewN | apply below_drew1 | refine below_set ?_ (IsS55.ge HI0.out)) | exact HB.out)⟩⟩
  case round =>
   clear H'
   try clear c1
   try clear c2
   try clear c2b0
   try clear c2b1
   try clear p2
   try clear hcz3_0
   try clear hcz3_1
   try clear hcz3_2
   try clear hfz3_0
   try clear hfz3_1
   try clear hfz3_2
   obtain ⟨x3_1, x4_1, x5_1, x1000_1, x1001_1, x1002_1, rfl, rfl, rfl, HA, HK1, HI0, HK, HB⟩ := hrel
   cases gk with
   | zero => exact absurd HA.out (by simp [greenwoodref01_Reader_Num.l0])
   | succ k1 =>
    have H := HA.out
    clear HA
    simp only [greenwoodref01_Reader_Num.l0] at H
    by_cases c4 : x5_1 < 8
    ·rw [if_pos c4] at H
     have c4b0 : decide (x5_1 < 8) = true := decide_eq_true c4
     clear c4
     by_cases c5 : (wrap64 (x1001_1 + x5_1)) = (x1000_1.size : Int)
     ·rw [if_pos c5] at H
      have c5b0 : ((wrap64 (x1001_1 + x5_1)) == (x1000_1.size : Int)) = true := beq_iff_eq.mpr c5
      have c5b1 : ((wrap64 (x1001_1 + x5_1)) != (x1000_1.size : Int)) = false := bne_eq_false_iff_eq.mpr c5
      clear c5
      replace H := Option.bind_eq_some_iff.mp H
      obtain ⟨⟨t230, t231, t232, t233⟩, A60, H⟩ := H
      replace H : (some (t230, t231, t232, t233)) = some (r1, r2, r3, r4) := H
      have A6 := Aside0.mk A60
      clear A60
      simp only [Option.some.injEq, Prod.mk.injEq] at H
      obtain ⟨rfl, rfl, rfl, rfl⟩ := H
      obtain ⟨HGz7, hgz7⟩ := HI0.out
      have hcz7_0 := cellS55_0 HGz7
      have hcz7_1 := cellS55_1 HGz7
      have hcz7_2 := cellS55_2 HGz7
      have hfz7_0 := blk_frozen HGz7 0
      have hfz7_1 := blk_frozen HGz7 1
      have hfz7_2 := blk_frozen HGz7 2
      clear HGz7 hgz7
      go_wp2_with (first | (go_at_call 49; (with_reducible refine (greenwoodref01_Reader_fail.calls g x1000_1 x1001_1 x1002_1 10 t230 t231 t232 t233 w0 _ ?side1 ?side2 A6.out).mono ?_); (case side1 => repeat (first | (with_reducible first | exact HI0.out | apply IsS55.alloc | apply IsS55.drewN | apply IsS55.drew | apply IsS55.set_0 | apply IsS55.set_1 | apply IsS55.set_2) | exact HI0.out)); (case side2 => repeat (first | (with_reducible first | exact HB.out | apply below_alloc | apply pw_below_drewN | apply below_drew1 | refine below_set ?_ (IsS55.ge HI0.out)) | exact HB.out)); rintro e w8 ⟨rfl, hi, hb, hk⟩; have n0_ := Aside0.mk (KeepBut.trans (by repeat (first | (with_reducible first | exact HK.out | apply KeepBut.set_ | apply keep_drewN | apply keep_drew | apply keep_alloc) | exact HK.out)) hk (.inl rfl)); have n1_ := Aside0.mk (hb); have n2_ := Aside0.mk (hi); clear HK; clear HB; clear HI0; have HK := n0_; have HB := n1_; have HI0 := n2_; clear n0_ n1_ n2_; (try clear hb); (try clear hb2); (try clear hk); (try clear hi)))
      repeat (go_quiet (first | (go_at_call 49; (with_reducible refine (greenwoodref01_Reader_fail.calls g x1000_1 x1001_1 x1002_1 10 t230 t231 t232 t233 w0 _ ?side1 ?side2 A6.out).mono ?_); (case side1 => repeat (first | (with_reducible first | exact HI0.out | apply IsS55.alloc | apply IsS55.drewN | apply IsS55.drew | apply IsS55.set_0 | apply IsS55.set_1 | apply IsS55.set_2) | exact HI0.out)); (case side2 => repeat (first | (with_reducible first | exact HB.out | apply below_alloc | apply pw_below_drewN | apply below_drew1 | refine below_set ?_ (IsS55.ge HI0.out)) | exact HB.out)); rintro e w8 ⟨rfl, hi, hb, hk⟩; have n0_ := Aside0.mk (KeepBut.trans (by repeat (first | (with_reducible first | exact HK.out | apply KeepBut.set_ | apply keep_drewN | apply keep_drew | apply keep_alloc) | exact HK.out)) hk (.inl rfl)); have n1_ := Aside0.mk (hb); have n2_ := Aside0.mk (hi); clear HK; clear HB; clear HI0; have HK := n0_; have HB := n1_; have HI0 := n2_; clear n0_ n1_ n2_; (try clear hb); (try clear hb2); (try clear hk); (try clear hi))); try go_wp2_with (first | (go_at_call 49; (with_reducible refine (greenwoodref01_Reader_fail.calls g x1000_1 x1001_1 x1002_1 10 t230 t231 t232 t233 w0 _ ?side1 ?side2 A6.out).mono ?_); (case side1 => repeat (first | (with_reducible first | exact HI0.out | apply IsS55.alloc | apply IsS55.drewN | apply IsS55.drew | apply IsS55.set_0 | apply IsS55.set_1 | apply IsS55.set_2) | exact HI0.out)); (case side2 => repeat (first | (with_reducible first | exact HB.out | apply below_alloc | apply pw_below_drewN | apply below_drew1 | refine below_set ?_ (IsS55.ge HI0.out)) | exact HB.out)); rintro e w8 ⟨rfl, hi, hb, hk⟩; have n0_ := Aside0.mk (KeepBut.trans (by repeat (first | (with_reducible first | exact HK.out | apply KeepBut.set_ | apply keep_drewN | apply keep_drew | apply keep_alloc) | exact HK.out)) hk (.inl rfl)); have n1_ := Aside0.mk (hb); have n2_ := Aside0.mk (hi); clear HK; clear HB; clear HI0; have HK := n0_; have HB := n1_; have HI0 := n2_; clear n0_ n1_ n2_; (try clear hb); (try clear hb2); (try clear hk); (try clear hi))))
      go_ret
      exact ⟨by first | rfl | (simp [errW_none, errW_some] <;> rfl) | (simp [*, errW_none, errW_some] <;> rfl), by repeat (first | (with_reducible first | exact HI0.out | apply IsS55.alloc | apply IsS55.drewN | apply IsS55.drew | apply IsS55.set_0 | apply IsS55.set_1 | apply IsS55.set_2) | exact HI0.out), by repeat (first | (with_reducible first | exact HB.out | apply below_alloc | apply pw_below_drewN | apply below_drew1 | refine below_set ?_ (IsS55.ge HI0.out)) | exact HB.out), by repeat (first | (with_reducible first | exact HK.out | apply KeepBut.set_ | apply keep_drewN | apply keep_drew | apply keep_alloc) | exact HK.out)⟩
     ·rw [if_neg c5] at H
      have c5b0 : ((wrap64 (x1001_1 + x5_1)) == (x1000_1.size : Int)) = false := beq_eq_false_iff_ne.mpr c5
      have c5b1 : ((wrap64 (x1001_1 + x5_1)) != (x1000_1.size : Int)) = true := bne_iff_ne.mpr c5
      obtain ⟨ji9, hji9⟩ : ∃ j_ : Int, (wrap64 (x1001_1 + x5_1)) = j_ := ⟨_, rfl⟩
      replace H : (if 0 ≤ (ji9) then (if (ji9) < (x1000_1.size : Int) then (if (wrap64 (bt x1000_1 (ji9))) < 128 then (if (wrap64 (bt x1000_1 (ji9))) = 0 then (if x5_1 > 0 then ((greenwoodref01_Reader_fail.f x1000_1 x1001_1 x1002_1 11).bind fun bt234 => (some (bt234.1, bt234.2.1, bt234.2.2.1, bt234.2.2.2))) else (if (wrap64 (x3_1 + (wrap64 ((wrap64 (bt x1000_1 (ji9))) * x4_1)))) > 1125899906842624 then ((greenwoodref01_Reader_fail.f x1000_1 x1001_1 x1002_1 11).bind fun bt238 => (some (bt238.1, bt238.2.1, bt238.2.2.1, bt238.2.2.2))) else (some (wrap64 (x3_1 + (wrap64 ((wrap64 (bt x1000_1 (ji9))) * x4_1))), x1000_1, wrap64 ((ji9) + 1), x1002_1)))) else (if (wrap64 (x3_1 + (wrap64 ((wrap64 (bt x1000_1 (ji9))) * x4_1)))) > 1125899906842624 then ((greenwoodref01_Reader_fail.f x1000_1 x1001_1 x1002_1 11).bind fun bt242 => (some (bt242.1, bt242.2.1, bt242.2.2.1, bt242.2.2.2))) else (some (wrap64 (x3_1 + (wrap64 ((wrap64 (bt x1000_1 (ji9))) * x4_1))), x1000_1, wrap64 ((ji9) + 1), x1002_1)))) else (greenwoodref01_Reader_Num.l0 k1 (wrap64 (x3_1 + (wrap64 ((wrap64 ((wrap64 (bt x1000_1 (ji9))) - 128)) * x4_1)))) (wrap64 (x4_1 * 128)) (wrap64 (x5_1 + 1)) x1000_1 x1001_1 x1002_1)) else (none)) else (none)) = some (r1, r2, r3, r4) := by first | (rw [hji9] at H; exact H) | (simp only [hji9] at H ⊢; exact H)
      (try rw [hji9] at c5b0)
      (try rw [hji9] at c5b1)
      have hji9w : (IntKind.i64.wrap (x1001_1 + x5_1)) = ji9 := (i64_w _).trans hji9
      by_cases c10 : 0 ≤ (ji9)
      ·rw [if_pos c10] at H
       have c10b0 : decide (0 ≤ (ji9)) = true := decide_eq_true c10
       clear c10
       by_cases c11 : (ji9) < (x1000_1.size : Int)
       ·rw [if_pos c11] at H
        have c11b0 : decide ((ji9) < (x1000_1.size : Int)) = true := decide_eq_true c11
        clear c11
        by_cases c13 : (wrap64 (bt x1000_1 (ji9))) < 128
        ·rw [if_pos c13] at H
         have c13b0 : decide ((wrap64 (bt x1000_1 (ji9))) < 128) = true := decide_eq_true c13
         clear c13
         by_cases c14 : (wrap64 (bt x1000_1 (ji9))) = 0
         ·rw [if_pos c14] at H
          have c14b0 : ((wrap64 (bt x1000_1 (ji9))) == 0) = true := beq_iff_eq.mpr c14
          have c14b1 : ((wrap64 (bt x1000_1 (ji9))) != 0) = false := bne_eq_false_iff_eq.mpr c14
          clear c14
          by_cases c15 : x5_1 > 0
          ·rw [if_pos c15] at H
           have c15b0 : decide (0 < x5_1) = true := decide_eq_true c15
           clear c15
           replace H := Option.bind_eq_some_iff.mp H
           obtain ⟨⟨t234, t235, t236, t237⟩, A160, H⟩ := H
           replace H : (some (t234, t235, t236, t237)) = some (r1, r2, r3, r4) := H
           have A16 := Aside0.mk A160
           clear A160
           simp only [Option.some.injEq, Prod.mk.injEq] at H
           obtain ⟨rfl, rfl, rfl, rfl⟩ := H
           obtain ⟨HGz17, hgz17⟩ := HI0.out
           have hcz17_0 := cellS55_0 HGz17
           have hcz17_1 := cellS55_1 HGz17
           have hcz17_2 := cellS55_2 HGz17
           have hfz17_0 := blk_frozen HGz17 0
           have hfz17_1 := blk_frozen HGz17 1
           have hfz17_2 := blk_frozen HGz17 2
           clear HGz17 hgz17
           have p12 : 0 ≤ ((ji9) : Int) := of_decide_eq_true (by first | (with_reducible assumption) | assumption)
           have q12 : (ji9) < (x1000_1.size : Int) := of_decide_eq_true (by first | (with_reducible assumption) | assumption)
           have hx12 := bt_at x1000_1 (ji9)
           replace p12 := eq_true p12
           replace q12 := eq_true q12
           go_wp2_with (first | (go_at_call 49; (with_reducible refine (greenwoodref01_Reader_fail.calls g x1000_1 x1001_1 x1002_1 11 t234 t235 t236 t237 w0 _ ?side1 ?side2 A16.out).mono ?_); (case side1 => repeat (first | (with_reducible first | exact HI0.out | apply IsS55.alloc | apply IsS55.drewN | apply IsS55.drew | apply IsS55.set_0 | apply IsS55.set_1 | apply IsS55.set_2) | exact HI0.out)); (case side2 => repeat (first | (with_reducible first | exact HB.out | apply below_alloc | apply pw_below_drewN | apply below_drew1 | refine below_set ?_ (IsS55.ge HI0.out)) | exact HB.out)); rintro e w18 ⟨rfl, hi, hb, hk⟩; have n0_ := Aside0.mk (KeepBut.trans (by repeat (first | (with_reducible first | exact HK.out | apply KeepBut.set_ | apply keep_drewN | apply keep_drew | apply keep_alloc) | exact HK.out)) hk (.inl rfl)); have n1_ := Aside0.mk (hb); have n2_ := Aside0.mk (hi); clear HK; clear HB; clear HI0; have HK := n0_; have HB := n1_; have HI0 := n2_; clear n0_ n1_ n2_; (try clear hb); (try clear hb2); (try clear hk); (try clear hi)))
           repeat (go_quiet (first | (go_at_call 49; (with_reducible refine (greenwoodref01_Reader_fail.calls g x1000_1 x1001_1 x1002_1 11 t234 t235 t236 t237 w0 _ ?side1 ?side2 A16.out).mono ?_); (case side1 => repeat (first | (with_reducible first | exact HI0.out | apply IsS55.alloc | apply IsS55.drewN | apply IsS55.drew | apply IsS55.set_0 | apply IsS55.set_1 | apply IsS55.set_2) | exact HI0.out)); (case side2 => repeat (first | (with_reducible first | exact HB.out | apply below_alloc | apply pw_below_drewN | apply below_drew1 | refine below_set ?_ (IsS55.ge HI0.out)) | exact HB.out)); rintro e w18 ⟨rfl, hi, hb, hk⟩; have n0_ := Aside0.mk (KeepBut.trans (by repeat (first | (with_reducible first | exact HK.out | apply KeepBut.set_ | apply keep_drewN | apply keep_drew | apply keep_alloc) | exact HK.out)) hk (.inl rfl)); have n1_ := Aside0.mk (hb); have n2_ := Aside0.mk (hi); clear HK; clear HB; clear HI0; have HK := n0_; have HB := n1_; have HI0 := n2_; clear n0_ n1_ n2_; (try clear hb); (try clear hb2); (try clear hk); (try clear hi))); try go_wp2_with (first | (go_at_call 49; (with_reducible refine (greenwoodref01_Reader_fail.calls g x1000_1 x1001_1 x1002_1 11 t234 t235 t236 t237 w0 _ ?side1 ?side2 A16.out).mono ?_); (case side1 => repeat (first | (with_reducible first | exact HI0.out | apply IsS55.alloc | apply IsS55.drewN | apply IsS55.drew | apply IsS55.set_0 | apply IsS55.set_1 | apply IsS55.set_2) | exact HI0.out)); (case side2 => repeat (first | (with_reducible first | exact HB.out | apply below_alloc | apply pw_below_drewN | apply below_drew1 | refine below_set ?_ (IsS55.ge HI0.out)) | exact HB.out)); rintro e w18 ⟨rfl, hi, hb, hk⟩; have n0_ := Aside0.mk (KeepBut.trans (by repeat (first | (with_reducible first | exact HK.out | apply KeepBut.set_ | apply keep_drewN | apply keep_drew | apply keep_alloc) | exact HK.out)) hk (.inl rfl)); have n1_ := Aside0.mk (hb); have n2_ := Aside0.mk (hi); clear HK; clear HB; clear HI0; have HK := n0_; have HB := n1_; have HI0 := n2_; clear n0_ n1_ n2_; (try clear hb); (try clear hb2); (try clear hk); (try clear hi))))
           go_ret
           exact ⟨by first | rfl | (simp [errW_none, errW_some] <;> rfl) | (simp only [← hji9]; first | rfl | (simp [errW_none, errW_some] <;> rfl)) | (simp [*, errW_none, errW_some] <;> rfl), by repeat (first | (with_reducible first | exact HI0.out | apply IsS55.alloc | apply IsS55.drewN | apply IsS55.drew | apply IsS55.set_0 | apply IsS55.set_1 | apply IsS55.set_2) | exact HI0.out), by repeat (first | (with_reducible first | exact HB.out | apply below_alloc | apply pw_below_drewN | apply below_drew1 | refine below_set ?_ (IsS55.ge HI0.out)) | exact HB.out), by repeat (first | (with_reducible first | exact HK.out | apply KeepBut.set_ | apply keep_drewN | apply keep_drew | apply keep_alloc) | exact HK.out)⟩
          ·rw [if_neg c15] at H
           have c15b0 : decide (0 < x5_1) = false := decide_eq_false c15
           clear c15
           by_cases c19 : (wrap64 (x3_1 + (wrap64 ((wrap64 (bt x1000_1 (ji9))) * x4_1)))) > 1125899906842624
           ·rw [if_pos c19] at H
            have c19b0 : decide (1125899906842624 < (wrap64 (x3_1 + (wrap64 ((wrap64 (bt x1000_1 (ji9))) * x4_1))))) = true := decide_eq_true c19
            clear c19
            replace H := Option.bind_eq_some_iff.mp H
            obtain ⟨⟨t238, t239, t240, t241⟩, A200, H⟩ := H
            replace H : (some (t238, t239, t240, t241)) = some (r1, r2, r3, r4) := H
            have A20 := Aside0.mk A200
            clear A200
            simp only [Option.some.injEq, Prod.mk.injEq] at H
            obtain ⟨rfl, rfl, rfl, rfl⟩ := H
            obtain ⟨HGz21, hgz21⟩ := HI0.out
            have hcz21_0 := cellS55_0 HGz21
            have hcz21_1 := cellS55_1 HGz21
            have hcz21_2 := cellS55_2 HGz21
            have hfz21_0 := blk_frozen HGz21 0
            have hfz21_1 := blk_frozen HGz21 1
            have hfz21_2 := blk_frozen HGz21 2
            clear HGz21 hgz21
            have p12 : 0 ≤ ((ji9) : Int) := of_decide_eq_true (by first | (with_reducible assumption) | assumption)
            have q12 : (ji9) < (x1000_1.size : Int) := of_decide_eq_true (by first | (with_reducible assumption) | assumption)
            have hx12 := bt_at x1000_1 (ji9)
            replace p12 := eq_true p12
            replace q12 := eq_true q12
            go_wp2_with (first | (go_at_call 49; (with_reducible refine (greenwoodref01_Reader_fail.calls g x1000_1 x1001_1 x1002_1 11 t238 t239 t240 t241 w0 _ ?side1 ?side2 A20.out).mono ?_); (case side1 => repeat (first | (with_reducible first | exact HI0.out | apply IsS55.alloc | apply IsS55.drewN | apply IsS55.drew | apply IsS55.set_0 | apply IsS55.set_1 | apply IsS55.set_2) | exact HI0.out)); (case side2 => repeat (first | (with_reducible first | exact HB.out | apply below_alloc | apply pw_below_drewN | apply below_drew1 | refine below_set ?_ (IsS55.ge HI0.out)) | exact HB.out)); rintro e w22 ⟨rfl, hi, hb, hk⟩; have n0_ := Aside0.mk (KeepBut.trans (by repeat (first | (with_reducible first | exact HK.out | apply KeepBut.set_ | apply keep_drewN | apply keep_drew | apply keep_alloc) | exact HK.out)) hk (.inl rfl)); have n1_ := Aside0.mk (hb); have n2_ := Aside0.mk (hi); clear HK; clear HB; clear HI0; have HK := n0_; have HB := n1_; have HI0 := n2_; clear n0_ n1_ n2_; (try clear hb); (try clear hb2); (try clear hk); (try clear hi)))
            repeat (go_quiet (first | (go_at_call 49; (with_reducible refine (greenwoodref01_Reader_fail.calls g x1000_1 x1001_1 x1002_1 11 t238 t239 t240 t241 w0 _ ?side1 ?side2 A20.out).mono ?_); (case side1 => repeat (first | (with_reducible first | exact HI0.out | apply IsS55.alloc | apply IsS55.drewN | apply IsS55.drew | apply IsS55.set_0 | apply IsS55.set_1 | apply IsS55.set_2) | exact HI0.out)); (case side2 => repeat (first | (with_reducible first | exact HB.out | apply below_alloc | apply pw_below_drewN | apply below_drew1 | refine below_set ?_ (IsS55.ge HI0.out)) | exact HB.out)); rintro e w22 ⟨rfl, hi, hb, hk⟩; have n0_ := Aside0.mk (KeepBut.trans (by repeat (first | (with_reducible first | exact HK.out | apply KeepBut.set_ | apply keep_drewN | apply keep_drew | apply keep_alloc) | exact HK.out)) hk (.inl rfl)); have n1_ := Aside0.mk (hb); have n2_ := Aside0.mk (hi); clear HK; clear HB; clear HI0; have HK := n0_; have HB := n1_; have HI0 := n2_; clear n0_ n1_ n2_; (try clear hb); (try clear hb2); (try clear hk); (try clear hi))); try go_wp2_with (first | (go_at_call 49; (with_reducible refine (greenwoodref01_Reader_fail.calls g x1000_1 x1001_1 x1002_1 11 t238 t239 t240 t241 w0 _ ?side1 ?side2 A20.out).mono ?_); (case side1 => repeat (first | (with_reducible first | exact HI0.out | apply IsS55.alloc | apply IsS55.drewN | apply IsS55.drew | apply IsS55.set_0 | apply IsS55.set_1 | apply IsS55.set_2) | exact HI0.out)); (case side2 => repeat (first | (with_reducible first | exact HB.out | apply below_alloc | apply pw_below_drewN | apply below_drew1 | refine below_set ?_ (IsS55.ge HI0.out)) | exact HB.out)); rintro e w22 ⟨rfl, hi, hb, hk⟩; have n0_ := Aside0.mk (KeepBut.trans (by repeat (first | (with_reducible first | exact HK.out | apply KeepBut.set_ | apply keep_drewN | apply keep_drew | apply keep_alloc) | exact HK.out)) hk (.inl rfl)); have n1_ := Aside0.mk (hb); have n2_ := Aside0.mk (hi); clear HK; clear HB; clear HI0; have HK := n0_; have HB := n1_; have HI0 := n2_; clear n0_ n1_ n2_; (try clear hb); (try clear hb2); (try clear hk); (try clear hi))))
            go_ret
            exact ⟨by first | rfl | (simp [errW_none, errW_some] <;> rfl) | (simp only [← hji9]; first | rfl | (simp [errW_none, errW_some] <;> rfl)) | (simp [*, errW_none, errW_some] <;> rfl), by repeat (first | (with_reducible first | exact HI0.out | apply IsS55.alloc | apply IsS55.drewN | apply IsS55.drew | apply IsS55.set_0 | apply IsS55.set_1 | apply IsS55.set_2) | exact HI0.out), by repeat (first | (with_reducible first | exact HB.out | apply below_alloc | apply pw_below_drewN | apply below_drew1 | refine below_set ?_ (IsS55.ge HI0.out)) | exact HB.out), by repeat (first | (with_reducible first | exact HK.out | apply KeepBut.set_ | apply keep_drewN | apply keep_drew | apply keep_alloc) | exact HK.out)⟩
           ·rw [if_neg c19] at H
            have c19b0 : decide (1125899906842624 < (wrap64 (x3_1 + (wrap64 ((wrap64 (bt x1000_1 (ji9))) * x4_1))))) = false := decide_eq_false c19
            clear c19
            simp only [Option.some.injEq, Prod.mk.injEq] at H
            obtain ⟨rfl, rfl, rfl, rfl⟩ := H
            obtain ⟨HGz23, hgz23⟩ := HI0.out
            have hcz23_0 := cellS55_0 HGz23
            have hcz23_1 := cellS55_1 HGz23
            have hcz23_2 := cellS55_2 HGz23
            have hfz23_0 := blk_frozen HGz23 0
            have hfz23_1 := blk_frozen HGz23 1
            have hfz23_2 := blk_frozen HGz23 2
            clear HGz23 hgz23
            have p12 : 0 ≤ ((ji9) : Int) := of_decide_eq_true (by first | (with_reducible assumption) | assumption)
            have q12 : (ji9) < (x1000_1.size : Int) := of_decide_eq_true (by first | (with_reducible assumption) | assumption)
            have hx12 := bt_at x1000_1 (ji9)
            replace p12 := eq_true p12
            replace q12 := eq_true q12
            go_wp2
            repeat (go_quiet (fail); try go_wp2)
            go_ret
            exact ⟨by first | rfl | (simp [errW_none, errW_some] <;> rfl) | (simp only [← hji9]; first | rfl | (simp [errW_none, errW_some] <;> rfl)) | (simp [*, errW_none, errW_some] <;> rfl), by repeat (first | (with_reducible first | exact HI0.out | apply IsS55.alloc | apply IsS55.drewN | apply IsS55.drew | apply IsS55.set_0 | apply IsS55.set_1 | apply IsS55.set_2) | exact HI0.out), by repeat (first | (with_reducible first | exact HB.out | apply below_alloc | apply pw_below_drewN | apply below_drew1 | refine below_set ?_ (IsS55.ge HI0.out)) | exact HB.out), by repeat (first | (with_reducible first | exact HK.out | apply KeepBut.set_ | apply keep_drewN | apply keep_drew | apply keep_alloc) | exact HK.out)⟩
         ·rw [if_neg c14] at H
          have c14b0 : ((wrap64 (bt x1000_1 (ji9))) == 0) = false := beq_eq_false_iff_ne.mpr c14
          have c14b1 : ((wrap64 (bt x1000_1 (ji9))) != 0) = true := bne_iff_ne.mpr c14
          by_cases c24 : (wrap64 (x3_1 + (wrap64 ((wrap64 (bt x1000_1 (ji9))) * x4_1)))) > 1125899906842624
          ·rw [if_pos c24] at H
           have c24b0 : decide (1125899906842624 < (wrap64 (x3_1 + (wrap64 ((wrap64 (bt x1000_1 (ji9))) * x4_1))))) = true := decide_eq_true c24
           clear c24
           replace H := Option.bind_eq_some_iff.mp H
           obtain ⟨⟨t242, t243, t244, t245⟩, A250, H⟩ := H
           replace H : (some (t242, t243, t244, t245)) = some (r1, r2, r3, r4) := H
           have A25 := Aside0.mk A250
           clear A250
           simp only [Option.some.injEq, Prod.mk.injEq] at H
           obtain ⟨rfl, rfl, rfl, rfl⟩ := H
           obtain ⟨HGz26, hgz26⟩ := HI0.out
           have hcz26_0 := cellS55_0 HGz26
           have hcz26_1 := cellS55_1 HGz26
           have hcz26_2 := cellS55_2 HGz26
           have hfz26_0 := blk_frozen HGz26 0
           have hfz26_1 := blk_frozen HGz26 1
           have hfz26_2 := blk_frozen HGz26 2
           clear HGz26 hgz26
           have p12 : 0 ≤ ((ji9) : Int) := of_decide_eq_true (by first | (with_reducible assumption) | assumption)
           have q12 : (ji9) < (x1000_1.size : Int) := of_decide_eq_true (by first | (with_reducible assumption) | assumption)
           have hx12 := bt_at x1000_1 (ji9)
           replace p12 := eq_true p12
           replace q12 := eq_true q12
           go_wp2_with (first | (go_at_call 49; (with_reducible refine (greenwoodref01_Reader_fail.calls g x1000_1 x1001_1 x1002_1 11 t242 t243 t244 t245 w0 _ ?side1 ?side2 A25.out).mono ?_); (case side1 => repeat (first | (with_reducible first | exact HI0.out | apply IsS55.alloc | apply IsS55.drewN | apply IsS55.drew | apply IsS55.set_0 | apply IsS55.set_1 | apply IsS55.set_2) | exact HI0.out)); (case side2 => repeat (first | (with_reducible first | exact HB.out | apply below_alloc | apply pw_below_drewN | apply below_drew1 | refine below_set ?_ (IsS55.ge HI0.out)) | exact HB.out)); rintro e w27 ⟨rfl, hi, hb, hk⟩; have n0_ := Aside0.mk (KeepBut.trans (by repeat (first | (with_reducible first | exact HK.out | apply KeepBut.set_ | apply keep_drewN | apply keep_drew | apply keep_alloc) | exact HK.out)) hk (.inl rfl)); have n1_ := Aside0.mk (hb); have n2_ := Aside0.mk (hi); clear HK; clear HB; clear HI0; have HK := n0_; have HB := n1_; have HI0 := n2_; clear n0_ n1_ n2_; (try clear hb); (try clear hb2); (try clear hk); (try clear hi)))
           repeat (go_quiet (first | (go_at_call 49; (with_reducible refine (greenwoodref01_Reader_fail.calls g x1000_1 x1001_1 x1002_1 11 t242 t243 t244 t245 w0 _ ?side1 ?side2 A25.out).mono ?_); (case side1 => repeat (first | (with_reducible first | exact HI0.out | apply IsS55.alloc | apply IsS55.drewN | apply IsS55.drew | apply IsS55.set_0 | apply IsS55.set_1 | apply IsS55.set_2) | exact HI0.out)); (case side2 => repeat (first | (with_reducible first | exact HB.out | apply below_alloc | apply pw_below_drewN | apply below_drew1 | refine below_set ?_ (IsS55.ge HI0.out)) | exact HB.out)); rintro e w27 ⟨rfl, hi, hb, hk⟩; have n0_ := Aside0.mk (KeepBut.trans (by repeat (first | (with_reducible first | exact HK.out | apply KeepBut.set_ | apply keep_drewN | apply keep_drew | apply keep_alloc) | exact HK.out)) hk (.inl rfl)); have n1_ := Aside0.mk (hb); have n2_ := Aside0.mk (hi); clear HK; clear HB; clear HI0; have HK := n0_; have HB := n1_; have HI0 := n2_; clear n0_ n1_ n2_; (try clear hb); (try clear hb2); (try clear hk); (try clear hi))); try go_wp2_with (first | (go_at_call 49; (with_reducible refine (greenwoodref01_Reader_fail.calls g x1000_1 x1001_1 x1002_1 11 t242 t243 t244 t245 w0 _ ?side1 ?side2 A25.out).mono ?_); (case side1 => repeat (first | (with_reducible first | exact HI0.out | apply IsS55.alloc | apply IsS55.drewN | apply IsS55.drew | apply IsS55.set_0 | apply IsS55.set_1 | apply IsS55.set_2) | exact HI0.out)); (case side2 => repeat (first | (with_reducible first | exact HB.out | apply below_alloc | apply pw_below_drewN | apply below_drew1 | refine below_set ?_ (IsS55.ge HI0.out)) | exact HB.out)); rintro e w27 ⟨rfl, hi, hb, hk⟩; have n0_ := Aside0.mk (KeepBut.trans (by repeat (first | (with_reducible first | exact HK.out | apply KeepBut.set_ | apply keep_drewN | apply keep_drew | apply keep_alloc) | exact HK.out)) hk (.inl rfl)); have n1_ := Aside0.mk (hb); have n2_ := Aside0.mk (hi); clear HK; clear HB; clear HI0; have HK := n0_; have HB := n1_; have HI0 := n2_; clear n0_ n1_ n2_; (try clear hb); (try clear hb2); (try clear hk); (try clear hi))))
           go_ret
           exact ⟨by first | rfl | (simp [errW_none, errW_some] <;> rfl) | (simp only [← hji9]; first | rfl | (simp [errW_none, errW_some] <;> rfl)) | (simp [*, errW_none, errW_some] <;> rfl), by repeat (first | (with_reducible first | exact HI0.out | apply IsS55.alloc | apply IsS55.drewN | apply IsS55.drew | apply IsS55.set_0 | apply IsS55.set_1 | apply IsS55.set_2) | exact HI0.out), by repeat (first | (with_reducible first | exact HB.out | apply below_alloc | apply pw_below_drewN | apply below_drew1 | refine below_set ?_ (IsS55.ge HI0.out)) | exact HB.out), by repeat (first | (with_reducible first | exact HK.out | apply KeepBut.set_ | apply keep_drewN | apply keep_drew | apply keep_alloc) | exact HK.out)⟩
          ·rw [if_neg c24] at H
           have c24b0 : decide (1125899906842624 < (wrap64 (x3_1 + (wrap64 ((wrap64 (bt x1000_1 (ji9))) * x4_1))))) = false := decide_eq_false c24
           clear c24
           simp only [Option.some.injEq, Prod.mk.injEq] at H
           obtain ⟨rfl, rfl, rfl, rfl⟩ := H
           obtain ⟨HGz28, hgz28⟩ := HI0.out
           have hcz28_0 := cellS55_0 HGz28
           have hcz28_1 := cellS55_1 HGz28
           have hcz28_2 := cellS55_2 HGz28
           have hfz28_0 := blk_frozen HGz28 0
           have hfz28_1 := blk_frozen HGz28 1
           have hfz28_2 := blk_frozen HGz28 2
           clear HGz28 hgz28
           have p12 : 0 ≤ ((ji9) : Int) := of_decide_eq_true (by first | (with_reducible assumption) | assumption)
           have q12 : (ji9) < (x1000_1.size : Int) := of_decide_eq_true (by first | (with_reducible assumption) | assumption)
           have hx12 := bt_at x1000_1 (ji9)
           replace p12 := eq_true p12
           replace q12 := eq_true q12
           go_wp2
           repeat (go_quiet (fail); try go_wp2)
           go_ret
           exact ⟨by first | rfl | (simp [errW_none, errW_some] <;> rfl) | (simp only [← hji9]; first | rfl | (simp [errW_none, errW_some] <;> rfl)) | (simp [*, errW_none, errW_some] <;> rfl), by repeat (first | (with_reducible first | exact HI0.out | apply IsS55.alloc | apply IsS55.drewN | apply IsS55.drew | apply IsS55.set_0 | apply IsS55.set_1 | apply IsS55.set_2) | exact HI0.out), by repeat (first | (with_reducible first | exact HB.out | apply below_alloc | apply pw_below_drewN | apply below_drew1 | refine below_set ?_ (IsS55.ge HI0.out)) | exact HB.out), by repeat (first | (with_reducible first | exact HK.out | apply KeepBut.set_ | apply keep_drewN | apply keep_drew | apply keep_alloc) | exact HK.out)⟩
        ·rw [if_neg c13] at H
         have c13b0 : decide ((wrap64 (bt x1000_1 (ji9))) < 128) = false := decide_eq_false c13
         clear c13
         have H' := Aside0.mk H
         clear H
         obtain ⟨HGz29, hgz29⟩ := HI0.out
         have hcz29_0 := cellS55_0 HGz29
         have hcz29_1 := cellS55_1 HGz29
         have hcz29_2 := cellS55_2 HGz29
         have hfz29_0 := blk_frozen HGz29 0
         have hfz29_1 := blk_frozen HGz29 1
         have hfz29_2 := blk_frozen HGz29 2
         clear HGz29 hgz29
         have p12 : 0 ≤ ((ji9) : Int) := of_decide_eq_true (by first | (with_reducible assumption) | assumption)
         have q12 : (ji9) < (x1000_1.size : Int) := of_decide_eq_true (by first | (with_reducible assumption) | assumption)
         have hx12 := bt_at x1000_1 (ji9)
         replace p12 := eq_true p12
         replace q12 := eq_true q12
         go_wp2
         repeat (go_quiet (fail); try go_wp2)
         go_roundg k1
         case measure => have := HK1.out; omega
         case rel => exact ⟨(wrap64 (x3_1 + (wrap64 ((wrap64 ((wrap64 (bt x1000_1 (ji9))) - 128)) * x4_1)))), (wrap64 (x4_1 * 128)), (wrap64 (x5_1 + 1)), (x1000_1), (x1001_1), (x1002_1), (by first | rfl | (simp; done) | (simp only [← hji9] <;> (first | rfl | simp)) | (simp [*]; done)), (by first | rfl | (simp; done) | (simp [*]; done)), (by first | rfl | (simp; done) | (simp [*]; done)), H', ⟨by have := HK1.out; omega⟩, ⟨by repeat (first | (with_reducible first | exact HI0.out | apply IsS55.alloc | apply IsS55.drewN | apply IsS55.drew | apply IsS55.set_0 | apply IsS55.set_1 | apply IsS55.set_2) | exact HI0.out)⟩, ⟨by repeat (first | (with_reducible first | exact HK.out | apply KeepBut.set_ | apply keep_drewN | apply keep_drew | apply keep_alloc) | exact HK.out)⟩, ⟨by repeat (first | (with_reducible first | exact HB.out | apply below_alloc | apply pw_below_drewN | apply below_drew1 | refine below_set ?_ (IsS55.ge HI0.out)) | exact HB.out)⟩⟩
       ·rw [if_neg c11] at H
        exact absurd H (by simp)
      ·rw [if_neg c10] at H
       exact absurd H (by simp)
    ·rw [if_neg c4] at H
     have c4b0 : decide (x5_1 < 8) = false := decide_eq_false c4
     clear c4
     replace H := Option.bind_eq_some_iff.mp H
     obtain ⟨⟨t226, t227, t228, t229⟩, A300, H⟩ := H
     replace H : (some (t226, t227, t228, t229)) = some (r1, r2, r3, r4) := H
     have A30 := Aside0.mk A300
     clear A300
     simp only [Option.some.injEq, Prod.mk.injEq] at H
     obtain ⟨rfl, rfl, rfl, rfl⟩ := H
     go_wp2_with (first | (go_at_call 49; (with_reducible refine (greenwoodref01_Reader_fail.calls g x1000_1 x1001_1 x1002_1 11 t226 t227 t228 t229 w0 _ ?side1 ?side2 A30.out).mono ?_); (case side1 => repeat (first | (with_reducible first | exact HI0.out | apply IsS55.alloc | apply IsS55.drewN | apply IsS55.drew | apply IsS55.set_0 | apply IsS55.set_1 | apply IsS55.set_2) | exact HI0.out)); (case side2 => repeat (first | (with_reducible first | exact HB.out | apply below_alloc | apply pw_below_drewN | apply below_drew1 | refine below_set ?_ (IsS55.ge HI0.out)) | exact HB.out)); rintro e w31 ⟨rfl, hi, hb, hk⟩; have n0_ := Aside0.mk (KeepBut.trans (by repeat (first | (with_reducible first | exact HK.out | apply KeepBut.set_ | apply keep_drewN | apply keep_drew | apply keep_alloc) | exact HK.out)) hk (.inl rfl)); have n1_ := Aside0.mk (hb); have n2_ := Aside0.mk (hi); clear HK; clear HB; clear HI0; have HK := n0_; have HB := n1_; have HI0 := n2_; clear n0_ n1_ n2_; (try clear hb); (try clear hb2); (try clear hk); (try clear hi)))
     repeat (go_quiet (first | (go_at_call 49; (with_reducible refine (greenwoodref01_Reader_fail.calls g x1000_1 x1001_1 x1002_1 11 t226 t227 t228 t229 w0 _ ?side1 ?side2 A30.out).mono ?_); (case side1 => repeat (first | (with_reducible first | exact HI0.out | apply IsS55.alloc | apply IsS55.drewN | apply IsS55.drew | apply IsS55.set_0 | apply IsS55.set_1 | apply IsS55.set_2) | exact HI0.out)); (case side2 => repeat (first | (with_reducible first | exact HB.out | apply below_alloc | apply pw_below_drewN | apply below_drew1 | refine below_set ?_ (IsS55.ge HI0.out)) | exact HB.out)); rintro e w31 ⟨rfl, hi, hb, hk⟩; have n0_ := Aside0.mk (KeepBut.trans (by repeat (first | (with_reducible first | exact HK.out | apply KeepBut.set_ | apply keep_drewN | apply keep_drew | apply keep_alloc) | exact HK.out)) hk (.inl rfl)); have n1_ := Aside0.mk (hb); have n2_ := Aside0.mk (hi); clear HK; clear HB; clear HI0; have HK := n0_; have HB := n1_; have HI0 := n2_; clear n0_ n1_ n2_; (try clear hb); (try clear hb2); (try clear hk); (try clear hi))); try go_wp2_with (first | (go_at_call 49; (with_reducible refine (greenwoodref01_Reader_fail.calls g x1000_1 x1001_1 x1002_1 11 t226 t227 t228 t229 w0 _ ?side1 ?side2 A30.out).mono ?_); (case side1 => repeat (first | (with_reducible first | exact HI0.out | apply IsS55.alloc | apply IsS55.drewN | apply IsS55.drew | apply IsS55.set_0 | apply IsS55.set_1 | apply IsS55.set_2) | exact HI0.out)); (case side2 => repeat (first | (with_reducible first | exact HB.out | apply below_alloc | apply pw_below_drewN | apply below_drew1 | refine below_set ?_ (IsS55.ge HI0.out)) | exact HB.out)); rintro e w31 ⟨rfl, hi, hb, hk⟩; have n0_ := Aside0.mk (KeepBut.trans (by repeat (first | (with_reducible first | exact HK.out | apply KeepBut.set_ | apply keep_drewN | apply keep_drew | apply keep_alloc) | exact HK.out)) hk (.inl rfl)); have n1_ := Aside0.mk (hb); have n2_ := Aside0.mk (hi); clear HK; clear HB; clear HI0; have HK := n0_; have HB := n1_; have HI0 := n2_; clear n0_ n1_ n2_; (try clear hb); (try clear hb2); (try clear hk); (try clear hi))))
     go_ret
     exact ⟨by first | rfl | (simp [errW_none, errW_some] <;> rfl) | (simp [*, errW_none, errW_some] <;> rfl), by repeat (first | (with_reducible first | exact HI0.out | apply IsS55.alloc | apply IsS55.drewN | apply IsS55.drew | apply IsS55.set_0 | apply IsS55.set_1 | apply IsS55.set_2) | exact HI0.out), by repeat (first | (with_reducible first | exact HB.out | apply below_alloc | apply pw_below_drewN | apply below_drew1 | refine below_set ?_ (IsS55.ge HI0.out)) | exact HB.out), by repeat (first | (with_reducible first | exact HK.out | apply KeepBut.set_ | apply keep_drewN | apply keep_drew | apply keep_alloc) | exact HK.out)⟩
 ·rw [if_neg c2] at H
  have c2b0 : (s0_2 == 0) = false := beq_eq_false_iff_ne.mpr c2
  have c2b1 : (s0_2 != 0) = true := bne_iff_ne.mpr c2
  simp only [Option.some.injEq, Prod.mk.injEq] at H
  obtain ⟨rfl, rfl, rfl, rfl⟩ := H
  obtain ⟨HGz32, hgz32⟩ := HI0.out
  have hcz32_0 := cellS55_0 HGz32
  have hcz32_1 := cellS55_1 HGz32
  have hcz32_2 := cellS55_2 HGz32
  have hfz32_0 := blk_frozen HGz32 0
  have hfz32_1 := blk_frozen HGz32 1
  have hfz32_2 := blk_frozen HGz32 2
  clear HGz32 hgz32
  go_enter Tryd.func19, Tryd.ntmps19
  go_wp2
  repeat (go_quiet (fail); try go_wp2)
  go_ret
  exact ⟨by first | rfl | (simp [errW_none, errW_some] <;> rfl) | (simp [*, errW_none, errW_some] <;> rfl), by repeat (first | (with_reducible first | exact HI0.out | apply IsS55.alloc | apply IsS55.drewN | apply IsS55.drew | apply IsS55.set_0 | apply IsS55.set_1 | apply IsS55.set_2) | exact HI0.out), by repeat (first | (with_reducible first | exact HB.out | apply below_alloc | apply pw_below_drewN | apply below_drew1 | refine below_set ?_ (IsS55.ge HI0.out)) | exact HB.out), by repeat (first | (with_reducible first | exact HK.out | apply KeepBut.set_ | apply keep_drewN | apply keep_drew | apply keep_alloc) | exact HK.out)⟩

end Go.Proofs.YtlekdhejgdfnpaaDoor.P
namespace Go.Proofs.YtlekdhejgdfnpaaDoor.P
open Go.RowKit Go.Proofs.YtlekdhejgdfnpaaDoorW.PrintWords Go.Proofs.YtlekdhejgdfnpaaDoorW.PrintLast Go.Proofs.YtlekdhejgdfnpaaDoorW.PrintMore
attribute [local go_sem] max2_int min2_int max_two min_two max_three min_three max_four min_four   -- for this text's walks alone

/-! ### greenwoodref23_count: function 21 -/
def greenwoodref23_count.j0 : Nat → Int → Int → Bool → ByteArray → Int → Int → Option (Int × ByteArray × Int × Int)
 | 0, _, _, _, _, _, _ => none
 | k + 1, x5, x6, x22, x1000, x1001, x1002 => if x22 = true then (if 12 = 0 then (some (x6, x1000, x5, 12)) else (some (0, x1000, x5, 12))) else (if x1002 = 0 then (some (x6, x1000, x1001, x1002)) else (some (0, x1000, x1001, x1002)))
def greenwoodref23_count.f (k : Nat) (s0_0 : ByteArray) (s0_1 : Int) (s0_2 : Int) (a1 : Int) : Option (Int × ByteArray × Int × Int) := (greenwoodref01_Reader_Num.f k s0_0 s0_1 s0_2).bind fun bt246 => (if bt246.2.2.2 = 0 then (greenwoodref23_count.j0 k s0_1 bt246.1 (decide (bt246.1 > a1)) bt246.2.1 bt246.2.2.1 bt246.2.2.2) else (greenwoodref23_count.j0 k s0_1 bt246.1 false bt246.2.1 bt246.2.2.1 bt246.2.2.2))
set_option maxHeartbeats 8000000 in
set_option maxRecDepth 100000 in
theorem greenwoodref23_count.calls (k : Nat) (g : Nat) (s0_0 : ByteArray) (s0_1 : Int) (s0_2 : Int) (a1 : Int) (r1 : Int) (r2 : ByteArray) (r3 : Int) (r4 : Int) (w0 w : World) (hI : IsS55 w0 w g s0_0 s0_1 s0_2) (hB : Below w0.heap.size w0 w) (h : greenwoodref23_count.f k s0_0 s0_1 s0_2 a1 = some (r1, r2, r3, r4)) :
 Calls Tryd.prog 21 #[.pointer (some ⟨g, 0, none⟩), .int .i64 a1] w fun e w' => e = .returned (.int .i64 r1) ∧ IsS55 w0 w' g r2 r3 r4 ∧ Below w0.heap.size w0 w' ∧ KeepBut w w' g none := by
 have HI0 := Aside0.mk hI
 have HK := Aside0.mk (KeepBut.refl w g none)
 have HL := Aside0.mk hB.size
 clear hI
 have HW0 := Aside0.mk hB.size
 have HB := Aside0.mk hB
 clear hB
 have H : ((greenwoodref01_Reader_Num.f k s0_0 s0_1 s0_2).bind fun bt246 => (if bt246.2.2.2 = 0 then (greenwoodref23_count.j0 k s0_1 bt246.1 (decide (bt246.1 > a1)) bt246.2.1 bt246.2.2.1 bt246.2.2.2) else (greenwoodref23_count.j0 k s0_1 bt246.1 false bt246.2.1 bt246.2.2.1 bt246.2.2.2))) = some (r1, r2, r3, r4) := h
 clear h
 replace H := Option.bind_eq_some_iff.mp H
 obtain ⟨⟨t246, t247, t248, t249⟩, A30, H⟩ := H
 replace H : (if t249 = 0 then (greenwoodref23_count.j0 k s0_1 t246 (decide (t246 > a1)) t247 t248 t249) else (greenwoodref23_count.j0 k s0_1 t246 false t247 t248 t249)) = some (r1, r2, r3, r4) := H
 have A3 := Aside0.mk A30
 clear A30
 have HC4 := Aside0.mk H
 clear H
 obtain ⟨HGz5, hgz5⟩ := HI0.out
 have hcz5_0 := cellS55_0 HGz5
 have hcz5_1 := cellS55_1 HGz5
 have hcz5_2 := cellS55_2 HGz5
 have hfz5_0 := blk_frozen HGz5 0
 have hfz5_1 := blk_frozen HGz5 1
 have hfz5_2 := blk_frozen HGz5 2
 clear HGz5 hgz5
 go_enter Tryd.func21, Tryd.ntmps21
 go_upto_region 3 with (first | ((with_reducible refine gate_callee (f := 19) rfl ?_); refine goesL_ (some 12) rfl rfl Tryd.func19 (by kernel_rfl) rfl #[.pointer (some ⟨g, 0, none⟩)] rfl (by (try simp only [List.map_toArray, List.map_cons, List.map_nil]); first | done | rfl | (simp only [List.length_drop, List.length_take]; rfl)) ?_; (with_reducible refine (greenwoodref01_Reader_Num.calls k g s0_0 s0_1 s0_2 t246 t247 t248 t249 w0 _ ?side1 ?side2 A3.out).mono ?_); (case side1 => repeat (first | (with_reducible first | exact HI0.out | apply IsS55.alloc | apply IsS55.drewN | apply IsS55.drew | apply IsS55.set_0 | apply IsS55.set_1 | apply IsS55.set_2) | exact HI0.out)); (case side2 => repeat (first | (with_reducible first | exact HB.out | apply below_alloc | apply pw_below_drewN | apply below_drew1 | refine below_set ?_ (IsS55.ge HI0.out)) | exact HB.out)); rintro e w6 ⟨rfl, hi, hb, hk⟩; refine ⟨_, rfl, ?_⟩; have n0_ := Aside0.mk (KeepBut.trans (by repeat (first | (with_reducible first | exact HK.out | apply KeepBut.set_ | apply keep_drewN | apply keep_drew | apply keep_alloc) | exact HK.out)) hk (.inl rfl)); have n1_ := Aside0.mk (hb); have n2_ := Aside0.mk (hi); clear HK; clear HB; clear HI0; have HK := n0_; have HB := n1_; have HI0 := n2_; clear n0_ n1_ n2_; (try clear hb); (try clear hb2); (try clear hk); (try clear hi)))
 (try simp only [Act.put, List.setIfInBounds_toArray, List.set_cons_zero, List.set_cons_succ])
 go_cut [22] (fun v22 wc => ∃ (kq : Nat) (x22_3 : Bool), v22 = .bool x22_3 ∧ Aside0 (greenwoodref23_count.j0 kq s0_1 t246 x22_3 t247 t248 t249 = some (r1, r2, r3, r4)) ∧ Aside0 (kq ≤ k) ∧ Aside0 (IsS55 w0 wc g t247 t248 t249) ∧ Aside0 (KeepBut w wc g none) ∧ Aside0 (Below w0.heap.size w0 wc))
 case first =>
  have H := HC4.out
  clear HC4
  by_cases c7 : t249 = 0
  ·rw [if_pos c7] at H
   have c7b0 : (t249 == 0) = true := beq_iff_eq.mpr c7
   have c7b1 : (t249 != 0) = false := bne_eq_false_iff_eq.mpr c7
   clear c7
   (first | rw [c7b0] | (simp only [i64_w, i32_w]; rw [c7b0]) | skip)
   have H' := Aside0.mk H
   clear H
   obtain ⟨HGz8, hgz8⟩ := HI0.out
   have hcz8_0 := cellS55_0 HGz8
   have hcz8_1 := cellS55_1 HGz8
   have hcz8_2 := cellS55_2 HGz8
   have hfz8_0 := blk_frozen HGz8 0
   have hfz8_1 := blk_frozen HGz8 1
   have hfz8_2 := blk_frozen HGz8 2
   clear HGz8 hgz8
   go_wp2
   go_meet
   case rel => exact ⟨_, (decide (t246 > a1)), (by first | rfl | (simp; done) | (simp [*]; done)), H', ⟨by first | omega | exact Nat.le_refl _⟩, ⟨by repeat (first | (with_reducible first | exact HI0.out | apply IsS55.alloc | apply IsS55.drewN | apply IsS55.drew | apply IsS55.set_0 | apply IsS55.set_1 | apply IsS55.set_2) | exact HI0.out)⟩, ⟨by repeat (first | (with_reducible first | exact HK.out | apply KeepBut.set_ | apply keep_drewN | apply keep_drew | apply keep_alloc) | exact HK.out)⟩, ⟨by repeat (first | (with_reducible first | exact HB.out | apply below_alloc | apply pw_below_drewN | apply below_drew1 | refine below_set ?_ (IsS55.ge HI0.out)) | exact HB.out)⟩⟩
  ·rw [if_neg c7] at H
   have c7b0 : (t249 == 0) = false := beq_eq_false_iff_ne.mpr c7
   have c7b1 : (t249 != 0) = true := bne_iff_ne.mpr c7
   (first | rw [c7b0] | (simp only [i64_w, i32_w]; rw [c7b0]) | skip)
   have H' := Aside0.mk H
   clear H
   obtain ⟨HGz9, hgz9⟩ := HI0.out
   have hcz9_0 := cellS55_0 HGz9
   have hcz9_1 := cellS55_1 HGz9
   have hcz9_2 := cellS55_2 HGz9
   have hfz9_0 := blk_frozen HGz9 0
   have hfz9_1 := blk_frozen HGz9 1
   have hfz9_2 := blk_frozen HGz9 2
   clear HGz9 hgz9
   go_wp2
   go_meet
   case rel => exact ⟨_, (false), (by first | rfl | (simp; done) | (simp [*]; done)), H', ⟨by first | omega | exact Nat.le_refl _⟩, ⟨by repeat (first | (with_reducible first | exact HI0.out | apply IsS55.alloc | apply IsS55.drewN | apply IsS55.drew | apply IsS55.set_0 | apply IsS55.set_1 | apply IsS55.set_2) | exact HI0.out)⟩, ⟨by repeat (first | (with_reducible first | exact HK.out | apply KeepBut.set_ | apply keep_drewN | apply keep_drew | apply keep_alloc) | exact HK.out)⟩, ⟨by repeat (first | (with_reducible first | exact HB.out | apply below_alloc | apply pw_below_drewN | apply below_drew1 | refine below_set ?_ (IsS55.ge HI0.out)) | exact HB.out)⟩⟩
 case rest =>
  clear HC4
  try clear c1
  try clear c2
  try clear p2
  try clear c7
  try clear c7b0
  try clear c7b1
  try clear hcz5_0
  try clear hcz5_1
  try clear hcz5_2
  try clear hcz8_0
  try clear hcz8_1
  try clear hcz8_2
  try clear hcz9_0
  try clear hcz9_1
  try clear hcz9_2
  try clear hfz5_0
  try clear hfz5_1
  try clear hfz5_2
  try clear hfz8_0
  try clear hfz8_1
  try clear hfz8_2
  try clear hfz9_0
  try clear hfz9_1
  try clear hfz9_2
  obtain ⟨kq, x22_3, rfl, HA, HJ3, HI0, HK, HB⟩ := hcut
  cases kq with
  | zero => exact absurd HA.out (by simp [greenwoodref23_count.j0])
  | succ kj3 =>
   have H := HA.out
   clear HA
   simp only [greenwoodref23_count.j0] at H
   by_cases c10 : x22_3 = true
   ·subst c10
    have H1 : (if 12 = 0 then (some (t246, t247, s0_1, 12)) else (some (0, t247, s0_1, 12))) = some (r1, r2, r3, r4) := by rw [if_pos rfl] at H; exact H
    clear H
    have H := H1
    clear H1
    by_cases c11 : 12 = 0
    ·exact absurd c11 (by decide)
    ·rw [if_neg c11] at H
     have c11b0 : (12 == 0) = false := beq_eq_false_iff_ne.mpr c11
     have c11b1 : (12 != 0) = true := bne_iff_ne.mpr c11
     simp only [Option.some.injEq, Prod.mk.injEq] at H
     obtain ⟨rfl, rfl, rfl, rfl⟩ := H
     obtain ⟨HGz13, hgz13⟩ := HI0.out
     have hcz13_0 := cellS55_0 HGz13
     have hcz13_1 := cellS55_1 HGz13
     have hcz13_2 := cellS55_2 HGz13
     have hfz13_0 := blk_frozen HGz13 0
     have hfz13_1 := blk_frozen HGz13 1
     have hfz13_2 := blk_frozen HGz13 2
     clear HGz13 hgz13
     go_wp2
     go_ret
     exact ⟨by first | rfl | (simp [errW_none, errW_some] <;> rfl) | (simp [*, errW_none, errW_some] <;> rfl), by repeat (first | (with_reducible first | exact HI0.out | apply IsS55.alloc | apply IsS55.drewN | apply IsS55.drew | apply IsS55.set_0 | apply IsS55.set_1 | apply IsS55.set_2) | exact HI0.out), by repeat (first | (with_reducible first | exact HB.out | apply below_alloc | apply pw_below_drewN | apply below_drew1 | refine below_set ?_ (IsS55.ge HI0.out)) | exact HB.out), by repeat (first | (with_reducible first | exact HK.out | apply KeepBut.set_ | apply keep_drewN | apply keep_drew | apply keep_alloc) | exact HK.out)⟩
   ·replace c10 := Bool.eq_false_iff.mpr c10
    subst c10
    have H1 : (if t249 = 0 then (some (t246, t247, t248, t249)) else (some (0, t247, t248, t249))) = some (r1, r2, r3, r4) := by rw [if_neg (show ¬ (false = true) by decide)] at H; exact H
    clear H
    have H := H1
    clear H1
    by_cases c14 : t249 = 0
    ·rw [if_pos c14] at H
     have c14b0 : (t249 == 0) = true := beq_iff_eq.mpr c14
     have c14b1 : (t249 != 0) = false := bne_eq_false_iff_eq.mpr c14
     clear c14
     simp only [Option.some.injEq, Prod.mk.injEq] at H
     obtain ⟨rfl, rfl, rfl, rfl⟩ := H
     obtain ⟨HGz15, hgz15⟩ := HI0.out
     have hcz15_0 := cellS55_0 HGz15
     have hcz15_1 := cellS55_1 HGz15
     have hcz15_2 := cellS55_2 HGz15
     have hfz15_0 := blk_frozen HGz15 0
     have hfz15_1 := blk_frozen HGz15 1
     have hfz15_2 := blk_frozen HGz15 2
     clear HGz15 hgz15
     go_wp2
     go_ret
     exact ⟨by first | rfl | (simp [errW_none, errW_some] <;> rfl) | (simp [*, errW_none, errW_some] <;> rfl), by repeat (first | (with_reducible first | exact HI0.out | apply IsS55.alloc | apply IsS55.drewN | apply IsS55.drew | apply IsS55.set_0 | apply IsS55.set_1 | apply IsS55.set_2) | exact HI0.out), by repeat (first | (with_reducible first | exact HB.out | apply below_alloc | apply pw_below_drewN | apply below_drew1 | refine below_set ?_ (IsS55.ge HI0.out)) | exact HB.out), by repeat (first | (with_reducible first | exact HK.out | apply KeepBut.set_ | apply keep_drewN | apply keep_drew | apply keep_alloc) | exact HK.out)⟩
    ·rw [if_neg c14] at H
     have c14b0 : (t249 == 0) = false := beq_eq_false_iff_ne.mpr c14
     have c14b1 : (t249 != 0) = true := bne_iff_ne.mpr c14
     simp only [Option.some.injEq, Prod.mk.injEq] at H
     obtain ⟨rfl, rfl, rfl, rfl⟩ := H
     obtain ⟨HGz16, hgz16⟩ := HI0.out
     have hcz16_0 := cellS55_0 HGz16
     have hcz16_1 := cellS55_1 HGz16
     have hcz16_2 := cellS55_2 HGz16
     have hfz16_0 := blk_frozen HGz16 0
     have hfz16_1 := blk_frozen HGz16 1
     have hfz16_2 := blk_frozen HGz16 2
     clear HGz16 hgz16
     go_wp2
     go_ret
     exact ⟨by first | rfl | (simp [errW_none, errW_some] <;> rfl) | (simp [*, errW_none, errW_some] <;> rfl), by repeat (first | (with_reducible first | exact HI0.out | apply IsS55.alloc | apply IsS55.drewN | apply IsS55.drew | apply IsS55.set_0 | apply IsS55.set_1 | apply IsS55.set_2) | exact HI0.out), by repeat (first | (with_reducible first | exact HB.out | apply below_alloc | apply pw_below_drewN | apply below_drew1 | refine below_set ?_ (IsS55.ge HI0.out)) | exact HB.out), by repeat (first | (with_reducible first | exact HK.out | apply KeepBut.set_ | apply keep_drewN | apply keep_drew | apply keep_alloc) | exact HK.out)⟩

/-! ### greenwoodref01_Reader_End: function 23 -/
def greenwoodref01_Reader_End.f (s0_0 : ByteArray) (s0_1 : Int) (s0_2 : Int) : Option (Int × Int × ByteArray × Int × Int) := if s0_2 = 0 then (if s0_1 < (s0_0.size : Int) then (some (13, s0_1, s0_0, s0_1, s0_2)) else (some (s0_2, s0_1, s0_0, s0_1, s0_2))) else (some (s0_2, s0_1, s0_0, s0_1, s0_2))
set_option maxHeartbeats 8000000 in
set_option maxRecDepth 100000 in
theorem greenwoodref01_Reader_End.calls (g : Nat) (s0_0 : ByteArray) (s0_1 : Int) (s0_2 : Int) (r1 : Int) (r2 : Int) (r3 : ByteArray) (r4 : Int) (r5 : Int) (w0 w : World) (hI : IsS55 w0 w g s0_0 s0_1 s0_2) (hB : Below w0.heap.size w0 w) (h : greenwoodref01_Reader_End.f s0_0 s0_1 s0_2 = some (r1, r2, r3, r4, r5)) :
 Calls Tryd.prog 23 #[.pointer (some ⟨g, 0, none⟩)] w fun e w' => e = .returned (.tuple #[.int .i64 r1, .int .i64 r2]) ∧ IsS55 w0 w' g r3 r4 r5 ∧ Below w0.heap.size w0 w' ∧ KeepBut w w' g none := by
 have HI0 := Aside0.mk hI
 have HK := Aside0.mk (KeepBut.refl w g none)
 have HL := Aside0.mk hB.size
 clear hI
 have HW0 := Aside0.mk hB.size
 have HB := Aside0.mk hB
 clear hB
 have H : (if s0_2 = 0 then (if s0_1 < (s0_0.size : Int) then (some (13, s0_1, s0_0, s0_1, s0_2)) else (some (s0_2, s0_1, s0_0, s0_1, s0_2))) else (some (s0_2, s0_1, s0_0, s0_1, s0_2))) = some (r1, r2, r3, r4, r5) := h
 clear h
 by_cases c2 : s0_2 = 0
 ·rw [if_pos c2] at H
  have c2b0 : (s0_2 == 0) = true := beq_iff_eq.mpr c2
  have c2b1 : (s0_2 != 0) = false := bne_eq_false_iff_eq.mpr c2
  clear c2
  by_cases c3 : s0_1 < (s0_0.size : Int)
  ·rw [if_pos c3] at H
   have c3b0 : decide (s0_1 < (s0_0.size : Int)) = true := decide_eq_true c3
   clear c3
   simp only [Option.some.injEq, Prod.mk.injEq] at H
   obtain ⟨rfl, rfl, rfl, rfl, rfl⟩ := H
   obtain ⟨HGz4, hgz4⟩ := HI0.out
   have hcz4_0 := cellS55_0 HGz4
   have hcz4_1 := cellS55_1 HGz4
   have hcz4_2 := cellS55_2 HGz4
   have hfz4_0 := blk_frozen HGz4 0
   have hfz4_1 := blk_frozen HGz4 1
   have hfz4_2 := blk_frozen HGz4 2
   clear HGz4 hgz4
   go_enter Tryd.func23, Tryd.ntmps23
   go_wp2
   repeat (go_quiet (fail); try go_wp2)
   go_ret2
   exact ⟨by first | rfl | (simp [errW_none, errW_some] <;> rfl) | (simp [*, errW_none, errW_some] <;> rfl), by repeat (first | (with_reducible first | exact HI0.out | apply IsS55.alloc | apply IsS55.drewN | apply IsS55.drew | apply IsS55.set_0 | apply IsS55.set_1 | apply IsS55.set_2) | exact HI0.out), by repeat (first | (with_reducible first | exact HB.out | apply below_alloc | apply pw_below_drewN | apply below_drew1 | refine below_set ?_ (IsS55.ge HI0.out)) | exact HB.out), by repeat (first | (with_reducible first | exact HK.out | apply KeepBut.set_ | apply keep_drewN | apply keep_drew | apply keep_alloc) | exact HK.out)⟩
  ·rw [if_neg c3] at H
   have c3b0 : decide (s0_1 < (s0_0.size : Int)) = false := decide_eq_false c3
   clear c3
   simp only [Option.some.injEq, Prod.mk.injEq] at H
   obtain ⟨rfl, rfl, rfl, rfl, rfl⟩ := H
   obtain ⟨HGz5, hgz5⟩ := HI0.out
   have hcz5_0 := cellS55_0 HGz5
   have hcz5_1 := cellS55_1 HGz5
   have hcz5_2 := cellS55_2 HGz5
   have hfz5_0 := blk_frozen HGz5 0
   have hfz5_1 := blk_frozen HGz5 1
   have hfz5_2 := blk_frozen HGz5 2
   clear HGz5 hgz5
   go_enter Tryd.func23, Tryd.ntmps23
   go_wp2
   repeat (go_quiet (fail); try go_wp2)
   go_ret2
   exact ⟨by first | rfl | (simp [errW_none, errW_some] <;> rfl) | (simp [*, errW_none, errW_some] <;> rfl), by repeat (first | (with_reducible first | exact HI0.out | apply IsS55.alloc | apply IsS55.drewN | apply IsS55.drew | apply IsS55.set_0 | apply IsS55.set_1 | apply IsS55.set_2) | exact HI0.out), by repeat (first | (with_reducible first | exact HB.out | apply below_alloc | apply pw_below_drewN | apply below_drew1 | refine below_set ?_ (IsS55.ge HI0.out)) | exact HB.out), by repeat (first | (with_reducible first | exact HK.out | apply KeepBut.set_ | apply keep_drewN | apply keep_drew | apply keep_alloc) | exact HK.out)⟩
 ·rw [if_neg c2] at H
  have c2b0 : (s0_2 == 0) = false := beq_eq_false_iff_ne.mpr c2
  have c2b1 : (s0_2 != 0) = true := bne_iff_ne.mpr c2
  simp only [Option.some.injEq, Prod.mk.injEq] at H
  obtain ⟨rfl, rfl, rfl, rfl, rfl⟩ := H
  obtain ⟨HGz6, hgz6⟩ := HI0.out
  have hcz6_0 := cellS55_0 HGz6
  have hcz6_1 := cellS55_1 HGz6
  have hcz6_2 := cellS55_2 HGz6
  have hfz6_0 := blk_frozen HGz6 0
  have hfz6_1 := blk_frozen HGz6 1
  have hfz6_2 := blk_frozen HGz6 2
  clear HGz6 hgz6
  go_enter Tryd.func23, Tryd.ntmps23
  go_wp2
  repeat (go_quiet (fail); try go_wp2)
  go_ret2
  exact ⟨by first | rfl | (simp [errW_none, errW_some] <;> rfl) | (simp [*, errW_none, errW_some] <;> rfl), by repeat (first | (with_reducible first | exact HI0.out | apply IsS55.alloc | apply IsS55.drewN | apply IsS55.drew | apply IsS55.set_0 | apply IsS55.set_1 | apply IsS55.set_2) | exact HI0.out), by repeat (first | (with_reducible first | exact HB.out | apply below_alloc | apply pw_below_drewN | apply below_drew1 | refine below_set ?_ (IsS55.ge HI0.out)) | exact HB.out), by repeat (first | (with_reducible first | exact HK.out | apply KeepBut.set_ | apply keep_drewN | apply keep_drew | apply keep_alloc) | exact HK.out)⟩

/-! ### greenwoodref01_Reader_Nums: function 50 -/
mutual
def greenwoodref01_Reader_Nums.j0 : Nat → Int → Int → Bool → ByteArray → Int → Int → Option (List Int × ByteArray × Int × Int)
 | 0, _, _, _, _, _, _ => none
 | k + 1, x5, x6, x24, x1000, x1001, x1002 => if x24 = true then (greenwoodref01_Reader_Nums.j1 k x6 x1000 x5 12) else (greenwoodref01_Reader_Nums.j1 k x6 x1000 x1001 x1002)
def greenwoodref01_Reader_Nums.j1 : Nat → Int → ByteArray → Int → Int → Option (List Int × ByteArray × Int × Int)
 | 0, _, _, _, _ => none
 | k + 1, x6, x1000, x1001, x1002 => greenwoodref01_Reader_Nums.l0 k x6 (([] : List Int)) 0 x1000 x1001 x1002
def greenwoodref01_Reader_Nums.l0 : Nat → Int → List Int → Int → ByteArray → Int → Int → Option (List Int × ByteArray × Int × Int)
 | 0, _, _, _, _, _, _ => none
 | k + 1, x6, x7, x8, x1000, x1001, x1002 => if x8 < x6 then (if x1002 = 0 then ((greenwoodref01_Reader_Num.f k x1000 x1001 x1002).bind fun bt257 => (if x7.length < 17592186044416 then (greenwoodref01_Reader_Nums.l0 k x6 (x7 ++ [bt257.1]) (wrap64 (x8 + 1)) bt257.2.1 bt257.2.2.1 bt257.2.2.2) else (none))) else (some (([] : List Int), x1000, x1001, x1002))) else (if x1002 = 0 then (some (x7, x1000, x1001, x1002)) else (some (([] : List Int), x1000, x1001, x1002)))
end
def greenwoodref01_Reader_Nums.f (k : Nat) (s0_0 : ByteArray) (s0_1 : Int) (s0_2 : Int) (a1 : Int) : Option (List Int × ByteArray × Int × Int) := (greenwoodref01_Reader_Num.f k s0_0 s0_1 s0_2).bind fun bt250 => (if bt250.2.2.2 = 0 then (greenwoodref01_Reader_Nums.j0 k s0_1 bt250.1 (decide (bt250.1 > a1)) bt250.2.1 bt250.2.2.1 bt250.2.2.2) else (greenwoodref01_Reader_Nums.j0 k s0_1 bt250.1 false bt250.2.1 bt250.2.2.1 bt250.2.2.2))
set_option maxHeartbeats 8000000 in
set_option maxRecDepth 100000 in
theorem greenwoodref01_Reader_Nums.calls (k : Nat) (g : Nat) (s0_0 : ByteArray) (s0_1 : Int) (s0_2 : Int) (a1 : Int) (r1 : List Int) (r2 : ByteArray) (r3 : Int) (r4 : Int) (w0 w : World) (hI : IsS55 w0 w g s0_0 s0_1 s0_2) (hB : Below w0.heap.size w0 w) (h : greenwoodref01_Reader_Nums.f k s0_0 s0_1 s0_2 a1 = some (r1, r2, r3, r4)) :
 Calls Tryd.prog 50 #[.pointer (some ⟨g, 0, none⟩), .int .i64 a1] w fun e w' => ∃ v0_ : Value, e = .returned (v0_) ∧ Kd.R (Kd.int .i64) 3 w' w.heap.size (fun _ => True) v0_ r1 ∧ IsS55 w0 w' g r2 r3 r4 ∧ Below w0.heap.size w0 w' ∧ KeepBut w w' g none := by
 have HI0 := Aside0.mk hI
 have HK := Aside0.mk (KeepBut.refl w g none)
 have HL := Aside0.mk hB.size
 clear hI
 have HW0 := Aside0.mk hB.size
 have HB := Aside0.mk hB
 clear hB
 have H : ((greenwoodref01_Reader_Num.f k s0_0 s0_1 s0_2).bind fun bt250 => (if bt250.2.2.2 = 0 then (greenwoodref01_Reader_Nums.j0 k s0_1 bt250.1 (decide (bt250.1 > a1)) bt250.2.1 bt250.2.2.1 bt250.2.2.2) else (greenwoodref01_Reader_Nums.j0 k s0_1 bt250.1 false bt250.2.1 bt250.2.2.1 bt250.2.2.2))) = some (r1, r2, r3, r4) := h
 clear h
 replace H := Option.bind_eq_some_iff.mp H
 obtain ⟨⟨t250, t251, t252, t253⟩, A30, H⟩ := H
 replace H : (if t253 = 0 then (greenwoodref01_Reader_Nums.j0 k s0_1 t250 (decide (t250 > a1)) t251 t252 t253) else (greenwoodref01_Reader_Nums.j0 k s0_1 t250 false t251 t252 t253)) = some (r1, r2, r3, r4) := H
 have A3 := Aside0.mk A30
 clear A30
 have HC4 := Aside0.mk H
 clear H
 obtain ⟨HGz5, hgz5⟩ := HI0.out
 have hcz5_0 := cellS55_0 HGz5
 have hcz5_1 := cellS55_1 HGz5
 have hcz5_2 := cellS55_2 HGz5
 have hfz5_0 := blk_frozen HGz5 0
 have hfz5_1 := blk_frozen HGz5 1
 have hfz5_2 := blk_frozen HGz5 2
 clear HGz5 hgz5
 go_enter Tryd.func50, Tryd.ntmps50
 go_upto_region 3 with (first | ((with_reducible refine gate_callee (f := 19) rfl ?_); refine goesL_ (some 14) rfl rfl Tryd.func19 (by kernel_rfl) rfl #[.pointer (some ⟨g, 0, none⟩)] rfl (by (try simp only [List.map_toArray, List.map_cons, List.map_nil]); first | done | rfl | (simp only [List.length_drop, List.length_take]; rfl)) ?_; (with_reducible refine (greenwoodref01_Reader_Num.calls k g s0_0 s0_1 s0_2 t250 t251 t252 t253 w0 _ ?side1 ?side2 A3.out).mono ?_); (case side1 => repeat (first | (with_reducible first | exact HI0.out | apply IsS55.alloc | apply IsS55.drewN | apply IsS55.drew | apply IsS55.set_0 | apply IsS55.set_1 | apply IsS55.set_2) | exact HI0.out)); (case side2 => repeat (first | (with_reducible first | exact HB.out | apply below_alloc | apply pw_below_drewN | apply below_drew1 | refine below_set ?_ (IsS55.ge HI0.out)) | exact HB.out)); rintro e w6 ⟨rfl, hi, hb, hk⟩; refine ⟨_, rfl, ?_⟩; have n0_ := Aside0.mk (KeepBut.trans (by repeat (first | (with_reducible first | exact HK.out | apply KeepBut.set_ | apply keep_drewN | apply keep_drew | apply keep_alloc) | exact HK.out)) hk (.inl rfl)); have n1_ := Aside0.mk (hb); have n2_ := Aside0.mk (hi); clear HK; clear HB; clear HI0; have HK := n0_; have HB := n1_; have HI0 := n2_; clear n0_ n1_ n2_; (try clear hb); (try clear hb2); (try clear hk); (try clear hi)))
 (try simp only [Act.put, List.setIfInBounds_toArray, List.set_cons_zero, List.set_cons_succ])
 go_cut [24] (fun v24 wc => ∃ (kq : Nat) (x24_3 : Bool), v24 = .bool x24_3 ∧ Aside0 (greenwoodref01_Reader_Nums.j0 kq s0_1 t250 x24_3 t251 t252 t253 = some (r1, r2, r3, r4)) ∧ Aside0 (kq ≤ k) ∧ Aside0 (IsS55 w0 wc g t251 t252 t253) ∧ Aside0 (KeepBut w wc g none) ∧ Aside0 (Below w0.heap.size w0 wc))
 case first =>
  have H := HC4.out
  clear HC4
  by_cases c7 : t253 = 0
  ·rw [if_pos c7] at H
   have c7b0 : (t253 == 0) = true := beq_iff_eq.mpr c7
   have c7b1 : (t253 != 0) = false := bne_eq_false_iff_eq.mpr c7
   clear c7
   (first | rw [c7b0] | (simp only [i64_w, i32_w]; rw [c7b0]) | skip)
   have H' := Aside0.mk H
   clear H
   obtain ⟨HGz8, hgz8⟩ := HI0.out
   have hcz8_0 := cellS55_0 HGz8
   have hcz8_1 := cellS55_1 HGz8
   have hcz8_2 := cellS55_2 HGz8
   have hfz8_0 := blk_frozen HGz8 0
   have hfz8_1 := blk_frozen HGz8 1
   have hfz8_2 := blk_frozen HGz8 2
   clear HGz8 hgz8
   go_wp2
   go_meet
   case rel => exact ⟨_, (decide (t250 > a1)), (by first | rfl | (simp; done) | (simp [*]; done)), H', ⟨by first | omega | exact Nat.le_refl _⟩, ⟨by repeat (first | (with_reducible first | exact HI0.out | apply IsS55.alloc | apply IsS55.drewN | apply IsS55.drew | apply IsS55.set_0 | apply IsS55.set_1 | apply IsS55.set_2) | exact HI0.out)⟩, ⟨by repeat (first | (with_reducible first | exact HK.out | apply KeepBut.set_ | apply keep_drewN | apply keep_drew | apply keep_alloc) | exact HK.out)⟩, ⟨by repeat (first | (with_reducible first | exact HB.out | apply below_alloc | apply pw_below_drewN | apply below_drew1 | refine below_set ?_ (IsS55.ge HI0.out)) | exact HB.out)⟩⟩
  ·rw [if_neg c7] at H
   have c7b0 : (t253 == 0) = false := beq_eq_false_iff_ne.mpr c7
   have c7b1 : (t253 != 0) = true := bne_iff_ne.mpr c7
   (first | rw [c7b0] | (simp only [i64_w, i32_w]; rw [c7b0]) | skip)
   have H' := Aside0.mk H
   clear H
   obtain ⟨HGz9, hgz9⟩ := HI0.out
   have hcz9_0 := cellS55_0 HGz9
   have hcz9_1 := cellS55_1 HGz9
   have hcz9_2 := cellS55_2 HGz9
   have hfz9_0 := blk_frozen HGz9 0
   have hfz9_1 := blk_frozen HGz9 1
   have hfz9_2 := blk_frozen HGz9 2
   clear HGz9 hgz9
   go_wp2
   go_meet
   case rel => exact ⟨_, (false), (by first | rfl | (simp; done) | (simp [*]; done)), H', ⟨by first | omega | exact Nat.le_refl _⟩, ⟨by repeat (first | (with_reducible first | exact HI0.out | apply IsS55.alloc | apply IsS55.drewN | apply IsS55.drew | apply IsS55.set_0 | apply IsS55.set_1 | apply IsS55.set_2) | exact HI0.out)⟩, ⟨by repeat (first | (with_reducible first | exact HK.out | apply KeepBut.set_ | apply keep_drewN | apply keep_drew | apply keep_alloc) | exact HK.out)⟩, ⟨by repeat (first | (with_reducible first | exact HB.out | apply below_alloc | apply pw_below_drewN | apply below_drew1 | refine below_set ?_ (IsS55.ge HI0.out)) | exact HB.out)⟩⟩
 case rest =>
  clear HC4
  try clear c1
  try clear p2
  try clear c5
  try clear c7
  try clear c7b0
  try clear c7b1
  try clear hcz5_0
  try clear hcz5_1
  try clear hcz5_2
  try clear hcz8_0
  try clear hcz8_1
  try clear hcz8_2
  try clear hcz9_0
  try clear hcz9_1
  try clear hcz9_2
  try clear hfz5_0
  try clear hfz5_1
  try clear hfz5_2
  try clear hfz8_0
  try clear hfz8_1
  try clear hfz8_2
  try clear hfz9_0
  try clear hfz9_1
  try clear hfz9_2
  obtain ⟨kq, x24_3, rfl, HA, HJ3, HI0, HK, HB⟩ := hcut
  cases kq with
  | zero => exact absurd HA.out (by simp [greenwoodref01_Reader_Nums.j0])
  | succ kj3 =>
   have H := HA.out
   clear HA
   simp only [greenwoodref01_Reader_Nums.j0] at H
   have HC10 := Aside0.mk H
   clear H
   go_upto_if 24 with (fail)
   go_cut [] (fun wc => ∃ (kq : Nat) (x1001_9 : Int) (x1002_9 : Int), Aside0 (greenwoodref01_Reader_Nums.j1 kq t250 t251 x1001_9 x1002_9 = some (r1, r2, r3, r4)) ∧ Aside0 (kq ≤ kj3) ∧ Aside0 (IsS55 w0 wc g t251 x1001_9 x1002_9) ∧ Aside0 (KeepBut w wc g none) ∧ Aside0 (Below w0.heap.size w0 wc))
   case first =>
    have H := HC10.out
    clear HC10
    by_cases c11 : x24_3 = true
    ·subst c11
     have H1 : (greenwoodref01_Reader_Nums.j1 kj3 t250 t251 s0_1 12) = some (r1, r2, r3, r4) := by rw [if_pos rfl] at H; exact H
     clear H
     have H := H1
     clear H1
     have H' := Aside0.mk H
     clear H
     obtain ⟨HGz12, hgz12⟩ := HI0.out
     have hcz12_0 := cellS55_0 HGz12
     have hcz12_1 := cellS55_1 HGz12
     have hcz12_2 := cellS55_2 HGz12
     have hfz12_0 := blk_frozen HGz12 0
     have hfz12_1 := blk_frozen HGz12 1
     have hfz12_2 := blk_frozen HGz12 2
     clear HGz12 hgz12
     go_wp2
     go_meet
     case rel => exact ⟨_, (s0_1), (12), H', ⟨by have := HJ3.out; first | omega | exact Nat.le_refl _⟩, ⟨by repeat (first | (with_reducible first | exact HI0.out | apply IsS55.alloc | apply IsS55.drewN | apply IsS55.drew | apply IsS55.set_0 | apply IsS55.set_1 | apply IsS55.set_2) | exact HI0.out)⟩, ⟨by repeat (first | (with_reducible first | exact HK.out | apply KeepBut.set_ | apply keep_drewN | apply keep_drew | apply keep_alloc) | exact HK.out)⟩, ⟨by repeat (first | (with_reducible first | exact HB.out | apply below_alloc | apply pw_below_drewN | apply below_drew1 | refine below_set ?_ (IsS55.ge HI0.out)) | exact HB.out)⟩⟩
    ·replace c11 := Bool.eq_false_iff.mpr c11
     subst c11
     have H1 : (greenwoodref01_Reader_Nums.j1 kj3 t250 t251 t252 t253) = some (r1, r2, r3, r4) := by rw [if_neg (show ¬ (false = true) by decide)] at H; exact H
     clear H
     have H := H1
     clear H1
     have H' := Aside0.mk H
     clear H
     go_wp2
     go_meet
     case rel => exact ⟨_, (t252), (t253), H', ⟨by have := HJ3.out; first | omega | exact Nat.le_refl _⟩, ⟨by repeat (first | (with_reducible first | exact HI0.out | apply IsS55.alloc | apply IsS55.drewN | apply IsS55.drew | apply IsS55.set_0 | apply IsS55.set_1 | apply IsS55.set_2) | exact HI0.out)⟩, ⟨by repeat (first | (with_reducible first | exact HK.out | apply KeepBut.set_ | apply keep_drewN | apply keep_drew | apply keep_alloc) | exact HK.out)⟩, ⟨by repeat (first | (with_reducible first | exact HB.out | apply below_alloc | apply pw_below_drewN | apply below_drew1 | refine below_set ?_ (IsS55.ge HI0.out)) | exact HB.out)⟩⟩
   case rest =>
    clear HC10
    try clear c1
    try clear p2
    try clear c5
    try clear c7
    try clear c7b0
    try clear c7b1
    try clear c11
    try clear hcz12_0
    try clear hcz12_1
    try clear hcz12_2
    try clear hcz5_0
    try clear hcz5_1
    try clear hcz5_2
    try clear hcz8_0
    try clear hcz8_1
    try clear hcz8_2
    try clear hcz9_0
    try clear hcz9_1
    try clear hcz9_2
    try clear hfz12_0
    try clear hfz12_1
    try clear hfz12_2
    try clear hfz5_0
    try clear hfz5_1
    try clear hfz5_2
    try clear hfz8_0
    try clear hfz8_1
    try clear hfz8_2
    try clear hfz9_0
    try clear hfz9_1
    try clear hfz9_2
    try clear p2
    obtain ⟨kq, x1001_9, x1002_9, HA, HJ9, HI0, HK, HB⟩ := hcut
    cases kq with
    | zero => exact absurd HA.out (by simp [greenwoodref01_Reader_Nums.j1])
    | succ kj9 =>
     have H := HA.out
     clear HA
     simp only [greenwoodref01_Reader_Nums.j1] at H
     obtain ⟨y254, hy254⟩ : ∃ y_ : List Int, y_ = (([] : List Int)) := ⟨_, rfl⟩
     replace H : (greenwoodref01_Reader_Nums.l0 kj9 t250 y254 0 t251 x1001_9 x1002_9) = some (r1, r2, r3, r4) := by first | (rw [hy254]; with_reducible exact H) | (have H2_ := (Option.bind_some _ _).symm.trans H; rw [hy254]; with_reducible exact H2_) | (have H2_ := (Option.bind_some _ _).symm.trans H; with_reducible exact H2_) | with_reducible exact H | (rw [hy254]; exact H) | exact H
     have Ny254 := Aside0.mk hy254
     clear hy254
     have H' := Aside0.mk H
     clear H
     go_wp2_with (first | ((with_reducible refine gate_dst (N := 32) rfl ?_); refine Kd.R_lit (Kd.int .i64) _ 3 ?hg (N := 32) ?hd (xs := ([] : List Int)) (inner := []) (ok := fun _ => True) (okp := fun _ => True) ?hr ?hp (fun _ hk => hk) trivial (Below.refl _ _) (Nat.le_refl _) (by simp) ?_; (case hd => rfl); (case hg => rfl); (case hr => first | (go_simp; done) | (go_simp; rfl)); (case hp => exact (Reps.none _ _)); intro v255 w13 ho14 hb hg_ hnew_; clear hg_ hnew_; (first | rw [← Ny254.out] at ho14 | (simp only [Int.reduceToNat] at ho14; rw [← Ny254.out] at ho14)); have n0_ := Aside0.mk (Kd.R_lower ho14 (keep_size (w := w) (g := g) (row := none) (by repeat (first | (with_reducible first | exact HK.out | apply KeepBut.set_ | apply keep_drewN | apply keep_drew | apply keep_alloc) | exact HK.out)))); have n1_ := Aside0.mk (IsS55.below (by repeat (first | (with_reducible first | exact HI0.out | apply IsS55.alloc | apply IsS55.drewN | apply IsS55.drew | apply IsS55.set_0 | apply IsS55.set_1 | apply IsS55.set_2) | exact HI0.out)) hb); have n2_ := Aside0.mk (KeepBut.trans (by repeat (first | (with_reducible first | exact HK.out | apply KeepBut.set_ | apply keep_drewN | apply keep_drew | apply keep_alloc) | exact HK.out)) (KeepBut.of_below hb g none) (.inl rfl)); have n3_ := Aside0.mk (below_step (by repeat (first | (with_reducible first | exact HB.out | apply below_alloc | apply pw_below_drewN | apply below_drew1 | refine below_set ?_ (IsS55.ge HI0.out)) | exact HB.out)) hb); clear HI0; clear HK; clear HB; have HO256 := n0_; have HI0 := n1_; have HK := n2_; have HB := n3_; clear n0_ n1_ n2_ n3_; clear hb ho14))
     go_loopg [7, 8] kj9 (fun kq v7 v8 w' => ∃ (x7_3 : List Int) (x8_3 : Int) (x1000_3 : ByteArray) (x1001_3 : Int) (x1002_3 : Int), v8 = .int .i64 x8_3 ∧ Aside0 (greenwoodref01_Reader_Nums.l0 kq t250 x7_3 x8_3 x1000_3 x1001_3 x1002_3 = some (r1, r2, r3, r4)) ∧ Aside0 (kq ≤ kj9) ∧ Aside0 (Kd.R (Kd.int .i64) 3 w' w.heap.size (fun _ => True) v7 x7_3) ∧ Aside0 (IsS55 w0 w' g x1000_3 x1001_3 x1002_3) ∧ Aside0 (KeepBut w w' g none) ∧ Aside0 (Below w0.heap.size w0 w'))
     case atStart => exact ⟨(y254), (0), (t251), (x1001_9), (x1002_9), (by first | rfl | (simp; done) | (simp [*]; done)), H', ⟨Nat.le_refl _⟩, ⟨by (with_reducible repeat (first | apply Kd.R_alloc | apply Kd.R_drewN | apply Kd.R_drew)); exact HO256.out⟩, ⟨by repeat (first | (with_reducible first | exact HI0.out | apply IsS55.alloc | apply IsS55.drewN | apply IsS55.drew | apply IsS55.set_0 | apply IsS55.set_1 | apply IsS55.set_2) | exact HI0.out)⟩, ⟨by repeat (first | (with_reducible first | exact HK.out | apply KeepBut.set_ | apply keep_drewN | apply keep_drew | apply keep_alloc) | exact HK.out)⟩, ⟨by repeat (first | (with_reducible first | exact HB.out | apply below_alloc | apply pw_below_drewN | apply below_drew1 | refine below_set ?_ (IsS55.ge HI0.out)) | exact HB.out)⟩⟩
     case round =>
      clear H'
      try clear c1
      try clear p2
      try clear c5
      try clear c7
      try clear c7b0
      try clear c7b1
      try clear c11
      try clear hcz12_0
      try clear hcz12_1
      try clear hcz12_2
      try clear hcz5_0
      try clear hcz5_1
      try clear hcz5_2
      try clear hcz8_0
      try clear hcz8_1
      try clear hcz8_2
      try clear hcz9_0
      try clear hcz9_1
      try clear hcz9_2
      try clear hfz12_0
      try clear hfz12_1
      try clear hfz12_2
      try clear hfz5_0
      try clear hfz5_1
      try clear hfz5_2
      try clear hfz8_0
      try clear hfz8_1
      try clear hfz8_2
      try clear hfz9_0
      try clear hfz9_1
      try clear hfz9_2
      try clear p2
      obtain ⟨x7_3, x8_3, x1000_3, x1001_3, x1002_3, rfl, HA, HK3, HO_7, HI0, HK, HB⟩ := hrel
      cases gk with
      | zero => exact absurd HA.out (by simp [greenwoodref01_Reader_Nums.l0])
      | succ k3 =>
       have H := HA.out
       clear HA
       simp only [greenwoodref01_Reader_Nums.l0] at H
       by_cases c15 : x8_3 < t250
       ·rw [if_pos c15] at H
        have c15b0 : decide (x8_3 < t250) = true := decide_eq_true c15
        clear c15
        by_cases c16 : x1002_3 = 0
        ·rw [if_pos c16] at H
         have c16b0 : (x1002_3 == 0) = true := beq_iff_eq.mpr c16
         have c16b1 : (x1002_3 != 0) = false := bne_eq_false_iff_eq.mpr c16
         clear c16
         replace H := Option.bind_eq_some_iff.mp H
         obtain ⟨⟨t257, t258, t259, t260⟩, A170, H⟩ := H
         replace H : (if x7_3.length < 17592186044416 then (greenwoodref01_Reader_Nums.l0 k3 t250 (x7_3 ++ [t257]) (wrap64 (x8_3 + 1)) t258 t259 t260) else (none)) = some (r1, r2, r3, r4) := H
         have A17 := Aside0.mk A170
         clear A170
         by_cases c18 : x7_3.length < 17592186044416
         ·rw [if_pos c18] at H
          have LMc18 := Aside0.mk c18
          clear c18
          obtain ⟨y261, hy261⟩ : ∃ y_ : List Int, y_ = (x7_3 ++ [t257]) := ⟨_, rfl⟩
          replace H : (greenwoodref01_Reader_Nums.l0 k3 t250 y261 (wrap64 (x8_3 + 1)) t258 t259 t260) = some (r1, r2, r3, r4) := by first | (rw [hy261]; with_reducible exact H) | (have H2_ := (Option.bind_some _ _).symm.trans H; rw [hy261]; with_reducible exact H2_) | (have H2_ := (Option.bind_some _ _).symm.trans H; with_reducible exact H2_) | with_reducible exact H | (rw [hy261]; exact H) | exact H
          have Ny261 := Aside0.mk hy261
          clear hy261
          have H' := Aside0.mk H
          clear H
          obtain ⟨HGz19, hgz19⟩ := HI0.out
          have hcz19_0 := cellS55_0 HGz19
          have hcz19_1 := cellS55_1 HGz19
          have hcz19_2 := cellS55_2 HGz19
          have hfz19_0 := blk_frozen HGz19 0
          have hfz19_1 := blk_frozen HGz19 1
          have hfz19_2 := blk_frozen HGz19 2
          clear HGz19 hgz19
          go_wp2_with (first | ((with_reducible refine gate_callee (f := 19) rfl ?_); refine goesL_ (some 47) rfl rfl Tryd.func19 (by kernel_rfl) rfl #[.pointer (some ⟨g, 0, none⟩)] rfl (by (try simp only [List.map_toArray, List.map_cons, List.map_nil]); first | done | rfl | (simp only [List.length_drop, List.length_take]; rfl)) ?_; (with_reducible refine (greenwoodref01_Reader_Num.calls k3 g x1000_3 x1001_3 x1002_3 t257 t258 t259 t260 w0 _ ?side1 ?side2 A17.out).mono ?_); (case side1 => repeat (first | (with_reducible first | exact HI0.out | apply IsS55.alloc | apply IsS55.drewN | apply IsS55.drew | apply IsS55.set_0 | apply IsS55.set_1 | apply IsS55.set_2) | exact HI0.out)); (case side2 => repeat (first | (with_reducible first | exact HB.out | apply below_alloc | apply pw_below_drewN | apply below_drew1 | refine below_set ?_ (IsS55.ge HI0.out)) | exact HB.out)); rintro e w20 ⟨rfl, hi, hb, hk⟩; refine ⟨_, rfl, ?_⟩; have n0_ := Aside0.mk (Kd.R_mono (Kd.R_keep (IsS55.apart (show IsS55 w0 _ g x1000_3 x1001_3 x1002_3 from by repeat (first | (with_reducible first | exact HI0.out | apply IsS55.alloc | apply IsS55.drewN | apply IsS55.drew | apply IsS55.set_0 | apply IsS55.set_1 | apply IsS55.set_2) | exact HI0.out)) (by (with_reducible repeat (first | apply Kd.R_alloc | apply Kd.R_drewN | apply Kd.R_drew)); exact HO_7.out) (by decide)) hk (fun _ h => h.2)) (fun _ h => h.1)); have n1_ := Aside0.mk (KeepBut.trans (by repeat (first | (with_reducible first | exact HK.out | apply KeepBut.set_ | apply keep_drewN | apply keep_drew | apply keep_alloc) | exact HK.out)) hk (.inl rfl)); have n2_ := Aside0.mk (hb); have n3_ := Aside0.mk (hi); clear HO_7; clear HK; clear HB; clear HI0; have HO_7 := n0_; have HK := n1_; have HB := n2_; have HI0 := n3_; clear n0_ n1_ n2_ n3_; (try clear hb); (try clear hb2); (try clear hk); (try clear hi)) | ((with_reducible refine gate_builtin (b := .append) (xs := #[.tmp 45, .tmp 48]) rfl ?_); at_builtin; refine Kd.R_append (Kd.int .i64) w.heap.size rfl (.tmp 45) (.tmp 48) 22 3 (.int .i64 0) 8 rfl Tryd.underlying22 info3 rfl (by decide) (by omega) u7 x7_3 t257 [.int .i64 t257] (fun _ => True) (fun _ => False) rfl rfl ?aP (fun _ hk => hk.elim) ?aF ?aO (Below.refl _ _) ?aS ?aL ?_; (case aP => exact rfl); (case aF => exact (fun _ _ => trivial)); (case aO => exact (by (with_reducible repeat (first | apply Kd.R_alloc | apply Kd.R_drewN | apply Kd.R_drew)); exact HO_7.out)); (case aS => exact (keep_size (w := w) (g := g) (row := none) (by repeat (first | (with_reducible first | exact HK.out | apply KeepBut.set_ | apply keep_drewN | apply keep_drew | apply keep_alloc) | exact HK.out)))); (case aL => have := LMc18.out; omega); intro v262 w21 ho hb hg hat; rw [← Ny261.out] at ho; have n0_ := Aside0.mk (IsS55.grown (by repeat (first | (with_reducible first | exact HI0.out | apply IsS55.alloc | apply IsS55.drewN | apply IsS55.drew | apply IsS55.set_0 | apply IsS55.set_1 | apply IsS55.set_2) | exact HI0.out)) hg (IsS55.own_ne HI0.out HO_7.out (by decide))); have n1_ := Aside0.mk (below_weaken (by repeat (first | (with_reducible first | exact HB.out | apply below_alloc | apply pw_below_drewN | apply below_drew1 | refine below_set ?_ (IsS55.ge HI0.out)) | exact HB.out)) HL.out hb); have n2_ := Aside0.mk (KeepBut.trans (by repeat (first | (with_reducible first | exact HK.out | apply KeepBut.set_ | apply keep_drewN | apply keep_drew | apply keep_alloc) | exact HK.out)) (KeepBut.of_grown hg g) (Kd.R_base2 HO_7.out)); have n3_ := Aside0.mk (ho); clear HI0; clear HB; clear HK; clear HO_7; have HI0 := n0_; have HB := n1_; have HK := n2_; have HO263 := n3_; clear n0_ n1_ n2_ n3_; clear ho hb hg hat))
          go_roundg k3
          case measure => have := HJ3.out; have := HJ9.out; have := HK3.out; omega
          case rel => exact ⟨(y261), (wrap64 (x8_3 + 1)), (t258), (t259), (t260), (by first | rfl | (simp; done) | (simp [*]; done)), H', ⟨by have := HJ3.out; have := HJ9.out; have := HK3.out; omega⟩, ⟨by (with_reducible repeat (first | apply Kd.R_alloc | apply Kd.R_drewN | apply Kd.R_drew)); exact HO263.out⟩, ⟨by repeat (first | (with_reducible first | exact HI0.out | apply IsS55.alloc | apply IsS55.drewN | apply IsS55.drew | apply IsS55.set_0 | apply IsS55.set_1 | apply IsS55.set_2) | exact HI0.out)⟩, ⟨by repeat (first | (with_reducible first | exact HK.out | apply KeepBut.set_ | apply keep_drewN | apply keep_drew | apply keep_alloc) | exact HK.out)⟩, ⟨by repeat (first | (with_reducible first | exact HB.out | apply below_alloc | apply pw_below_drewN | apply below_drew1 | refine below_set ?_ (IsS55.ge HI0.out)) | exact HB.out)⟩⟩
         ·rw [if_neg c18] at H
          exact absurd H (by simp)
        ·rw [if_neg c16] at H
         have c16b0 : (x1002_3 == 0) = false := beq_eq_false_iff_ne.mpr c16
         have c16b1 : (x1002_3 != 0) = true := bne_iff_ne.mpr c16
         simp only [Option.some.injEq, Prod.mk.injEq] at H
         obtain ⟨rfl, rfl, rfl, rfl⟩ := H
         obtain ⟨HGz22, hgz22⟩ := HI0.out
         have hcz22_0 := cellS55_0 HGz22
         have hcz22_1 := cellS55_1 HGz22
         have hcz22_2 := cellS55_2 HGz22
         have hfz22_0 := blk_frozen HGz22 0
         have hfz22_1 := blk_frozen HGz22 1
         have hfz22_2 := blk_frozen HGz22 2
         clear HGz22 hgz22
         go_wp2
         go_ret
         exact ⟨_, by first | rfl | (simp [errW_none, errW_some] <;> rfl) | (simp [*, errW_none, errW_some] <;> rfl), by first | exact Kd.R_nil _ _ _ _ _ | exact Kd.N_nil _ _ _ _ _ | exact Kd.V_nil _ _ _ _ _ | exact Kd.Q_nil _ _ _ _ _ | exact Kd.S_nil _ _ _ _ _, by repeat (first | (with_reducible first | exact HI0.out | apply IsS55.alloc | apply IsS55.drewN | apply IsS55.drew | apply IsS55.set_0 | apply IsS55.set_1 | apply IsS55.set_2) | exact HI0.out), by repeat (first | (with_reducible first | exact HB.out | apply below_alloc | apply pw_below_drewN | apply below_drew1 | refine below_set ?_ (IsS55.ge HI0.out)) | exact HB.out), by repeat (first | (with_reducible first | exact HK.out | apply KeepBut.set_ | apply keep_drewN | apply keep_drew | apply keep_alloc) | exact HK.out)⟩
       ·rw [if_neg c15] at H
        have c15b0 : decide (x8_3 < t250) = false := decide_eq_false c15
        clear c15
        by_cases c23 : x1002_3 = 0
        ·rw [if_pos c23] at H
         have c23b0 : (x1002_3 == 0) = true := beq_iff_eq.mpr c23
         have c23b1 : (x1002_3 != 0) = false := bne_eq_false_iff_eq.mpr c23
         clear c23
         simp only [Option.some.injEq, Prod.mk.injEq] at H
         obtain ⟨rfl, rfl, rfl, rfl⟩ := H
         obtain ⟨HGz24, hgz24⟩ := HI0.out
         have hcz24_0 := cellS55_0 HGz24
         have hcz24_1 := cellS55_1 HGz24
         have hcz24_2 := cellS55_2 HGz24
         have hfz24_0 := blk_frozen HGz24 0
         have hfz24_1 := blk_frozen HGz24 1
         have hfz24_2 := blk_frozen HGz24 2
         clear HGz24 hgz24
         go_wp2
         go_ret
         exact ⟨_, by first | rfl | (simp [errW_none, errW_some] <;> rfl) | (simp [*, errW_none, errW_some] <;> rfl), by (with_reducible repeat (first | apply Kd.R_alloc | apply Kd.R_drewN | apply Kd.R_drew)); exact HO_7.out, by repeat (first | (with_reducible first | exact HI0.out | apply IsS55.alloc | apply IsS55.drewN | apply IsS55.drew | apply IsS55.set_0 | apply IsS55.set_1 | apply IsS55.set_2) | exact HI0.out), by repeat (first | (with_reducible first | exact HB.out | apply below_alloc | apply pw_below_drewN | apply below_drew1 | refine below_set ?_ (IsS55.ge HI0.out)) | exact HB.out), by repeat (first | (with_reducible first | exact HK.out | apply KeepBut.set_ | apply keep_drewN | apply keep_drew | apply keep_alloc) | exact HK.out)⟩
        ·rw [if_neg c23] at H
         have c23b0 : (x1002_3 == 0) = false := beq_eq_false_iff_ne.mpr c23
         have c23b1 : (x1002_3 != 0) = true := bne_iff_ne.mpr c23
         simp only [Option.some.injEq, Prod.mk.injEq] at H
         obtain ⟨rfl, rfl, rfl, rfl⟩ := H
         obtain ⟨HGz25, hgz25⟩ := HI0.out
         have hcz25_0 := cellS55_0 HGz25
         have hcz25_1 := cellS55_1 HGz25
         have hcz25_2 := cellS55_2 HGz25
         have hfz25_0 := blk_frozen HGz25 0
         have hfz25_1 := blk_frozen HGz25 1
         have hfz25_2 := blk_frozen HGz25 2
         clear HGz25 hgz25
         go_wp2
         go_ret
         exact ⟨_, by first | rfl | (simp [errW_none, errW_some] <;> rfl) | (simp [*, errW_none, errW_some] <;> rfl), by first | exact Kd.R_nil _ _ _ _ _ | exact Kd.N_nil _ _ _ _ _ | exact Kd.V_nil _ _ _ _ _ | exact Kd.Q_nil _ _ _ _ _ | exact Kd.S_nil _ _ _ _ _, by repeat (first | (with_reducible first | exact HI0.out | apply IsS55.alloc | apply IsS55.drewN | apply IsS55.drew | apply IsS55.set_0 | apply IsS55.set_1 | apply IsS55.set_2) | exact HI0.out), by repeat (first | (with_reducible first | exact HB.out | apply below_alloc | apply pw_below_drewN | apply below_drew1 | refine below_set ?_ (IsS55.ge HI0.out)) | exact HB.out), by repeat (first | (with_reducible first | exact HK.out | apply KeepBut.set_ | apply keep_drewN | apply keep_drew | apply keep_alloc) | exact HK.out)⟩

/-! ### greenwoodref01_signed: function 51 -/
def greenwoodref01_signed.f (a0 : Int) : Option (Int) := if (Int.tmod a0 2) = 1 then (some (wrap64 (-(wrap64 (Int.tdiv (wrap64 (a0 + 1)) 2))))) else (some (wrap64 (Int.tdiv a0 2)))
set_option maxHeartbeats 8000000 in
set_option maxRecDepth 100000 in
theorem greenwoodref01_signed.calls (a0 : Int) (r : Int) (w : World) (h : greenwoodref01_signed.f a0 = some r) :
 Calls Tryd.prog 51 #[.int .i64 a0] w fun e w' => e = .returned (.int .i64 r) ∧ Drawn0 w w' := by
 have H : (if (Int.tmod a0 2) = 1 then (some (wrap64 (-(wrap64 (Int.tdiv (wrap64 (a0 + 1)) 2))))) else (some (wrap64 (Int.tdiv a0 2)))) = some r := h
 clear h
 by_cases c2 : (Int.tmod a0 2) = 1
 ·rw [if_pos c2] at H
  have c2b0 : ((Int.tmod a0 2) == 1) = true := beq_iff_eq.mpr c2
  have c2b1 : ((Int.tmod a0 2) != 1) = false := bne_eq_false_iff_eq.mpr c2
  clear c2
  obtain rfl := Option.some.inj H
  go_enter Tryd.func51, Tryd.ntmps51
  go_wp2
  go_ret
  exact ⟨by first | rfl | (simp; done) | (simp [*]; done), by repeat (first | exact Drawn0.refl _ | apply Drawn0.step)⟩
 ·rw [if_neg c2] at H
  have c2b0 : ((Int.tmod a0 2) == 1) = false := beq_eq_false_iff_ne.mpr c2
  have c2b1 : ((Int.tmod a0 2) != 1) = true := bne_iff_ne.mpr c2
  obtain rfl := Option.some.inj H
  go_enter Tryd.func51, Tryd.ntmps51
  go_wp2
  go_ret
  exact ⟨by first | rfl | (simp; done) | (simp [*]; done), by repeat (first | exact Drawn0.refl _ | apply Drawn0.step)⟩

/-! ### greenwoodref01_Reader_Ints: function 20 -/
def greenwoodref01_Reader_Ints.l0 : Nat → List Int → List Int → Int → ByteArray → Int → Int → Option (List Int × ByteArray × Int × Int)
 | 0, _, _, _, _, _, _ => none
 | k + 1, x5, x6, x7, x1000, x1001, x1002 => if x7 < (x5.length : Int) then (if 0 ≤ x7 then ((greenwoodref01_signed.f (rd x5 x7)).bind fun t274 => (if x6.length < 17592186044416 then (greenwoodref01_Reader_Ints.l0 k x5 (x6 ++ [t274]) (wrap64 (x7 + 1)) x1000 x1001 x1002) else (none))) else (none)) else (some (x6, x1000, x1001, x1002))
def greenwoodref01_Reader_Ints.f (k : Nat) (s0_0 : ByteArray) (s0_1 : Int) (s0_2 : Int) (a1 : Int) : Option (List Int × ByteArray × Int × Int) := (greenwoodref01_Reader_Nums.f k s0_0 s0_1 s0_2 a1).bind fun bt264 => (greenwoodref01_Reader_Ints.l0 k bt264.1 (([] : List Int)) 0 bt264.2.1 bt264.2.2.1 bt264.2.2.2)
set_option maxHeartbeats 8000000 in
set_option maxRecDepth 100000 in
theorem greenwoodref01_Reader_Ints.calls (k : Nat) (g : Nat) (s0_0 : ByteArray) (s0_1 : Int) (s0_2 : Int) (a1 : Int) (r1 : List Int) (r2 : ByteArray) (r3 : Int) (r4 : Int) (w0 w : World) (hI : IsS55 w0 w g s0_0 s0_1 s0_2) (hB : Below w0.heap.size w0 w) (h : greenwoodref01_Reader_Ints.f k s0_0 s0_1 s0_2 a1 = some (r1, r2, r3, r4)) :
 Calls Tryd.prog 20 #[.pointer (some ⟨g, 0, none⟩), .int .i64 a1] w fun e w' => ∃ v0_ : Value, e = .returned (v0_) ∧ Kd.R (Kd.int .i64) 3 w' w.heap.size (fun _ => True) v0_ r1 ∧ IsS55 w0 w' g r2 r3 r4 ∧ Below w0.heap.size w0 w' ∧ KeepBut w w' g none := by
 have HI0 := Aside0.mk hI
 have HK := Aside0.mk (KeepBut.refl w g none)
 have HL := Aside0.mk hB.size
 clear hI
 have HW0 := Aside0.mk hB.size
 have HB := Aside0.mk hB
 clear hB
 have H : ((greenwoodref01_Reader_Nums.f k s0_0 s0_1 s0_2 a1).bind fun bt264 => (greenwoodref01_Reader_Ints.l0 k bt264.1 (([] : List Int)) 0 bt264.2.1 bt264.2.2.1 bt264.2.2.2)) = some (r1, r2, r3, r4) := h
 clear h
 replace H := Option.bind_eq_some_iff.mp H
 obtain ⟨⟨t264, t267, t268, t269⟩, A30, H⟩ := H
 replace H : (greenwoodref01_Reader_Ints.l0 k t264 (([] : List Int)) 0 t267 t268 t269) = some (r1, r2, r3, r4) := H
 have A3 := Aside0.mk A30
 clear A30
 obtain ⟨y270, hy270⟩ : ∃ y_ : List Int, y_ = (([] : List Int)) := ⟨_, rfl⟩
 replace H : (greenwoodref01_Reader_Ints.l0 k t264 y270 0 t267 t268 t269) = some (r1, r2, r3, r4) := by first | (rw [hy270]; with_reducible exact H) | (have H2_ := (Option.bind_some _ _).symm.trans H; rw [hy270]; with_reducible exact H2_) | (have H2_ := (Option.bind_some _ _).symm.trans H; with_reducible exact H2_) | with_reducible exact H | (rw [hy270]; exact H) | exact H
 have Ny270 := Aside0.mk hy270
 clear hy270
 have H' := Aside0.mk H
 clear H
 go_enter Tryd.func20, Tryd.ntmps20
 go_wp2_with (first | ((with_reducible refine gate_callee (f := 50) rfl ?_); refine goesL_ (some 10) rfl rfl Tryd.func50 (by kernel_rfl) rfl #[.pointer (some ⟨g, 0, none⟩), .int .i64 a1] rfl (by (try simp only [List.map_toArray, List.map_cons, List.map_nil]); first | done | rfl | (simp only [List.length_drop, List.length_take]; rfl)) ?_; (with_reducible refine (greenwoodref01_Reader_Nums.calls k g s0_0 s0_1 s0_2 a1 t264 t267 t268 t269 w0 _ ?side1 ?side2 A3.out).mono ?_); (case side1 => repeat (first | (with_reducible first | exact HI0.out | apply IsS55.alloc | apply IsS55.drewN | apply IsS55.drew | apply IsS55.set_0 | apply IsS55.set_1 | apply IsS55.set_2) | exact HI0.out)); (case side2 => repeat (first | (with_reducible first | exact HB.out | apply below_alloc | apply pw_below_drewN | apply below_drew1 | refine below_set ?_ (IsS55.ge HI0.out)) | exact HB.out)); rintro e w4 ⟨v265, rfl, ho0, hi, hb, hk⟩; refine ⟨_, rfl, ?_⟩; have n0_ := Aside0.mk (Kd.R_lower ho0 (keep_size (w := w) (g := g) (row := none) (by repeat (first | (with_reducible first | exact HK.out | apply KeepBut.set_ | apply keep_drewN | apply keep_drew | apply keep_alloc) | exact HK.out)))); have n1_ := Aside0.mk (KeepBut.trans (by repeat (first | (with_reducible first | exact HK.out | apply KeepBut.set_ | apply keep_drewN | apply keep_drew | apply keep_alloc) | exact HK.out)) hk (.inl rfl)); have n2_ := Aside0.mk (hb); have n3_ := Aside0.mk (hi); clear HK; clear HB; clear HI0; have HO266 := n0_; have HK := n1_; have HB := n2_; have HI0 := n3_; clear n0_ n1_ n2_ n3_; (try clear hb); (try clear hb2); (try clear hk); (try clear hi); (try clear ho0)) | ((with_reducible refine gate_dst (N := 11) rfl ?_); refine Kd.R_lit (Kd.int .i64) _ 3 ?hg (N := 11) ?hd (xs := ([] : List Int)) (inner := []) (ok := fun _ => True) (okp := fun _ => True) ?hr ?hp (fun _ hk => hk) trivial (Below.refl _ _) (Nat.le_refl _) (by simp) ?_; (case hd => rfl); (case hg => rfl); (case hr => first | (go_simp; done) | (go_simp; rfl)); (case hp => exact (Reps.none _ _)); intro v271 w5 ho6 hb hg_ hnew_; clear hg_ hnew_; (first | rw [← Ny270.out] at ho6 | (simp only [Int.reduceToNat] at ho6; rw [← Ny270.out] at ho6)); have n0_ := Aside0.mk (Kd.R_elder' (by (with_reducible repeat (first | apply Kd.R_alloc | apply Kd.R_drewN | apply Kd.R_drew)); exact HO266.out) (Kd.R_base ho6) hb); have n1_ := Aside0.mk (Kd.R_lower (Kd.R_new' ho6 (Kd.R_lt (by (with_reducible repeat (first | apply Kd.R_alloc | apply Kd.R_drewN | apply Kd.R_drew)); exact HO266.out))) (keep_size (w := w) (g := g) (row := none) (by repeat (first | (with_reducible first | exact HK.out | apply KeepBut.set_ | apply keep_drewN | apply keep_drew | apply keep_alloc) | exact HK.out)))); have n2_ := Aside0.mk (IsS55.below (by repeat (first | (with_reducible first | exact HI0.out | apply IsS55.alloc | apply IsS55.drewN | apply IsS55.drew | apply IsS55.set_0 | apply IsS55.set_1 | apply IsS55.set_2) | exact HI0.out)) hb); have n3_ := Aside0.mk (KeepBut.trans (by repeat (first | (with_reducible first | exact HK.out | apply KeepBut.set_ | apply keep_drewN | apply keep_drew | apply keep_alloc) | exact HK.out)) (KeepBut.of_below hb g none) (.inl rfl)); have n4_ := Aside0.mk (below_step (by repeat (first | (with_reducible first | exact HB.out | apply below_alloc | apply pw_below_drewN | apply below_drew1 | refine below_set ?_ (IsS55.ge HI0.out)) | exact HB.out)) hb); clear HO266; clear HI0; clear HK; clear HB; have HO266 := n0_; have HO272 := n1_; have HI0 := n2_; have HK := n3_; have HB := n4_; clear n0_ n1_ n2_ n3_ n4_; clear hb ho6))
 go_loopg [6, 7] k (fun kq v6 v7 w' => ∃ (x6_1 : List Int) (x7_1 : Int), v7 = .int .i64 x7_1 ∧ Aside0 (greenwoodref01_Reader_Ints.l0 kq t264 x6_1 x7_1 t267 t268 t269 = some (r1, r2, r3, r4)) ∧ Aside0 (kq ≤ k) ∧ Aside0 (Kd.R (Kd.int .i64) 3 w' w.heap.size (fun k_ => some k_ ≠ (v6 : Value).ownBlock) v265 t264) ∧ Aside0 (Kd.R (Kd.int .i64) 3 w' w.heap.size (fun k_ => some k_ ≠ (v265 : Value).ownBlock) v6 x6_1) ∧ Aside0 (IsS55 w0 w' g t267 t268 t269) ∧ Aside0 (KeepBut w w' g none) ∧ Aside0 (Below w0.heap.size w0 w'))
 case atStart => exact ⟨(y270), (0), (by first | rfl | (simp; done) | (simp [*]; done)), H', ⟨Nat.le_refl _⟩, ⟨by (with_reducible repeat (first | apply Kd.R_alloc | apply Kd.R_drewN | apply Kd.R_drew)); exact Kd.R_mono HO266.out (fun _ hk => hk.2)⟩, ⟨by (with_reducible repeat (first | apply Kd.R_alloc | apply Kd.R_drewN | apply Kd.R_drew)); exact Kd.R_mono HO272.out (fun _ hk => hk.2)⟩, ⟨by repeat (first | (with_reducible first | exact HI0.out | apply IsS55.alloc | apply IsS55.drewN | apply IsS55.drew | apply IsS55.set_0 | apply IsS55.set_1 | apply IsS55.set_2) | exact HI0.out)⟩, ⟨by repeat (first | (with_reducible first | exact HK.out | apply KeepBut.set_ | apply keep_drewN | apply keep_drew | apply keep_alloc) | exact HK.out)⟩, ⟨by repeat (first | (with_reducible first | exact HB.out | apply below_alloc | apply pw_below_drewN | apply below_drew1 | refine below_set ?_ (IsS55.ge HI0.out)) | exact HB.out)⟩⟩
 case round =>
  clear H'
  try clear c2
  try clear p2
  try clear c5
  obtain ⟨x6_1, x7_1, rfl, HA, HK1, HO_5, HO_6, HI0, HK, HB⟩ := hrel
  cases gk with
  | zero => exact absurd HA.out (by simp [greenwoodref01_Reader_Ints.l0])
  | succ k1 =>
   have H := HA.out
   clear HA
   simp only [greenwoodref01_Reader_Ints.l0] at H
   by_cases c7 : x7_1 < (t264.length : Int)
   ·rw [if_pos c7] at H
    have c7b0 : decide (x7_1 < (t264.length : Int)) = true := decide_eq_true c7
    clear c7
    by_cases c8 : 0 ≤ x7_1
    ·rw [if_pos c8] at H
     have c8b0 : decide (0 ≤ x7_1) = true := decide_eq_true c8
     clear c8
     replace H := Option.bind_eq_some_iff.mp H
     obtain ⟨t274, A90, H⟩ := H
     replace H : (if x6_1.length < 17592186044416 then (greenwoodref01_Reader_Ints.l0 k1 t264 (x6_1 ++ [t274]) (wrap64 (x7_1 + 1)) t267 t268 t269) else (none)) = some (r1, r2, r3, r4) := H
     have A9 := Aside0.mk A90
     clear A90
     by_cases c10 : x6_1.length < 17592186044416
     ·rw [if_pos c10] at H
      have LMc10 := Aside0.mk c10
      clear c10
      obtain ⟨y275, hy275⟩ : ∃ y_ : List Int, y_ = (x6_1 ++ [t274]) := ⟨_, rfl⟩
      replace H : (greenwoodref01_Reader_Ints.l0 k1 t264 y275 (wrap64 (x7_1 + 1)) t267 t268 t269) = some (r1, r2, r3, r4) := by first | (rw [hy275]; with_reducible exact H) | (have H2_ := (Option.bind_some _ _).symm.trans H; rw [hy275]; with_reducible exact H2_) | (have H2_ := (Option.bind_some _ _).symm.trans H; with_reducible exact H2_) | with_reducible exact H | (rw [hy275]; exact H) | exact H
      have Ny275 := Aside0.mk hy275
      clear hy275
      have H' := Aside0.mk H
      clear H
      obtain ⟨Ao11, co11, eo11⟩ := Kd.R_slice HO_5.out
      subst eo11
      have p273 : 0 ≤ (x7_1 : Int) := of_decide_eq_true (by first | (with_reducible assumption) | assumption)
      have q273 : x7_1 < (t264.length : Int) := of_decide_eq_true (by first | (with_reducible assumption) | assumption)
      obtain ⟨ad273, e273, hx273_0⟩ := Kd.at_int (Kd.R_reads' HO_5.out).2.2 x7_1 p273 q273
      cases e273
      replace p273 := eq_true p273
      replace q273 := eq_true q273
      go_wp2_with (first | ((with_reducible refine gate_callee (f := 51) rfl ?_); refine goesL_ (some 23) rfl rfl Tryd.func51 (by kernel_rfl) rfl #[.int .i64 (rd t264 x7_1)] rfl (by (try simp only [List.map_toArray, List.map_cons, List.map_nil]); first | done | rfl | (simp only [List.length_drop, List.length_take]; rfl)) ?_; (with_reducible refine (greenwoodref01_signed.calls (rd t264 x7_1) t274 _ A9.out).mono ?_); rintro e w' ⟨rfl, ⟨nd, rfl⟩⟩; refine ⟨_, rfl, ?_⟩) | ((with_reducible refine gate_builtin (b := .append) (xs := #[.tmp 18, .tmp 24]) rfl ?_); at_builtin; refine Kd.R_append (Kd.int .i64) w.heap.size rfl (.tmp 18) (.tmp 24) 22 3 (.int .i64 0) 8 rfl Tryd.underlying22 info3 rfl (by decide) (by omega) u6 x6_1 t274 [.int .i64 t274] (fun k_ => some k_ ≠ (.slice (some ad273) t264.length co11 : Value).ownBlock) (fun _ => False) rfl rfl ?aP (fun _ hk => hk.elim) ?aF ?aO (Below.refl _ _) ?aS ?aL ?_; (case aP => exact rfl); (case aF => exact (fun k_ hk => Kd.fresh' (Kd.R_lt (by (with_reducible repeat (first | apply Kd.R_alloc | apply Kd.R_drewN | apply Kd.R_drew)); exact HO_5.out)) k_ hk)); (case aO => exact (by (with_reducible repeat (first | apply Kd.R_alloc | apply Kd.R_drewN | apply Kd.R_drew)); exact HO_6.out)); (case aS => exact (keep_size (w := w) (g := g) (row := none) (by repeat (first | (with_reducible first | exact HK.out | apply KeepBut.set_ | apply keep_drewN | apply keep_drew | apply keep_alloc) | exact HK.out)))); (case aL => have := LMc10.out; omega); intro v276 w12 ho hb hg hat; rw [← Ny275.out] at ho; have n0_ := Aside0.mk (Kd.R_after (ok := (fun _ => True)) (by (with_reducible repeat (first | apply Kd.R_alloc | apply Kd.R_drewN | apply Kd.R_drew)); exact Kd.R_mono HO_5.out (fun _ hk => ⟨trivial, hk⟩)) hg hat); have n1_ := Aside0.mk (IsS55.grown (by repeat (first | (with_reducible first | exact HI0.out | apply IsS55.alloc | apply IsS55.drewN | apply IsS55.drew | apply IsS55.set_0 | apply IsS55.set_1 | apply IsS55.set_2) | exact HI0.out)) hg (IsS55.own_ne HI0.out HO_6.out (by decide))); have n2_ := Aside0.mk (below_weaken (by repeat (first | (with_reducible first | exact HB.out | apply below_alloc | apply pw_below_drewN | apply below_drew1 | refine below_set ?_ (IsS55.ge HI0.out)) | exact HB.out)) HL.out hb); have n3_ := Aside0.mk (KeepBut.trans (by repeat (first | (with_reducible first | exact HK.out | apply KeepBut.set_ | apply keep_drewN | apply keep_drew | apply keep_alloc) | exact HK.out)) (KeepBut.of_grown hg g) (Kd.R_base2 HO_6.out)); have n4_ := Aside0.mk (ho); clear HO_5; clear HI0; clear HB; clear HK; clear HO_6; have HO_5 := n0_; have HI0 := n1_; have HB := n2_; have HK := n3_; have HO277 := n4_; clear n0_ n1_ n2_ n3_ n4_; clear ho hb hg hat))
      go_roundg k1
      case measure => have := HK1.out; omega
      case rel => exact ⟨(y275), (wrap64 (x7_1 + 1)), (by first | rfl | (simp; done) | (simp [*]; done)), H', ⟨by have := HK1.out; omega⟩, ⟨by (with_reducible repeat (first | apply Kd.R_alloc | apply Kd.R_drewN | apply Kd.R_drew)); exact Kd.R_mono HO_5.out (fun _ hk => hk.2)⟩, ⟨by (with_reducible repeat (first | apply Kd.R_alloc | apply Kd.R_drewN | apply Kd.R_drew)); exact HO277.out⟩, ⟨by repeat (first | (with_reducible first | exact HI0.out | apply IsS55.alloc | apply IsS55.drewN | apply IsS55.drew | apply IsS55.set_0 | apply IsS55.set_1 | apply IsS55.set_2) | exact HI0.out)⟩, ⟨by repeat (first | (with_reducible first | exact HK.out | apply KeepBut.set_ | apply keep_drewN | apply keep_drew | apply keep_alloc) | exact HK.out)⟩, ⟨by repeat (first | (with_reducible first | exact HB.out | apply below_alloc | apply pw_below_drewN | apply below_drew1 | refine below_set ?_ (IsS55.ge HI0.out)) | exact HB.out)⟩⟩
     ·rw [if_neg c10] at H
      exact absurd H (by simp)
    ·rw [if_neg c8] at H
     exact absurd H (by simp)
   ·rw [if_neg c7] at H
    have c7b0 : decide (x7_1 < (t264.length : Int)) = false := decide_eq_false c7
    clear c7
    simp only [Option.some.injEq, Prod.mk.injEq] at H
    obtain ⟨rfl, rfl, rfl, rfl⟩ := H
    obtain ⟨Ao13, co13, eo13⟩ := Kd.R_slice HO_5.out
    subst eo13
    go_wp2
    go_ret
    exact ⟨_, by first | rfl | (simp [errW_none, errW_some] <;> rfl) | (simp [*, errW_none, errW_some] <;> rfl), by (with_reducible repeat (first | apply Kd.R_alloc | apply Kd.R_drewN | apply Kd.R_drew)); exact Kd.R_mono HO_6.out (fun _ hk => trivial), by repeat (first | (with_reducible first | exact HI0.out | apply IsS55.alloc | apply IsS55.drewN | apply IsS55.drew | apply IsS55.set_0 | apply IsS55.set_1 | apply IsS55.set_2) | exact HI0.out), by repeat (first | (with_reducible first | exact HB.out | apply below_alloc | apply pw_below_drewN | apply below_drew1 | refine below_set ?_ (IsS55.ge HI0.out)) | exact HB.out), by repeat (first | (with_reducible first | exact HK.out | apply KeepBut.set_ | apply keep_drewN | apply keep_drew | apply keep_alloc) | exact HK.out)⟩

end Go.Proofs.YtlekdhejgdfnpaaDoor.P
namespace Go.Proofs.YtlekdhejgdfnpaaDoor.P
open Go.RowKit Go.Proofs.YtlekdhejgdfnpaaDoorW.PrintWords Go.Proofs.YtlekdhejgdfnpaaDoorW.PrintLast Go.Proofs.YtlekdhejgdfnpaaDoorW.PrintMore
attribute [local go_sem] max2_int min2_int max_two min_two max_three min_three max_four min_four   -- for this text's walks alone

/-! ### greenwoodref01_Reader_Int: function 22 -/
def greenwoodref01_Reader_Int.f (k : Nat) (s0_0 : ByteArray) (s0_1 : Int) (s0_2 : Int) : Option (Int × ByteArray × Int × Int) := (greenwoodref01_Reader_Num.f k s0_0 s0_1 s0_2).bind fun bt278 => ((greenwoodref01_signed.f bt278.1).bind fun t282 => (some (t282, bt278.2.1, bt278.2.2.1, bt278.2.2.2)))
set_option maxHeartbeats 8000000 in
set_option maxRecDepth 100000 in
theorem greenwoodref01_Reader_Int.calls (k : Nat) (g : Nat) (s0_0 : ByteArray) (s0_1 : Int) (s0_2 : Int) (r1 : Int) (r2 : ByteArray) (r3 : Int) (r4 : Int) (w0 w : World) (hI : IsS55 w0 w g s0_0 s0_1 s0_2) (hB : Below w0.heap.size w0 w) (h : greenwoodref01_Reader_Int.f k s0_0 s0_1 s0_2 = some (r1, r2, r3, r4)) :
 Calls Tryd.prog 22 #[.pointer (some ⟨g, 0, none⟩)] w fun e w' => e = .returned (.int .i64 r1) ∧ IsS55 w0 w' g r2 r3 r4 ∧ Below w0.heap.size w0 w' ∧ KeepBut w w' g none := by
 have HI0 := Aside0.mk hI
 have HK := Aside0.mk (KeepBut.refl w g none)
 have HL := Aside0.mk hB.size
 clear hI
 have HW0 := Aside0.mk hB.size
 have HB := Aside0.mk hB
 clear hB
 have H : ((greenwoodref01_Reader_Num.f k s0_0 s0_1 s0_2).bind fun bt278 => ((greenwoodref01_signed.f bt278.1).bind fun t282 => (some (t282, bt278.2.1, bt278.2.2.1, bt278.2.2.2)))) = some (r1, r2, r3, r4) := h
 clear h
 replace H := Option.bind_eq_some_iff.mp H
 obtain ⟨⟨t278, t279, t280, t281⟩, A20, H⟩ := H
 replace H : ((greenwoodref01_signed.f t278).bind fun t282 => (some (t282, t279, t280, t281))) = some (r1, r2, r3, r4) := H
 have A2 := Aside0.mk A20
 clear A20
 replace H := Option.bind_eq_some_iff.mp H
 obtain ⟨t282, A30, H⟩ := H
 replace H : (some (t282, t279, t280, t281)) = some (r1, r2, r3, r4) := H
 have A3 := Aside0.mk A30
 clear A30
 simp only [Option.some.injEq, Prod.mk.injEq] at H
 obtain ⟨rfl, rfl, rfl, rfl⟩ := H
 go_enter Tryd.func22, Tryd.ntmps22
 go_wp2_with (first | ((with_reducible refine gate_callee (f := 19) rfl ?_); refine goesL_ (some 4) rfl rfl Tryd.func19 (by kernel_rfl) rfl #[.pointer (some ⟨g, 0, none⟩)] rfl (by (try simp only [List.map_toArray, List.map_cons, List.map_nil]); first | done | rfl | (simp only [List.length_drop, List.length_take]; rfl)) ?_; (with_reducible refine (greenwoodref01_Reader_Num.calls k g s0_0 s0_1 s0_2 t278 t279 t280 t281 w0 _ ?side1 ?side2 A2.out).mono ?_); (case side1 => repeat (first | (with_reducible first | exact HI0.out | apply IsS55.alloc | apply IsS55.drewN | apply IsS55.drew | apply IsS55.set_0 | apply IsS55.set_1 | apply IsS55.set_2) | exact HI0.out)); (case side2 => repeat (first | (with_reducible first | exact HB.out | apply below_alloc | apply pw_below_drewN | apply below_drew1 | refine below_set ?_ (IsS55.ge HI0.out)) | exact HB.out)); rintro e w4 ⟨rfl, hi, hb, hk⟩; refine ⟨_, rfl, ?_⟩; have n0_ := Aside0.mk (KeepBut.trans (by repeat (first | (with_reducible first | exact HK.out | apply KeepBut.set_ | apply keep_drewN | apply keep_drew | apply keep_alloc) | exact HK.out)) hk (.inl rfl)); have n1_ := Aside0.mk (hb); have n2_ := Aside0.mk (hi); clear HK; clear HB; clear HI0; have HK := n0_; have HB := n1_; have HI0 := n2_; clear n0_ n1_ n2_; (try clear hb); (try clear hb2); (try clear hk); (try clear hi)) | ((with_reducible refine gate_callee (f := 51) rfl ?_); refine goesL_ (some 5) rfl rfl Tryd.func51 (by kernel_rfl) rfl #[.int .i64 t278] rfl (by (try simp only [List.map_toArray, List.map_cons, List.map_nil]); first | done | rfl | (simp only [List.length_drop, List.length_take]; rfl)) ?_; (with_reducible refine (greenwoodref01_signed.calls t278 t282 _ A3.out).mono ?_); rintro e w' ⟨rfl, ⟨nd, rfl⟩⟩; refine ⟨_, rfl, ?_⟩))
 go_ret
 exact ⟨by first | rfl | (simp [errW_none, errW_some] <;> rfl) | (simp [*, errW_none, errW_some] <;> rfl), by repeat (first | (with_reducible first | exact HI0.out | apply IsS55.alloc | apply IsS55.drewN | apply IsS55.drew | apply IsS55.set_0 | apply IsS55.set_1 | apply IsS55.set_2) | exact HI0.out), by repeat (first | (with_reducible first | exact HB.out | apply below_alloc | apply pw_below_drewN | apply below_drew1 | refine below_set ?_ (IsS55.ge HI0.out)) | exact HB.out), by repeat (first | (with_reducible first | exact HK.out | apply KeepBut.set_ | apply keep_drewN | apply keep_drew | apply keep_alloc) | exact HK.out)⟩

/-! ### answer_Encode: function 13 -/
end Go.Proofs.YtlekdhejgdfnpaaDoor.P
/- Layer 1: values of the reference reader. -/
namespace Go.Proofs.YtlekdhejgdfnpaaDoor.P
open Go.RowKit Go.Proofs.YtlekdhejgdfnpaaDoorW.PrintWords Go.Proofs.YtlekdhejgdfnpaaDoorW.PrintLast Go.Proofs.YtlekdhejgdfnpaaDoorW.PrintMore
open Wr

theorem rd_bt (s : ByteArray) (i : Nat) : rd (bytesOf s) (i : Int) = bt s (i : Int) := by
 by_cases h : i < s.size
 ·rw [rdn (by rw [bytesOf_length]; exact h)]
  have := bt_at s (i : Int) (by simpa using h)
  rw [← this]
  simp [bytesOf]
  rfl
 ·simp [rd, bt, h, bytesOf_length, List.getD_eq_getElem?_getD, List.getElem?_eq_none]
def rv (s : ByteArray) (t : Int × Nat × Int) : Int × ByteArray × Int × Int := (t.1, s, (t.2.1 : Int), t.2.2)
theorem refnum_l0 (s : ByteArray) (p : Nat) (hs : s.size ≤ 1000000000) : ∀ (d i : Nat) (m P : Int), d + i = 8 → P = 128 ^ i → 0 ≤ m → m < P → p + i ≤ s.size →
 Ev (fun k => greenwoodref01_Reader_Num.l0 k m P (i : Int) s (p : Int) 0) (rv s (tkL (bytesOf s) p d i m)) := by
 intro d
 induction d with
 | zero =>
  intro i m P hd hP h0 h1 hi
  refine Ev.step (fun k => by rw [greenwoodref01_Reader_Num.l0]) ?_
  refine Ev.ifn (by omega) ?_
  exact Ev.val rfl
 | succ d ih =>
  intro i m P hd hP h0 h1 hi
  refine Ev.step (fun k => by rw [greenwoodref01_Reader_Num.l0]) ?_
  refine Ev.ifp (by omega) ?_
  have ea : wrap64 ((p : Int) + (i : Int)) = ((p + i : Nat) : Int) := by unfold wrap64; omega
  have hb := bt_range s ((p + i : Nat) : Int)
  have hbb : rd (bytesOf s) ((p + i : Nat) : Int) = bt s ((p + i : Nat) : Int) := rd_bt s (p + i)
  obtain ⟨b, hbe⟩ : ∃ b, b = bt s ((p + i : Nat) : Int) := ⟨_, rfl⟩
  rw [← hbe] at hb hbb
  have ew : wrap64 b = b := by unfold wrap64; omega
  unfold tkL
  rw [hbb, bytesOf_length]
  simp only [ea, ← hbe, ew]
  by_cases hc : s.size ≤ p + i
  ·rw [if_pos hc]
   refine Ev.ifp (by omega) ?_
   exact Ev.val rfl
  rw [if_neg hc]
  refine Ev.ifn (by omega) (Ev.ifp (by omega) (Ev.ifp (by omega) ?_))
  have hP1 : 1 ≤ P := by have : (0 : Int) < 128 ^ i := pow_nn i; omega
  have hP2 : P ≤ 562949953421312 := by
   have : (128 : Int) ^ i ≤ 128 ^ 7 := by
    have h := Nat.pow_le_pow_right (n := 128) (by decide) (show i ≤ 7 by omega)
    exact_mod_cast h
   rw [hP]
   exact Int.le_trans this (by decide)
  rw [← hP]
  have m1 : 0 ≤ b * P := Int.mul_nonneg hb.1 (by omega)
  have m2 : b * P ≤ 255 * 562949953421312 := Int.mul_le_mul hb.2 hP2 (by omega) (by omega)
  have x1 : wrap64 (b * P) = b * P := by unfold wrap64; omega
  have x2 : wrap64 (m + b * P) = m + b * P := by unfold wrap64; omega
  simp only [x1, x2]
  by_cases hh : 128 ≤ b
  ·rw [if_pos hh]
   refine Ev.ifn (by omega) ?_
   have y0 : wrap64 (b - 128) = b - 128 := by unfold wrap64; omega
   have y1 : 0 ≤ (b - 128) * P := Int.mul_nonneg (by omega) (by omega)
   have y2 : (b - 128) * P ≤ 127 * P := Int.mul_le_mul_of_nonneg_right (by omega) (by omega)
   have y3 : wrap64 ((b - 128) * P) = (b - 128) * P := by unfold wrap64; omega
   have y4 : wrap64 (m + (b - 128) * P) = m + (b - 128) * P := by unfold wrap64; omega
   have y5 : wrap64 (P * 128) = P * 128 := by unfold wrap64; omega
   have y6 : wrap64 ((i : Int) + 1) = ((i + 1 : Nat) : Int) := by unfold wrap64; omega
   simp only [y0, y3, y4, y5, y6]
   exact ih (i + 1) _ _ (by omega) (by rw [hP, Int.pow_succ]) (by omega) (by omega) (by omega)
  rw [if_neg hh]
  refine Ev.ifp (by omega) ?_
  have fin : Ev (fun k => if m + b * P > 1125899906842624 then ((greenwoodref01_Reader_fail.f s (p : Int) 0 11).bind fun bt130 => (some (bt130.1, bt130.2.1, bt130.2.2.1, bt130.2.2.2))) else (some (m + b * P, s, wrap64 (((p + i : Nat) : Int) + 1), (0 : Int)))) (rv s (if m + b * P > MX then (0, p, 11) else (m + b * P, p + i + 1, 0))) := by
   by_cases hx : m + b * P > MX
   ·have hx' : m + b * P > 1125899906842624 := hx
    refine Ev.ifp hx' ?_
    rw [if_pos hx]
    exact Ev.val rfl
   ·have hx' : ¬ m + b * P > 1125899906842624 := hx
    refine Ev.ifn hx' (Ev.val ?_)
    rw [if_neg hx]
    have : wrap64 (((p + i : Nat) : Int) + 1) = ((p + i + 1 : Nat) : Int) := by unfold wrap64; omega
    rw [this]; rfl
  by_cases hz : b = 0
  ·refine Ev.ifp hz ?_
   by_cases hi0 : 0 < i
   ·refine Ev.ifp (by omega) ?_
    rw [if_pos (Or.inl ⟨hz, hi0⟩)]
    exact Ev.val rfl
   ·refine Ev.ifn (by omega) ?_
    have e : ((b = 0 ∧ 0 < i) ∨ m + b * P > MX) = (m + b * P > MX) := by simp [hi0]
    simp only [e]
    exact fin
  ·refine Ev.ifn hz ?_
   have e : ((b = 0 ∧ 0 < i) ∨ m + b * P > MX) = (m + b * P > MX) := by simp [hz]
   simp only [e]
   exact fin
/-- the states answer each other -/
def sa (st : St) : Int := match st.2 with | none => (st.1 : Int) | some pc => (pc.1 : Int)
def se (st : St) : Int := match st.2 with | none => 0 | some pc => pc.2
def Ok (s : ByteArray) (st : St) : Prop := st.1 ≤ s.size ∧ ∀ pc, st.2 = some pc → pc.2 = 10 ∨ pc.2 = 11 ∨ pc.2 = 12
theorem refnum (s : ByteArray) (st : St) (hs : s.size ≤ 1000000000) (ho : Ok s st) : Ev (fun k => greenwoodref01_Reader_Num.f k s (sa st) (se st)) ((numF (bytesOf s) st).1, s, sa (numF (bytesOf s) st).2, se (numF (bytesOf s) st).2) := by
 obtain ⟨p, er⟩ := st
 unfold greenwoodref01_Reader_Num.f
 cases er with
 | some pc =>
  have := ho.2 pc rfl
  refine Ev.ifn (by show ¬ pc.2 = 0; omega) ?_
  exact Ev.val rfl
 | none =>
  refine Ev.ifp rfl ?_
  have h := refnum_l0 s p hs 8 0 0 1 rfl rfl (Int.le_refl _) (by decide) ho.1
  have e : rv s (tkL (bytesOf s) p 8 0 0) = ((numF (bytesOf s) (p, none)).1, s, sa (numF (bytesOf s) (p, none)).2, se (numF (bytesOf s) (p, none)).2) := by
   show rv s (tk (bytesOf s) p) = _
   rcases tk_any (bytesOf s) p (bytesOf_in s) with h | h
   ·simp only [numF, h.1, if_true, rv, sa, se]
   ·have hc : (tk (bytesOf s) p).2.2 ≠ 0 := by rcases h.2.2 with h | h <;> omega
    simp only [numF, if_neg hc, rv, sa, se, h.1, h.2.1]
  rw [← e]
  exact h
theorem refnum_ok {s : ByteArray} {st : St} (ho : Ok s st) : Ok s (numF (bytesOf s) st).2 := by
 obtain ⟨p, er⟩ := st
 cases er with
 | some pc => exact ho
 | none =>
  rcases tk_any (bytesOf s) p (bytesOf_in s) with h | h
  ·simp only [numF, h.1, if_true]
   exact ⟨by rw [← bytesOf_length]; exact h.2.2.2.2, fun pc h => by simp at h⟩
  ·have hc : (tk (bytesOf s) p).2.2 ≠ 0 := by rcases h.2.2 with h | h <;> omega
   simp only [numF, if_neg hc]
   refine ⟨ho.1, fun pc h2 => ?_⟩
   obtain rfl := Option.some.inj h2
   rcases h.2.2 with h | h
   ·exact .inl h
   ·exact .inr (.inl h)
theorem refsigned (n : Int) (h0 : 0 ≤ n) (h1 : n ≤ MX) : greenwoodref01_signed.f n = some (sgn n) := by
 simp only [MX] at h1
 unfold greenwoodref01_signed.f sgn
 rw [Int.tmod_eq_emod_of_nonneg h0, Int.tdiv_eq_ediv_of_nonneg h0]
 by_cases h : n % 2 = 1
 ·rw [if_pos h, if_pos h]
  have e : wrap64 (n + 1) = n + 1 := by unfold wrap64; omega
  rw [e, Int.tdiv_eq_ediv_of_nonneg (by omega)]
  unfold wrap64
  congr 1
  omega
 ·rw [if_neg h, if_neg h]
  unfold wrap64
  congr 1
  omega
theorem refint (s : ByteArray) (st : St) (hs : s.size ≤ 1000000000) (ho : Ok s st) : Ev (fun k => greenwoodref01_Reader_Int.f k s (sa st) (se st)) ((intF (bytesOf s) st).1, s, sa (intF (bytesOf s) st).2, se (intF (bytesOf s) st).2) := by
 unfold greenwoodref01_Reader_Int.f
 refine Ev.bind (refnum s st hs ho) ?_
 obtain ⟨-, -, h0, h1, -⟩ := numF_at (bytesOf_in s) st (by rw [bytesOf_length]; exact ho.1)
 show Ev (fun k => (greenwoodref01_signed.f (numF (bytesOf s) st).1).bind fun t => some (t, s, sa (numF (bytesOf s) st).2, se (numF (bytesOf s) st).2)) _
 rw [refsigned _ h0 h1]
 exact Ev.val rfl
end Go.Proofs.YtlekdhejgdfnpaaDoor.P
/- Layer 1: values of the reference reader: lists, End. -/
namespace Go.Proofs.YtlekdhejgdfnpaaDoor.P
open Go.RowKit Go.Proofs.YtlekdhejgdfnpaaDoorW.PrintWords Go.Proofs.YtlekdhejgdfnpaaDoorW.PrintLast Go.Proofs.YtlekdhejgdfnpaaDoorW.PrintMore
open Wr

theorem se_none {s : ByteArray} {st : St} (ho : Ok s st) : se st = 0 ↔ st.2 = none := by
 obtain ⟨p, er⟩ := st
 cases er with
 | none => simp [se]
 | some pc =>
  have := ho.2 pc rfl
  constructor
  ·intro h
   have h' : pc.2 = 0 := h
   omega
  ·intro h
   simp at h
theorem numF_none {S : List Int} {st : St} (h : (numF S st).2.2 = none) : st.2 = none := by
 obtain ⟨p, er⟩ := st
 cases er with
 | none => rfl
 | some pc => simp [numF] at h
theorem refloop_err (s : ByteArray) (N : Int) (st : St) (ho : Ok s st) (hne : st.2 ≠ none) (out : List Int) (i : Int) : Ev (fun k => greenwoodref01_Reader_Nums.l0 k N out i s (sa st) (se st)) ([], s, sa st, se st) := by
 have he : ¬ se st = 0 := fun h => hne ((se_none ho).1 h)
 refine Ev.step (fun k => by rw [greenwoodref01_Reader_Nums.l0]) ?_
 by_cases h : i < N
 ·exact Ev.ifp h (Ev.ifn he (Ev.val rfl))
 ·exact Ev.ifn h (Ev.ifn he (Ev.val rfl))
theorem refloop (s : ByteArray) (hs : s.size ≤ 1000000000) (N : Nat) (hN : (N : Int) ≤ MX) : ∀ (d i : Nat) (out : List Int) (st : St), i + d = N → Ok s st → st.2 = none → out.length ≤ st.1 →
 Ev (fun k => greenwoodref01_Reader_Nums.l0 k (N : Int) out (i : Int) s (sa st) (se st)) ((loopF (numF (bytesOf s)) d st out).1, s, sa (loopF (numF (bytesOf s)) d st out).2, se (loopF (numF (bytesOf s)) d st out).2) := by
 intro d
 induction d with
 | zero =>
  intro i out st hd ho h0 hl
  have he : se st = 0 := (se_none ho).2 h0
  refine Ev.step (fun k => by rw [greenwoodref01_Reader_Nums.l0]) ?_
  exact Ev.ifn (by omega) (Ev.ifp he (Ev.val rfl))
 | succ d ih =>
  intro i out st hd ho h0 hl
  have he : se st = 0 := (se_none ho).2 h0
  refine Ev.step (fun k => by rw [greenwoodref01_Reader_Nums.l0]) ?_
  refine Ev.ifp (by omega) (Ev.ifp he ?_)
  refine Ev.bind (refnum s st hs ho) ?_
  refine Ev.ifp (by have := ho.1; omega) ?_
  have ei : wrap64 ((i : Int) + 1) = ((i + 1 : Nat) : Int) := by simp only [MX] at hN; unfold wrap64; omega
  simp only [ei]
  have ho' := refnum_ok ho
  obtain ⟨-, -, -, -, hadv⟩ := numF_at (bytesOf_in s) st (by rw [bytesOf_length]; exact ho.1)
  rw [loopF]
  by_cases hn : (numF (bytesOf s) st).2.2 = none
  ·rw [if_pos hn]
   have := hadv hn
   exact ih (i + 1) _ _ (by omega) ho' hn (by rw [List.length_append, List.length_singleton]; omega)
  ·rw [if_neg hn]
   exact refloop_err s N _ ho' hn _ _
theorem headF_ok {s : ByteArray} {st : St} (most : Int) (ho : Ok s st) : Ok s (headF (bytesOf s) most st).2 := by
 unfold headF
 have h := refnum_ok ho
 split
 ·exact ⟨h.1, fun pc h => by obtain rfl := Option.some.inj h; exact .inr (.inr rfl)⟩
 ·exact h
theorem refnums (s : ByteArray) (st : St) (most : Int) (hs : s.size ≤ 1000000000) (ho : Ok s st) : Ev (fun k => greenwoodref01_Reader_Nums.f k s (sa st) (se st) most) ((listF (bytesOf s) (numF (bytesOf s)) most st).1, s, sa (listF (bytesOf s) (numF (bytesOf s)) most st).2, se (listF (bytesOf s) (numF (bytesOf s)) most st).2) := by
 unfold greenwoodref01_Reader_Nums.f
 refine Ev.bind (refnum s st hs ho) ?_
 obtain ⟨a1, a2, h0, h1, hadv⟩ := numF_at (bytesOf_in s) st (by rw [bytesOf_length]; exact ho.1)
 have ho' := refnum_ok ho
 have hho := headF_ok most ho
 obtain ⟨N, hN⟩ : ∃ N : Nat, (numF (bytesOf s) st).1 = (N : Int) := ⟨(numF (bytesOf s) st).1.toNat, by omega⟩
 have hNM : (N : Int) ≤ MX := by rw [← hN]; exact h1
 unfold listF
 have main : ∀ st2 : St, st2 = (headF (bytesOf s) most st).2 → Ev (fun k => greenwoodref01_Reader_Nums.j1 k (N : Int) s (sa st2) (se st2)) ((loopF (numF (bytesOf s)) N st2 []).1, s, sa (loopF (numF (bytesOf s)) N st2 []).2, se (loopF (numF (bytesOf s)) N st2 []).2) := by
  intro st2 h2
  rw [← h2] at hho
  refine Ev.step (fun k => by rw [greenwoodref01_Reader_Nums.j1]) ?_
  by_cases hn : st2.2 = none
  ·exact refloop s hs N hNM N 0 [] st2 (by omega) hho hn (Nat.zero_le _)
  ·have := refloop_err s N st2 hho hn [] 0
   cases N with
   | zero => exact this
   | succ d =>
    rw [loopF, if_neg (by
     obtain ⟨p, er⟩ := st2
     cases er with
     | none => simp at hn
     | some pc => simp [numF])]
    have e : (numF (bytesOf s) st2).2 = st2 := by
     obtain ⟨p, er⟩ := st2
     cases er with
     | none => simp at hn
     | some pc => simp [numF]
    rw [e]
    exact this
 have e1 : (headF (bytesOf s) most st).1 = (N : Int) := by
  unfold headF
  rw [← hN]
  split <;> rfl
 rw [e1, Int.toNat_natCast]
 simp only [hN]
 by_cases hn : (numF (bytesOf s) st).2.2 = none
 ·have hst := numF_none hn
  refine Ev.ifp ((se_none ho').2 hn) ?_
  refine Ev.step (fun k => by rw [greenwoodref01_Reader_Nums.j0]) ?_
  by_cases hm : (N : Int) > most
  ·refine Ev.ifp (decide_eq_true hm) ?_
   have eh : (headF (bytesOf s) most st).2 = ((numF (bytesOf s) st).2.1, some (st.1, 12)) := by
    unfold headF
    rw [if_pos ⟨hn, by rw [hN]; exact hm⟩]
   have := main _ eh.symm
   rw [eh]
   have es : sa st = (st.1 : Int) := by unfold sa; rw [hst]
   rw [es]
   exact this
  ·refine Ev.ifn (by rw [decide_eq_false hm]; simp) ?_
   have eh : (headF (bytesOf s) most st).2 = (numF (bytesOf s) st).2 := by
    unfold headF
    rw [if_neg (fun h => hm (by rw [← hN]; exact h.2))]
   have := main _ eh.symm
   rw [eh]
   exact this
 ·refine Ev.ifn (fun h => hn ((se_none ho').1 h)) ?_
  refine Ev.step (fun k => by rw [greenwoodref01_Reader_Nums.j0]) ?_
  refine Ev.ifn (by simp) ?_
  have eh : (headF (bytesOf s) most st).2 = (numF (bytesOf s) st).2 := by
   unfold headF
   rw [if_neg (fun h => hn h.1)]
  have := main _ eh.symm
  rw [eh]
  exact this
theorem loopF_rng (S : List Int) (hb : ∀ b ∈ S, 0 ≤ b ∧ b ≤ 255) : ∀ (d : Nat) (st : St) (out : List Int), st.1 ≤ S.length → out.length ≤ st.1 → (∀ x ∈ out, 0 ≤ x ∧ x ≤ MX) →
 (loopF (numF S) d st out).1.length ≤ S.length ∧ (∀ x ∈ (loopF (numF S) d st out).1, 0 ≤ x ∧ x ≤ MX) := by
 intro d
 induction d with
 | zero => intro st out h1 h2 h3; exact ⟨by show out.length ≤ _; omega, h3⟩
 | succ d ih =>
  intro st out h1 h2 h3
  obtain ⟨a1, a2, a3, a4, a5⟩ := numF_at hb st h1
  rw [loopF]
  by_cases hn : (numF S st).2.2 = none
  ·rw [if_pos hn]
   have := a5 hn
   refine ih _ _ a1 (by rw [List.length_append, List.length_singleton]; omega) (fun x hx => ?_)
   rcases List.mem_append.1 hx with hx | hx
   ·exact h3 x hx
   ·rw [List.mem_singleton.1 hx]; exact ⟨a3, a4⟩
  ·rw [if_neg hn]
   exact ⟨Nat.zero_le _, fun x hx => by simp at hx⟩
theorem headF_le {S : List Int} (hb : ∀ b ∈ S, 0 ≤ b ∧ b ≤ 255) (most : Int) (st : St) (h : st.1 ≤ S.length) : (headF S most st).2.1 ≤ S.length := by
 obtain ⟨a1, -, -, -, -⟩ := numF_at hb st h
 unfold headF
 split <;> exact a1
theorem listF_rng {S : List Int} (hb : ∀ b ∈ S, 0 ≤ b ∧ b ≤ 255) (most : Int) (st : St) (h : st.1 ≤ S.length) : (listF S (numF S) most st).1.length ≤ S.length ∧ (∀ x ∈ (listF S (numF S) most st).1, 0 ≤ x ∧ x ≤ MX) :=
 loopF_rng S hb _ _ _ (headF_le hb most st h) (Nat.zero_le _) (fun x hx => by simp at hx)
theorem loopF_int (S : List Int) : ∀ (d : Nat) (st : St) (out : List Int), loopF (intF S) d st (out.map sgn) = ((loopF (numF S) d st out).1.map sgn, (loopF (numF S) d st out).2) := by
 intro d
 induction d with
 | zero => intro st out; rfl
 | succ d ih =>
  intro st out
  rw [loopF, loopF]
  have e : (intF S st).2 = (numF S st).2 := rfl
  rw [e]
  by_cases hn : (numF S st).2.2 = none
  ·rw [if_pos hn, if_pos hn, ← ih]
   simp [intF]
  ·rw [if_neg hn, if_neg hn]
   rfl
theorem listF_int (S : List Int) (most : Int) (st : St) : listF S (intF S) most st = ((listF S (numF S) most st).1.map sgn, (listF S (numF S) most st).2) := loopF_int S _ _ []
theorem listF_ok {s : ByteArray} {st : St} (most : Int) (ho : Ok s st) : Ok s (listF (bytesOf s) (numF (bytesOf s)) most st).2 := by
 have key : ∀ (d : Nat) (st : St) (out : List Int), Ok s st → Ok s (loopF (numF (bytesOf s)) d st out).2 := by
  intro d
  induction d with
  | zero => intro st out h; exact h
  | succ d ih =>
   intro st out h
   rw [loopF]
   split
   ·exact ih _ _ (refnum_ok h)
   ·exact refnum_ok h
 exact key _ _ _ (headF_ok most ho)
theorem refints_l0 (l : List Int) (hl : l.length ≤ 1000000000) (hr : ∀ x ∈ l, 0 ≤ x ∧ x ≤ MX) (s : ByteArray) (x1 x2 : Int) : ∀ (d i : Nat), i + d = l.length →
 Ev (fun k => greenwoodref01_Reader_Ints.l0 k l ((l.take i).map sgn) (i : Int) s x1 x2) (l.map sgn, s, x1, x2) := by
 intro d
 induction d with
 | zero =>
  intro i hi
  refine Ev.step (fun k => by rw [greenwoodref01_Reader_Ints.l0]) ?_
  refine Ev.ifn (by omega) (Ev.val ?_)
  rw [List.take_of_length_le (by omega)]
 | succ d ih =>
  intro i hi
  have hlt : i < l.length := by omega
  refine Ev.step (fun k => by rw [greenwoodref01_Reader_Ints.l0]) ?_
  refine Ev.ifp (by omega) (Ev.ifp (by omega) ?_)
  rw [rd_at hlt, refsigned _ (hr _ (List.getElem_mem hlt)).1 (hr _ (List.getElem_mem hlt)).2]
  refine Ev.bnd ?_
  refine Ev.ifp (by rw [List.length_map, List.length_take]; omega) ?_
  have ei : wrap64 ((i : Int) + 1) = ((i + 1 : Nat) : Int) := by unfold wrap64; omega
  have := ih (i + 1) (by omega)
  rw [List.take_add_one, List.getElem?_eq_getElem hlt, List.map_append] at this
  simp only [ei]
  exact this
theorem refints (s : ByteArray) (st : St) (most : Int) (hs : s.size ≤ 1000000000) (ho : Ok s st) : Ev (fun k => greenwoodref01_Reader_Ints.f k s (sa st) (se st) most) ((listF (bytesOf s) (intF (bytesOf s)) most st).1, s, sa (listF (bytesOf s) (intF (bytesOf s)) most st).2, se (listF (bytesOf s) (intF (bytesOf s)) most st).2) := by
 unfold greenwoodref01_Reader_Ints.f
 refine Ev.bind (refnums s st most hs ho) ?_
 obtain ⟨h1, h2⟩ := listF_rng (bytesOf_in s) most st (by rw [bytesOf_length]; exact ho.1)
 rw [bytesOf_length] at h1
 rw [listF_int]
 exact refints_l0 _ (by omega) h2 s _ _ _ 0 (Nat.zero_add _)
theorem refend (s : ByteArray) (st : St) (ho : Ok s st) : greenwoodref01_Reader_End.f s (sa st) (se st) = some ((endF (bytesOf s) st).1, (endF (bytesOf s) st).2, s, sa st, se st) := by
 obtain ⟨p, er⟩ := st
 unfold greenwoodref01_Reader_End.f
 cases er with
 | some pc =>
  have := ho.2 pc rfl
  rw [if_neg (show ¬ se (p, some pc) = 0 from fun h => by have h' : pc.2 = 0 := h; omega)]
  rfl
 | none =>
  rw [if_pos (show se (p, none) = 0 from rfl)]
  by_cases h : p < s.size
  ·rw [if_pos (show sa (p, none) < (s.size : Int) by show ((p : Nat) : Int) < _; omega)]
   simp only [endF, bytesOf_length, if_pos h]
   rfl
  ·rw [if_neg (show ¬ sa (p, none) < (s.size : Int) by show ¬ ((p : Nat) : Int) < _; omega)]
   simp only [endF, bytesOf_length, if_neg h]
   rfl
end Go.Proofs.YtlekdhejgdfnpaaDoor.P
/- Readers and writers, in general: what is written is read, what is cut is cut, what is read is written. -/
namespace Go.Proofs.YtlekdhejgdfnpaaDoor.P
open Go.RowKit Go.Proofs.YtlekdhejgdfnpaaDoorW.PrintWords Go.Proofs.YtlekdhejgdfnpaaDoorW.PrintLast Go.Proofs.YtlekdhejgdfnpaaDoorW.PrintMore
open Wr

abbrev Rdr (α : Type) := List Int → St → α × St
def EncOk {α : Type} (F : Rdr α) (E : α → List Int) (P : α → Prop) : Prop := ∀ (A B : List Int) (x : α), P x → F (A ++ (E x ++ B)) (A.length, none) = (x, (A.length + (E x).length, none))
def CutOk {α : Type} (F : Rdr α) (E : α → List Int) (P : α → Prop) : Prop := ∀ (A : List Int) (x : α) (c : Nat), P x → c < (E x).length → ∃ p q, q ≤ A.length + c ∧ (F (A ++ (E x).take c) (A.length, none)).2 = (p, some (q, 10))
def BackOk {α : Type} (F : Rdr α) (E : α → List Int) (Q : α → Prop) : Prop := ∀ (S : List Int) (p : Nat), (∀ b ∈ S, 0 ≤ b ∧ b ≤ 255) → p ≤ S.length → (F S (p, none)).2.2 = none →
 (F S (p, none)).2.1 = p + (E (F S (p, none)).1).length ∧ (S.drop p).take (E (F S (p, none)).1).length = E (F S (p, none)).1 ∧ Q (F S (p, none)).1
def ErrOk {α : Type} (F : Rdr α) : Prop := ∀ (S : List Int) (st : St), st.2 ≠ none → (F S st).2 = st
def bindR {α β : Type} (F : Rdr α) (G : α → Rdr β) : Rdr (α × β) := fun S st => (((F S st).1, (G (F S st).1 S (F S st).2).1), (G (F S st).1 S (F S st).2).2)
section
variable {α β : Type} {F : Rdr α} {G : α → Rdr β} {E : α → List Int} {E2 : α → β → List Int} {P : α → Prop} {P2 : α → β → Prop}
theorem take_le {S : List Int} {p n : Nat} {e : List Int} (h : (S.drop p).take n = e) (he : e.length = n) : p ≤ S.length → p + n ≤ S.length := by
 intro hp
 have := congrArg List.length h
 rw [List.length_take, List.length_drop] at this
 omega
theorem EncOk.bind (h : EncOk F E P) (h2 : ∀ x, P x → EncOk (G x) (E2 x) (P2 x)) : EncOk (bindR F G) (fun xy => E xy.1 ++ E2 xy.1 xy.2) (fun xy => P xy.1 ∧ P2 xy.1 xy.2) := by
 rintro A B ⟨x, y⟩ ⟨hx, hy⟩
 have e1 : A ++ ((E x ++ E2 x y) ++ B) = A ++ (E x ++ (E2 x y ++ B)) := by simp [List.append_assoc]
 have h1 := h A (E2 x y ++ B) x hx
 have h3 := h2 x hx (A ++ E x) B y hy
 rw [show (A ++ E x) ++ (E2 x y ++ B) = A ++ (E x ++ (E2 x y ++ B)) by simp [List.append_assoc], List.length_append] at h3
 show bindR F G (A ++ ((E x ++ E2 x y) ++ B)) _ = _
 rw [e1]
 unfold bindR
 rw [h1]
 dsimp only
 rw [h3]
 simp only [List.length_append, Nat.add_assoc]
theorem ErrOk.bind (h : ErrOk F) (h2 : ∀ x, ErrOk (G x)) : ErrOk (bindR F G) := by
 intro S st hs
 show (G (F S st).1 S (F S st).2).2 = st
 rw [h2 _ S _ (by rw [h S st hs]; exact hs), h S st hs]
theorem CutOk.bind (h : CutOk F E P) (he : EncOk F E P) (h2 : ∀ x, P x → CutOk (G x) (E2 x) (P2 x)) (hg : ∀ x, ErrOk (G x)) : CutOk (bindR F G) (fun xy => E xy.1 ++ E2 xy.1 xy.2) (fun xy => P xy.1 ∧ P2 xy.1 xy.2) := by
 rintro A ⟨x, y⟩ c ⟨hx, hy⟩ hc
 dsimp only at hc ⊢
 by_cases hl : c < (E x).length
 ·obtain ⟨p, q, hq, hr⟩ := h A x c hx hl
  refine ⟨p, q, hq, ?_⟩
  rw [List.take_append_of_le_length (Nat.le_of_lt hl)]
  show (G _ _ (F (A ++ (E x).take c) (A.length, none)).2).2 = _
  rw [hr]
  exact hg _ _ _ (by simp)
 ·have e1 : (E x ++ E2 x y).take c = E x ++ (E2 x y).take (c - (E x).length) := by rw [List.take_append, List.take_of_length_le (by omega)]
  have h1 := he A ((E2 x y).take (c - (E x).length)) x hx
  rw [List.length_append] at hc
  obtain ⟨p, q, hq, hr⟩ := h2 x hx (A ++ E x) y (c - (E x).length) hy (by omega)
  rw [List.length_append] at hq hr
  refine ⟨p, q, by omega, ?_⟩
  rw [e1]
  unfold bindR
  rw [h1]
  dsimp only
  rw [List.append_assoc] at hr
  exact hr
theorem BackOk.bind {Q : α → Prop} {Q2 : α → β → Prop} (h : BackOk F E Q) (h2 : ∀ x, Q x → BackOk (G x) (E2 x) (Q2 x)) (hg : ∀ x, ErrOk (G x)) : BackOk (bindR F G) (fun xy => E xy.1 ++ E2 xy.1 xy.2) (fun xy => Q xy.1 ∧ Q2 xy.1 xy.2) := by
 intro S p hb hp hn
 have hn' : (G (F S (p, none)).1 S (F S (p, none)).2).2.2 = none := hn
 have h1 : (F S (p, none)).2.2 = none := by
  apply Classical.byContradiction
  intro hne
  rw [hg _ S _ hne] at hn'
  exact hne hn'
 obtain ⟨a1, a2, a3⟩ := h S p hb hp h1
 have hst : (F S (p, none)).2 = (p + (E (F S (p, none)).1).length, none) := Prod.ext a1 h1
 have hle := take_le a2 rfl hp
 rw [hst] at hn'
 obtain ⟨b1, b2, b3⟩ := h2 _ a3 S _ hb hle hn'
 show (G (F S (p, none)).1 S (F S (p, none)).2).2.1 = p + (E (F S (p, none)).1 ++ E2 (F S (p, none)).1 (G (F S (p, none)).1 S (F S (p, none)).2).1).length ∧ (S.drop p).take (E (F S (p, none)).1 ++ E2 (F S (p, none)).1 (G (F S (p, none)).1 S (F S (p, none)).2).1).length = E (F S (p, none)).1 ++ E2 (F S (p, none)).1 (G (F S (p, none)).1 S (F S (p, none)).2).1 ∧ Q (F S (p, none)).1 ∧ Q2 (F S (p, none)).1 (G (F S (p, none)).1 S (F S (p, none)).2).1
 rw [hst]
 generalize (F S (p, none)).1 = x at *
 generalize (G x S (p + (E x).length, none)).1 = y at *
 refine ⟨by rw [b1, List.length_append]; omega, ?_, a3, b3⟩
 rw [List.length_append, List.take_add, a2, List.drop_drop, b2]
end
/-- the values told in another way -/
theorem EncOk.map {α β : Type} {F : Rdr α} {F' : Rdr β} {E : α → List Int} {E' : β → List Int} {P : α → Prop} {P' : β → Prop} (f : α → β) (g : β → α) (hF : ∀ S st, F' S st = (f (F S st).1, (F S st).2)) (hP : ∀ y, P' y → P (g y) ∧ f (g y) = y ∧ E (g y) = E' y) (h : EncOk F E P) : EncOk F' E' P' := by
 intro A B y hy
 obtain ⟨h1, h2, h3⟩ := hP y hy
 have := h A B (g y) h1
 rw [h3] at this
 rw [hF, this, h2]
theorem CutOk.map {α β : Type} {F : Rdr α} {F' : Rdr β} {E : α → List Int} {E' : β → List Int} {P : α → Prop} {P' : β → Prop} (f : α → β) (g : β → α) (hF : ∀ S st, F' S st = (f (F S st).1, (F S st).2)) (hP : ∀ y, P' y → P (g y) ∧ f (g y) = y ∧ E (g y) = E' y) (h : CutOk F E P) : CutOk F' E' P' := by
 intro A y c hy hc
 obtain ⟨h1, h2, h3⟩ := hP y hy
 have := h A (g y) c h1 (by rw [h3]; exact hc)
 rw [h3] at this
 obtain ⟨p, q, a, b⟩ := this
 exact ⟨p, q, a, by rw [hF]; exact b⟩
theorem BackOk.map {α β : Type} {F : Rdr α} {F' : Rdr β} {E : α → List Int} {E' : β → List Int} {Q : α → Prop} {Q' : β → Prop} (f : α → β) (hF : ∀ S st, F' S st = (f (F S st).1, (F S st).2)) (hQ : ∀ x, Q x → Q' (f x) ∧ E' (f x) = E x) (h : BackOk F E Q) : BackOk F' E' Q' := by
 intro S p hb hp hn
 rw [hF] at hn ⊢
 obtain ⟨a1, a2, a3⟩ := h S p hb hp hn
 obtain ⟨b1, b2⟩ := hQ _ a3
 dsimp only at *
 rw [b2]
 exact ⟨a1, a2, b1⟩
theorem ErrOk.map {α β : Type} {F : Rdr α} {F' : Rdr β} (f : α → β) (hF : ∀ S st, F' S st = (f (F S st).1, (F S st).2)) (h : ErrOk F) : ErrOk F' := by
 intro S st hs; rw [hF]; exact h S st hs
/-! ### numbers -/
def NumP (n : Int) : Prop := 0 ≤ n ∧ n ≤ MX
def IntP (n : Int) : Prop := -562949953421312 ≤ n ∧ n ≤ 562949953421312
theorem numR_err : ErrOk numF := by
 intro S st hs
 obtain ⟨p, er⟩ := st
 cases er with
 | none => exact absurd rfl hs
 | some pc => rfl
theorem num_enc : EncOk numF encN NumP := fun A B n h => numF_enc A B h.1 h.2
theorem numF_cut (A : List Int) (n : Int) (c : Nat) (h : NumP n) (hc : c < (encN n).length) : numF (A ++ (encN n).take c) (A.length, none) = (0, (A.length, some (A.length, 10))) := by
 rw [encN_in h.1 h.2] at hc ⊢
 have h1 : ((n.toNat : Nat) : Int) ≤ MX := by have := h.1; have := h.2; omega
 have h2 := tkL_cut n.toNat A [] 8 c 0 (vb_len8 h1) hc
 have h3 : tk (A ++ (vb n.toNat).take c) A.length = (0, A.length, 10) := by simpa [tk] using h2
 simp [numF, h3]
theorem num_cut : CutOk numF encN NumP := fun A n c h hc => ⟨A.length, A.length, by omega, by rw [numF_cut A n c h hc]⟩
theorem num_back : BackOk numF encN NumP := by
 intro S p hb hp hn
 by_cases hc : (tk S p).2.2 = 0
 ·have e : numF S (p, none) = ((tk S p).1, ((tk S p).2.1, none)) := by simp only [numF, hc, if_true]
  rw [e]
  rcases tk_any S p hb with h | h
  ·obtain ⟨_, h0, h1, _, _⟩ := h
   obtain ⟨a1, a2⟩ := tk_one S p hb hc
   dsimp only
   rw [encN_in h0 h1]
   exact ⟨a1, a2, h0, h1⟩
  ·rcases h.2.2 with h | h <;> rw [hc] at h <;> exact absurd h (by decide)
 ·have e : numF S (p, none) = (0, (p, some (p, (tk S p).2.2))) := by simp only [numF, if_neg hc]
  rw [e] at hn
  cases hn
theorem encI_enc {n : Int} (h : IntP n) : ∃ m, NumP m ∧ encI n = encN m ∧ sgn m = n := by
 obtain ⟨h0, h1⟩ := h
 unfold encI
 rw [if_neg (by simp only [MX]; omega)]
 by_cases hn : n < 0
 ·rw [if_pos hn]
  exact ⟨_, ⟨by omega, by simp only [MX]; omega⟩, rfl, sgn_neg hn⟩
 ·rw [if_neg hn]
  exact ⟨_, ⟨by omega, by simp only [MX]; omega⟩, rfl, sgn_pos (by omega)⟩
theorem encI_sgn {m : Int} (h : NumP m) : IntP (sgn m) ∧ encI (sgn m) = encN m := by
 obtain ⟨h0, h1⟩ := h
 simp only [MX] at h1
 unfold sgn
 by_cases hm : m % 2 = 1
 ·rw [if_pos hm]
  refine ⟨⟨by omega, by omega⟩, ?_⟩
  unfold encI
  rw [if_neg (by simp only [MX]; omega), if_pos (by omega)]
  congr 1
  omega
 ·rw [if_neg hm]
  refine ⟨⟨by omega, by omega⟩, ?_⟩
  unfold encI
  rw [if_neg (by simp only [MX]; omega), if_neg (by omega)]
  congr 1
  omega
theorem intR_err : ErrOk intF := fun S st hs => numR_err S st hs
theorem int_enc : EncOk intF encI IntP := fun A B n h => intF_enc A B h.1 h.2
theorem int_cut : CutOk intF encI IntP := by
 intro A n c h hc
 obtain ⟨m, h1, h2, h3⟩ := encI_enc h
 rw [h2] at hc ⊢
 exact num_cut A m c h1 hc
theorem int_back : BackOk intF encI IntP := by
 intro S p hb hp hn
 obtain ⟨a1, a2, a3⟩ := num_back S p hb hp hn
 obtain ⟨b1, b2⟩ := encI_sgn a3
 show (numF S (p, none)).2.1 = p + (encI (sgn (numF S (p, none)).1)).length ∧ (S.drop p).take (encI (sgn (numF S (p, none)).1)).length = encI (sgn (numF S (p, none)).1) ∧ IntP (sgn (numF S (p, none)).1)
 rw [b2]
 exact ⟨a1, a2, b1⟩
end Go.Proofs.YtlekdhejgdfnpaaDoor.P
/- errors.As at the reader's own error, errors.Is at a number's flaw: Go's text of both walked (turned from a worked proof of the kit). -/
namespace Go.Proofs.YtlekdhejgdfnpaaDoor.P
open Go.RowKit Go.Extern.Stop Go.Stop Go.Extern
theorem wr_valueOf27 (t : Addr) (w : World) : (ReflectliteValue.unpack (.iface 84 (.pointer (some t)))).run Tryd.prog w
 = .ok (.agg #[.pointer (some ⟨1, 84, none⟩), .pointer (some ⟨w.heap.size, 0, none⟩), .int .u64 150]) (w.alloc (.cells #[.pointer (some t)] 84)) := by kernel_rfl
theorem wr_type27 (a : Addr) (w : World) : (ReflectliteValue.methodAny (ReflectliteValue.valueError "reflectlite.Value.Type" 0) (fun t _ _ _ => ReflectliteType.toType t) #[.agg #[.pointer (some ⟨1, 84, none⟩), .pointer (some a), .int .u64 150]]).run Tryd.prog w
 = .ok (.iface 116 (.agg #[.pointer (some ⟨1, 84, none⟩)])) w := by kernel_rfl
theorem wr_methodKind (h : Value) (w : World) : (Go.method 258 116 (.agg #[h]) "Kind").run Tryd.prog w = .ok (85, h) w := by kernel_rfl
theorem wr_kind27 (w : World) : ((ReflectliteType.abiMethod fun t => (fun a : Nat => Value.int IntKind.u8 (a : Int)) <$> Rtype.kind t) #[.pointer (some ⟨1, 84, none⟩)]).run Tryd.prog w = .ok (.int .u8 22) w := by kernel_rfl
theorem wr_kind25 (w : World) : ((ReflectliteType.abiMethod fun t => (fun a : Nat => Value.int IntKind.u8 (a : Int)) <$> Rtype.kind t) #[.pointer (some ⟨1, 82, none⟩)]).run Tryd.prog w = .ok (.int .u8 22) w := by kernel_rfl

theorem rlm (z : Sem Value) (f : TypeId → Addr → Nat → Nat → Sem Value) (v : Value) :
 ReflectliteValue.method z f #[v] = (do match ← ReflectliteValue.parts v with | none => z | some (t, a, fl) => f t a fl (fl % 32)) := rfl
theorem wr_parts27 (a : Addr) (w : World) : (ReflectliteValue.parts (.agg #[.pointer (some ⟨1, 84, none⟩), .pointer (some a), .int .u64 150])).run Tryd.prog w = .ok (some (84, a, 150)) w := by kernel_rfl
theorem wr_isNil27 (a p : Addr) (W : World) (ha : W.cell? a = some (.pointer (some p))) :
 (ReflectliteValue.method (ReflectliteValue.valueError "reflectlite.Value.IsNil" 0) ReflectliteValue.isNil #[.agg #[.pointer (some ⟨1, 84, none⟩), .pointer (some a), .int .u64 150]]).run Tryd.prog W = .ok (.bool false) W := by
 rw [rlm]
 simp only [Sem.run_bind, wr_parts27, Result.andThen]
 simp [ReflectliteValue.isNil, loadVar, isAgg, underlying, Tryd.underlying84, ha, Result.andThen]

theorem wr_methodElem (h : Value) (w : World) : (Go.method 258 116 (.agg #[h]) "Elem").run Tryd.prog w = .ok (98, .agg #[h]) w := by kernel_rfl
theorem wr_methodImplements (h : Value) (w : World) : (Go.method 258 116 (.agg #[h]) "Implements").run Tryd.prog w = .ok (99, .agg #[h]) w := by kernel_rfl
theorem wr_methodAssignableTo (h : Value) (w : World) : (Go.method 258 116 (.agg #[h]) "AssignableTo").run Tryd.prog w = .ok (96, .agg #[h]) w := by kernel_rfl
theorem wr_elem27 (w : World) : (ReflectliteType.method ReflectliteType.elem #[.agg #[.pointer (some ⟨1, 84, none⟩)]]).run Tryd.prog w = .ok (.iface 116 (.agg #[.pointer (some ⟨1, 82, none⟩)])) w := by kernel_rfl
theorem wr_implements25 (w : World) : (ReflectliteType.relation "Implements" ReflectliteType.implements_ #[.agg #[.pointer (some ⟨1, 82, none⟩)], .iface 116 (.agg #[.pointer (some ⟨1, 66, none⟩)])]).run Tryd.prog w = .ok (.bool true) w := by kernel_rfl
theorem wr_typeOf25 (v : Value) (w : World) : (ReflectliteType.typeOf #[.iface 82 v]).run Tryd.prog w = .ok (.iface 116 (.agg #[.pointer (some ⟨1, 82, none⟩)])) w := by kernel_rfl
theorem wr_assignable25 (w : World) : (ReflectliteType.relation "AssignableTo" ReflectliteType.assignableTo #[.agg #[.pointer (some ⟨1, 82, none⟩)], .iface 116 (.agg #[.pointer (some ⟨1, 82, none⟩)])]).run Tryd.prog w = .ok (.bool true) w := by kernel_rfl
theorem wr_valueOf25 (e : Addr) (w : World) : (ReflectliteValue.unpack (.iface 82 (.pointer (some e)))).run Tryd.prog w
 = .ok (.agg #[.pointer (some ⟨1, 82, none⟩), .pointer (some ⟨w.heap.size, 0, none⟩), .int .u64 150]) (w.alloc (.cells #[.pointer (some e)] 82)) := by kernel_rfl

theorem wr_elemOf27 (w : World) : (Rtype.elem? 84).run Tryd.prog w = .ok (some 82) w := by kernel_rfl
theorem wr_mk25 (p : Addr) (w : World) : (ReflectliteValue.mk 82 p ReflectliteValue.flagAddr).run Tryd.prog w = .ok (.agg #[.pointer (some ⟨1, 82, none⟩), .pointer (some p), .int .u64 406]) w := by kernel_rfl
theorem wr_elemV27 (a p : Addr) (W : World) (ha : W.cell? a = some (.pointer (some p))) :
 (ReflectliteValue.method (ReflectliteValue.valueError "reflectlite.Value.Elem" 0) ReflectliteValue.elem #[.agg #[.pointer (some ⟨1, 84, none⟩), .pointer (some a), .int .u64 150]]).run Tryd.prog W
  = .ok (.agg #[.pointer (some ⟨1, 82, none⟩), .pointer (some p), .int .u64 406]) W := by
 rw [rlm]
 simp only [Sem.run_bind, wr_parts27, Result.andThen]
 simp [ReflectliteValue.elem, loadVar, isAgg, underlying, Tryd.underlying84, ha, Result.andThen, wr_elemOf27, wr_mk25]
theorem rls (v x : Value) : ReflectliteValue.set #[v, x] = (do
 let (some (dst, a, fl), some (src, b, _)) := (← ReflectliteValue.parts v, ← ReflectliteValue.parts x)
  | unsupported (.noEntry "extern/(internal/reflectlite.Value).Set.zeroValue")
 if fl / ReflectliteValue.flagAddr % 2 == 0 then unsupported (.noEntry "extern/(internal/reflectlite.Value).Set.unaddressable")
 let val ← loadVar src b
 if ← Rtype.directlyAssignable dst src then storeVar dst a val
 else if ← Rtype.implements dst src then
  if (← Rtype.kind src) == 20 then
   match val with
   | .nilIface => unsupported (.noEntry "extern/reflectlite: a nil value of one interface type handed on as a value of another")
   | _ => storeVar dst a val
  else storeVar dst a (.iface src val)
 else panicString ("reflectlite.Set: value of type " ++ (← Rtype.spelt src) ++ " is not assignable to type " ++ (← Rtype.spelt dst))
 pure (.tuple #[])) := rfl
theorem wr_parts25a (a : Addr) (w : World) : (ReflectliteValue.parts (.agg #[.pointer (some ⟨1, 82, none⟩), .pointer (some a), .int .u64 406])).run Tryd.prog w = .ok (some (82, a, 406)) w := by kernel_rfl
theorem wr_parts25 (a : Addr) (w : World) : (ReflectliteValue.parts (.agg #[.pointer (some ⟨1, 82, none⟩), .pointer (some a), .int .u64 150])).run Tryd.prog w = .ok (some (82, a, 150)) w := by kernel_rfl
theorem wr_direct25 (w : World) : (Rtype.directlyAssignable 82 82).run Tryd.prog w = .ok true w := by kernel_rfl
theorem wr_set25 (ta b e : Addr) (old : Value) (W : World) (hb : W.cell? b = some (.pointer (some e))) (ht : W.cell? ta = some old) (hf : W.frozen? ta = false) :
 (ReflectliteValue.set #[.agg #[.pointer (some ⟨1, 82, none⟩), .pointer (some ta), .int .u64 406], .agg #[.pointer (some ⟨1, 82, none⟩), .pointer (some b), .int .u64 150]]).run Tryd.prog W
  = .ok (.tuple #[]) (W.setCell ta (.pointer (some e))) := by
 rw [rls]
 simp only [Sem.run_bind, wr_parts25a, wr_parts25, Result.andThen]
 simp [ReflectliteValue.flagAddr, loadVar, isAgg, underlying, Tryd.underlying82, hb, Result.andThen, wr_direct25, storeVar, Value.cells, storeCells, Addr.add]
 rw [run_store Tryd.prog W ta _ _ (by rfl)]
 simp [ht, hf]

set_option maxHeartbeats 4000000 in
theorem as_hit (e t : Addr) (old : Value) (w : World) (hg : w.cell? ⟨0, 0, none⟩ = some (.iface 116 (.agg #[.pointer (some ⟨1, 66, none⟩)]))) (ht0 : w.cell? t = some old) (hf0 : w.frozen? t = false) :
 Calls Tryd.prog 47 #[.iface 82 (.pointer (some e)), .iface 84 (.pointer (some t))] w fun ev w' => ev = .returned (.bool true) ∧ w' = ((((w.alloc (.cells #[.pointer (some t)] 84)).alloc (.cells #[.pointer (some ⟨1, 84, none⟩), .pointer (some ⟨w.heap.size, 0, none⟩), .int .u64 150] 101)).alloc (.cells #[.pointer (some ⟨1, 84, none⟩), .pointer (some ⟨w.heap.size, 0, none⟩), .int .u64 150] 101)).alloc (.cells #[.pointer (some e)] 82)).setCell t (.pointer (some e)) := by
 have h6 := @run_callFunc_extern Tryd.prog 60 _ (fun args => ReflectliteValue.unpack (args.getD 0 (.tuple #[]))) Tryd.func60 (by kernel_rfl) (by kernel_rfl) (by kernel_rfl) (by kernel_rfl)
 have h7 := @run_callFunc_extern Tryd.prog 61 _ (ReflectliteValue.methodAny (ReflectliteValue.valueError "reflectlite.Value.Type" 0) (fun t _ _ _ => ReflectliteType.toType t)) Tryd.func61 (by kernel_rfl) (by kernel_rfl) (by kernel_rfl) (by kernel_rfl)
 have h8 := @run_callFunc_extern Tryd.prog 62 _ (ReflectliteValue.method (ReflectliteValue.valueError "reflectlite.Value.IsNil" 0) ReflectliteValue.isNil) Tryd.func62 (by kernel_rfl) (by kernel_rfl) (by kernel_rfl) (by kernel_rfl)
 have h27 := @run_callFunc_extern Tryd.prog 85 _ (ReflectliteType.abiMethod fun t => do pure (.int .u8 (← Rtype.kind t))) Tryd.func85 (by kernel_rfl) (by kernel_rfl) (by kernel_rfl) (by kernel_rfl)
 have h37 := @run_callFunc_extern Tryd.prog 98 _ (ReflectliteType.method ReflectliteType.elem) Tryd.func98 (by kernel_rfl) (by kernel_rfl) (by kernel_rfl) (by kernel_rfl)
 have h38 := @run_callFunc_extern Tryd.prog 99 _ (ReflectliteType.relation "Implements" ReflectliteType.implements_) Tryd.func99 (by kernel_rfl) (by kernel_rfl) (by kernel_rfl) (by kernel_rfl)
 have h10 := @run_callFunc_extern Tryd.prog 64 _ ReflectliteType.typeOf Tryd.func64 (by kernel_rfl) (by kernel_rfl) (by kernel_rfl) (by kernel_rfl)
 have h35 := @run_callFunc_extern Tryd.prog 96 _ (ReflectliteType.relation "AssignableTo" ReflectliteType.assignableTo) Tryd.func96 (by kernel_rfl) (by kernel_rfl) (by kernel_rfl) (by kernel_rfl)
 have h11 := @run_callFunc_extern Tryd.prog 69 _ (ReflectliteValue.method (ReflectliteValue.valueError "reflectlite.Value.Elem" 0) ReflectliteValue.elem) Tryd.func69 (by kernel_rfl) (by kernel_rfl) (by kernel_rfl) (by kernel_rfl)
 have h12 := @run_callFunc_extern Tryd.prog 70 _ ReflectliteValue.set Tryd.func70 (by kernel_rfl) (by kernel_rfl) (by kernel_rfl) (by kernel_rfl)
 have tO := wr_typeOf25
 have mA := wr_methodAssignableTo
 have a25 := wr_assignable25
 have v25 := wr_valueOf25
 have f6 := wr_valueOf27
 have f7 := wr_type27
 have mK := wr_methodKind
 have mE := wr_methodElem
 have mI := wr_methodImplements
 have k27 := wr_kind27
 have k25 := wr_kind25
 have e27 := wr_elem27
 have i25 := wr_implements25
 have n8 := wr_isNil27 ⟨w.heap.size, 0, none⟩ t ((w.alloc (.cells #[.pointer (some t)] 84)).alloc (.cells #[.pointer (some ⟨1, 84, none⟩), .pointer (some ⟨w.heap.size, 0, none⟩), .int .u64 150] 101)) (by simp)
 have hlt : 0 < w.heap.size := by
  rcases Nat.eq_zero_or_pos w.heap.size with h0 | h
  ·simp [World.cell?, h0] at hg
  ·exact h
 have hg2 : ((w.alloc (.cells #[.pointer (some t)] 84)).alloc (.cells #[.pointer (some ⟨1, 84, none⟩), .pointer (some ⟨w.heap.size, 0, none⟩), .int .u64 150] 101)).cell? ⟨0, 0, none⟩ = some (.iface 116 (.agg #[.pointer (some ⟨1, 66, none⟩)])) := by
  rw [World.cell?_alloc_lt _ _ ⟨0, 0, none⟩ (by simp), World.cell?_alloc_lt _ _ ⟨0, 0, none⟩ hlt]; exact hg
 have htl : t.block < w.heap.size := by
  rcases Nat.lt_or_ge t.block w.heap.size with h | h
  ·exact h
  ·simp [World.cell?, Array.getElem?_eq_none h] at ht0
 have el := wr_elemV27 ⟨w.heap.size, 0, none⟩ t (((w.alloc (.cells #[.pointer (some t)] 84)).alloc (.cells #[.pointer (some ⟨1, 84, none⟩), .pointer (some ⟨w.heap.size, 0, none⟩), .int .u64 150] 101)).alloc (.cells #[.pointer (some ⟨1, 84, none⟩), .pointer (some ⟨w.heap.size, 0, none⟩), .int .u64 150] 101)) (by rw [World.cell?_alloc_lt _ _ ⟨w.heap.size, 0, none⟩ (by simp; omega)]; simp)
 have st := wr_set25 t ⟨w.heap.size + 1 + 1 + 1, 0, none⟩ e old ((((w.alloc (.cells #[.pointer (some t)] 84)).alloc (.cells #[.pointer (some ⟨1, 84, none⟩), .pointer (some ⟨w.heap.size, 0, none⟩), .int .u64 150] 101)).alloc (.cells #[.pointer (some ⟨1, 84, none⟩), .pointer (some ⟨w.heap.size, 0, none⟩), .int .u64 150] 101)).alloc (.cells #[.pointer (some e)] 82))
  (by rw [World.cell?_alloc_at _ _ _ _ (by simp)]; rfl)
  (by rw [World.cell?_alloc_lt _ _ t (by simp; omega), World.cell?_alloc_lt _ _ t (by simp; omega), World.cell?_alloc_lt _ _ t (by simp; omega), World.cell?_alloc_lt _ _ t htl]; exact ht0)
  (by rw [World.frozen?_alloc_old _ _ t (by simp; omega), World.frozen?_alloc_old _ _ t (by simp; omega), World.frozen?_alloc_old _ _ t (by simp; omega), World.frozen?_alloc_old _ _ t (Nat.ne_of_lt htl)]; exact hf0)
 go_enter Tryd.func47, Tryd.ntmps47
 go_wp2
 refine wp_loop_rounds 1 ?_
 rw [rounds_succ]
 go_wp2
 go_ret
 exact ⟨rfl, rfl⟩
end Go.Proofs.YtlekdhejgdfnpaaDoor.P
/- errors.Is at the reader's own error. -/
namespace Go.Proofs.YtlekdhejgdfnpaaDoor.P
open Go.RowKit Go.Extern.Stop Go.Stop Go.Extern

theorem wr_typeOfF (v : Value) (w : World) : (ReflectliteType.typeOf #[.iface 87 v]).run Tryd.prog w = .ok (.iface 116 (.agg #[.pointer (some ⟨1, 87, none⟩)])) w := by kernel_rfl
theorem wr_methodComparable (h : Value) (w : World) : (Go.method 258 116 (.agg #[h]) "Comparable").run Tryd.prog w = .ok (97, .agg #[h]) w := by kernel_rfl
theorem wr_comparableF (w : World) : ((ReflectliteType.method fun t => do Rtype.noPackHeld "Comparable" t; (fun a => Value.bool a.comparable) <$> typeInfo t) #[.agg #[.pointer (some ⟨1, 87, none⟩)]]).run Tryd.prog w = .ok (.bool true) w := by kernel_rfl
theorem wr_eq1 (g : Nat) (c : Int) (W : World) : (binOp .eql 66 (.iface 82 (.pointer (some ⟨g, 0, none⟩))) (.iface 87 (.int .i64 c))).run Tryd.prog W = .ok (.bool false) W := by kernel_rfl
theorem wr_eq2 (a b : Int) (W : World) : (binOp .eql 66 (.iface 87 (.int .i64 a)) (.iface 87 (.int .i64 b))).run Tryd.prog W = .ok (.bool (a == b)) W := by kernel_rfl
theorem wr_ta1 (v : Value) (W : World) : (Instr.typeAssert (.iface 82 v) 66 128 true).run Tryd.prog W = .ok (.tuple #[.nilIface, .bool false]) W := run_typeAssert_lacksB Tryd.underlying128 (by decide +kernel) (by kernel_rfl) _ _ _
theorem wr_ta2 (v : Value) (W : World) : (Instr.typeAssert (.iface 82 v) 66 123 true).run Tryd.prog W = .ok (.tuple #[.iface 82 v, .bool true]) W := by kernel_rfl
theorem wr_ta3 (v : Value) (W : World) : (Instr.typeAssert (.iface 87 v) 66 128 true).run Tryd.prog W = .ok (.tuple #[.nilIface, .bool false]) W := run_typeAssert_lacksB Tryd.underlying128 (by decide +kernel) (by kernel_rfl) _ _ _
theorem wr_ta4 (v : Value) (W : World) : (Instr.typeAssert (.iface 87 v) 66 123 true).run Tryd.prog W = .ok (.tuple #[.nilIface, .bool false]) W := run_typeAssert_lacksB Tryd.underlying123 (by decide +kernel) (by kernel_rfl) _ _ _
theorem wr_ta5 (v : Value) (W : World) : (Instr.typeAssert (.iface 87 v) 66 125 true).run Tryd.prog W = .ok (.tuple #[.nilIface, .bool false]) W := run_typeAssert_lacksB Tryd.underlying125 (by decide +kernel) (by kernel_rfl) _ _ _
theorem wr_methodUnwrap (g : Nat) (W : World) : (Go.method 258 82 (.pointer (some ⟨g, 0, none⟩)) "Unwrap").run Tryd.prog W = .ok (90, .pointer (some ⟨g, 0, none⟩)) W := by kernel_rfl
set_option maxHeartbeats 2000000 in
set_option maxRecDepth 100000 in
theorem is_c {w : World} {g : Nat} {pl : Int} {c c' : Int} (hg : w.heap[g]? = some (.cells #[.int .i64 pl, .iface 87 (.int .i64 c)] 86 (0, 0))) :
 Calls Tryd.prog 48 #[.iface 82 (.pointer (some ⟨g, 0, none⟩)), .iface 87 (.int .i64 c')] w fun e w' => e = .returned (.bool (decide (c = c'))) ∧ ∃ q, w' = w.drewN q := by
 have h10 := @run_callFunc_extern Tryd.prog 64 _ ReflectliteType.typeOf Tryd.func64 (by kernel_rfl) (by kernel_rfl) (by kernel_rfl) (by kernel_rfl)
 have h78 := @run_callFunc_extern Tryd.prog 97 _ (ReflectliteType.method fun t => do Rtype.noPackHeld "Comparable" t; pure (.bool (← typeInfo t).comparable)) Tryd.func97 (by kernel_rfl) (by kernel_rfl) (by kernel_rfl) (by kernel_rfl)
 have tO := wr_typeOfF
 have cF := wr_comparableF
 have mC := wr_methodComparable
 have k0 : w.cell? ⟨g, 0, none⟩ = some (.int .i64 pl) := by simp [World.cell?, hg]
 have k1 : w.cell? ⟨g, 1, none⟩ = some (.iface 87 (.int .i64 c)) := by simp [World.cell?, hg]
 have e1 := wr_eq1
 have e2 := wr_eq2
 have t1 := wr_ta1
 have t2 := wr_ta2
 have t3 := wr_ta3
 have t4 := wr_ta4
 have t5 := wr_ta5
 have mU := wr_methodUnwrap
 clear hg
 by_cases hcc : c = c'
 ·have hcb : (c == c') = true := beq_iff_eq.mpr hcc
  clear hcc
  go_enter Tryd.func48, Tryd.ntmps48
  go_wp2
  refine wp_loop_rounds 2 ?_
  rw [rounds_succ]
  go_wp2
  rw [rounds_succ]
  go_wp2
  go_ret
  exact ⟨by rw [decide_eq_true (beq_iff_eq.mp hcb)]; rfl, by first | exact ⟨0, rfl⟩ | exact ⟨_, rfl⟩⟩
 ·have hcb : (c == c') = false := beq_eq_false_iff_ne.mpr hcc
  clear hcc
  go_enter Tryd.func48, Tryd.ntmps48
  go_wp2
  refine wp_loop_rounds 2 ?_
  rw [rounds_succ]
  go_wp2
  rw [rounds_succ]
  go_wp2
  go_ret
  exact ⟨by rw [decide_eq_false (beq_eq_false_iff_ne.mp hcb)]; rfl, by first | exact ⟨0, rfl⟩ | exact ⟨_, rfl⟩⟩
end Go.Proofs.YtlekdhejgdfnpaaDoor.P
/- The one variable of the library's that is read (by errors.As). -/
namespace Go.Proofs.YtlekdhejgdfnpaaDoor.P
open Go.RowKit Go.Extern.Stop Go.Stop Go.Extern Go.Proofs.YtlekdhejgdfnpaaDoorW.PrintWords Go.Proofs.YtlekdhejgdfnpaaDoorW.PrintLast Go.Proofs.YtlekdhejgdfnpaaDoorW.PrintMore

/-- the one variable of the library's that errors.As reads -/
def EV (w : World) : Prop := w.cell? ⟨0, 0, none⟩ = some (.iface 116 (.agg #[.pointer (some ⟨1, 66, none⟩)]))
theorem EV.pos {w : World} (h : EV w) : 0 < w.heap.size := World.block_lt_of_cell? w _ h
theorem EV.below {w w1 : World} {b : Nat} (h : EV w) (hb : Below b w w1) (h0 : 0 < b) : EV w1 := (hb.cell (p := ⟨0, 0, none⟩) h0).trans h
end Go.Proofs.YtlekdhejgdfnpaaDoor.P
/- The wire's reader, walked: End. -/
namespace Go.Proofs.YtlekdhejgdfnpaaDoor.P
open Go.RowKit Go.Proofs.YtlekdhejgdfnpaaDoorW.PrintWords Go.Proofs.YtlekdhejgdfnpaaDoorW.PrintLast Go.Proofs.YtlekdhejgdfnpaaDoorW.PrintMore
open Wr

theorem end_ok {w : World} {B : Nat} {s : ByteArray} {p : Nat} (h : RC w B s p .nilIface) :
 Calls Tryd.prog 18 #[.pointer (some ⟨B, 0, none⟩)] w fun e w' => e = .returned (.tuple #[.int .i64 (if p < s.size then 13 else 0), .int .i64 (p : Int)]) ∧ ∃ q, w' = w.drewN q := by
 obtain ⟨c0, c1, c2, f1, f2⟩ := h.cells
 clear h
 by_cases hlt : p < s.size
 ·have d1 : decide (p < s.size) = true := decide_eq_true hlt
  rw [if_pos hlt]
  clear hlt
  go_enter Tryd.func18, Tryd.ntmps18
  go_wp2
  go_quiet (fail)
  go_wp2
  go_quiet (fail)
  go_wp2
  go_ret2
  exact ⟨rfl, by first | exact ⟨0, rfl⟩ | exact ⟨_, rfl⟩ | exact ⟨_, World.drewN_drewN _ _ _⟩⟩
 ·have d1 : decide (p < s.size) = false := decide_eq_false hlt
  rw [if_neg hlt]
  clear hlt
  go_enter Tryd.func18, Tryd.ntmps18
  go_wp2
  go_quiet (fail)
  go_wp2
  go_quiet (fail)
  go_wp2
  go_ret2
  exact ⟨rfl, by first | exact ⟨0, rfl⟩ | exact ⟨_, rfl⟩ | exact ⟨_, World.drewN_drewN _ _ _⟩⟩
theorem wr_idx0 (W : World) : (Instr.index 88 (.agg #[.int .i64 10, .int .i64 11]) (.int .i64 0)).run Tryd.prog W = .ok (.int .i64 10) W := by kernel_rfl
theorem wr_idx1 (W : World) : (Instr.index 88 (.agg #[.int .i64 10, .int .i64 11]) (.int .i64 1)).run Tryd.prog W = .ok (.int .i64 11) W := by kernel_rfl
theorem as_c {w : World} (hE : EV w) (g : Nat) :
 Calls Tryd.prog 47 #[.iface 82 (.pointer (some ⟨g, 0, none⟩)), .iface 84 (.pointer (some ⟨w.heap.size, 0, none⟩))] (w.alloc (.cells #[.pointer none] 82)) fun e w' => e = .returned (.bool true) ∧ Below w.heap.size w w' ∧ w'.cell? ⟨w.heap.size, 0, none⟩ = some (.pointer (some ⟨g, 0, none⟩)) := by
 have hp := hE.pos
 have hb : Below w.heap.size w (w.alloc (.cells #[.pointer none] 82)) := (Below.refl _ _).alloc (Nat.le_refl _) _
 have hcell : (w.alloc (.cells #[.pointer none] 82)).heap[w.heap.size]? = some (.cells #[.pointer none] 82 (0, 0)) := Array.getElem?_push_size
 refine (as_hit ⟨g, 0, none⟩ ⟨w.heap.size, 0, none⟩ (.pointer none) _ (hE.below hb hp) (by simp) (by simp only [World.frozen?, hcell]; rfl)).mono ?_
 rintro e w' ⟨rfl, rfl⟩
 refine ⟨rfl, ?_, ?_⟩
 ·refine Below.setCell (p := ⟨w.heap.size, 0, none⟩) ?_ (Nat.le_refl _) _
  refine Below.alloc (Below.alloc (Below.alloc (Below.alloc hb ?_ _) ?_ _) ?_ _) ?_ _ <;> simp <;> omega
 ·have hs : ∀ (W : World) (v v0 : Value) (t : TypeId), W.heap[w.heap.size]? = some (.cells #[v0] t (0, 0)) → (W.setCell ⟨w.heap.size, 0, none⟩ v).cell? ⟨w.heap.size, 0, none⟩ = some v := by
   intro W v v0 t h
   simp [World.setCell, World.cell?, Array.getElem?_modify, h]
  refine hs _ _ (.pointer none) 82 ?_
  rw [World.heap_alloc_at_lt _ _ _ (by simp; omega), World.heap_alloc_at_lt _ _ _ (by simp; omega), World.heap_alloc_at_lt _ _ _ (by simp; omega), World.heap_alloc_at_lt _ _ _ (by simp)]
  exact Array.getElem?_push_size
theorem is_at {w W : World} {g : Nat} {pl : Int} {c c' : Int} (hg : w.heap[g]? = some (.cells #[.int .i64 pl, .iface 87 (.int .i64 c)] 86 (0, 0))) (e : W.heap = w.heap) :
 Calls Tryd.prog 48 #[.iface 82 (.pointer (some ⟨g, 0, none⟩)), .iface 87 (.int .i64 c')] W fun e w' => e = .returned (.bool (decide (c = c'))) ∧ ∃ q, w' = W.drewN q := is_c (by rw [e]; exact hg)
set_option maxHeartbeats 4000000 in
set_option maxRecDepth 100000 in
theorem end_err {w : World} {B : Nat} {s : ByteArray} {p g pl : Nat} {c : Int} (hE : EV w) (h : RC w B s p (.iface 82 (.pointer (some ⟨g, 0, none⟩)))) (hg : w.heap[g]? = some (.cells #[.int .i64 (pl : Int), .iface 87 (.int .i64 c)] 86 (0, 0))) (hc : c = 10 ∨ c = 11 ∨ c = 12) :
 Calls Tryd.prog 18 #[.pointer (some ⟨B, 0, none⟩)] w fun e w' => e = .returned (.tuple #[.int .i64 c, .int .i64 (pl : Int)]) ∧ Below w.heap.size w w' := by
 obtain ⟨c0, c1, c2, f1, f2⟩ := h.cells
 have hB := h.lt
 have i0 := wr_idx0
 have i1 := wr_idx1
 have HG := Aside0.mk (And.intro hE hg)
 have hglt : g < w.heap.size := by
  rcases Nat.lt_or_ge g w.heap.size with h | h
  ·exact h
  ·simp [Array.getElem?_eq_none h] at hg
 clear h hg hE
 rcases hc with rfl | rfl | rfl
 all_goals
  go_enter Tryd.func18, Tryd.ntmps18
  go_wp2_with (go_at_call 47; refine (as_c HG.out.1 g).mono ?_; rintro e w1 ⟨rfl, hb, k6⟩; (have hg1 := (hb.block g hglt).trans HG.out.2); (have k7 : w1.cell? ⟨g, 0, none⟩ = some (.int .i64 (pl : Int)) := by simp [World.cell?, hg1]); (have k8 : w1.cell? ⟨B, 2, none⟩ = _ := (hb.cell (p := ⟨B, 2, none⟩) hB).trans c2); (have H1 := Aside0.mk (And.intro hb hg1)); clear hb hg1)
  refine wp_loop_rounds 3 ?_
  rw [rounds_succ]
  go_wp2_with (go_at_call 48; refine (is_at H1.out.2 (by rfl)).mono ?_; rintro e w2 ⟨rfl, q2, rfl⟩)
  rw [rounds_succ]
  go_wp2_with (go_at_call 48; refine (is_at H1.out.2 (by rfl)).mono ?_; rintro e w2 ⟨rfl, q2, rfl⟩)
  rw [rounds_succ]
  go_wp2
  go_ret2
  exact ⟨rfl, by first | exact pw_below_drewN H1.out.1 _ | exact pw_below_drewN (pw_below_drewN H1.out.1 _) _⟩
theorem end_c {w : World} {base B : Nat} {s : ByteArray} {st : St} (hE : EV w) (h : Rd w base B s st) (hok : ∀ pc, st.2 = some pc → pc.2 = 10 ∨ pc.2 = 11 ∨ pc.2 = 12) :
 Calls Tryd.prog 18 #[.pointer (some ⟨B, 0, none⟩)] w fun e w' => e = .returned (.tuple #[.int .i64 (endF (bytesOf s) st).1, .int .i64 (endF (bytesOf s) st).2]) ∧ Below w.heap.size w w' := by
 obtain ⟨p, er⟩ := st
 obtain ⟨h0, ev, h1, h2⟩ := h
 cases er with
 | none =>
  obtain rfl : ev = .nilIface := h2
  refine (end_ok h1).mono ?_
  rintro e w' ⟨rfl, q, rfl⟩
  refine ⟨?_, pw_below_drewN (Below.refl _ _) q⟩
  simp only [endF, bytesOf_length]
  split <;> rfl
 | some pc =>
  obtain ⟨pl, c⟩ := pc
  obtain ⟨g, rfl, -, -, hg⟩ := h2
  exact end_err hE h1 hg (hok (pl, c) rfl)
end Go.Proofs.YtlekdhejgdfnpaaDoor.P
/- The wire's reader, walked: lists. -/
namespace Go.Proofs.YtlekdhejgdfnpaaDoor.P
open Go.RowKit Go.Proofs.YtlekdhejgdfnpaaDoorW.PrintWords Go.Proofs.YtlekdhejgdfnpaaDoorW.PrintLast Go.Proofs.YtlekdhejgdfnpaaDoorW.PrintMore
open Wr
theorem Rd.fail {w0 w1 : World} {base B : Nat} {s : ByteArray} {p : Nat} (hb : base ≤ B) (hr : RC w1 B s p .nilIface) (hg : w0.grownBy w1 (some B)) (pl : Nat) (c : Int) :
 Rd ((w1.setCell ⟨B, 2, none⟩ (.iface 82 (.pointer (some ⟨w1.heap.size, 0, none⟩)))).alloc (.cells #[.int .i64 (pl : Int), .iface 87 (.int .i64 c)] 86)) base B s (p, some (pl, c)) ∧
 w0.grownBy ((w1.setCell ⟨B, 2, none⟩ (.iface 82 (.pointer (some ⟨w1.heap.size, 0, none⟩)))).alloc (.cells #[.int .i64 (pl : Int), .iface 87 (.int .i64 c)] 86)) (some B) := by
 have hlt := hr.lt
 have hfin := RC.setErr hr hg (.iface 82 (.pointer (some ⟨w1.heap.size, 0, none⟩)))
 have hsz : (w1.setCell ⟨B, 2, none⟩ (.iface 82 (.pointer (some ⟨w1.heap.size, 0, none⟩)))).heap.size = w1.heap.size := by simp [World.setCell]
 refine ⟨⟨hb, _, (World.heap_alloc_at_lt _ _ _ (by rw [hsz]; exact hlt)).trans hfin.1, w1.heap.size, rfl, Nat.le_of_lt (Nat.lt_of_le_of_lt hb hlt), Nat.ne_of_gt hlt, ?_⟩, grown_alloc hfin.2 _⟩
 have hps := @Array.getElem?_push_size _ (w1.setCell ⟨B, 2, none⟩ (.iface 82 (.pointer (some ⟨w1.heap.size, 0, none⟩)))).heap (.cells #[.int .i64 (pl : Int), .iface 87 (.int .i64 c)] 86)
 rw [hsz] at hps
 exact hps
theorem loopF_succ (one : St → Int × St) (d : Nat) (st : St) (out : List Int) : loopF one (d + 1) st out = if (one st).2.2 = none then loopF one d (one st).2 (out ++ [(one st).1]) else ([], (one st).2) := rfl
theorem intF_at {S : List Int} (hb : ∀ b ∈ S, 0 ≤ b ∧ b ≤ 255) (st : St) (hp : st.1 ≤ S.length) : (intF S st).2.1 ≤ S.length ∧ st.1 ≤ (intF S st).2.1 ∧ ((intF S st).2.2 = none → st.1 < (intF S st).2.1) := by
 obtain ⟨a1, a2, a3, a4, a5⟩ := numF_at hb st hp
 exact ⟨a1, a2, a5⟩
/-- what was made since W0 is written: all before it stays but the reader -/
theorem grown_new {w wr w1 : World} {B : Nat} {v : Value} (h : w.grownBy wr (some B)) (hg : wr.grownBy w1 v.ownBlock) (hv : ∀ k, v.ownBlock = some k → w.heap.size ≤ k) : w.grownBy w1 (some B) :=
 ⟨hg.os.trans h.os, hg.tape.trans h.tape, hg.output.trans h.output, Nat.le_trans h.size hg.size, fun k hk hne => (hg.block k (Nat.lt_of_lt_of_le hk h.size) (fun e => by have := hv k e.symm; omega)).trans (h.block k hk hne)⟩
theorem R_base {α : Type} {d : Kd α} {e : Nat} {w : World} {base : Nat} {ok : Nat → Prop} {v : Value} {xs : List α} (h : d.R e w base ok v xs) : ∀ k, v.ownBlock = some k → base ≤ k := by
 intro k hk
 rcases Kd.R_base2 h with h | ⟨k', h1, h2⟩
 ·rw [h] at hk; simp at hk
 ·rw [h1] at hk; obtain rfl := Option.some.inj hk; exact h2
theorem Rd.row {w w1 : World} {base B b0 : Nat} {s : ByteArray} {st : St} {v : Value} {xs : List Int} (h : Rd w base B s st) (hr : (Kd.int .i64).R 3 w b0 (fun k => k ≠ B) v xs) (hg : w.grownBy w1 v.ownBlock) : Rd w1 base B s st := by
 refine h.grown hg (fun e => hr.1 B e.symm rfl) (fun k e hk c hc => ?_)
 obtain ⟨cells, hcells⟩ := Kd.R_typed hr k e
 rw [hcells] at hc
 injection hc with hc
 injection hc with _ hc
 exact absurd hc (by decide)

set_option maxHeartbeats 4000000 in
set_option maxRecDepth 100000 in
theorem list_int {w : World} {base B : Nat} {s : ByteArray} {st : St} (most : Int) (h : Rd w base B s st) (hs : s.size ≤ 1000000000) (hp : st.1 ≤ s.size) (hbase : base ≤ w.heap.size) :
 Calls Tryd.prog 68 #[.pointer (some ⟨B, 0, none⟩), .int .i64 most, .func (Fn.func 46) #[.pointer (some ⟨B, 0, none⟩)] #[]] w fun e w' => ∃ v, e = .returned v ∧ (Kd.int .i64).R 3 w' w.heap.size (fun k => k ≠ B) v (listF (bytesOf s) (intF (bytesOf s)) most st).1 ∧ Rd w' base B s (listF (bytesOf s) (intF (bytesOf s)) most st).2 ∧ w.grownBy w' (some B) := by
 obtain ⟨a1, a2, a3, a4, a5⟩ := numF_at (bytesOf_in s) st (by rw [bytesOf_length]; exact hp)
 rw [bytesOf_length] at a1
 have hh := num_c h hs hp
 obtain ⟨n, st1, hn⟩ : ∃ n st1, numF (bytesOf s) st = (n, st1) := ⟨_, _, rfl⟩
 have hhd : headF (bytesOf s) most st = (n, if st1.2 = none ∧ n > most then (st1.1, some (st.1, 12)) else st1) := by
  unfold headF
  rw [hn]
  split <;> rfl
 unfold listF
 rw [hhd]
 rw [hn] at hh a1 a3 a4
 obtain ⟨p, er⟩ := st
 obtain ⟨p1, er1⟩ := st1
 obtain ⟨h0, ev0, hrc, hre⟩ := id h
 obtain ⟨c0, c1, c2, f1, f2⟩ := hrc.cells
 have hB := hrc.lt
 have a3' : 0 ≤ n := a3
 obtain ⟨N, rfl⟩ : ∃ N : Nat, n = (N : Int) := ⟨n.toNat, by omega⟩
 have a4' : (N : Int) ≤ 1125899906842624 := a4
 have hh' : Calls Tryd.prog 42 #[.pointer (some ⟨B, 0, none⟩)] w fun e w' => e = .returned (.int .i64 (N : Int)) ∧ Rd w' base B s (p1, er1) ∧ w.grownBy w' (some B) := hh
 have HH := Aside0.mk hh'
 have HS := Aside0.mk (And.intro hs (And.intro hbase (And.intro h0 hB)))
 obtain ⟨st2, hst2⟩ : ∃ st2 : St, st2 = (if er1 = none ∧ (N : Int) > most then (p1, some (p, 12)) else (p1, er1)) := ⟨_, rfl⟩
 have HST := Aside0.mk (And.intro hst2 (show p1 ≤ s.size from a1))
 simp only [Int.toNat_natCast]
 rw [← hst2]
 have hways : (er1 = none ∧ decide (most < (N : Int)) = true) ∨ (er1 = none ∧ decide (most < (N : Int)) = false) ∨ (∃ pc, er1 = some pc) := by
  cases er1 with
  | none =>
   by_cases hm : most < (N : Int)
   ·exact .inl ⟨rfl, decide_eq_true hm⟩
   ·exact .inr (.inl ⟨rfl, decide_eq_false hm⟩)
  | some pc => exact .inr (.inr ⟨pc, rfl⟩)
 clear h hs hp hh hh' hn hhd hbase h0 hrc hre a1 a2 a3 a3' a4 a5 hB hst2
 simp only at c1
 rcases hways with ⟨rfl, y1⟩ | ⟨rfl, y1⟩ | ⟨⟨pl0, cc0⟩, rfl⟩
 ·have E2 : Aside0 (st2 = (p1, some (p, 12))) := ⟨by rw [HST.out.1]; exact if_pos ⟨rfl, of_decide_eq_true y1⟩⟩
  go_enter Tryd.func68, Tryd.ntmps68
  go_upto_region 7 with ((go_at_call 42; refine HH.out.mono ?_; rintro e w1 ⟨rfl, hr, hg⟩; (obtain ⟨h10, ev1, hrc1, hre1⟩ := id hr); (obtain rfl : ev1 = .nilIface := hre1); (obtain ⟨d0, d1, d2, g1, g2⟩ := hrc1.cells); (have hlt1 := hrc1.lt); (have H1 := Aside0.mk (And.intro hr (And.intro hg hrc1))); clear hr hg h10 hrc1))
  go_wp2
  go_loopw [9, 38] (fun v9 v38 wr => ∃ (d : Nat) (st : St) (out : List Int), d ≤ N ∧ v38 = .int .i64 (d : Int) ∧ Aside0 ((Kd.int .i64).R 3 wr w.heap.size (fun k => k ≠ B) v9 out ∧ Rd wr base B s st ∧ w.grownBy wr (some B)) ∧ Aside0 (st.1 ≤ s.size ∧ out.length ≤ st.1 ∧ loopF (intF (bytesOf s)) N st2 [] = loopF (intF (bytesOf s)) (N - d) st out)) (fun _ v38 _ => (N - (intOf v38).toNat))
  case atStart => exact ⟨0, st2, [], Nat.zero_le _, rfl, ⟨Kd.R_nil _ _ _ _ _, by rw [E2.out]; exact Rd.fail HS.out.2.2.1 H1.out.2.2 H1.out.2.1 p 12⟩, ⟨by rw [HST.out.1]; split <;> exact HST.out.2, Nat.zero_le _, rfl⟩⟩
  case round =>
   obtain ⟨d, st, out, hd, rfl, HR, HT⟩ := hrel
   by_cases hlt : d < N
   ·have hone := int_c HR.out.2.1 HS.out.1 HT.out.1
    obtain ⟨b1, b2, b3⟩ := intF_at (bytesOf_in s) st (by rw [bytesOf_length]; exact HT.out.1)
    rw [bytesOf_length] at b1
    have hl2 := HT.out.2.2
    rw [show N - d = (N - (d + 1)) + 1 by omega] at hl2
    rw [loopF_succ] at hl2
    obtain ⟨x, st', hx⟩ : ∃ x st', intF (bytesOf s) st = (x, st') := ⟨_, _, rfl⟩
    rw [hx] at hone hl2 b1 b2 b3
    obtain ⟨p', er'⟩ := st'
    have hone' : Calls Tryd.prog 46 #[.pointer (some ⟨B, 0, none⟩)] wr fun e w' => e = .returned (.int .i64 x) ∧ Rd w' base B s (p', er') ∧ wr.grownBy w' (some B) := hone
    have HO := Aside0.mk hone'
    cases er' with
    | none =>
     have hl3 : loopF (intF (bytesOf s)) N st2 [] = loopF (intF (bytesOf s)) (N - (d + 1)) (p', none) (out ++ [x]) := by rw [hl2]; rfl
     have HL := Aside0.mk (And.intro (show p' ≤ s.size from b1) (And.intro (show st.1 < p' from b3 rfl) hl3))
     clear hone hone' hl2 hl3 b1 b2 b3 hx
     go_wp2_with (first
      | (go_at_call 46; refine HO.out.mono ?_; rintro e w3 ⟨rfl, hr, hg⟩; (obtain ⟨h30, ev3, hrc3, hre3⟩ := id hr); (obtain rfl : ev3 = .nilIface := hre3); (obtain ⟨k0, k1, k2, k3, k4⟩ := hrc3.cells); (have hr3 := Kd.R_grown HR.out.1 hg (fun k hk e => hk (Option.some.inj e))); (have H3 := Aside0.mk (And.intro hr3 (And.intro hr (grown_trans HR.out.2.2 hg)))); clear hr hg h30 hrc3 hr3)
      | ((with_reducible refine gate_dst (N := 50) rfl ?_); refine Kd.R_append (Kd.int .i64) w.heap.size rfl (.tmp 47) (.tmp 49) 22 3 (.int .i64 0) 8 rfl Tryd.underlying22 info3 rfl (by decide) (by omega) _ out x [.int .i64 x] (fun k => k ≠ B) (fun _ => False) rfl rfl ?aP (fun _ hk => hk.elim) ?aF ?aO (Below.refl _ _) ?aS ?aL ?_; (case aP => exact rfl); (case aF => exact (fun k hk => by have := H3.out.2.1.lt; omega)); (case aO => exact H3.out.1); (case aS => exact H3.out.2.2.size); (case aL => have := HL.out; have := HT.out; have := HS.out; omega); intro v4 w4 ho hb hg hat; (have H4 := Aside0.mk (And.intro ho (And.intro (H3.out.2.1.row H3.out.1 hg) (grown_new H3.out.2.2 hg (R_base H3.out.1))))); clear ho hb hg hat))
     go_roundw
     case rel => exact ⟨d + 1, _, _, by omega, by go_num, H4, ⟨HL.out.1, by have := HL.out.2.1; have := HT.out.2.1; simp; omega, HL.out.2.2⟩⟩
     case measure => simp [intOf]; omega
    | some pc =>
     obtain ⟨pl, c⟩ := pc
     have hl3 : loopF (intF (bytesOf s)) N st2 [] = ([], (p', some (pl, c))) := by rw [hl2]; rfl
     have HL := Aside0.mk hl3
     clear hone hone' hl2 hl3 b1 b2 b3 hx
     go_wp2_with (go_at_call 46; refine HO.out.mono ?_; rintro e w3 ⟨rfl, hr, hg⟩; (obtain ⟨h30, ev3, hrc3, hre3⟩ := id hr); (obtain ⟨g3, rfl, -⟩ := hre3); (obtain ⟨k0, k1, k2, k3, k4⟩ := hrc3.cells); (have H3 := Aside0.mk (And.intro hr (grown_trans HR.out.2.2 hg))); clear hr hg h30 hrc3)
     go_ret
     rw [HL.out]
     exact ⟨_, rfl, Kd.R_nil _ _ _ _ _, H3.out⟩
   ·obtain rfl : d = N := by omega
    have hl3 : loopF (intF (bytesOf s)) d st2 [] = (out, st) := by have := HT.out.2.2; rw [Nat.sub_self] at this; exact this
    have HL := Aside0.mk hl3
    clear hl3
    go_wp2
    go_ret
    rw [HL.out]
    exact ⟨_, rfl, HR.out⟩
 ·have E2 : Aside0 (st2 = (p1, none)) := ⟨by rw [HST.out.1]; exact if_neg (fun h => of_decide_eq_false y1 h.2)⟩
  go_enter Tryd.func68, Tryd.ntmps68
  go_upto_region 7 with ((go_at_call 42; refine HH.out.mono ?_; rintro e w1 ⟨rfl, hr, hg⟩; (obtain ⟨h10, ev1, hrc1, hre1⟩ := id hr); (obtain rfl : ev1 = .nilIface := hre1); (obtain ⟨d0, d1, d2, g1, g2⟩ := hrc1.cells); (have hlt1 := hrc1.lt); (have H1 := Aside0.mk (And.intro hr (And.intro hg hrc1))); clear hr hg h10 hrc1))
  go_wp2
  go_loopw [9, 38] (fun v9 v38 wr => ∃ (d : Nat) (st : St) (out : List Int), d ≤ N ∧ v38 = .int .i64 (d : Int) ∧ Aside0 ((Kd.int .i64).R 3 wr w.heap.size (fun k => k ≠ B) v9 out ∧ Rd wr base B s st ∧ w.grownBy wr (some B)) ∧ Aside0 (st.1 ≤ s.size ∧ out.length ≤ st.1 ∧ loopF (intF (bytesOf s)) N st2 [] = loopF (intF (bytesOf s)) (N - d) st out)) (fun _ v38 _ => (N - (intOf v38).toNat))
  case atStart => exact ⟨0, st2, [], Nat.zero_le _, rfl, ⟨Kd.R_nil _ _ _ _ _, by rw [E2.out]; exact ⟨H1.out.1, H1.out.2.1⟩⟩, ⟨by rw [HST.out.1]; split <;> exact HST.out.2, Nat.zero_le _, rfl⟩⟩
  case round =>
   obtain ⟨d, st, out, hd, rfl, HR, HT⟩ := hrel
   by_cases hlt : d < N
   ·have hone := int_c HR.out.2.1 HS.out.1 HT.out.1
    obtain ⟨b1, b2, b3⟩ := intF_at (bytesOf_in s) st (by rw [bytesOf_length]; exact HT.out.1)
    rw [bytesOf_length] at b1
    have hl2 := HT.out.2.2
    rw [show N - d = (N - (d + 1)) + 1 by omega] at hl2
    rw [loopF_succ] at hl2
    obtain ⟨x, st', hx⟩ : ∃ x st', intF (bytesOf s) st = (x, st') := ⟨_, _, rfl⟩
    rw [hx] at hone hl2 b1 b2 b3
    obtain ⟨p', er'⟩ := st'
    have hone' : Calls Tryd.prog 46 #[.pointer (some ⟨B, 0, none⟩)] wr fun e w' => e = .returned (.int .i64 x) ∧ Rd w' base B s (p', er') ∧ wr.grownBy w' (some B) := hone
    have HO := Aside0.mk hone'
    cases er' with
    | none =>
     have hl3 : loopF (intF (bytesOf s)) N st2 [] = loopF (intF (bytesOf s)) (N - (d + 1)) (p', none) (out ++ [x]) := by rw [hl2]; rfl
     have HL := Aside0.mk (And.intro (show p' ≤ s.size from b1) (And.intro (show st.1 < p' from b3 rfl) hl3))
     clear hone hone' hl2 hl3 b1 b2 b3 hx
     go_wp2_with (first
      | (go_at_call 46; refine HO.out.mono ?_; rintro e w3 ⟨rfl, hr, hg⟩; (obtain ⟨h30, ev3, hrc3, hre3⟩ := id hr); (obtain rfl : ev3 = .nilIface := hre3); (obtain ⟨k0, k1, k2, k3, k4⟩ := hrc3.cells); (have hr3 := Kd.R_grown HR.out.1 hg (fun k hk e => hk (Option.some.inj e))); (have H3 := Aside0.mk (And.intro hr3 (And.intro hr (grown_trans HR.out.2.2 hg)))); clear hr hg h30 hrc3 hr3)
      | ((with_reducible refine gate_dst (N := 50) rfl ?_); refine Kd.R_append (Kd.int .i64) w.heap.size rfl (.tmp 47) (.tmp 49) 22 3 (.int .i64 0) 8 rfl Tryd.underlying22 info3 rfl (by decide) (by omega) _ out x [.int .i64 x] (fun k => k ≠ B) (fun _ => False) rfl rfl ?aP (fun _ hk => hk.elim) ?aF ?aO (Below.refl _ _) ?aS ?aL ?_; (case aP => exact rfl); (case aF => exact (fun k hk => by have := H3.out.2.1.lt; omega)); (case aO => exact H3.out.1); (case aS => exact H3.out.2.2.size); (case aL => have := HL.out; have := HT.out; have := HS.out; omega); intro v4 w4 ho hb hg hat; (have H4 := Aside0.mk (And.intro ho (And.intro (H3.out.2.1.row H3.out.1 hg) (grown_new H3.out.2.2 hg (R_base H3.out.1))))); clear ho hb hg hat))
     go_roundw
     case rel => exact ⟨d + 1, _, _, by omega, by go_num, H4, ⟨HL.out.1, by have := HL.out.2.1; have := HT.out.2.1; simp; omega, HL.out.2.2⟩⟩
     case measure => simp [intOf]; omega
    | some pc =>
     obtain ⟨pl, c⟩ := pc
     have hl3 : loopF (intF (bytesOf s)) N st2 [] = ([], (p', some (pl, c))) := by rw [hl2]; rfl
     have HL := Aside0.mk hl3
     clear hone hone' hl2 hl3 b1 b2 b3 hx
     go_wp2_with (go_at_call 46; refine HO.out.mono ?_; rintro e w3 ⟨rfl, hr, hg⟩; (obtain ⟨h30, ev3, hrc3, hre3⟩ := id hr); (obtain ⟨g3, rfl, -⟩ := hre3); (obtain ⟨k0, k1, k2, k3, k4⟩ := hrc3.cells); (have H3 := Aside0.mk (And.intro hr (grown_trans HR.out.2.2 hg))); clear hr hg h30 hrc3)
     go_ret
     rw [HL.out]
     exact ⟨_, rfl, Kd.R_nil _ _ _ _ _, H3.out⟩
   ·obtain rfl : d = N := by omega
    have hl3 : loopF (intF (bytesOf s)) d st2 [] = (out, st) := by have := HT.out.2.2; rw [Nat.sub_self] at this; exact this
    have HL := Aside0.mk hl3
    clear hl3
    go_wp2
    go_ret
    rw [HL.out]
    exact ⟨_, rfl, HR.out⟩
 ·have E2 : Aside0 (st2 = (p1, some (pl0, cc0))) := ⟨by rw [HST.out.1]; exact if_neg (fun h => by simp at h)⟩
  go_enter Tryd.func68, Tryd.ntmps68
  go_upto_region 7 with ((go_at_call 42; refine HH.out.mono ?_; rintro e w1 ⟨rfl, hr, hg⟩; (obtain ⟨h10, ev1, hrc1, hre1⟩ := id hr); (obtain ⟨g0, rfl, -⟩ := hre1); (obtain ⟨d0, d1, d2, g1, g2⟩ := hrc1.cells); (have hlt1 := hrc1.lt); (have H1 := Aside0.mk (And.intro hr (And.intro hg hrc1))); clear hr hg h10 hrc1))
  go_wp2
  go_loopw [9, 38] (fun v9 v38 wr => ∃ (d : Nat) (st : St) (out : List Int), d ≤ N ∧ v38 = .int .i64 (d : Int) ∧ Aside0 ((Kd.int .i64).R 3 wr w.heap.size (fun k => k ≠ B) v9 out ∧ Rd wr base B s st ∧ w.grownBy wr (some B)) ∧ Aside0 (st.1 ≤ s.size ∧ out.length ≤ st.1 ∧ loopF (intF (bytesOf s)) N st2 [] = loopF (intF (bytesOf s)) (N - d) st out)) (fun _ v38 _ => (N - (intOf v38).toNat))
  case atStart => exact ⟨0, st2, [], Nat.zero_le _, rfl, ⟨Kd.R_nil _ _ _ _ _, by rw [E2.out]; exact ⟨H1.out.1, H1.out.2.1⟩⟩, ⟨by rw [HST.out.1]; split <;> exact HST.out.2, Nat.zero_le _, rfl⟩⟩
  case round =>
   obtain ⟨d, st, out, hd, rfl, HR, HT⟩ := hrel
   by_cases hlt : d < N
   ·have hone := int_c HR.out.2.1 HS.out.1 HT.out.1
    obtain ⟨b1, b2, b3⟩ := intF_at (bytesOf_in s) st (by rw [bytesOf_length]; exact HT.out.1)
    rw [bytesOf_length] at b1
    have hl2 := HT.out.2.2
    rw [show N - d = (N - (d + 1)) + 1 by omega] at hl2
    rw [loopF_succ] at hl2
    obtain ⟨x, st', hx⟩ : ∃ x st', intF (bytesOf s) st = (x, st') := ⟨_, _, rfl⟩
    rw [hx] at hone hl2 b1 b2 b3
    obtain ⟨p', er'⟩ := st'
    have hone' : Calls Tryd.prog 46 #[.pointer (some ⟨B, 0, none⟩)] wr fun e w' => e = .returned (.int .i64 x) ∧ Rd w' base B s (p', er') ∧ wr.grownBy w' (some B) := hone
    have HO := Aside0.mk hone'
    cases er' with
    | none =>
     have hl3 : loopF (intF (bytesOf s)) N st2 [] = loopF (intF (bytesOf s)) (N - (d + 1)) (p', none) (out ++ [x]) := by rw [hl2]; rfl
     have HL := Aside0.mk (And.intro (show p' ≤ s.size from b1) (And.intro (show st.1 < p' from b3 rfl) hl3))
     clear hone hone' hl2 hl3 b1 b2 b3 hx
     go_wp2_with (first
      | (go_at_call 46; refine HO.out.mono ?_; rintro e w3 ⟨rfl, hr, hg⟩; (obtain ⟨h30, ev3, hrc3, hre3⟩ := id hr); (obtain rfl : ev3 = .nilIface := hre3); (obtain ⟨k0, k1, k2, k3, k4⟩ := hrc3.cells); (have hr3 := Kd.R_grown HR.out.1 hg (fun k hk e => hk (Option.some.inj e))); (have H3 := Aside0.mk (And.intro hr3 (And.intro hr (grown_trans HR.out.2.2 hg)))); clear hr hg h30 hrc3 hr3)
      | ((with_reducible refine gate_dst (N := 50) rfl ?_); refine Kd.R_append (Kd.int .i64) w.heap.size rfl (.tmp 47) (.tmp 49) 22 3 (.int .i64 0) 8 rfl Tryd.underlying22 info3 rfl (by decide) (by omega) _ out x [.int .i64 x] (fun k => k ≠ B) (fun _ => False) rfl rfl ?aP (fun _ hk => hk.elim) ?aF ?aO (Below.refl _ _) ?aS ?aL ?_; (case aP => exact rfl); (case aF => exact (fun k hk => by have := H3.out.2.1.lt; omega)); (case aO => exact H3.out.1); (case aS => exact H3.out.2.2.size); (case aL => have := HL.out; have := HT.out; have := HS.out; omega); intro v4 w4 ho hb hg hat; (have H4 := Aside0.mk (And.intro ho (And.intro (H3.out.2.1.row H3.out.1 hg) (grown_new H3.out.2.2 hg (R_base H3.out.1))))); clear ho hb hg hat))
     go_roundw
     case rel => exact ⟨d + 1, _, _, by omega, by go_num, H4, ⟨HL.out.1, by have := HL.out.2.1; have := HT.out.2.1; simp; omega, HL.out.2.2⟩⟩
     case measure => simp [intOf]; omega
    | some pc =>
     obtain ⟨pl, c⟩ := pc
     have hl3 : loopF (intF (bytesOf s)) N st2 [] = ([], (p', some (pl, c))) := by rw [hl2]; rfl
     have HL := Aside0.mk hl3
     clear hone hone' hl2 hl3 b1 b2 b3 hx
     go_wp2_with (go_at_call 46; refine HO.out.mono ?_; rintro e w3 ⟨rfl, hr, hg⟩; (obtain ⟨h30, ev3, hrc3, hre3⟩ := id hr); (obtain ⟨g3, rfl, -⟩ := hre3); (obtain ⟨k0, k1, k2, k3, k4⟩ := hrc3.cells); (have H3 := Aside0.mk (And.intro hr (grown_trans HR.out.2.2 hg))); clear hr hg h30 hrc3)
     go_ret
     rw [HL.out]
     exact ⟨_, rfl, Kd.R_nil _ _ _ _ _, H3.out⟩
   ·obtain rfl : d = N := by omega
    have hl3 : loopF (intF (bytesOf s)) d st2 [] = (out, st) := by have := HT.out.2.2; rw [Nat.sub_self] at this; exact this
    have HL := Aside0.mk hl3
    clear hl3
    go_wp2
    go_ret
    rw [HL.out]
    exact ⟨_, rfl, HR.out⟩
theorem ints_c {w : World} {base B : Nat} {s : ByteArray} {st : St} (most : Int) (h : Rd w base B s st) (hs : s.size ≤ 1000000000) (hp : st.1 ≤ s.size) (hbase : base ≤ w.heap.size) :
 Calls Tryd.prog 59 #[.pointer (some ⟨B, 0, none⟩), .int .i64 most] w fun e w' => ∃ v, e = .returned v ∧ (Kd.int .i64).R 3 w' w.heap.size (fun k => k ≠ B) v (listF (bytesOf s) (intF (bytesOf s)) most st).1 ∧ Rd w' base B s (listF (bytesOf s) (intF (bytesOf s)) most st).2 ∧ w.grownBy w' (some B) := by
 have H := Aside0.mk (list_int most h hs hp hbase)
 clear h hs hp hbase
 go_enter Tryd.func59, Tryd.ntmps59
 go_wp2_with (go_at_call 68; refine H.out.mono ?_; rintro e w1 ⟨v, rfl, h1⟩; (have H1 := Aside0.mk h1); clear h1)
 go_ret
 exact ⟨_, rfl, H1.out⟩
end Go.Proofs.YtlekdhejgdfnpaaDoor.P
/- answer's reader, walked: fine. -/
namespace Go.Proofs.YtlekdhejgdfnpaaDoor.P
open Go.RowKit Go.Proofs.YtlekdhejgdfnpaaDoorW.PrintWords Go.Proofs.YtlekdhejgdfnpaaDoorW.PrintLast Go.Proofs.YtlekdhejgdfnpaaDoorW.PrintMore
open Wr

/-- the answer's reader: the wire's, and a place below 0, or where a count is that is above its bound -/
def RA (w : World) (G B : Nat) (many : Int) : Prop := w.heap[G]? = some (.cells #[.pointer (some ⟨B, 0, none⟩), .int .i64 many] 48 (0, 0))
def fineV (S : List Int) (st : St) (many : Int) : Bool := decide (many < 0) && (((endF S st).1 == 0) || ((endF S st).1 == 13))
set_option maxHeartbeats 2000000 in
set_option maxRecDepth 100000 in
theorem fine_c {w : World} {base B G : Nat} {s : ByteArray} {st : St} {many : Int} (hE : EV w) (h : Rd w base B s st) (hok : ∀ pc, st.2 = some pc → pc.2 = 10 ∨ pc.2 = 11 ∨ pc.2 = 12) (hg : RA w G B many) :
 Calls Tryd.prog 45 #[.pointer (some ⟨G, 0, none⟩)] w fun e w' => e = .returned (.bool (fineV (bytesOf s) st many)) ∧ Below w.heap.size w w' := by
 have HEND := Aside0.mk (end_c hE h hok)
 have z0 : w.cell? ⟨G, 0, none⟩ = some (.pointer (some ⟨B, 0, none⟩)) := (blk_cell hg 0).trans rfl
 have HG := Aside0.mk hg
 unfold fineV
 generalize (endF (bytesOf s) st).1 = c at *
 generalize (endF (bytesOf s) st).2 = p at *
 clear hE h hok hg
 rcases Bool.eq_false_or_eq_true (decide (many < 0)) with hm | hm <;> rcases Bool.eq_false_or_eq_true (c == 0) with h0 | h0 <;> rcases Bool.eq_false_or_eq_true (c == 13) with h1 | h1
 all_goals
  rw [hm, h0, h1]
  go_enter Tryd.func45, Tryd.ntmps45
  go_wp2_with (go_at_call 18; refine HEND.out.mono ?_; rintro e w1 ⟨rfl, hb⟩; (have z1 := ((hb.cell (World.block_lt_of_cell? w _ z0)).trans z0)); (have z2 := (blk_cell ((hb.block G (blk_lt HG.out)).trans HG.out) 1).trans rfl); (have HB := Aside0.mk hb); clear hb)
  go_ret
  exact ⟨rfl, HB.out⟩
end Go.Proofs.YtlekdhejgdfnpaaDoor.P
/- answer's reader, walked: list, count; the reader in one state. -/
namespace Go.Proofs.YtlekdhejgdfnpaaDoor.P
open Go.RowKit Go.Proofs.YtlekdhejgdfnpaaDoorW.PrintWords Go.Proofs.YtlekdhejgdfnpaaDoorW.PrintLast Go.Proofs.YtlekdhejgdfnpaaDoorW.PrintMore
open Wr

def countF (S : List Int) (most : Int) (st : St) : Int × St :=
 if (numF S st).2.2 = none ∧ (numF S st).1 > most then (0, ((numF S st).2.1, some (st.1, 12))) else numF S st
/-- the state in one: the wire's, or that a count is above its bound -/
def ARs (many : Int) (sw st : St) : Prop := (many = -1 ∧ st = sw) ∨ ∃ m : Nat, many = (m : Int) ∧ sw.2 = none ∧ st = (sw.1, some (m, 12))
def AR (w : World) (base G B : Nat) (s : ByteArray) (st : St) : Prop :=
 base ≤ G ∧ ∃ (many : Int) (sw : St), RA w G B many ∧ Rd w base B s sw ∧ Ok s sw ∧ ARs many sw st
theorem Rd.kept {w w1 : World} {base B : Nat} {s : ByteArray} {st : St} {K : Nat → Prop} (h : Rd w base B s st) (hk : Kept w w1 K)
 (ht : ∀ k c t, K k → w.heap[k]? = some (.cells c t (0, 0)) → t ≠ 79 ∧ t ≠ 86) : Rd w1 base B s st := by
 obtain ⟨hb, ev, hrc, hre⟩ := h
 refine ⟨hb, ev, (hk.2 B hrc.lt (fun hK => (ht B _ _ hK hrc).1 rfl)).trans hrc, hre.keep (fun g _ hlt v hv hc => hk.2 g hlt (fun hK => ?_))⟩
 obtain ⟨c, rfl⟩ := hc
 exact (ht g _ _ hK hv).2 rfl
theorem AR.kept {w w1 : World} {base G B : Nat} {s : ByteArray} {st : St} {K : Nat → Prop} (h : AR w base G B s st) (hk : Kept w w1 K)
 (ht : ∀ k c t, K k → w.heap[k]? = some (.cells c t (0, 0)) → t ≠ 48 ∧ t ≠ 79 ∧ t ≠ 86) : AR w1 base G B s st := by
 obtain ⟨h0, many, sw, hra, hrd, ho, hs⟩ := h
 exact ⟨h0, many, sw, (hk.2 G (blk_lt hra) (fun hK => (ht G _ _ hK hra).1 rfl)).trans hra, hrd.kept hk (fun k c t hK hc => (ht k c t hK hc).2), ho, hs⟩
theorem AR.below {w w1 : World} {base G B : Nat} {s : ByteArray} {st : St} (h : AR w base G B s st) (hb : Below w.heap.size w w1) : AR w1 base G B s st :=
 h.kept (Kept.of_below hb (fun _ => False)) (fun _ _ _ hk => hk.elim)
theorem AR.ok {w : World} {base G B : Nat} {s : ByteArray} {st : St} (h : AR w base G B s st) : Ok s st := by
 obtain ⟨h0, many, sw, hra, hrd, ho, hs⟩ := h
 rcases hs with ⟨-, rfl⟩ | ⟨m, -, -, rfl⟩
 ·exact ho
 ·exact ⟨ho.1, fun pc h => by obtain rfl := Option.some.inj h; exact .inr (.inr rfl)⟩
theorem AR.blocks {w : World} {base G B : Nat} {s : ByteArray} {st : St} (h : AR w base G B s st) : base ≤ G ∧ base ≤ B ∧ (∃ c, w.heap[G]? = some (.cells c 48 (0, 0))) ∧ (∃ c, w.heap[B]? = some (.cells c 79 (0, 0))) := by
 obtain ⟨h0, many, sw, hra, ⟨hb, ev, hrc, hre⟩, ho, hs⟩ := h
 exact ⟨h0, hb, ⟨_, hra⟩, ⟨_, hrc⟩⟩
theorem AR.none {w : World} {base G B : Nat} {s : ByteArray} {st : St} (h : AR w base G B s st) (hn : st.2 = none) : base ≤ G ∧ RA w G B (-1) ∧ Rd w base B s st := by
 obtain ⟨h0, many, sw, hra, hrd, ho, hs⟩ := h
 rcases hs with ⟨rfl, rfl⟩ | ⟨m, -, -, rfl⟩
 ·exact ⟨h0, hra, hrd⟩
 ·cases hn
theorem fineV_eq {s : ByteArray} {sw st : St} {many : Int} (ho : Ok s sw) (h : ARs many sw st) : fineV (bytesOf s) sw many = st.2.isNone := by
 unfold fineV
 rcases h with ⟨rfl, rfl⟩ | ⟨m, rfl, -, rfl⟩
 ·obtain ⟨p, er⟩ := st
  cases er with
  | none =>
   simp only [endF]
   split <;> rfl
  | some pc =>
   obtain ⟨pl, c⟩ := pc
   have this : c = 10 ∨ c = 11 ∨ c = 12 := ho.2 _ rfl
   have e0 : (c == 0) = false := beq_eq_false_iff_ne.mpr (by intro h; rw [h] at this; rcases this with h | h | h <;> exact absurd h (by decide))
   have e1 : (c == 13) = false := beq_eq_false_iff_ne.mpr (by intro h; rw [h] at this; rcases this with h | h | h <;> exact absurd h (by decide))
   simp only [endF, e0, e1]
   rfl
 ·have : decide ((m : Int) < 0) = false := decide_eq_false (by omega)
  rw [this]; rfl
theorem fine_a {w : World} {base G B : Nat} {s : ByteArray} {st : St} (hE : EV w) (h : AR w base G B s st) :
 Calls Tryd.prog 45 #[.pointer (some ⟨G, 0, none⟩)] w fun e w' => e = .returned (.bool st.2.isNone) ∧ Below w.heap.size w w' := by
 obtain ⟨h0, many, sw, hra, hrd, ho, hs⟩ := h
 rw [← fineV_eq ho hs]
 exact fine_c hE hrd ho.2 hra
theorem listF_err {S : List Int} {one : St → Int × St} {most : Int} {st : St} (h : st.2 ≠ none) : listF S one most st = ([], st) := by
 obtain ⟨p, er⟩ := st
 cases er with
 | none => exact absurd rfl h
 | some pc => rfl
theorem ints_ok {s : ByteArray} {st : St} (most : Int) (ho : Ok s st) : Ok s (listF (bytesOf s) (intF (bytesOf s)) most st).2 := by
 rw [listF_int]; exact listF_ok most ho
set_option maxHeartbeats 2000000 in
set_option maxRecDepth 100000 in
theorem list_a {w : World} {base G B : Nat} {s : ByteArray} {st : St} (hE : EV w) (h : AR w base G B s st) (hs : s.size ≤ 1000000000) (hbase : base ≤ w.heap.size) :
 Calls Tryd.prog 43 #[.pointer (some ⟨G, 0, none⟩)] w fun e w' => ∃ v, e = .returned v ∧ (Kd.int .i64).R 3 w' w.heap.size (fun k => k < w'.heap.size) v (listF (bytesOf s) (intF (bytesOf s)) 64 st).1 ∧
  AR w' base G B s (listF (bytesOf s) (intF (bytesOf s)) 64 st).2 ∧ Below base w w' ∧ Kept w w' (fun k => k = G ∨ k = B) := by
 have HF := fine_a hE h
 by_cases hn : st.2 = none
 ·obtain ⟨h0, hra, hrd⟩ := h.none hn
  rw [hn] at HF
  have HF := Aside0.mk HF
  have ho := h.ok
  have z0 : w.cell? ⟨G, 0, none⟩ = some (.pointer (some ⟨B, 0, none⟩)) := (blk_cell hra 0).trans rfl
  have hGlt := World.block_lt_of_cell? w _ z0
  have HH := Aside0.mk (And.intro hra (And.intro hrd (And.intro hs (And.intro hbase (And.intro h0 ho)))))
  have HL := Aside0.mk (ints_ok 64 ho)
  obtain ⟨r, st', hr⟩ : ∃ r st', listF (bytesOf s) (intF (bytesOf s)) 64 st = (r, st') := ⟨_, _, rfl⟩
  have HI : Aside0 (∀ w1 : World, Below w.heap.size w w1 → Calls Tryd.prog 59 #[.pointer (some ⟨B, 0, none⟩), .int .i64 64] w1 fun e w' => ∃ v, e = .returned v ∧ (Kd.int .i64).R 3 w' w1.heap.size (fun k => k ≠ B) v r ∧ Rd w' base B s st' ∧ w1.grownBy w' (some B)) :=
   ⟨fun w1 hb => by
    have := ints_c (w := w1) 64 (HH.out.2.1.below hb) hs ho.1 (Nat.le_trans hbase hb.size)
    rw [hr] at this; exact this⟩
  rw [hr] at HL ⊢
  clear h hn h0 hra hrd ho hs hbase hE hr
  go_enter Tryd.func43, Tryd.ntmps43
  go_wp2_with (first
   | (go_at_call 59; refine (HI.out _ HB.out).mono ?_; rintro e w2 ⟨v, rfl, h2⟩; (have H2 := Aside0.mk h2); clear h2)
   | (go_at_call 45; refine HF.out.mono ?_; rintro e w1 ⟨rfl, hb⟩; (have z1 := (hb.cell hGlt).trans z0); (have HB := Aside0.mk hb); clear hb))
  go_ret
  obtain ⟨hr2, hrd2, hg2⟩ := H2.out
  have hb1 := HB.out
  refine ⟨_, rfl, Kd.R_mono (Kd.R_bound (Kd.R_lower hr2 hb1.size)) (fun k hk => hk.2.2.1), ⟨HH.out.2.2.2.2.1, -1, st', ?_, hrd2, HL.out, .inl ⟨rfl, rfl⟩⟩, ?_, ?_⟩
  ·have hra1 := blk_below HH.out.1 hb1
   exact blk_grown hra1 hg2 (fun e => by
    obtain rfl := Option.some.inj e
    obtain ⟨_, ev, hrc, _⟩ := HH.out.2.1
    exact absurd (blk_ne HH.out.1 hrc (by decide)) (fun h => h rfl))
  ·exact (hb1.mono HH.out.2.2.2.1).trans ((Below.refl _ _).grown hg2 (Nat.le_trans HH.out.2.2.2.1 hb1.size) (fun k e => by obtain rfl := Option.some.inj e; exact HH.out.2.1.1))
  ·exact Kept.of_grown hg2 (Kept.of_below hb1 _) (fun k e => .inl (.inr (Option.some.inj e).symm))
 ·have e0 : st.2.isNone = false := by cases hx : st.2 with | none => exact absurd hx hn | some _ => rfl
  rw [e0] at HF
  rw [listF_err hn]
  have HF := Aside0.mk HF
  have HH := Aside0.mk (And.intro h hbase)
  clear h hn hs hbase hE e0
  go_enter Tryd.func43, Tryd.ntmps43
  go_wp2_with (go_at_call 45; refine HF.out.mono ?_; rintro e w1 ⟨rfl, hb⟩; (have HB := Aside0.mk hb); clear hb)
  go_ret
  exact ⟨_, rfl, Kd.R_nil _ _ _ _ _, HH.out.1.below HB.out, HB.out.mono HH.out.2, Kept.of_below HB.out _⟩
theorem numF_err {S : List Int} {st : St} (h : st.2 ≠ none) : numF S st = (0, st) := by
 obtain ⟨p, er⟩ := st
 cases er with
 | none => exact absurd rfl h
 | some pc => rfl
theorem isNone_no {st : St} (h : st.2 ≠ none) : st.2.isNone = false := by cases hx : st.2 with | none => exact absurd hx h | some _ => rfl
set_option maxHeartbeats 4000000 in
set_option maxRecDepth 100000 in
theorem count_a {w : World} {base G B : Nat} {s : ByteArray} {st : St} (most : Int) (hb0 : 0 < base) (hE : EV w) (h : AR w base G B s st) (hs : s.size ≤ 1000000000) (hbase : base ≤ w.heap.size) :
 Calls Tryd.prog 44 #[.pointer (some ⟨G, 0, none⟩), .int .i64 most] w fun e w' => e = .returned (.int .i64 (countF (bytesOf s) most st).1) ∧
  AR w' base G B s (countF (bytesOf s) most st).2 ∧ Below base w w' ∧ Kept w w' (fun k => k = G ∨ k = B) := by
 have HF := fine_a hE h
 by_cases hn : st.2 = none
 ·obtain ⟨h0, hra, hrd⟩ := h.none hn
  rw [hn] at HF
  have HF := Aside0.mk HF
  have ho := h.ok
  have z0 : w.cell? ⟨G, 0, none⟩ = some (.pointer (some ⟨B, 0, none⟩)) := (blk_cell hra 0).trans rfl
  have hGlt := World.block_lt_of_cell? w _ z0
  have HH := Aside0.mk (And.intro hra (And.intro hrd (And.intro hs (And.intro hbase (And.intro h0 ho)))))
  have HP := Aside0.mk (And.intro hE hE.pos)
  have HL := Aside0.mk (refnum_ok ho)
  obtain ⟨p, er⟩ := st
  obtain rfl : er = none := hn
  have hGB : G ≠ B := by
   obtain ⟨_, ev, hrc, _⟩ := hrd
   exact blk_ne hra hrc (by decide)
  have HGB := Aside0.mk hGB
  obtain ⟨n, st', hr⟩ : ∃ n st', numF (bytesOf s) (p, none) = (n, st') := ⟨_, _, rfl⟩
  obtain ⟨c, hc⟩ : ∃ c, endF (bytesOf s) (p, none) = (c, (p : Int)) := by
   simp only [endF]
   split
   ·exact ⟨_, rfl⟩
   ·exact ⟨_, rfl⟩
  have HEND : Aside0 (∀ w1 : World, Below w.heap.size w w1 → Calls Tryd.prog 18 #[.pointer (some ⟨B, 0, none⟩)] w1 fun e w' => e = .returned (.tuple #[.int .i64 c, .int .i64 (p : Int)]) ∧ Below w1.heap.size w1 w') :=
   ⟨fun w1 hb => by
    have := end_c (HP.out.1.below hb HP.out.2) (HH.out.2.1.below hb) ho.2
    rw [hc] at this; exact this⟩
  have HNUM : Aside0 (∀ w1 : World, Below w.heap.size w w1 → Calls Tryd.prog 42 #[.pointer (some ⟨B, 0, none⟩)] w1 fun e w' => e = .returned (.int .i64 n) ∧ (AR w' base G B s st' ∧ RA w' G B (-1) ∧ Rd w' base B s st') ∧ w1.grownBy w' (some B)) :=
   ⟨fun w1 hb => by
    have := num_c (w := w1) (HH.out.2.1.below hb) hs ho.1
    rw [hr] at this
    refine this.mono ?_
    rintro e w' ⟨rfl, h1, h2⟩
    have hra' : RA w' G B (-1) := blk_grown (blk_below HH.out.1 hb) h2 (fun e => HGB.out (Option.some.inj e))
    exact ⟨rfl, ⟨⟨HH.out.2.2.2.2.1, -1, st', hra', h1, by have := HL.out; rw [hr] at this; exact this, .inl ⟨rfl, rfl⟩⟩, hra', h1⟩, h2⟩⟩
  have HF2 : Aside0 (∀ w2 : World, AR w2 base G B s st' → Below base w w2 → Calls Tryd.prog 45 #[.pointer (some ⟨G, 0, none⟩)] w2 fun e w' => e = .returned (.bool st'.2.isNone) ∧ Below w2.heap.size w2 w') := ⟨fun w2 ha hb => fine_a (HP.out.1.below hb hb0) ha⟩
  have HL2 : Aside0 (Ok s st') := ⟨by have := HL.out; rw [hr] at this; exact this⟩
  have hcf : countF (bytesOf s) most (p, none) = if st'.2 = none ∧ n > most then (0, (st'.1, some (p, 12))) else (n, st') := by
   unfold countF; rw [hr]
  rw [hcf]
  by_cases h1 : st'.2 = none
  ·rw [h1] at HF2
   have H1 := Aside0.mk h1
   by_cases h2 : n > most
   ·rw [if_pos ⟨h1, h2⟩]
    have y1 : decide (most < n) = true := decide_eq_true h2
    clear h1 h2
    clear h h0 hra hrd ho hs hbase hE hr hc hcf hGB
    go_enter Tryd.func44, Tryd.ntmps44
    go_wp2_with (first
     | (go_at_call 45; (have z_ := H3.out); clear z_; refine (HF2.out _ H3.out.1 HB3.out).mono ?_; rintro e w4 ⟨rfl, hb⟩; (have hra4 := blk_below H3.out.2.1 hb); (have z4 : w4.cell? ⟨G, 0, none⟩ = some (.pointer (some ⟨B, 0, none⟩)) := (blk_cell hra4 0).trans rfl); (have y4 : w4.cell? ⟨G, 1, none⟩ = some (.int .i64 (-1)) := (blk_cell hra4 1).trans rfl); (have x4 : w4.frozen? ⟨G, 1, none⟩ = false := blk_frozen hra4 1); (have H4 := Aside0.mk (And.intro (H3.out.1.below hb) (And.intro hra4 (And.intro (H3.out.2.2.below hb) (And.intro (HB3.out.trans (hb.mono (Nat.le_trans HH.out.2.2.2.1 HB3.out.size))) (HK3.out.below hb)))))); clear hra4 hb)
     | (go_at_call 42; (have z_ := HB2.out); clear z_; refine (HNUM.out _ HB2.out).mono ?_; rintro e w3 ⟨rfl, h3, hg⟩; (have z3 : w3.cell? ⟨G, 0, none⟩ = some (.pointer (some ⟨B, 0, none⟩)) := (blk_cell h3.2.1 0).trans rfl); (have H3 := Aside0.mk h3); (have HB3 := Aside0.mk ((HB2.out.mono HH.out.2.2.2.1).trans ((Below.refl _ _).grown hg (Nat.le_trans HH.out.2.2.2.1 HB2.out.size) (fun k e => by obtain rfl := Option.some.inj e; exact HH.out.2.1.1)))); (have HK3 : Aside0 (Kept w w3 (fun k => k = G ∨ k = B)) := ⟨Kept.of_grown hg (Kept.of_below HB2.out _) (fun k e => .inl (.inr (Option.some.inj e).symm))⟩); clear h3 hg)
     | (go_at_call 18; (have z_ := HB1.out); clear z_; refine (HEND.out _ HB1.out).mono ?_; rintro e w2 ⟨rfl, hb⟩; (have z2 : w2.cell? ⟨G, 0, none⟩ = some (.pointer (some ⟨B, 0, none⟩)) := (hb.cell (World.block_lt_of_cell? w1 _ z1)).trans z1); (have HB2 := Aside0.mk (HB1.out.trans (hb.mono HB1.out.size))); clear hb)
     | (go_at_call 45; refine HF.out.mono ?_; rintro e w1 ⟨rfl, hb⟩; (have z1 := (hb.cell hGlt).trans z0); (have HB1 := Aside0.mk hb); clear hb))
    go_ret
    obtain ⟨-, hra4, hrd4, hb4, hk4⟩ := H4.out
    have hkk : Kept w4 (w4.setCell ⟨G, 1, none⟩ (.int .i64 (p : Int))) (fun k => k = G) := Kept.setCell (S := fun k => k = G) (p := ⟨G, 1, none⟩) (Kept.refl _ _) (.inl rfl) _
    refine ⟨rfl, ⟨HH.out.2.2.2.2.1, (p : Int), st', (blk_set hra4 1 _).trans rfl, hrd4.kept hkk (fun k c t hk hc => ?_), HL2.out, .inr ⟨p, rfl, H1.out, rfl⟩⟩, hb4.setCell (p := ⟨G, 1, none⟩) HH.out.2.2.2.2.1 _, hk4.setCell (p := ⟨G, 1, none⟩) (.inl (.inl rfl)) _⟩
    subst hk
    have hra4' : w4.heap[k]? = some (.cells #[.pointer (some ⟨B, 0, none⟩), .int .i64 (-1)] 48 (0, 0)) := hra4
    rw [hra4'] at hc
    injection hc with hc
    injection hc with _ hc
    subst hc
    exact ⟨by decide, by decide⟩
   ·rw [if_neg (fun h => h2 h.2)]
    have y1 : decide (most < n) = false := decide_eq_false h2
    clear h1 h2
    clear h h0 hra hrd ho hs hbase hE hr hc hcf hGB
    go_enter Tryd.func44, Tryd.ntmps44
    go_wp2_with (first
     | (go_at_call 45; (have z_ := H3.out); clear z_; refine (HF2.out _ H3.out.1 HB3.out).mono ?_; rintro e w4 ⟨rfl, hb⟩; (have hra4 := blk_below H3.out.2.1 hb); (have z4 : w4.cell? ⟨G, 0, none⟩ = some (.pointer (some ⟨B, 0, none⟩)) := (blk_cell hra4 0).trans rfl); (have y4 : w4.cell? ⟨G, 1, none⟩ = some (.int .i64 (-1)) := (blk_cell hra4 1).trans rfl); (have x4 : w4.frozen? ⟨G, 1, none⟩ = false := blk_frozen hra4 1); (have H4 := Aside0.mk (And.intro (H3.out.1.below hb) (And.intro hra4 (And.intro (H3.out.2.2.below hb) (And.intro (HB3.out.trans (hb.mono (Nat.le_trans HH.out.2.2.2.1 HB3.out.size))) (HK3.out.below hb)))))); clear hra4 hb)
     | (go_at_call 42; (have z_ := HB2.out); clear z_; refine (HNUM.out _ HB2.out).mono ?_; rintro e w3 ⟨rfl, h3, hg⟩; (have z3 : w3.cell? ⟨G, 0, none⟩ = some (.pointer (some ⟨B, 0, none⟩)) := (blk_cell h3.2.1 0).trans rfl); (have H3 := Aside0.mk h3); (have HB3 := Aside0.mk ((HB2.out.mono HH.out.2.2.2.1).trans ((Below.refl _ _).grown hg (Nat.le_trans HH.out.2.2.2.1 HB2.out.size) (fun k e => by obtain rfl := Option.some.inj e; exact HH.out.2.1.1)))); (have HK3 : Aside0 (Kept w w3 (fun k => k = G ∨ k = B)) := ⟨Kept.of_grown hg (Kept.of_below HB2.out _) (fun k e => .inl (.inr (Option.some.inj e).symm))⟩); clear h3 hg)
     | (go_at_call 18; (have z_ := HB1.out); clear z_; refine (HEND.out _ HB1.out).mono ?_; rintro e w2 ⟨rfl, hb⟩; (have z2 : w2.cell? ⟨G, 0, none⟩ = some (.pointer (some ⟨B, 0, none⟩)) := (hb.cell (World.block_lt_of_cell? w1 _ z1)).trans z1); (have HB2 := Aside0.mk (HB1.out.trans (hb.mono HB1.out.size))); clear hb)
     | (go_at_call 45; refine HF.out.mono ?_; rintro e w1 ⟨rfl, hb⟩; (have z1 := (hb.cell hGlt).trans z0); (have HB1 := Aside0.mk hb); clear hb))
    go_ret
    exact ⟨rfl, H4.out.1, H4.out.2.2.2⟩
  ·rw [if_neg (fun h => h1 h.1)]
   rw [isNone_no h1] at HF2
   clear h1
   clear h h0 hra hrd ho hs hbase hE hr hc hcf hGB
   go_enter Tryd.func44, Tryd.ntmps44
   go_wp2_with (first
    | (go_at_call 45; (have z_ := H3.out); clear z_; refine (HF2.out _ H3.out.1 HB3.out).mono ?_; rintro e w4 ⟨rfl, hb⟩; (have hra4 := blk_below H3.out.2.1 hb); (have z4 : w4.cell? ⟨G, 0, none⟩ = some (.pointer (some ⟨B, 0, none⟩)) := (blk_cell hra4 0).trans rfl); (have y4 : w4.cell? ⟨G, 1, none⟩ = some (.int .i64 (-1)) := (blk_cell hra4 1).trans rfl); (have x4 : w4.frozen? ⟨G, 1, none⟩ = false := blk_frozen hra4 1); (have H4 := Aside0.mk (And.intro (H3.out.1.below hb) (And.intro hra4 (And.intro (H3.out.2.2.below hb) (And.intro (HB3.out.trans (hb.mono (Nat.le_trans HH.out.2.2.2.1 HB3.out.size))) (HK3.out.below hb)))))); clear hra4 hb)
    | (go_at_call 42; (have z_ := HB2.out); clear z_; refine (HNUM.out _ HB2.out).mono ?_; rintro e w3 ⟨rfl, h3, hg⟩; (have z3 : w3.cell? ⟨G, 0, none⟩ = some (.pointer (some ⟨B, 0, none⟩)) := (blk_cell h3.2.1 0).trans rfl); (have H3 := Aside0.mk h3); (have HB3 := Aside0.mk ((HB2.out.mono HH.out.2.2.2.1).trans ((Below.refl _ _).grown hg (Nat.le_trans HH.out.2.2.2.1 HB2.out.size) (fun k e => by obtain rfl := Option.some.inj e; exact HH.out.2.1.1)))); (have HK3 : Aside0 (Kept w w3 (fun k => k = G ∨ k = B)) := ⟨Kept.of_grown hg (Kept.of_below HB2.out _) (fun k e => .inl (.inr (Option.some.inj e).symm))⟩); clear h3 hg)
    | (go_at_call 18; (have z_ := HB1.out); clear z_; refine (HEND.out _ HB1.out).mono ?_; rintro e w2 ⟨rfl, hb⟩; (have z2 : w2.cell? ⟨G, 0, none⟩ = some (.pointer (some ⟨B, 0, none⟩)) := (hb.cell (World.block_lt_of_cell? w1 _ z1)).trans z1); (have HB2 := Aside0.mk (HB1.out.trans (hb.mono HB1.out.size))); clear hb)
    | (go_at_call 45; refine HF.out.mono ?_; rintro e w1 ⟨rfl, hb⟩; (have z1 := (hb.cell hGlt).trans z0); (have HB1 := Aside0.mk hb); clear hb))
   go_ret
   exact ⟨rfl, H4.out.1, H4.out.2.2.2⟩
 ·rw [isNone_no hn] at HF
  have ec : countF (bytesOf s) most st = (0, st) := by
   unfold countF
   rw [numF_err hn, if_neg (fun h => hn h.1)]
  rw [ec]
  have HF := Aside0.mk HF
  have HH := Aside0.mk (And.intro h hbase)
  clear h hn hs hbase hE ec
  go_enter Tryd.func44, Tryd.ntmps44
  go_wp2_with (go_at_call 45; refine HF.out.mono ?_; rintro e w1 ⟨rfl, hb⟩; (have HB := Aside0.mk hb); clear hb)
  go_ret
  exact ⟨rfl, HH.out.1.below HB.out, HB.out.mono HH.out.2, Kept.of_below HB.out _⟩
end Go.Proofs.YtlekdhejgdfnpaaDoor.P
/-
  DERIVED: THE SHELF's CONTRACTS AT THIS DUMP, IN PLAIN WORDS (tools/lay-plain.mjs out of 'YtlekdhejgdfnpaaDoorShelf.lean', which tools/lay-shelf.mjs wrote): THE SAME DECLARATIONS UNDER THE SAME NAMES: 'import', 'namespace', 'open', 'def', 'theorem' AND NOTHING ELSE: no command of the shelf's: FOR A HAND-IN. Each laying: the table of numbers ('.._ren') and one theorem, a field a fact of the dump's own or the kernel's comparison; each contract: ONE APPLICATION.
-/
namespace Go.Proofs
open Go.Shelf
def Tryd.lays169_ren : Go.Shelf.Ren := ⟨fun | 169 => 34 | n => n, fun | 70 => 61 | 9 => 9 | 0 => 0 | 72 => 64 | 37 => 62 | 127 => 96 | 3 => 3 | 5 => 5 | n => n, fun | n => n⟩
theorem Tryd.lays169 : Go.Proofs.Lays.n169 Tryd.prog Tryd.lays169_ren := {
 mixed := by kernel_rfl
 f169 := Tryd.func34.trans (congrArg some (by kernel_rfl))
 t0 := Tryd.underlying0
 a0 := Tryd.isAgg0
 z0 := Tryd.sizeOf0
 v0 := Tryd.zeroValue0
 t3 := Tryd.underlying3
 a3 := Tryd.isAgg3
 z3 := Tryd.sizeOf3
 v3 := Tryd.zeroValue3
 t9 := Tryd.underlying9
 a9 := Tryd.isAgg9
 z9 := Tryd.sizeOf9
 v9 := Tryd.zeroValue9
 t37 := Tryd.underlying62
 a37 := Tryd.isAgg62
 z37 := Tryd.sizeOf62
 v37 := Tryd.zeroValue62
 t70 := Tryd.underlying61
 a70 := Tryd.isAgg61
 z70 := Tryd.sizeOf61
 v70 := Tryd.zeroValue61
 t72 := Tryd.underlying64
 a72 := Tryd.isAgg64
 z72 := Tryd.sizeOf64
 v72 := Tryd.zeroValue64
 t127 := Tryd.underlying96
 a127 := Tryd.isAgg96
 z127 := Tryd.sizeOf96
 v127 := Tryd.zeroValue96 }
theorem Tryd.Builder_Extra_169 : Builder.Extra Tryd.prog Tryd.lays169_ren := {
 sizeBuilder := by kernel_rfl
 liesBuilder := by kernel_rfl
 t5 := Tryd.underlying5
 a5 := Tryd.isAgg5
 z5 := Tryd.sizeOf5
 v5 := Tryd.zeroValue5
 infoByte := by kernel_rfl
 cellsByte := by kernel_rfl
 sizeByte := by kernel_rfl
 neB5 := by decide }
open Go.RowKit in
/-- (*strings.Builder).String: "String returns the accumulated string.": WHATEVER THE BUILDER HOLDS. (LAID: no walk: one application.) -/
theorem Tryd.Builder_String_any (B b : Nat) (l : List UInt8) (w : World) (h : Lib.IsBuilder 64 5 B b (Lib.byteCells l) w) (hBw : B ≤ w.heap.size) :
 Calls Tryd.prog 34 #[.pointer (some ⟨b, 0, none⟩)] w fun e w' => e = .returned (.string ⟨l.toArray⟩) ∧ Below B w w' := Any.Builder_String_any Tryd.lays169 Tryd.Builder_Extra_169 B b l w h hBw
end Go.Proofs
/- wire.all, Nums, Ints: lists written. -/
namespace Go.Proofs.YtlekdhejgdfnpaaDoor.P
open Go.RowKit Go.Proofs.YtlekdhejgdfnpaaDoorW.PrintWords Go.Proofs.YtlekdhejgdfnpaaDoorW.PrintLast Go.Proofs.YtlekdhejgdfnpaaDoorW.PrintMore
open Wr
theorem C_at {W : World} {A : Option Addr} {l : List Int} (h : Kd.C (Kd.int .i64) W A l.length l) {i : Nat} (hi : i < l.length) : ∃ ad, A = some ad ∧ W.cell? (ad.add i) = some (.int .i64 (rd l (i : Int))) := by
 obtain ⟨ad, e, hx⟩ := Kd.at_int h (i : Int) (by omega) (by omega)
 exact ⟨ad, e, by simpa using hx⟩
theorem strCells_sn (a b : List Int) : Lib.strCells (strOfNums a) ++ Lib.strCells (strOfNums b) = Lib.strCells (strOfNums (a ++ b)) := by simp [Lib.strCells, strOfNums]
theorem _root_.Go.Lib.BuilderAt.below {T e : TypeId} {B b : Nat} {p : Value} {bs : List Value} {w w1 : World} (h : Lib.BuilderAt T e B b p bs w) (hb : Below w.heap.size w w1) : Lib.BuilderAt T e B b p bs w1 := by
 have hlt := h.lt
 obtain ⟨h1, v, h2, h3, h4⟩ := h
 exact ⟨h1, v, (hb.block b hlt).trans h2, own_move h3 (fun k hk => hb.block k (own_lt h3 k hk)), h4⟩
theorem _root_.Go.Lib.IsBuilder.below {T e : TypeId} {B b : Nat} {bs : List Value} {w w1 : World} (h : Lib.IsBuilder T e B b bs w) (hb : Below w.heap.size w w1) : Lib.IsBuilder T e B b bs w1 := by
 rcases h with h | h
 ·exact .inl (h.below hb)
 ·exact .inr (h.below hb)

set_option maxHeartbeats 4000000 in
set_option maxRecDepth 100000 in
theorem all_int {w : World} {A0 : Option Addr} {c0 : Nat} {l0 : List Int} (hr0 : Kd.C (Kd.int .i64) w A0 l0.length l0) (hl : l0.length ≤ 1000000) :
 Calls Tryd.prog 56 #[.slice A0 l0.length c0, .func (Fn.func 33) #[] #[]] w fun e w' => e = .returned (.string (strOfNums (encL encI l0))) ∧ Below w.heap.size w w' := by
 have HR0 := Aside0.mk hr0
 have HL := Aside0.mk hl
 clear hr0 hl
 have hfr := Lib.fresh_isBuilder 64 5 w
 have hb0 : Below w.heap.size w (w.alloc (.cells #[.pointer none, .slice none 0 0] 64)) := (Below.refl _ _).alloc (Nat.le_refl _) _
 have HF := Aside0.mk (And.intro hfr hb0)
 clear hfr hb0
 go_enter Tryd.func56, Tryd.ntmps56
 go_wp2_with (first
  | (go_at_call 30; refine (wnum_c _ _).mono ?_; rintro e w1 ⟨rfl, hb⟩; (have H1 := Aside0.mk (And.intro (HF.out.1.below hb) (below_step HF.out.2 hb))); clear hb)
  | (go_at_call 29; refine (bwrite_c w.heap.size w.heap.size [] _ _ H1.out.1 (by have := encN_len (l0.length : Int); rw [strOfNums_size]; simp; omega) H1.out.2.size).mono ?_; rintro e w2 ⟨rfl, hbd, hb⟩; rw [List.nil_append] at hbd; (have H2 := Aside0.mk (And.intro hbd (H1.out.2.trans hb))); clear hbd hb))
 go_loopw [15] (fun v15 wr => ∃ (i : Nat) (acc : List Int), i ≤ l0.length ∧ v15 = .int .i64 (i : Int) ∧ Aside0 (Lib.BuilderAt 64 5 w.heap.size w.heap.size (.pointer (some ⟨w.heap.size, 0, none⟩)) (Lib.strCells (strOfNums acc)) wr ∧ Below w.heap.size w wr) ∧ Aside0 (acc.length ≤ 8 * (i + 1) ∧ encL encI l0 = encA encI acc (l0.drop i))) (fun v15 _ => (l0.length - (RowKit.intOf v15).toNat))
 case atStart => exact ⟨0, _, Nat.zero_le _, rfl, H2, ⟨by have := encN_len (l0.length : Int); omega, by rw [List.drop_zero]; rfl⟩⟩
 case round =>
  obtain ⟨i, acc, hi, rfl, HR, HT⟩ := hrel
  by_cases hlt : i < l0.length
  ·obtain ⟨ad, rfl, hx⟩ := C_at HR0.out hlt
   replace hx := (HR.out.2.cell (World.block_lt_of_cell? w _ hx)).trans hx
   obtain ⟨x, hxx⟩ : ∃ x, x = rd l0 (i : Int) := ⟨_, rfl⟩
   rw [← hxx] at hx
   have he := HT.out.2
   rw [List.drop_eq_getElem_cons hlt, encA, ← rd_at hlt, ← hxx] at he
   have hi100 : i < 1000000 := by have := HL.out; omega
   have hlen8 := encI_len x
   have H8 := Aside0.mk hlen8
   clear hxx hlen8
   by_cases hz : encI x = []
   ·rw [if_pos hz] at he
    have HE := Aside0.mk he
    have hzz : strOfNums (encI x) = (⟨#[]⟩ : ByteArray) := by rw [hz]; rfl
    clear he hz
    go_wp2_with (go_at_call 33; refine (wint_c _ _).mono ?_; rintro e w3 ⟨rfl, hb⟩; (have H3 := Aside0.mk (below_step HR.out.2 hb)); clear hb)
    go_ret
    rw [HE.out]
    exact ⟨rfl, H3.out⟩
   ·rw [if_neg hz] at he
    have HE := Aside0.mk he
    have hz1 : (strOfNums (encI x)).toList ≠ [] := fun h => hz ((sn_toList _).1 h)
    have hz2 : (strOfNums (encI x)).toList.isEmpty = false := by simpa using hz1
    have hz3 : (!(strOfNums (encI x)).toList.isEmpty) = true := by rw [hz2]; rfl
    clear he hz
    go_wp2_with (first
     | (go_at_call 33; refine (wint_c _ _).mono ?_; rintro e w3 ⟨rfl, hb⟩; (have H3 := Aside0.mk (And.intro (HR.out.1.below hb) (below_step HR.out.2 hb))); clear hb)
     | (go_at_call 29; refine (bwrite_c w.heap.size w.heap.size _ _ _ (.inr H3.out.1) (by have := HT.out.1; have := H8.out; rw [Lib.strCells_length, strOfNums_size, strOfNums_size]; omega) H3.out.2.size).mono ?_; rintro e w4 ⟨rfl, hbd, hb⟩; rw [strCells_sn] at hbd; (have H4 := Aside0.mk (And.intro hbd (H3.out.2.trans hb))); clear hbd hb))
    go_roundw
    case rel => exact ⟨i + 1, _, by omega, by go_num, H4, ⟨by have := HT.out.1; have := H8.out; rw [List.length_append]; omega, HE.out⟩⟩
    case measure => simp [RowKit.intOf]; omega
  ·have he := HT.out.2
   rw [List.drop_eq_nil_of_le (by omega), encA] at he
   have HE := Aside0.mk he
   clear he
   go_wp2_with (go_at_call 34; refine (Tryd.Builder_String_any w.heap.size w.heap.size (strOfNums acc).data.toList _ (.inr HR.out.1) HR.out.2.size).mono ?_; rintro e w5 ⟨rfl, hb⟩; (have H5 := Aside0.mk (HR.out.2.trans hb)); clear hb)
   go_ret
   rw [HE.out]
   exact ⟨rfl, H5.out⟩
theorem wints_c {w : World} {A0 : Option Addr} {c0 : Nat} {l0 : List Int} (hr0 : Kd.C (Kd.int .i64) w A0 l0.length l0) (hl : l0.length ≤ 1000000) :
 Calls Tryd.prog 32 #[.slice A0 l0.length c0] w fun e w' => e = .returned (.string (strOfNums (encL encI l0))) ∧ Below w.heap.size w w' := by
 have H := Aside0.mk (all_int (c0 := c0) hr0 hl)
 clear hr0 hl
 go_enter Tryd.func32, Tryd.ntmps32
 go_wp2_with (go_at_call 56; refine H.out.mono ?_; rintro e w1 ⟨rfl, h1⟩; (have H1 := Aside0.mk h1); clear h1)
 go_ret
 exact ⟨rfl, H1.out⟩
end Go.Proofs.YtlekdhejgdfnpaaDoor.P
/- answer.Encode's own closures, walked: a number, and lists, written into the builder. -/
namespace Go.Proofs.YtlekdhejgdfnpaaDoor.P
open Go.RowKit Go.Lib Go.Proofs.YtlekdhejgdfnpaaDoorW.PrintWords Go.Proofs.YtlekdhejgdfnpaaDoorW.PrintLast Go.Proofs.YtlekdhejgdfnpaaDoorW.PrintMore
open Wr

/-- rows of other cells than bytes stay as they are, but for one block -/
def Keep8 (b : Nat) (w w1 : World) : Prop := ∀ (g : Nat) (cs : Array Value) (t : TypeId) (fr : Nat × Nat), g ≠ b → t ≠ 5 → w.heap[g]? = some (.cells cs t fr) → w1.heap[g]? = some (.cells cs t fr)
theorem Keep8.refl (b : Nat) (w : World) : Keep8 b w w := fun _ _ _ _ _ _ h => h
theorem Keep8.trans {b : Nat} {w w1 w2 : World} (h : Keep8 b w w1) (h' : Keep8 b w1 w2) : Keep8 b w w2 := fun g cs t fr hg ht hh => h' g cs t fr hg ht (h g cs t fr hg ht hh)
theorem Keep8.below {b : Nat} {w w1 : World} (h : Below w.heap.size w w1) : Keep8 b w w1 := fun g cs t fr hg ht hh => (h.block g (Array.getElem?_eq_some_iff.1 hh).1).trans hh
theorem bcheck2_c (B b : Nat) (bs : List Value) (w : World) (h : Lib.IsBuilder 64 5 B b bs w) :
 Calls Tryd.prog 55 #[.pointer (some ⟨b, 0, none⟩)] w fun e w' => e = .returned (.tuple #[]) ∧ (Lib.BuilderAt 64 5 B b (.pointer (some ⟨b, 0, none⟩)) bs w' ∧ Below B w w') ∧ Keep8 b w w' := by
 rcases h with h | h
 ·refine (bcheck_fresh b w h.cell0 h.shape h.frozen0).mono ?_
  rintro e w' ⟨rfl, rfl⟩
  exact ⟨rfl, ⟨h.used _, (Below.refl B w).setCell (p := ⟨b, 0, none⟩) h.1 _⟩, fun g cs t fr hg ht hh => (Below.heap_setCell w _ _ g hg).trans hh⟩
 ·refine (bcheck_used b w h.cell0).mono ?_
  rintro e w' ⟨rfl, rfl⟩
  exact ⟨rfl, ⟨h, Below.refl B _⟩, Keep8.refl b _⟩
set_option maxHeartbeats 2000000 in
set_option maxRecDepth 100000 in
theorem bwrite2_c (B b : Nat) (bs : List Value) (s : ByteArray) (w : World) (h : Lib.IsBuilder 64 5 B b bs w) (hlen : bs.length + s.size ≤ 140737488355328) (hBw : B ≤ w.heap.size) :
 Calls Tryd.prog 29 #[.pointer (some ⟨b, 0, none⟩), .string s] w fun e w' => e = .returned (.tuple #[.int .i64 s.size, .nilIface]) ∧ (Lib.BuilderAt 64 5 B b (.pointer (some ⟨b, 0, none⟩)) (bs ++ Lib.strCells s) w' ∧ Below B w w') ∧ Keep8 b w w' := by
 obtain ⟨i0, hi, hz0, hz1, hz2⟩ := info_parts infoBy
 go_enter Tryd.func29, Tryd.ntmps29
 go_wp2_with (go_at_call 55; refine (bcheck2_c B b bs _ h).mono ?_)
 rintro e w1 ⟨rfl, ⟨h1, hb1⟩, hk1⟩
 have HK1 := Aside0.mk hk1
 clear hk1
 obtain ⟨hB, v, hbk, hown, hne⟩ := h1
 have c0 : w1.cell? ⟨b, 0, none⟩ = some (.pointer (some ⟨b, 0, none⟩)) := by rw [Lib.cell_of_heap hbk]; rfl
 have c1 : w1.cell? ⟨b, 1, none⟩ = some v := by rw [Lib.cell_of_heap hbk]; rfl
 go_wp2_with (at_builtin; refine Lib.wpList_append_own_string _ rfl _ _ 62 9 rfl B 5 i0 Tryd.underlying62 Tryd.underlying9 hi hz0 hz1 hz2 _ _ _ rfl hown s rfl ?c3 ?c4 ?c5 ?_)
 case c3 => unfold maxLen; omega
 case c4 => omega
 case c5 => have := hb1.size; omega
 intro v' w2 hown' hgrow _
 have hlt : b < w1.heap.size := by
  rcases Nat.lt_or_ge b w1.heap.size with h' | h'
  ·exact h'
  ·simp [Array.getElem?_eq_none h'] at hbk
 have hb2 : w2.heap[b]? = some (.cells #[.pointer (some ⟨b, 0, none⟩), v] 64 (0, 0)) := by
  rw [hgrow.block b hlt (fun e => hne e.symm)]
  exact hbk
 have HK2 : Aside0 (Keep8 b w1 w2) := ⟨fun g cs t fr hg ht hh => (hgrow.block g (Array.getElem?_eq_some_iff.1 hh).1 (fun e => Lib.ownBlock_ne hown hh ht e.symm)).trans hh⟩
 have d0 : w2.cell? ⟨b, 0, none⟩ = some (.pointer (some ⟨b, 0, none⟩)) := by rw [Lib.cell_of_heap hb2]; rfl
 have d1 : w2.cell? ⟨b, 1, none⟩ = some v := by rw [Lib.cell_of_heap hb2]; rfl
 have f1 : w2.frozen? ⟨b, 1, none⟩ = false := Lib.frozen_of_heap hb2 1
 obtain ⟨ao, n', cap, rfl⟩ : ∃ ao n' cap, v' = .slice ao n' cap := by
  rcases hown'.2 with ⟨hv, _⟩ | ⟨g, cap, cur, hv, _⟩
  ·exact ⟨_, _, _, hv⟩
  ·exact ⟨_, _, _, hv⟩
 go_wp2
 go_ret2
 refine ⟨rfl, ⟨?_, ?_⟩, ?_⟩
 ·exact Lib.BuilderAt.put (T := 64) (e := 5) hB hb2 (bs' := bs ++ Lib.strCells s) (by simpa [Lib.strCells_length] using hown') (by decide)
 ·exact (hb1.grown hgrow (by have := hb1.size; omega) (fun k hk => (hown.lt k hk).1)).setCell (p := ⟨b, 1, none⟩) hB _
 ·exact (HK1.out.trans HK2.out).trans (fun g cs t fr hg ht hh => (Below.heap_setCell w2 _ _ g hg).trans hh)

/-! ### a number -/
set_option maxHeartbeats 2000000 in
set_option maxRecDepth 100000 in
theorem enum_c (n : Int) (B b : Nat) (bs : List Int) (w : World) (h : Lib.IsBuilder 64 5 B b (Lib.strCells (strOfNums bs)) w) (hlen : bs.length ≤ 1000000000) (hBw : B ≤ w.heap.size) :
 Calls Tryd.prog 28 #[.int .i64 n, .pointer (some ⟨b, 0, none⟩)] w fun e w' => e = .returned (.tuple #[]) ∧ (Lib.IsBuilder 64 5 B b (Lib.strCells (strOfNums (bs ++ encN n))) w' ∧ Below B w w') ∧ Keep8 b w w' := by
 have HH := Aside0.mk (And.intro h (And.intro hlen hBw))
 clear h hlen hBw
 go_enter Tryd.func28, Tryd.ntmps28
 go_wp2_with (first
  | (go_at_call 30; refine (wnum_c _ _).mono ?_; rintro e w1 ⟨rfl, hb⟩; (have H1 := Aside0.mk (And.intro (HH.out.1.below hb) hb)); clear hb)
  | (go_at_call 29; refine (bwrite2_c B b _ _ _ H1.out.1 (by have := encN_len n; have := HH.out.2.1; rw [Lib.strCells_length, strOfNums_size, strOfNums_size]; omega) (Nat.le_trans HH.out.2.2 H1.out.2.size)).mono ?_; rintro e w2 ⟨rfl, ⟨hbd, hb⟩, hk⟩; rw [strCells_sn] at hbd; (have H2 := Aside0.mk (And.intro (And.intro hbd ((H1.out.2.mono HH.out.2.2).trans hb)) ((Keep8.below H1.out.2).trans hk))); clear hbd hb hk))
 go_end0
 exact ⟨rfl, ⟨.inr H2.out.1.1, H2.out.1.2⟩, H2.out.2⟩
end Go.Proofs.YtlekdhejgdfnpaaDoor.P
/- answer.Encode's own closures, walked: lists, written into the builder. -/
namespace Go.Proofs.YtlekdhejgdfnpaaDoor.P
open Go.RowKit Go.Lib Go.Proofs.YtlekdhejgdfnpaaDoorW.PrintWords Go.Proofs.YtlekdhejgdfnpaaDoorW.PrintLast Go.Proofs.YtlekdhejgdfnpaaDoorW.PrintMore
open Wr

def listsB (ls : List (List Int)) : List Int := ls.flatMap (encL encI)
theorem encA_len (one : Int → List Int) (h8 : ∀ x, (one x).length ≤ 8) : ∀ (l acc : List Int), (encA one acc l).length ≤ acc.length + 8 * l.length := by
 intro l
 induction l with
 | nil => intro acc; simp [encA]
 | cons x r ih =>
  intro acc
  unfold encA
  split
  ·simp
  ·have := ih (acc ++ one x)
   have := h8 x
   rw [List.length_append] at *
   simp only [List.length_cons]
   omega
theorem encL_len (l : List Int) : (encL encI l).length ≤ 8 * (l.length + 1) := by
 have h1 := encA_len encI encI_len l (encN (l.length : Int))
 have h2 := encN_len (l.length : Int)
 unfold encL
 omega
theorem listsB_len : ∀ (ls : List (List Int)), (∀ x ∈ ls, x.length ≤ 64) → (listsB ls).length ≤ 520 * ls.length := by
 intro ls
 induction ls with
 | nil => intro _; simp [listsB]
 | cons x r ih =>
  intro h
  have h1 := encL_len x
  have h2 := h x (List.mem_cons_self ..)
  have h3 := ih (fun y hy => h y (List.mem_cons_of_mem _ hy))
  have e : listsB (x :: r) = encL encI x ++ listsB r := by simp [listsB]
  rw [e, List.length_append, List.length_cons]
  omega
theorem listsB_snoc (ls : List (List Int)) (x : List Int) : listsB (ls ++ [x]) = listsB ls ++ encL encI x := by simp [listsB]
/-- a row of rows, read at one place -/
theorem rows_at {w : World} {A : Option Addr} {n : Nat} {xs : List (List Int)} (h : Kd.C (Kd.slice 3 (Kd.int .i64)) w A n xs) {i : Nat} (hi : i < xs.length) :
 ∃ ad A' c', A = some ad ∧ w.cell? (ad.add i) = some (.slice A' (rd_L1 xs (i : Int)).length c') ∧ (rd_L1 xs (i : Int)).length ≤ c' ∧ Kd.C (Kd.int .i64) w A' (rd_L1 xs (i : Int)).length (rd_L1 xs (i : Int)) := by
 obtain ⟨ad, A', c', hA, hx, hl, hC⟩ := at_L1 h (i : Int) (by omega) (by have := h.1; omega)
 exact ⟨ad, A', c', hA, by simpa using hx, hl, hC⟩
set_option maxHeartbeats 4000000 in
set_option maxRecDepth 100000 in
theorem elists_c (l : List (List Int)) (A : Option Addr) (c : Nat) (B b : Nat) (bs : List Int) (w : World) (hC : ∀ w1, Below B w w1 → Keep8 b w w1 → Kd.C (Kd.slice 3 (Kd.int .i64)) w1 A l.length l) (h64 : ∀ x ∈ l, x.length ≤ 64) (hn : l.length ≤ 1000)
 (h : Lib.IsBuilder 64 5 B b (Lib.strCells (strOfNums bs)) w) (hlen : bs.length ≤ 1000000000) (hBw : B ≤ w.heap.size) :
 Calls Tryd.prog 31 #[.slice A l.length c, .pointer (some ⟨b, 0, none⟩)] w fun e w' => e = .returned (.tuple #[]) ∧ (Lib.IsBuilder 64 5 B b (Lib.strCells (strOfNums (bs ++ listsB l))) w' ∧ Below B w w') ∧ Keep8 b w w' := by
 have HC := Aside0.mk hC
 have H64 := Aside0.mk h64
 have HN := Aside0.mk (And.intro hn (And.intro hlen hBw))
 have H0 := Aside0.mk h
 clear hC h64 hn h hlen hBw
 go_enter Tryd.func31, Tryd.ntmps31
 go_wp2
 go_loopw [7] (fun v7 wr => ∃ (i : Nat), i ≤ l.length ∧ v7 = .int .i64 (i : Int) ∧ Aside0 ((Lib.IsBuilder 64 5 B b (Lib.strCells (strOfNums (bs ++ listsB (l.take i)))) wr ∧ Below B w wr) ∧ Keep8 b w wr)) (fun v7 _ => (l.length - (RowKit.intOf v7).toNat))
 case atStart => exact ⟨0, Nat.zero_le _, rfl, ⟨⟨by simpa [listsB] using H0.out, Below.refl _ _⟩, Keep8.refl _ _⟩⟩
 case round =>
  obtain ⟨i, hi, rfl, HR⟩ := hrel
  by_cases hlt : i < l.length
  ·obtain ⟨ad, A', c', rfl, hx, hlc, hrow⟩ := rows_at (HC.out _ HR.out.1.2 HR.out.2) hlt
   obtain ⟨x, hxx⟩ : ∃ x, x = rd_L1 l (i : Int) := ⟨_, rfl⟩
   rw [← hxx] at hx hlc hrow
   have hmem : x ∈ l := by
    rw [hxx]
    have : rd_L1 l (i : Int) = l[i] := by simp [rd_L1, List.getD_eq_getElem?_getD, List.getElem?_eq_getElem hlt]
    rw [this]; exact List.getElem_mem _
   have hsn : l.take (i + 1) = l.take i ++ [x] := by
    rw [hxx, List.take_succ_eq_append_getElem hlt]
    congr 2
    simp [rd_L1, List.getD_eq_getElem?_getD, List.getElem?_eq_getElem hlt]
   have HX := Aside0.mk (And.intro (H64.out x hmem) (And.intro hrow hlc))
   have HS := Aside0.mk hsn
   have HB := Aside0.mk (listsB_len (l.take i) (fun y hy => H64.out y (List.mem_of_mem_take hy)))
   have hi1 : i < 1000 := by have := HN.out.1; omega
   clear hmem hsn hrow hlc hxx
   go_wp2_with (first
    | (go_at_call 32; refine (wints_c (c0 := c') (HX.out.2.1) (by have := HX.out.1; omega)).mono ?_; rintro e w1 ⟨rfl, hb⟩; (have H1 := Aside0.mk (And.intro (HR.out.1.1.below hb) hb)); clear hb)
    | (go_at_call 29; refine (bwrite2_c B b _ _ _ H1.out.1 (by have := encL_len x; have := HX.out.1; have := HN.out; have := HB.out; rw [List.length_take] at this; rw [Lib.strCells_length, strOfNums_size, strOfNums_size, List.length_append]; omega) (Nat.le_trans (Nat.le_trans HN.out.2.2 HR.out.1.2.size) H1.out.2.size)).mono ?_; rintro e w2 ⟨rfl, ⟨hbd, hb⟩, hk⟩; rw [strCells_sn, List.append_assoc, ← listsB_snoc, ← HS.out] at hbd; (have H2 := Aside0.mk (And.intro (And.intro hbd ((HR.out.1.2.trans (H1.out.2.mono (Nat.le_trans HN.out.2.2 HR.out.1.2.size))).trans hb)) ((HR.out.2.trans (Keep8.below H1.out.2)).trans hk))); clear hbd hb hk))
   go_roundw
   case rel => exact ⟨i + 1, by omega, by go_num, ⟨⟨.inr H2.out.1.1, H2.out.1.2⟩, H2.out.2⟩⟩
   case measure => simp [RowKit.intOf]; omega
  ·have e : l.take i = l := List.take_of_length_le (by omega)
   have HR2 := HR.out
   rw [e] at HR2
   have HR2 := Aside0.mk HR2
   clear e HR
   go_wp2
   go_end0
   exact ⟨rfl, HR2.out⟩
end Go.Proofs.YtlekdhejgdfnpaaDoor.P
/- What came in, opened kind by kind: an argument's reading tells a list (of lists ..) that its cells hold. -/
namespace Go.Proofs.YtlekdhejgdfnpaaDoor.P
open Go.RowKit Go.Proofs.YtlekdhejgdfnpaaDoorW.PrintWords Go.Proofs.YtlekdhejgdfnpaaDoorW.PrintLast Go.Proofs.YtlekdhejgdfnpaaDoorW.PrintMore

structure Opens (P : Program) (t : TypeId) {α : Type} (d : Kd α) (q : α → Prop) : Prop where
 sz : P.cellsOf t = d.sz
 op : ∀ {H : Type} {enc : TypeId × Value → H} {w : World} {base fuel : Nat} {held : Bool} {cs : List Value} {x : DataW H × List MemPlace}, DataW.trod enc P w base (fun _ => true) held fuel t cs = some x → ∃ a : α, d.K w a cs ∧ q a
section
variable {P : Program} {α : Type} {d : Kd α} {q : α → Prop}
theorem opens_int {t : TypeId} {k : IntKind} (ht : P.underlying t = some (.int k)) (hs : P.cellsOf t = 1) : Opens P t (Kd.int k) (fun n => (Lit.int k n).wf = true) :=
 ⟨hs, fun h => by
  obtain ⟨n, rfl, _, hw⟩ := DataW.trod_int ht h
  exact ⟨n, rfl, hw⟩⟩
theorem Opens.mono {t : TypeId} {q' : α → Prop} (h : Opens P t d q) (hq : ∀ a, q a → q' a) : Opens P t d q' :=
 ⟨h.sz, fun ht => by obtain ⟨a, hk, ha⟩ := h.op ht; exact ⟨a, hk, hq a ha⟩⟩
theorem opens_slice {t e : TypeId} (e' : Nat) (ht : P.underlying t = some (.slice e)) (hs : P.cellsOf t = 1) (h : Opens P e d q) : Opens P t (Kd.slice e' d) (fun l => l.length ≤ maxLen ∧ ∀ x ∈ l, q x) :=
 ⟨hs, fun {H enc w base fuel held cs x} htr => by
  rcases Deep.open_slice ht htr with ⟨rfl, _⟩ | ⟨a, len, cap, m, n, D, Pl, rfl, hb, hl, hm, hmm, _, hx⟩
  ·exact ⟨[], ⟨none, 0, rfl, Nat.le_refl _, Kd.C_nil d w⟩, Nat.zero_le _, fun x hx => by cases hx⟩
  ·simp only [if_true] at hmm
   have each : ∀ i, i < len → ∃ y : α, (∃ cs', w.cells? base (a.add (i * P.cellsOf e)) (P.cellsOf e) = some cs' ∧ d.K w y cs') ∧ q y := by
    intro i hi
    obtain ⟨cs', h1, h2⟩ := hx i (by omega)
    obtain ⟨y, hy, hqy⟩ := h.op h2
    exact ⟨y, ⟨cs', h1, hy⟩, hqy⟩
   by_cases h0 : len = 0
   ·subst h0
    refine ⟨[], ⟨some a, cap, rfl, Nat.zero_le _, rfl, by simp, fun h => absurd h (Nat.lt_irrefl 0)⟩, Nat.zero_le _, fun x hx => by cases hx⟩
   ·obtain ⟨y0, _, _⟩ := each 0 (by omega)
    have : Inhabited α := ⟨y0⟩
    obtain ⟨f, hf⟩ := Deep.choose_lt each
    have hlen : ((List.range len).map f).length = len := by simp
    refine ⟨(List.range len).map f, ⟨some a, cap, by rw [hlen], by rw [hlen]; exact hl, ⟨rfl, by rw [hlen]; unfold maxLen at hm; omega, fun _ => ⟨a, rfl, fun j p hj => ?_⟩⟩⟩, by rw [hlen]; omega, fun x hx => ?_⟩
    ·have hjl := (List.getElem?_eq_some_iff.1 hj).1
     rw [hlen] at hjl
     rw [List.getElem?_map, List.getElem?_range hjl] at hj
     have hj' : f j = p := by simpa using hj
     subst hj'
     obtain ⟨⟨cs', h1, h2⟩, _⟩ := hf j hjl
     obtain ⟨_, hcl, hcell⟩ := World.cells?_some h1
     refine ⟨cs', by rw [hcl, h.sz], h2, fun i u hu => ?_⟩
     have hil := (List.getElem?_eq_some_iff.1 hu).1
     have := hcell i (by omega)
     rw [Deep.add_add, hu, h.sz] at this
     exact this
    ·obtain ⟨i, hi, rfl⟩ := List.mem_map.1 hx
     exact (hf i (List.mem_range.1 hi)).2⟩
end
/-- what came in is only read: it may be shared -/
theorem V_of_C {α : Type} {d : Kd α} (hd : Kd.Heap d) {e base c : Nat} {w : World} {A : Option Addr} {xs : List α} (h : d.C w A xs.length xs) (hc : xs.length ≤ c) : Kd.V d e w base (fun _ => True) (.slice A xs.length c) xs :=
 Kd.V_mk hc (fun W' hW => hd.C (fun k hk => hW k trivial hk) h)
end Go.Proofs.YtlekdhejgdfnpaaDoor.P
/- answer.Encode, walked: the parts. -/
namespace Go.Proofs.YtlekdhejgdfnpaaDoor.P
open Go.RowKit Go.Lib Go.Proofs.YtlekdhejgdfnpaaDoorW.PrintWords Go.Proofs.YtlekdhejgdfnpaaDoorW.PrintLast Go.Proofs.YtlekdhejgdfnpaaDoorW.PrintMore
open Wr

/-- a row of rows that stands in a block of its own -/
theorem C_lit {w : World} {g : Nat} {ls : List (List Int)} {vs : Array Value} {t : TypeId} (hh : w.heap[g]? = some (.cells vs t (0, 0))) (hb : ls.length ≤ 1000)
 (hv : ∀ (j : Nat) (x : List Int), ls[j]? = some x → ∃ (A : Option Addr) (c : Nat), vs[j]? = some (.slice A x.length c) ∧ x.length ≤ c ∧ Kd.C (Kd.int .i64) w A x.length x) :
 Kd.C (Kd.slice 3 (Kd.int .i64)) w (some ⟨g, 0, none⟩) ls.length ls := by
 refine ⟨rfl, by omega, fun _ => ⟨_, rfl, fun j p hj => ?_⟩⟩
 obtain ⟨A, c, h1, h2, h3⟩ := hv j p hj
 refine ⟨[.slice A p.length c], rfl, ⟨A, c, rfl, h2, h3⟩, fun i u hu => ?_⟩
 have hi : i = 0 := by
  have := (List.getElem?_eq_some_iff.1 hu).1
  simpa using this
 subst hi
 have hu' : Value.slice A p.length c = u := by simpa using hu
 subst hu'
 show w.cell? ((⟨g, 0, none⟩ : Addr).add (j * 1 + 0)) = _
 have e : ((⟨g, 0, none⟩ : Addr).add (j * 1 + 0)) = ⟨g, j, none⟩ := by simp [Addr.add]; omega
 rw [e, blk_cell hh j]
 exact h1
theorem C_two {w : World} {g : Nat} {x y : List Int} {A A' : Option Addr} {c c' : Nat} {t : TypeId} (hh : w.heap[g]? = some (.cells #[.slice A x.length c, .slice A' y.length c'] t (0, 0))) (hx : Kd.C (Kd.int .i64) w A x.length x) (hcx : x.length ≤ c) (hy : Kd.C (Kd.int .i64) w A' y.length y) (hcy : y.length ≤ c') :
 Kd.C (Kd.slice 3 (Kd.int .i64)) w (some ⟨g, 0, none⟩) [x, y].length [x, y] := by
 refine C_lit hh (by simp) (fun j z hz => ?_)
 match j, hz with
 | 0, hz => obtain rfl : x = z := by simpa using hz
            exact ⟨A, c, rfl, hcx, hx⟩
 | 1, hz => obtain rfl : y = z := by simpa using hz
            exact ⟨A', c', rfl, hcy, hy⟩
 | j + 2, hz => simp at hz
theorem C_three {w : World} {g : Nat} {x y z : List Int} {A A' A2 : Option Addr} {c c' c2 : Nat} {t : TypeId} (hh : w.heap[g]? = some (.cells #[.slice A x.length c, .slice A' y.length c', .slice A2 z.length c2] t (0, 0))) (hx : Kd.C (Kd.int .i64) w A x.length x) (hcx : x.length ≤ c) (hy : Kd.C (Kd.int .i64) w A' y.length y) (hcy : y.length ≤ c') (hz : Kd.C (Kd.int .i64) w A2 z.length z) (hcz : z.length ≤ c2) :
 Kd.C (Kd.slice 3 (Kd.int .i64)) w (some ⟨g, 0, none⟩) [x, y, z].length [x, y, z] := by
 refine C_lit hh (by simp) (fun j q hq => ?_)
 match j, hq with
 | 0, hq => obtain rfl : x = q := by simpa using hq
            exact ⟨A, c, rfl, hcx, hx⟩
 | 1, hq => obtain rfl : y = q := by simpa using hq
            exact ⟨A', c', rfl, hcy, hy⟩
 | 2, hq => obtain rfl : z = q := by simpa using hq
            exact ⟨A2, c2, rfl, hcz, hz⟩
 | j + 3, hq => simp at hq
theorem C_one {w : World} {g : Nat} {x : List Int} {A : Option Addr} {c : Nat} {t : TypeId} (hh : w.heap[g]? = some (.cells #[.slice A x.length c] t (0, 0))) (hx : Kd.C (Kd.int .i64) w A x.length x) (hcx : x.length ≤ c) :
 Kd.C (Kd.slice 3 (Kd.int .i64)) w (some ⟨g, 0, none⟩) [x].length [x] := by
 refine C_lit hh (by simp) (fun j z hz => ?_)
 match j, hz with
 | 0, hz => obtain rfl : x = z := by simpa using hz
            exact ⟨A, c, rfl, hcx, hx⟩
 | j + 1, hz => simp at hz

/-! ### what answer.Check asks, in closed words -/
abbrev Spl := S41
abbrev Cut := S43
def okAns (a0 : Int) (S U : List Int) (Se : List (List Int)) (Sp : List Spl) (Cu : List Cut) : Bool :=
 decide (0 ≤ a0) && decide (a0 < 6) && decide (Se.length ≤ 200) && decide (Sp.length ≤ 65) && decide (Cu.length ≤ 200) &&
  !(([S, U] ++ Se ++ Sp.flatMap (fun y => [y.f0, y.f1, y.f2]) ++ Cu.flatMap (fun c => [c.f0, [c.f1]])).any badA)
/-- an answer's bytes -/
def encAns (a0 : Int) (no : Bool) (S U : List Int) (Se : List (List Int)) (Sp : List Spl) (Cu : List Cut) : List Int :=
 encN a0 ++ encN (if no = true then 1 else 0) ++ listsB [S, U] ++ encN (Se.length : Int) ++ listsB Se ++ encN (Sp.length : Int) ++ Sp.flatMap (fun y => listsB [y.f0, y.f1, y.f2]) ++ encN (Cu.length : Int) ++ Cu.flatMap (fun c => listsB [c.f0] ++ encI c.f1)
theorem few_len {l : List Int} (h : badA l = false) : l.length ≤ 64 := by
 unfold badA fewB at h
 simp only [Bool.not_eq_false', Bool.and_eq_true, decide_eq_true_eq] at h
 omega
end Go.Proofs.YtlekdhejgdfnpaaDoor.P
/- answer's reader, walked: what stands while an answer is read. -/
namespace Go.Proofs.YtlekdhejgdfnpaaDoor.P
open Go.RowKit Go.Proofs.YtlekdhejgdfnpaaDoorW.PrintWords Go.Proofs.YtlekdhejgdfnpaaDoorW.PrintLast Go.Proofs.YtlekdhejgdfnpaaDoorW.PrintMore
open Wr

/-! ### closed words -/
def manyF {α : Type} (one : St → α × St) : Nat → St → List α → List α × St
 | 0, st, out => (out, st)
 | d + 1, st, out => manyF one d (one st).2 (out ++ [(one st).1])
def lstF (S : List Int) (st : St) : List Int × St := listF S (intF S) 64 st
def splF (S : List Int) (st : St) : Spl × St := (⟨(lstF S st).1, (lstF S (lstF S st).2).1, (lstF S (lstF S (lstF S st).2).2).1⟩, (lstF S (lstF S (lstF S st).2).2).2)
def cutF (S : List Int) (st : St) : Cut × St := (⟨(lstF S st).1, (intF S (lstF S st).2).1⟩, (intF S (lstF S st).2).2)
/-- what is read, and how it ends -/
structure AnsV where
 kd : Int
 no : Int
 S : List Int
 U : List Int
 Se : List (List Int)
 Sp : List Spl
 Cu : List Cut
def ansF (S : List Int) (st : St) : AnsV × St :=
 let k := numF S st
 let n := numF S k.2
 let a := lstF S n.2
 let b := lstF S a.2
 let c := countF S 200 b.2
 let d := manyF (lstF S) c.1.toNat c.2 []
 let e := countF S 65 d.2
 let f := manyF (splF S) e.1.toNat e.2 []
 let g := countF S 200 f.2
 let h := manyF (cutF S) g.1.toNat g.2 []
 (⟨k.1, n.1, a.1, b.1, d.1, f.1, h.1⟩, h.2)

/-! ### rows stay where blocks of another type are written -/
theorem R_K {α : Type} {d : Kd α} {e base : Nat} {ok : Nat → Prop} {W W1 : World} {K : Nat → Prop} {v : Value} {xs : List α} (h : d.R e W base ok v xs) (hk : Kept W W1 K)
 (ht : ∀ k c t, K k → W.heap[k]? = some (.cells c t (0, 0)) → ∀ q ∈ e :: d.E, q ≠ t) : d.R e W1 base ok v xs :=
 Kd.R_mono (Kd.R_kept (Kd.R_bound h) hk (fun k hk' hK => by obtain ⟨_, _, _, q, hq, c, hc⟩ := hk'; exact ht k c q hK hc q hq rfl)) (fun _ h => h.1)
theorem S_K {α : Type} {d : Kd α} {e base : Nat} {ok : Nat → Prop} {W W1 : World} {K : Nat → Prop} {v : Value} {xs : List α} (h : Kd.S d e W base ok v xs) (hk : Kept W W1 K)
 (ht : ∀ k c t, K k → W.heap[k]? = some (.cells c t (0, 0)) → ∀ q ∈ e :: d.E, q ≠ t) : Kd.S d e W1 base ok v xs :=
 Kd.S_mono (Kd.S_kept (Kd.S_bound h) hk (fun k hk' hK => by obtain ⟨_, _, _, q, hq, c, hc⟩ := hk'; exact ht k c q hK hc q hq rfl)) (fun _ h => h.1)

theorem int_E {q : Nat} (hq : q ∈ 3 :: (Kd.int .i64).E) : q = 3 := by
 rcases List.mem_cons.1 hq with h | h
 ·exact h
 ·cases h
/-! ### what stands -/
structure DC (w0 W : World) (base G B R0 n1 n2 : Nat) (s : ByteArray) (st : St) (vS vU : Value) (S U : List Int) : Prop where
 ar : AR W base G B s st
 bel : Below base w0 W
 kept : Kept w0 W (fun k => k = G ∨ k = B)
 bs : base ≤ w0.heap.size
 wR : w0.heap.size ≤ R0
 res : W.heap[R0]? = some (.cells #[.int .i64 0, .bool false, .slice none 0 0, .slice none 0 0, .slice none 0 0, .slice none 0 0, .slice none 0 0] 27 (0, 0))
 rS : (Kd.int .i64).R 3 W w0.heap.size (fun k => k < n1) vS S
 rU : (Kd.int .i64).R 3 W n1 (fun k => k < n2) vU U
 ln0 : w0.heap.size ≤ n1
 ln1 : n1 ≤ n2
 ln2 : n2 ≤ W.heap.size
abbrev Box (W : World) (X : Nat) (kd : Int) (no : Bool) (vS vU vSe vSp vCu : Value) : Prop := W.heap[X]? = some (.cells #[.int .i64 kd, .bool no, vS, vU, vSe, vSp, vCu] 27 (0, 0))
section
variable {w0 W W1 : World} {base G B R0 n1 n2 : Nat} {s : ByteArray} {st st1 : St} {vS vU : Value} {S U : List Int} {K : Nat → Prop}
theorem DC.keep (h : DC w0 W base G B R0 n1 n2 s st vS vU S U) (hk : Kept W W1 K) (hb : Below base W W1) (hK : ∀ k, K k → w0.heap.size ≤ k) (hR : ¬ K R0)
 (ht : ∀ k c t, K k → W.heap[k]? = some (.cells c t (0, 0)) → t ≠ 3 ∧ t ≠ 48 ∧ t ≠ 79 ∧ t ≠ 86) : DC w0 W1 base G B R0 n1 n2 s st vS vU S U where
 ar := h.ar.kept hk (fun k c t a b => (ht k c t a b).2)
 bel := h.bel.trans hb
 kept := h.kept.then_ hk (fun k hk => .inr (hK k hk))
 bs := h.bs
 wR := h.wR
 res := (hk.2 R0 (blk_lt h.res) hR).trans h.res
 rS := R_K h.rS hk (fun k c t a b q hq e => by obtain rfl := int_E hq; exact (ht k c t a b).1 e.symm)
 rU := R_K h.rU hk (fun k c t a b q hq e => by obtain rfl := int_E hq; exact (ht k c t a b).1 e.symm)
 ln0 := h.ln0
 ln1 := h.ln1
 ln2 := Nat.le_trans h.ln2 hk.1
theorem ar_types (h : AR W base G B s st) : ∀ k c t, (k = G ∨ k = B) → W.heap[k]? = some (.cells c t (0, 0)) → t = 48 ∨ t = 79 := by
 obtain ⟨-, -, ⟨c1, h1⟩, ⟨c2, h2⟩⟩ := h.blocks
 rintro k c t (rfl | rfl) hc
 ·rw [h1] at hc; injection hc with hc; injection hc with _ hc; exact .inl hc.symm
 ·rw [h2] at hc; injection hc with hc; injection hc with _ hc; exact .inr hc.symm
theorem DC.call (h : DC w0 W base G B R0 n1 n2 s st vS vU S U) (har : AR W1 base G B s st1) (hb : Below base W W1) (hk : Kept W W1 (fun k => k = G ∨ k = B)) : DC w0 W1 base G B R0 n1 n2 s st1 vS vU S U where
 ar := har
 bel := h.bel.trans hb
 kept := h.kept.then_ hk (fun k hk => .inl hk)
 bs := h.bs
 wR := h.wR
 res := (hk.2 R0 (blk_lt h.res) (fun hK => by rcases ar_types h.ar R0 _ _ hK h.res with e | e <;> exact absurd e (by decide))).trans h.res
 rS := R_K h.rS hk (fun k c t a b q hq e => by obtain rfl := int_E hq
                                               subst e; rcases ar_types h.ar k c _ a b with e | e <;> exact absurd e (by decide))
 rU := R_K h.rU hk (fun k c t a b q hq e => by obtain rfl := int_E hq
                                               subst e; rcases ar_types h.ar k c _ a b with e | e <;> exact absurd e (by decide))
 ln0 := h.ln0
 ln1 := h.ln1
 ln2 := Nat.le_trans h.ln2 hk.1
theorem DC.below (h : DC w0 W base G B R0 n1 n2 s st vS vU S U) (hb : Below W.heap.size W W1) : DC w0 W1 base G B R0 n1 n2 s st vS vU S U :=
 h.keep (K := fun _ => False) (Kept.of_below hb _) (hb.mono (Nat.le_trans h.bs h.kept.1)) (fun _ hk => hk.elim) (fun hk => hk) (fun _ _ _ hk => hk.elim)
/-- a row of another type is written, that is the call's own -/
theorem DC.grow (h : DC w0 W base G B R0 n1 n2 s st vS vU S U) {v : Value} {e : Nat} (hg : W.grownBy W1 v.ownBlock) (hv : ∀ k, v.ownBlock = some k → w0.heap.size ≤ k ∧ ∃ c, W.heap[k]? = some (.cells c e (0, 0)))
 (he : e = 22 ∨ e = 41 ∨ e = 43) : DC w0 W1 base G B R0 n1 n2 s st vS vU S U := by
 have hk : Kept W W1 (fun k => v.ownBlock = some k) := Kept.of_grown hg (Kept.refl _ _) (fun k e => .inl e)
 have ht : ∀ k c t, v.ownBlock = some k → W.heap[k]? = some (.cells c t (0, 0)) → t = e := fun k c t hk hc => by
  obtain ⟨_, c', hc'⟩ := hv k hk
  rw [hc'] at hc; injection hc with hc; injection hc with _ hc; exact hc.symm
 refine h.keep hk ((Below.refl _ _).grown hg (Nat.le_trans h.bs h.kept.1) (fun k e => Nat.le_trans h.bs (hv k e).1)) (fun k e => (hv k e).1) (fun hK => ?_) (fun k c t a b => ?_)
 ·have := ht R0 _ _ hK h.res
  rcases he with he | he | he <;> rw [he] at this <;> exact absurd this (by decide)
 ·have := ht k c t a b
  subst this
  rcases he with he | he | he <;> rw [he] <;> decide
theorem blk_t {k : Nat} {c c' : Array Value} {t t' : TypeId} (h : W.heap[k]? = some (.cells c t (0, 0))) (h' : W.heap[k]? = some (.cells c' t' (0, 0))) : t = t' := by
 rw [h] at h'; injection h' with h'; injection h' with _ h'
theorem DC.put {X : Nat} {c : Array Value} {t : TypeId} (h : DC w0 W base G B R0 n1 n2 s st vS vU S U) (hX : w0.heap.size ≤ X) (hR : R0 ≠ X) (hbx : W.heap[X]? = some (.cells c t (0, 0))) (ht : t = 27 ∨ t = 43) (j : Nat) (u : Value) : DC w0 (W.setCell ⟨X, j, none⟩ u) base G B R0 n1 n2 s st vS vU S U := by
 have hk : Kept W (W.setCell ⟨X, j, none⟩ u) (fun k => k = X) := Kept.setCell (S := fun k => k = X) (p := ⟨X, j, none⟩) (Kept.refl _ _) (.inl rfl) _
 refine h.keep hk ((Below.refl _ _).setCell (p := ⟨X, j, none⟩) (Nat.le_trans h.bs hX) _) (fun k e => by rw [e]; exact hX) hR (fun k c' t' a b => ?_)
 subst a
 obtain rfl := blk_t hbx b
 rcases ht with rfl | rfl <;> decide
theorem put_K {X : Nat} {c : Array Value} {t : TypeId} {j : Nat} {u : Value} (hbx : W.heap[X]? = some (.cells c t (0, 0))) : Kept W (W.setCell ⟨X, j, none⟩ u) (fun k => k = X) ∧ (∀ k c' t', k = X → W.heap[k]? = some (.cells c' t' (0, 0)) → t' = t) :=
 ⟨Kept.setCell (S := fun k => k = X) (p := ⟨X, j, none⟩) (Kept.refl _ _) (.inl rfl) _, fun k c' t' a b => by subst a; exact blk_t b hbx⟩
theorem S_put {α : Type} {d : Kd α} {e b : Nat} {ok : Nat → Prop} {v : Value} {xs : List α} {X : Nat} {c : Array Value} {t : TypeId} (h : Kd.S d e W b ok v xs) (hbx : W.heap[X]? = some (.cells c t (0, 0))) (ht : ∀ q ∈ e :: d.E, q ≠ t) (j : Nat) (u : Value) : Kd.S d e (W.setCell ⟨X, j, none⟩ u) b ok v xs :=
 S_K h (put_K hbx).1 (fun k c' t' a b q hq => by rw [(put_K (j := j) (u := u) hbx).2 k c' t' a b]; exact ht q hq)
theorem S_call {α : Type} {d : Kd α} {e b : Nat} {ok : Nat → Prop} {v : Value} {xs : List α} (h : Kd.S d e W b ok v xs) (har : AR W base G B s st) (hk : Kept W W1 (fun k => k = G ∨ k = B)) (ht : ∀ q ∈ e :: d.E, q ≠ 48 ∧ q ≠ 79) : Kd.S d e W1 b ok v xs :=
 S_K h hk (fun k c t a b q hq e => by rcases ar_types har k c t a b with e' | e' <;> rw [e'] at e; (exact (ht q hq).1 e); (exact (ht q hq).2 e))
theorem R_call {α : Type} {d : Kd α} {e b : Nat} {ok : Nat → Prop} {v : Value} {xs : List α} (h : d.R e W b ok v xs) (har : AR W base G B s st) (hk : Kept W W1 (fun k => k = G ∨ k = B)) (ht : ∀ q ∈ e :: d.E, q ≠ 48 ∧ q ≠ 79) : d.R e W1 b ok v xs :=
 R_K h hk (fun k c t a b q hq e => by rcases ar_types har k c t a b with e' | e' <;> rw [e'] at e; (exact (ht q hq).1 e); (exact (ht q hq).2 e))
theorem box_call {X : Nat} {c : Array Value} {t : TypeId} (hbx : W.heap[X]? = some (.cells c t (0, 0))) (har : AR W base G B s st) (hk : Kept W W1 (fun k => k = G ∨ k = B)) (ht : t ≠ 48 ∧ t ≠ 79) : W1.heap[X]? = some (.cells c t (0, 0)) :=
 blk_kept hbx hk (fun e => by rcases ar_types har X c t e hbx with e | e; (exact ht.1 e); (exact ht.2 e))
end
/-! ### numbers, taken by the wire's reader itself -/
def AR1 (w : World) (base G B : Nat) (s : ByteArray) (st : St) : Prop := base ≤ G ∧ RA w G B (-1) ∧ Rd w base B s st ∧ Ok s st
theorem AR1.ar {w : World} {base G B : Nat} {s : ByteArray} {st : St} (h : AR1 w base G B s st) : AR w base G B s st := ⟨h.1, -1, st, h.2.1, h.2.2.1, h.2.2.2, .inl ⟨rfl, rfl⟩⟩
theorem AR1.below {w w1 : World} {base G B : Nat} {s : ByteArray} {st : St} (h : AR1 w base G B s st) (hb : Below w.heap.size w w1) : AR1 w1 base G B s st := ⟨h.1, blk_below h.2.1 hb, h.2.2.1.below hb, h.2.2.2⟩
theorem one_grown {w w' : World} {base G B : Nat} {s : ByteArray} {st st' : St} (h : AR1 w base G B s st) (hbase : base ≤ w.heap.size) (hr : Rd w' base B s st') (ho : Ok s st') (hg : w.grownBy w' (some B)) : AR1 w' base G B s st' ∧ Below base w w' ∧ Kept w w' (fun k => k = G ∨ k = B) := by
 obtain ⟨h0, hra, ⟨hb, ev, hrc, hre⟩, _⟩ := h
 refine ⟨⟨h0, blk_grown hra hg (fun e => ?_), hr, ho⟩, (Below.refl _ _).grown hg hbase (fun k e => by obtain rfl := Option.some.inj e; exact hb), Kept.of_grown hg (Kept.refl _ _) (fun k e => .inl (.inr (Option.some.inj e).symm))⟩
 obtain rfl := Option.some.inj e
 exact absurd (blk_ne hra hrc (by decide)) (fun h => h rfl)
theorem num_a {w : World} {base G B : Nat} {s : ByteArray} {st : St} (h : AR1 w base G B s st) (hs : s.size ≤ 1000000000) (hbase : base ≤ w.heap.size) :
 Calls Tryd.prog 42 #[.pointer (some ⟨B, 0, none⟩)] w fun e w' => e = .returned (.int .i64 (numF (bytesOf s) st).1) ∧ AR1 w' base G B s (numF (bytesOf s) st).2 ∧ Below base w w' ∧ Kept w w' (fun k => k = G ∨ k = B) := by
 refine (num_c h.2.2.1 hs h.2.2.2.1).mono ?_
 rintro e w' ⟨rfl, h1, h2⟩
 exact ⟨rfl, one_grown h hbase h1 (refnum_ok h.2.2.2) h2⟩
theorem int_a {w : World} {base G B : Nat} {s : ByteArray} {st : St} (h : AR w base G B s st) (hn : st.2 = none) (hs : s.size ≤ 1000000000) (hbase : base ≤ w.heap.size) :
 Calls Tryd.prog 46 #[.pointer (some ⟨B, 0, none⟩)] w fun e w' => e = .returned (.int .i64 (intF (bytesOf s) st).1) ∧ AR w' base G B s (intF (bytesOf s) st).2 ∧ Below base w w' ∧ Kept w w' (fun k => k = G ∨ k = B) := by
 have h1 : AR1 w base G B s st := ⟨(h.none hn).1, (h.none hn).2.1, (h.none hn).2.2, h.ok⟩
 refine (int_c h1.2.2.1 hs h.ok.1).mono ?_
 rintro e w' ⟨rfl, h2, h3⟩
 have := one_grown h1 hbase h2 (refnum_ok h.ok) h3
 exact ⟨rfl, this.1.ar, this.2⟩
end Go.Proofs.YtlekdhejgdfnpaaDoor.P
