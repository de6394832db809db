/- Texts of this claim's own repository, merged by wip/tool/pack.py: Px13, AnsLbk, TiedC, AnsOpn. -/
import Derived.Test.YtlekdhejgdfnpaaDoorRows
import Derived.ChangeSame
import Derived.ChangeVars
import Derived.JoinedOf
import Derived.RowKit
import Derived.RowKitTokens
import Derived.LaidLaws
import Derived.LaidHandle
import Derived.Stop.Joined
import Derived.WideShapes
import Derived.SizedLaws
import Derived.Test.YtlekdhejgdfnpaaDoorKAnswerBack4
set_option linter.unusedVariables false
set_option linter.unusedSimpArgs false
namespace Go.Proofs.YtlekdhejgdfnpaaDoor.P
open Go.RowKit Go.Proofs.YtlekdhejgdfnpaaDoorW.PrintWords Go.Proofs.YtlekdhejgdfnpaaDoorW.PrintLast Go.Proofs.YtlekdhejgdfnpaaDoorW.PrintMore
attribute [local go_sem] max2_int min2_int max_two min_two max_three min_three max_four min_four   -- for this text's walks alone
set_option linter.unusedVariables false
set_option linter.unusedSimpArgs false

/-! ### greenwoodlaw23_AnswerBack: function 4 -/
mutual
def greenwoodlaw23_AnswerBack.j0 : Nat → ByteArray → Bool → Int → Bool → List Int → List Int → List (List Int) → List (S41) → List (S43) → Int → Bool → List Int → List Int → List (List Int) → List (S41) → List (S43) → Option (Bool)
 | 0, _, _, _, _, _, _, _, _, _, _, _, _, _, _, _, _ => none
 | k + 1, x2, x31, x333000, x333001, x333002, x333003, x333004, x333005, x333006, x334000, x334001, x334002, x334003, x334004, x334005, x334006 => if x31 = true then ((greenwoodlaw23_fixed.f).bind fun t337 => (some t337)) else ((answer_Decode.f x2).bind fun bt338 => (if bt338.2.2.2.2.2.2.2.1 = 0 then ((answer_Encode.f bt338.1 bt338.2.1 bt338.2.2.1 bt338.2.2.2.1 bt338.2.2.2.2.1 bt338.2.2.2.2.2.1 bt338.2.2.2.2.2.2.1).bind fun t358 => (if t358.toList = x2.toList then (if bt338.2.2.2.2.2.2.2.2 = (x2.size : Int) then ((answer_Check.f k bt338.1 bt338.2.1 bt338.2.2.1 bt338.2.2.2.1 bt338.2.2.2.2.1 bt338.2.2.2.2.2.1 bt338.2.2.2.2.2.2.1).bind fun t359 => (greenwoodlaw23_AnswerBack.j1 k (t359 != 0) x333000 x333001 x333002 x333003 x333004 x333005 x333006 x334000 x334001 x334002 x334003 x334004 x334005 x334006)) else (greenwoodlaw23_AnswerBack.j1 k true x333000 x333001 x333002 x333003 x333004 x333005 x333006 x334000 x334001 x334002 x334003 x334004 x334005 x334006)) else (greenwoodlaw23_AnswerBack.j1 k true x333000 x333001 x333002 x333003 x333004 x333005 x333006 x334000 x334001 x334002 x334003 x334004 x334005 x334006))) else (greenwoodlaw23_AnswerBack.j1 k false x333000 x333001 x333002 x333003 x333004 x333005 x333006 x334000 x334001 x334002 x334003 x334004 x334005 x334006)))
def greenwoodlaw23_AnswerBack.j1 : Nat → Bool → Int → Bool → List Int → List Int → List (List Int) → List (S41) → List (S43) → Int → Bool → List Int → List Int → List (List Int) → List (S41) → List (S43) → Option (Bool)
 | 0, _, _, _, _, _, _, _, _, _, _, _, _, _, _, _ => none
 | k + 1, x57, x333000, x333001, x333002, x333003, x333004, x333005, x333006, x334000, x334001, x334002, x334003, x334004, x334005, x334006 => if x57 = true then (some false) else ((answer_Encode.f x333000 x333001 x333002 x333003 x333004 x333005 x333006).bind fun t360 => ((answer_Encode.f x334000 x334001 x334002 x334003 x334004 x334005 x334006).bind fun t361 => (if t360.toList = ([] : List UInt8) then (greenwoodlaw23_AnswerBack.j2 k t360 t361 true x333000 x333001 x333002 x333003 x333004 x333005 x333006 x334000 x334001 x334002 x334003 x334004 x334005 x334006) else (greenwoodlaw23_AnswerBack.j2 k t360 t361 (t361.toList == ([] : List UInt8)) x333000 x333001 x333002 x333003 x333004 x333005 x333006 x334000 x334001 x334002 x334003 x334004 x334005 x334006))))
def greenwoodlaw23_AnswerBack.j2 : Nat → ByteArray → ByteArray → Bool → Int → Bool → List Int → List Int → List (List Int) → List (S41) → List (S43) → Int → Bool → List Int → List Int → List (List Int) → List (S41) → List (S43) → Option (Bool)
 | 0, _, _, _, _, _, _, _, _, _, _, _, _, _, _, _, _, _ => none
 | k + 1, x10, x11, x67, x333000, x333001, x333002, x333003, x333004, x333005, x333006, x334000, x334001, x334002, x334003, x334004, x334005, x334006 => if x67 = true then (if x10.toList = ([] : List UInt8) then ((answer_Check.f k x333000 x333001 x333002 x333003 x333004 x333005 x333006).bind fun t362 => (some (t362 == 230))) else (some true)) else ((answer_Decode.f x10).bind fun bt363 => (if bt363.2.2.2.2.2.2.2.1 = 0 then ((greenwoodref23_Same.f k bt363.1 bt363.2.1 bt363.2.2.1 bt363.2.2.2.1 bt363.2.2.2.2.1 bt363.2.2.2.2.2.1 bt363.2.2.2.2.2.2.1 x333000 x333001 x333002 x333003 x333004 x333005 x333006).bind fun t383 => (if t383 = true then ((greenwoodref23_Same.f k x333000 x333001 x333002 x333003 x333004 x333005 x333006 x334000 x334001 x334002 x334003 x334004 x334005 x334006).bind fun t384 => (some ((x10.toList == x11.toList) == t384))) else (some false))) else (some false)))
end
def greenwoodlaw23_AnswerBack.f (k : Nat) (a0_0 : Int) (a0_1 : Bool) (l0_2 : List Int) (l0_3 : List Int) (l0_4 : List (List Int)) (l0_5 : List (S41)) (l0_6 : List (S43)) (a1_0 : Int) (a1_1 : Bool) (l1_2 : List Int) (l1_3 : List Int) (l1_4 : List (List Int)) (l1_5 : List (S41)) (l1_6 : List (S43)) (a2 : ByteArray) : Option (Bool) := (greenwoodlaw23_fixed.f).bind fun t334 => (if t334 = true then ((greenwoodref23_Small.f k a0_0 a0_1 l0_2 l0_3 l0_4 l0_5 l0_6).bind fun t335 => (if t335 = true then ((greenwoodref23_Small.f k a1_0 a1_1 l1_2 l1_3 l1_4 l1_5 l1_6).bind fun t336 => (if t336 = true then (greenwoodlaw23_AnswerBack.j0 k a2 (decide ((a2.size : Int) > 3000)) a0_0 a0_1 l0_2 l0_3 l0_4 l0_5 l0_6 a1_0 a1_1 l1_2 l1_3 l1_4 l1_5 l1_6) else (greenwoodlaw23_AnswerBack.j0 k a2 true a0_0 a0_1 l0_2 l0_3 l0_4 l0_5 l0_6 a1_0 a1_1 l1_2 l1_3 l1_4 l1_5 l1_6))) else (greenwoodlaw23_AnswerBack.j0 k a2 true a0_0 a0_1 l0_2 l0_3 l0_4 l0_5 l0_6 a1_0 a1_1 l1_2 l1_3 l1_4 l1_5 l1_6))) else (greenwoodlaw23_AnswerBack.j0 k a2 true a0_0 a0_1 l0_2 l0_3 l0_4 l0_5 l0_6 a1_0 a1_1 l1_2 l1_3 l1_4 l1_5 l1_6))
set_option maxHeartbeats 8000000 in
set_option maxRecDepth 100000 in
theorem greenwoodlaw23_AnswerBack.callsT (k : Nat) (a0_0 : Int) (a0_1 : Bool) (A0_2 : Option Addr) (c0_2 : Nat) (l0_2 : List Int) (A0_3 : Option Addr) (c0_3 : Nat) (l0_3 : List Int) (A0_4 : Option Addr) (c0_4 : Nat) (l0_4 : List (List Int)) (A0_5 : Option Addr) (c0_5 : Nat) (l0_5 : List (S41)) (A0_6 : Option Addr) (c0_6 : Nat) (l0_6 : List (S43)) (a1_0 : Int) (a1_1 : Bool) (A1_2 : Option Addr) (c1_2 : Nat) (l1_2 : List Int) (A1_3 : Option Addr) (c1_3 : Nat) (l1_3 : List Int) (A1_4 : Option Addr) (c1_4 : Nat) (l1_4 : List (List Int)) (A1_5 : Option Addr) (c1_5 : Nat) (l1_5 : List (S41)) (A1_6 : Option Addr) (c1_6 : Nat) (l1_6 : List (S43)) (a2 : ByteArray) (r : Bool) (w : World) (hEV : EV w) (hr0_2 : Kd.C (Kd.int .i64) w A0_2 l0_2.length l0_2) (hc0_2 : l0_2.length ≤ c0_2) (hr0_3 : Kd.C (Kd.int .i64) w A0_3 l0_3.length l0_3) (hc0_3 : l0_3.length ≤ c0_3) (hr0_4 : Kd.C (Kd.slice 3 (Kd.int .i64)) w A0_4 l0_4.length l0_4) (hc0_4 : l0_4.length ≤ c0_4) (hr0_5 : Kd.C k41 w A0_5 l0_5.length l0_5) (hc0_5 : l0_5.length ≤ c0_5) (hr0_6 : Kd.C k43 w A0_6 l0_6.length l0_6) (hc0_6 : l0_6.length ≤ c0_6) (hr1_2 : Kd.C (Kd.int .i64) w A1_2 l1_2.length l1_2) (hc1_2 : l1_2.length ≤ c1_2) (hr1_3 : Kd.C (Kd.int .i64) w A1_3 l1_3.length l1_3) (hc1_3 : l1_3.length ≤ c1_3) (hr1_4 : Kd.C (Kd.slice 3 (Kd.int .i64)) w A1_4 l1_4.length l1_4) (hc1_4 : l1_4.length ≤ c1_4) (hr1_5 : Kd.C k41 w A1_5 l1_5.length l1_5) (hc1_5 : l1_5.length ≤ c1_5) (hr1_6 : Kd.C k43 w A1_6 l1_6.length l1_6) (hc1_6 : l1_6.length ≤ c1_6) (hrT : r = true) (h : greenwoodlaw23_AnswerBack.f k a0_0 a0_1 l0_2 l0_3 l0_4 l0_5 l0_6 a1_0 a1_1 l1_2 l1_3 l1_4 l1_5 l1_6 a2 = some r) :
 Calls Tryd.prog 4 #[.agg #[.int .i64 a0_0, .bool a0_1, .slice A0_2 l0_2.length c0_2, .slice A0_3 l0_3.length c0_3, .slice A0_4 l0_4.length c0_4, .slice A0_5 l0_5.length c0_5, .slice A0_6 l0_6.length c0_6], .agg #[.int .i64 a1_0, .bool a1_1, .slice A1_2 l1_2.length c1_2, .slice A1_3 l1_3.length c1_3, .slice A1_4 l1_4.length c1_4, .slice A1_5 l1_5.length c1_5, .slice A1_6 l1_6.length c1_6], .string a2] w fun e w' => e = .returned (.bool r) ∧ Below w.heap.size w w' := by
 have HEV := Aside0.mk hEV
 clear hEV
 have hu27 := Tryd.underlying27
 have HR0_2 := Aside0.mk hr0_2
 have HC0_2 := Aside0.mk hc0_2
 clear hr0_2 hc0_2
 have HR0_3 := Aside0.mk hr0_3
 have HC0_3 := Aside0.mk hc0_3
 clear hr0_3 hc0_3
 have HR0_4 := Aside0.mk hr0_4
 have HC0_4 := Aside0.mk hc0_4
 clear hr0_4 hc0_4
 have HR0_5 := Aside0.mk hr0_5
 have HC0_5 := Aside0.mk hc0_5
 clear hr0_5 hc0_5
 have HR0_6 := Aside0.mk hr0_6
 have HC0_6 := Aside0.mk hc0_6
 clear hr0_6 hc0_6
 have HR1_2 := Aside0.mk hr1_2
 have HC1_2 := Aside0.mk hc1_2
 clear hr1_2 hc1_2
 have HR1_3 := Aside0.mk hr1_3
 have HC1_3 := Aside0.mk hc1_3
 clear hr1_3 hc1_3
 have HR1_4 := Aside0.mk hr1_4
 have HC1_4 := Aside0.mk hc1_4
 clear hr1_4 hc1_4
 have HR1_5 := Aside0.mk hr1_5
 have HC1_5 := Aside0.mk hc1_5
 clear hr1_5 hc1_5
 have HR1_6 := Aside0.mk hr1_6
 have HC1_6 := Aside0.mk hc1_6
 clear hr1_6 hc1_6
 have HB := Aside0.mk (Below.refl w.heap.size w)
 have H : ((greenwoodlaw23_fixed.f).bind fun t334 => (if t334 = true then ((greenwoodref23_Small.f k a0_0 a0_1 l0_2 l0_3 l0_4 l0_5 l0_6).bind fun t335 => (if t335 = true then ((greenwoodref23_Small.f k a1_0 a1_1 l1_2 l1_3 l1_4 l1_5 l1_6).bind fun t336 => (if t336 = true then (greenwoodlaw23_AnswerBack.j0 k a2 (decide ((a2.size : Int) > 3000)) a0_0 a0_1 l0_2 l0_3 l0_4 l0_5 l0_6 a1_0 a1_1 l1_2 l1_3 l1_4 l1_5 l1_6) else (greenwoodlaw23_AnswerBack.j0 k a2 true a0_0 a0_1 l0_2 l0_3 l0_4 l0_5 l0_6 a1_0 a1_1 l1_2 l1_3 l1_4 l1_5 l1_6))) else (greenwoodlaw23_AnswerBack.j0 k a2 true a0_0 a0_1 l0_2 l0_3 l0_4 l0_5 l0_6 a1_0 a1_1 l1_2 l1_3 l1_4 l1_5 l1_6))) else (greenwoodlaw23_AnswerBack.j0 k a2 true a0_0 a0_1 l0_2 l0_3 l0_4 l0_5 l0_6 a1_0 a1_1 l1_2 l1_3 l1_4 l1_5 l1_6))) = some r := h
 clear h
 have HC4 := Aside0.mk H
 clear H
 go_enter Tryd.func4, Tryd.ntmps4
 go_upto_region 1 with (first | ((with_reducible refine gate_dst (N := 3) rfl ?_); (try (refine gate_guard (by rfl) ?_; dsimp only)); refine box_event ?hg (N := 3) ?hd (cs := #[.int .i64 a0_0, .bool a0_1, .slice A0_2 l0_2.length c0_2, .slice A0_3 l0_3.length c0_3, .slice A0_4 l0_4.length c0_4, .slice A0_5 l0_5.length c0_5, .slice A0_6 l0_6.length c0_6]) (t := 27) ?hr ?_; (case hd => rfl); (case hg => rfl); (case hr => first | (go_simp; done) | (go_simp; rfl)); intro gb332 hg w5 hbox hb; have n0_ := Aside0.mk (below_step (by repeat (first | (with_reducible first | exact HB.out | apply below_alloc | apply pw_below_drewN | apply below_drew1) | exact HB.out)) hb); have n1_ := Aside0.mk (hbox); have n2_ := Aside0.mk ((by rw [hg]; exact (below_size (by repeat (first | (with_reducible first | exact HB.out | apply below_alloc | apply pw_below_drewN | apply below_drew1) | exact HB.out))) : w.heap.size ≤ gb332)); have n3_ := Aside0.mk ((by rw [hg]; exact (below_size (by repeat (first | (with_reducible first | exact HB.out | apply below_alloc | apply pw_below_drewN | apply below_drew1) | exact HB.out))) : w.heap.size ≤ gb332)); clear HB; have HB := n0_; have BK332 := n1_; have GW332 := n2_; have GE332 := n3_; clear n0_ n1_ n2_ n3_; clear hb hbox hg) | ((with_reducible refine gate_dst (N := 4) rfl ?_); (try (refine gate_guard (by rfl) ?_; dsimp only)); refine box_event ?hg (N := 4) ?hd (cs := #[.int .i64 a1_0, .bool a1_1, .slice A1_2 l1_2.length c1_2, .slice A1_3 l1_3.length c1_3, .slice A1_4 l1_4.length c1_4, .slice A1_5 l1_5.length c1_5, .slice A1_6 l1_6.length c1_6]) (t := 27) ?hr ?_; (case hd => rfl); (case hg => rfl); (case hr => first | (go_simp; done) | (go_simp; rfl)); intro gb333 hg w6 hbox hb; have n0_ := Aside0.mk (blk_below (g := gb332) (o := .cells #[.int .i64 a0_0, .bool a0_1, .slice A0_2 l0_2.length c0_2, .slice A0_3 l0_3.length c0_3, .slice A0_4 l0_4.length c0_4, .slice A0_5 l0_5.length c0_5, .slice A0_6 l0_6.length c0_6] 27 (0, 0)) (by (with_reducible repeat (first | refine blk_drewN ?_ _ | refine blk_drew ?_ | refine blk_alloc ?_ _)); exact BK332.out) hb); have n1_ := Aside0.mk (below_step (by repeat (first | (with_reducible first | exact HB.out | apply below_alloc | apply pw_below_drewN | apply below_drew1 | refine below_set ?_ GE332.out) | exact HB.out)) hb); have n2_ := Aside0.mk (hbox); have n3_ := Aside0.mk ((by rw [hg]; exact (below_size (by repeat (first | (with_reducible first | exact HB.out | apply below_alloc | apply pw_below_drewN | apply below_drew1 | refine below_set ?_ GE332.out) | exact HB.out))) : w.heap.size ≤ gb333)); have n4_ := Aside0.mk ((by rw [hg]; exact (below_size (by repeat (first | (with_reducible first | exact HB.out | apply below_alloc | apply pw_below_drewN | apply below_drew1 | refine below_set ?_ GE332.out) | exact HB.out))) : w.heap.size ≤ gb333)); have n5_ := Aside0.mk ((by rw [hg]; exact Nat.ne_of_lt (blk_lt (g := gb332) (o := .cells #[.int .i64 a0_0, .bool a0_1, .slice A0_2 l0_2.length c0_2, .slice A0_3 l0_3.length c0_3, .slice A0_4 l0_4.length c0_4, .slice A0_5 l0_5.length c0_5, .slice A0_6 l0_6.length c0_6] 27 (0, 0)) (by (with_reducible repeat (first | refine blk_drewN ?_ _ | refine blk_drew ?_ | refine blk_alloc ?_ _)); exact BK332.out)) : gb332 ≠ gb333)); have n6_ := Aside0.mk ((by rw [hg]; exact Nat.ne_of_gt (blk_lt (g := gb332) (o := .cells #[.int .i64 a0_0, .bool a0_1, .slice A0_2 l0_2.length c0_2, .slice A0_3 l0_3.length c0_3, .slice A0_4 l0_4.length c0_4, .slice A0_5 l0_5.length c0_5, .slice A0_6 l0_6.length c0_6] 27 (0, 0)) (by (with_reducible repeat (first | refine blk_drewN ?_ _ | refine blk_drew ?_ | refine blk_alloc ?_ _)); exact BK332.out)) : gb333 ≠ gb332)); clear BK332; clear HB; have BK332 := n0_; have HB := n1_; have BK333 := n2_; have GW333 := n3_; have GE333 := n4_; have NB332_333 := n5_; have NB333_332 := n6_; clear n0_ n1_ n2_ n3_ n4_ n5_ n6_; clear hb hbox hg))
 (try simp only [Act.put, List.setIfInBounds_toArray, List.set_cons_zero, List.set_cons_succ])
 go_cut [31] (fun v31 wc => ∃ (kq : Nat) (x31_3 : Bool), v31 = .bool x31_3 ∧ Aside0 (greenwoodlaw23_AnswerBack.j0 kq a2 x31_3 a0_0 a0_1 l0_2 l0_3 l0_4 l0_5 l0_6 a1_0 a1_1 l1_2 l1_3 l1_4 l1_5 l1_6 = some r) ∧ Aside0 (kq ≤ k) ∧ Aside0 (wc.heap[gb332]? = some (.cells #[.int .i64 a0_0, .bool a0_1, (.slice A0_2 l0_2.length c0_2), (.slice A0_3 l0_3.length c0_3), (.slice A0_4 l0_4.length c0_4), (.slice A0_5 l0_5.length c0_5), (.slice A0_6 l0_6.length c0_6)] 27 (0, 0))) ∧ Aside0 (wc.heap[gb333]? = some (.cells #[.int .i64 a1_0, .bool a1_1, (.slice A1_2 l1_2.length c1_2), (.slice A1_3 l1_3.length c1_3), (.slice A1_4 l1_4.length c1_4), (.slice A1_5 l1_5.length c1_5), (.slice A1_6 l1_6.length c1_6)] 27 (0, 0))) ∧ Aside0 (Below w.heap.size w wc))
 case first =>
  have H := HC4.out
  clear HC4
  replace H := Option.bind_eq_some_iff.mp H
  obtain ⟨t334, A70, H⟩ := H
  replace H : (if t334 = true then ((greenwoodref23_Small.f k a0_0 a0_1 l0_2 l0_3 l0_4 l0_5 l0_6).bind fun t335 => (if t335 = true then ((greenwoodref23_Small.f k a1_0 a1_1 l1_2 l1_3 l1_4 l1_5 l1_6).bind fun t336 => (if t336 = true then (greenwoodlaw23_AnswerBack.j0 k a2 (decide ((a2.size : Int) > 3000)) a0_0 a0_1 l0_2 l0_3 l0_4 l0_5 l0_6 a1_0 a1_1 l1_2 l1_3 l1_4 l1_5 l1_6) else (greenwoodlaw23_AnswerBack.j0 k a2 true a0_0 a0_1 l0_2 l0_3 l0_4 l0_5 l0_6 a1_0 a1_1 l1_2 l1_3 l1_4 l1_5 l1_6))) else (greenwoodlaw23_AnswerBack.j0 k a2 true a0_0 a0_1 l0_2 l0_3 l0_4 l0_5 l0_6 a1_0 a1_1 l1_2 l1_3 l1_4 l1_5 l1_6))) else (greenwoodlaw23_AnswerBack.j0 k a2 true a0_0 a0_1 l0_2 l0_3 l0_4 l0_5 l0_6 a1_0 a1_1 l1_2 l1_3 l1_4 l1_5 l1_6)) = some r := H
  have A7 := Aside0.mk A70
  clear A70
  by_cases c8 : t334 = true
  ·subst c8
   have H1 : ((greenwoodref23_Small.f k a0_0 a0_1 l0_2 l0_3 l0_4 l0_5 l0_6).bind fun t335 => (if t335 = true then ((greenwoodref23_Small.f k a1_0 a1_1 l1_2 l1_3 l1_4 l1_5 l1_6).bind fun t336 => (if t336 = true then (greenwoodlaw23_AnswerBack.j0 k a2 (decide ((a2.size : Int) > 3000)) a0_0 a0_1 l0_2 l0_3 l0_4 l0_5 l0_6 a1_0 a1_1 l1_2 l1_3 l1_4 l1_5 l1_6) else (greenwoodlaw23_AnswerBack.j0 k a2 true a0_0 a0_1 l0_2 l0_3 l0_4 l0_5 l0_6 a1_0 a1_1 l1_2 l1_3 l1_4 l1_5 l1_6))) else (greenwoodlaw23_AnswerBack.j0 k a2 true a0_0 a0_1 l0_2 l0_3 l0_4 l0_5 l0_6 a1_0 a1_1 l1_2 l1_3 l1_4 l1_5 l1_6))) = some r := by rw [if_pos rfl] at H; exact H
   clear H
   have H := H1
   clear H1
   replace H := Option.bind_eq_some_iff.mp H
   obtain ⟨t335, A90, H⟩ := H
   replace H : (if t335 = true then ((greenwoodref23_Small.f k a1_0 a1_1 l1_2 l1_3 l1_4 l1_5 l1_6).bind fun t336 => (if t336 = true then (greenwoodlaw23_AnswerBack.j0 k a2 (decide ((a2.size : Int) > 3000)) a0_0 a0_1 l0_2 l0_3 l0_4 l0_5 l0_6 a1_0 a1_1 l1_2 l1_3 l1_4 l1_5 l1_6) else (greenwoodlaw23_AnswerBack.j0 k a2 true a0_0 a0_1 l0_2 l0_3 l0_4 l0_5 l0_6 a1_0 a1_1 l1_2 l1_3 l1_4 l1_5 l1_6))) else (greenwoodlaw23_AnswerBack.j0 k a2 true a0_0 a0_1 l0_2 l0_3 l0_4 l0_5 l0_6 a1_0 a1_1 l1_2 l1_3 l1_4 l1_5 l1_6)) = some r := H
   have A9 := Aside0.mk A90
   clear A90
   by_cases c10 : t335 = true
   ·subst c10
    have H1 : ((greenwoodref23_Small.f k a1_0 a1_1 l1_2 l1_3 l1_4 l1_5 l1_6).bind fun t336 => (if t336 = true then (greenwoodlaw23_AnswerBack.j0 k a2 (decide ((a2.size : Int) > 3000)) a0_0 a0_1 l0_2 l0_3 l0_4 l0_5 l0_6 a1_0 a1_1 l1_2 l1_3 l1_4 l1_5 l1_6) else (greenwoodlaw23_AnswerBack.j0 k a2 true a0_0 a0_1 l0_2 l0_3 l0_4 l0_5 l0_6 a1_0 a1_1 l1_2 l1_3 l1_4 l1_5 l1_6))) = some r := by rw [if_pos rfl] at H; exact H
    clear H
    have H := H1
    clear H1
    replace H := Option.bind_eq_some_iff.mp H
    obtain ⟨t336, A110, H⟩ := H
    replace H : (if t336 = true then (greenwoodlaw23_AnswerBack.j0 k a2 (decide ((a2.size : Int) > 3000)) a0_0 a0_1 l0_2 l0_3 l0_4 l0_5 l0_6 a1_0 a1_1 l1_2 l1_3 l1_4 l1_5 l1_6) else (greenwoodlaw23_AnswerBack.j0 k a2 true a0_0 a0_1 l0_2 l0_3 l0_4 l0_5 l0_6 a1_0 a1_1 l1_2 l1_3 l1_4 l1_5 l1_6)) = some r := H
    have A11 := Aside0.mk A110
    clear A110
    by_cases c12 : t336 = true
    ·subst c12
     have H1 : (greenwoodlaw23_AnswerBack.j0 k a2 (decide ((a2.size : Int) > 3000)) a0_0 a0_1 l0_2 l0_3 l0_4 l0_5 l0_6 a1_0 a1_1 l1_2 l1_3 l1_4 l1_5 l1_6) = some r := by rw [if_pos rfl] at H; exact H
     clear H
     have H := H1
     clear H1
     have H' := Aside0.mk H
     clear H
     go_wp2_with (first | ((with_reducible refine gate_callee (f := 8) rfl ?_); refine goesL_ (some 15) rfl rfl Tryd.func8 (by kernel_rfl) rfl #[] rfl (by (try simp only [List.map_toArray, List.map_cons, List.map_nil]); first | done | rfl | (simp only [List.length_drop, List.length_take]; rfl)) ?_; (with_reducible refine (greenwoodlaw23_fixed.calls  true _ ?side1 A7.out).mono ?_); (case side1 => exact EV.below HEV.out (by repeat (first | (with_reducible first | exact HB.out | apply below_alloc | apply pw_below_drewN | apply below_drew1 | refine below_set ?_ GE332.out | refine below_set ?_ GE333.out) | exact HB.out)) (EV.pos HEV.out)); rintro e w13 ⟨rfl, hb⟩; refine ⟨_, rfl, ?_⟩; have n0_ := Aside0.mk (blk_below (g := gb332) (o := .cells #[.int .i64 a0_0, .bool a0_1, .slice A0_2 l0_2.length c0_2, .slice A0_3 l0_3.length c0_3, .slice A0_4 l0_4.length c0_4, .slice A0_5 l0_5.length c0_5, .slice A0_6 l0_6.length c0_6] 27 (0, 0)) (by (with_reducible repeat (first | refine blk_drewN ?_ _ | refine blk_drew ?_ | refine blk_alloc ?_ _)); exact BK332.out) hb); have n1_ := Aside0.mk (blk_below (g := gb333) (o := .cells #[.int .i64 a1_0, .bool a1_1, .slice A1_2 l1_2.length c1_2, .slice A1_3 l1_3.length c1_3, .slice A1_4 l1_4.length c1_4, .slice A1_5 l1_5.length c1_5, .slice A1_6 l1_6.length c1_6] 27 (0, 0)) (by (with_reducible repeat (first | refine blk_drewN ?_ _ | refine blk_drew ?_ | refine blk_alloc ?_ _)); exact BK333.out) hb); have n2_ := Aside0.mk (below_step (by repeat (first | (with_reducible first | exact HB.out | apply below_alloc | apply pw_below_drewN | apply below_drew1 | refine below_set ?_ GE332.out | refine below_set ?_ GE333.out) | exact HB.out)) hb); clear BK332; clear BK333; clear HB; have BK332 := n0_; have BK333 := n1_; have HB := n2_; clear n0_ n1_ n2_; (try clear hb); (try clear hb2); (try clear hk); (try clear hi); have hnb14 := NB332_333.out; have hnc14 := NB333_332.out; have hcz15_0 : w13.cell? ⟨gb332, 0, none⟩ = some (.int .i64 a0_0) := (blk_cell BK332.out 0).trans rfl; have hcz15_1 : w13.cell? ⟨gb332, 1, none⟩ = some (.bool a0_1) := (blk_cell BK332.out 1).trans rfl; have hcz15_2 : w13.cell? ⟨gb332, 2, none⟩ = some (.slice A0_2 l0_2.length c0_2) := (blk_cell BK332.out 2).trans rfl; have hcz15_3 : w13.cell? ⟨gb332, 3, none⟩ = some (.slice A0_3 l0_3.length c0_3) := (blk_cell BK332.out 3).trans rfl; have hcz15_4 : w13.cell? ⟨gb332, 4, none⟩ = some (.slice A0_4 l0_4.length c0_4) := (blk_cell BK332.out 4).trans rfl; have hcz15_5 : w13.cell? ⟨gb332, 5, none⟩ = some (.slice A0_5 l0_5.length c0_5) := (blk_cell BK332.out 5).trans rfl; have hcz15_6 : w13.cell? ⟨gb332, 6, none⟩ = some (.slice A0_6 l0_6.length c0_6) := (blk_cell BK332.out 6).trans rfl; have hfz15_0 := blk_frozen BK332.out 0; have hfz15_1 := blk_frozen BK332.out 1; have hfz15_2 := blk_frozen BK332.out 2; have hfz15_3 := blk_frozen BK332.out 3; have hfz15_4 := blk_frozen BK332.out 4; have hfz15_5 := blk_frozen BK332.out 5; have hfz15_6 := blk_frozen BK332.out 6) | (go_at_call 7; (with_reducible refine (greenwoodref23_Small.calls k a0_0 a0_1 _ _ l0_2 _ _ l0_3 _ _ l0_4 _ _ l0_5 _ _ l0_6 true _ ?side1 ?side2 ?side3 ?side4 ?side5 ?side6 ?side7 ?side8 ?side9 ?side10 A9.out).mono ?_); (case side1 => repeat (first | exact (Kd.C_below HR0_2.out HB.out) | (with_reducible refine Kd.C_alloc ?_ _) | (with_reducible refine Kd.C_drewN ?_ _) | (with_reducible refine Kd.C_drew ?_))); (case side2 => exact HC0_2.out); (case side3 => repeat (first | exact (Kd.C_below HR0_3.out HB.out) | (with_reducible refine Kd.C_alloc ?_ _) | (with_reducible refine Kd.C_drewN ?_ _) | (with_reducible refine Kd.C_drew ?_))); (case side4 => exact HC0_3.out); (case side5 => repeat (first | exact (Kd.C_below HR0_4.out HB.out) | (with_reducible refine Kd.C_alloc ?_ _) | (with_reducible refine Kd.C_drewN ?_ _) | (with_reducible refine Kd.C_drew ?_))); (case side6 => exact HC0_4.out); (case side7 => repeat (first | exact (Kd.C_below HR0_5.out HB.out) | (with_reducible refine Kd.C_alloc ?_ _) | (with_reducible refine Kd.C_drewN ?_ _) | (with_reducible refine Kd.C_drew ?_))); (case side8 => exact HC0_5.out); (case side9 => repeat (first | exact (Kd.C_below HR0_6.out HB.out) | (with_reducible refine Kd.C_alloc ?_ _) | (with_reducible refine Kd.C_drewN ?_ _) | (with_reducible refine Kd.C_drew ?_))); (case side10 => exact HC0_6.out); rintro e w16 ⟨rfl, hb⟩; have n0_ := Aside0.mk (blk_below (g := gb332) (o := .cells #[.int .i64 a0_0, .bool a0_1, .slice A0_2 l0_2.length c0_2, .slice A0_3 l0_3.length c0_3, .slice A0_4 l0_4.length c0_4, .slice A0_5 l0_5.length c0_5, .slice A0_6 l0_6.length c0_6] 27 (0, 0)) (by (with_reducible repeat (first | refine blk_drewN ?_ _ | refine blk_drew ?_ | refine blk_alloc ?_ _)); exact BK332.out) hb); have n1_ := Aside0.mk (blk_below (g := gb333) (o := .cells #[.int .i64 a1_0, .bool a1_1, .slice A1_2 l1_2.length c1_2, .slice A1_3 l1_3.length c1_3, .slice A1_4 l1_4.length c1_4, .slice A1_5 l1_5.length c1_5, .slice A1_6 l1_6.length c1_6] 27 (0, 0)) (by (with_reducible repeat (first | refine blk_drewN ?_ _ | refine blk_drew ?_ | refine blk_alloc ?_ _)); exact BK333.out) hb); have n2_ := Aside0.mk (below_step (by repeat (first | (with_reducible first | exact HB.out | apply below_alloc | apply pw_below_drewN | apply below_drew1 | refine below_set ?_ GE332.out | refine below_set ?_ GE333.out) | exact HB.out)) hb); clear BK332; clear BK333; clear HB; have BK332 := n0_; have BK333 := n1_; have HB := n2_; clear n0_ n1_ n2_; (try clear hb); (try clear hb2); (try clear hk); (try clear hi); have hcz17_0 : w16.cell? ⟨gb333, 0, none⟩ = some (.int .i64 a1_0) := (blk_cell BK333.out 0).trans rfl; have hcz17_1 : w16.cell? ⟨gb333, 1, none⟩ = some (.bool a1_1) := (blk_cell BK333.out 1).trans rfl; have hcz17_2 : w16.cell? ⟨gb333, 2, none⟩ = some (.slice A1_2 l1_2.length c1_2) := (blk_cell BK333.out 2).trans rfl; have hcz17_3 : w16.cell? ⟨gb333, 3, none⟩ = some (.slice A1_3 l1_3.length c1_3) := (blk_cell BK333.out 3).trans rfl; have hcz17_4 : w16.cell? ⟨gb333, 4, none⟩ = some (.slice A1_4 l1_4.length c1_4) := (blk_cell BK333.out 4).trans rfl; have hcz17_5 : w16.cell? ⟨gb333, 5, none⟩ = some (.slice A1_5 l1_5.length c1_5) := (blk_cell BK333.out 5).trans rfl; have hcz17_6 : w16.cell? ⟨gb333, 6, none⟩ = some (.slice A1_6 l1_6.length c1_6) := (blk_cell BK333.out 6).trans rfl; have hfz17_0 := blk_frozen BK333.out 0; have hfz17_1 := blk_frozen BK333.out 1; have hfz17_2 := blk_frozen BK333.out 2; have hfz17_3 := blk_frozen BK333.out 3; have hfz17_4 := blk_frozen BK333.out 4; have hfz17_5 := blk_frozen BK333.out 5; have hfz17_6 := blk_frozen BK333.out 6) | (go_at_call 7; (with_reducible refine (greenwoodref23_Small.calls k a1_0 a1_1 _ _ l1_2 _ _ l1_3 _ _ l1_4 _ _ l1_5 _ _ l1_6 true _ ?side1 ?side2 ?side3 ?side4 ?side5 ?side6 ?side7 ?side8 ?side9 ?side10 A11.out).mono ?_); (case side1 => repeat (first | exact (Kd.C_below HR1_2.out HB.out) | (with_reducible refine Kd.C_alloc ?_ _) | (with_reducible refine Kd.C_drewN ?_ _) | (with_reducible refine Kd.C_drew ?_))); (case side2 => exact HC1_2.out); (case side3 => repeat (first | exact (Kd.C_below HR1_3.out HB.out) | (with_reducible refine Kd.C_alloc ?_ _) | (with_reducible refine Kd.C_drewN ?_ _) | (with_reducible refine Kd.C_drew ?_))); (case side4 => exact HC1_3.out); (case side5 => repeat (first | exact (Kd.C_below HR1_4.out HB.out) | (with_reducible refine Kd.C_alloc ?_ _) | (with_reducible refine Kd.C_drewN ?_ _) | (with_reducible refine Kd.C_drew ?_))); (case side6 => exact HC1_4.out); (case side7 => repeat (first | exact (Kd.C_below HR1_5.out HB.out) | (with_reducible refine Kd.C_alloc ?_ _) | (with_reducible refine Kd.C_drewN ?_ _) | (with_reducible refine Kd.C_drew ?_))); (case side8 => exact HC1_5.out); (case side9 => repeat (first | exact (Kd.C_below HR1_6.out HB.out) | (with_reducible refine Kd.C_alloc ?_ _) | (with_reducible refine Kd.C_drewN ?_ _) | (with_reducible refine Kd.C_drew ?_))); (case side10 => exact HC1_6.out); rintro e w18 ⟨rfl, hb⟩; have n0_ := Aside0.mk (blk_below (g := gb332) (o := .cells #[.int .i64 a0_0, .bool a0_1, .slice A0_2 l0_2.length c0_2, .slice A0_3 l0_3.length c0_3, .slice A0_4 l0_4.length c0_4, .slice A0_5 l0_5.length c0_5, .slice A0_6 l0_6.length c0_6] 27 (0, 0)) (by (with_reducible repeat (first | refine blk_drewN ?_ _ | refine blk_drew ?_ | refine blk_alloc ?_ _)); exact BK332.out) hb); have n1_ := Aside0.mk (blk_below (g := gb333) (o := .cells #[.int .i64 a1_0, .bool a1_1, .slice A1_2 l1_2.length c1_2, .slice A1_3 l1_3.length c1_3, .slice A1_4 l1_4.length c1_4, .slice A1_5 l1_5.length c1_5, .slice A1_6 l1_6.length c1_6] 27 (0, 0)) (by (with_reducible repeat (first | refine blk_drewN ?_ _ | refine blk_drew ?_ | refine blk_alloc ?_ _)); exact BK333.out) hb); have n2_ := Aside0.mk (below_step (by repeat (first | (with_reducible first | exact HB.out | apply below_alloc | apply pw_below_drewN | apply below_drew1 | refine below_set ?_ GE332.out | refine below_set ?_ GE333.out) | exact HB.out)) hb); clear BK332; clear BK333; clear HB; have BK332 := n0_; have BK333 := n1_; have HB := n2_; clear n0_ n1_ n2_; (try clear hb); (try clear hb2); (try clear hk); (try clear hi)))
     go_meet
     case rel => exact ⟨_, (decide ((a2.size : Int) > 3000)), (by first | rfl | (simp; done) | (simp [*]; done)), H', ⟨by first | omega | exact Nat.le_refl _⟩, ⟨by (with_reducible repeat (first | refine blk_drewN ?_ _ | refine blk_drew ?_ | refine blk_alloc ?_ _)); exact BK332.out⟩, ⟨by (with_reducible repeat (first | refine blk_drewN ?_ _ | refine blk_drew ?_ | refine blk_alloc ?_ _)); exact BK333.out⟩, ⟨by repeat (first | (with_reducible first | exact HB.out | apply below_alloc | apply pw_below_drewN | apply below_drew1 | refine below_set ?_ GE332.out | refine below_set ?_ GE333.out) | exact HB.out)⟩⟩
    ·replace c12 := Bool.eq_false_iff.mpr c12
     subst c12
     have H1 : (greenwoodlaw23_AnswerBack.j0 k a2 true a0_0 a0_1 l0_2 l0_3 l0_4 l0_5 l0_6 a1_0 a1_1 l1_2 l1_3 l1_4 l1_5 l1_6) = some r := by rw [if_neg (show ¬ (false = true) by decide)] at H; exact H
     clear H
     have H := H1
     clear H1
     have H' := Aside0.mk H
     clear H
     go_wp2_with (first | ((with_reducible refine gate_callee (f := 8) rfl ?_); refine goesL_ (some 15) rfl rfl Tryd.func8 (by kernel_rfl) rfl #[] rfl (by (try simp only [List.map_toArray, List.map_cons, List.map_nil]); first | done | rfl | (simp only [List.length_drop, List.length_take]; rfl)) ?_; (with_reducible refine (greenwoodlaw23_fixed.calls  true _ ?side1 A7.out).mono ?_); (case side1 => exact EV.below HEV.out (by repeat (first | (with_reducible first | exact HB.out | apply below_alloc | apply pw_below_drewN | apply below_drew1 | refine below_set ?_ GE332.out | refine below_set ?_ GE333.out) | exact HB.out)) (EV.pos HEV.out)); rintro e w19 ⟨rfl, hb⟩; refine ⟨_, rfl, ?_⟩; have n0_ := Aside0.mk (blk_below (g := gb332) (o := .cells #[.int .i64 a0_0, .bool a0_1, .slice A0_2 l0_2.length c0_2, .slice A0_3 l0_3.length c0_3, .slice A0_4 l0_4.length c0_4, .slice A0_5 l0_5.length c0_5, .slice A0_6 l0_6.length c0_6] 27 (0, 0)) (by (with_reducible repeat (first | refine blk_drewN ?_ _ | refine blk_drew ?_ | refine blk_alloc ?_ _)); exact BK332.out) hb); have n1_ := Aside0.mk (blk_below (g := gb333) (o := .cells #[.int .i64 a1_0, .bool a1_1, .slice A1_2 l1_2.length c1_2, .slice A1_3 l1_3.length c1_3, .slice A1_4 l1_4.length c1_4, .slice A1_5 l1_5.length c1_5, .slice A1_6 l1_6.length c1_6] 27 (0, 0)) (by (with_reducible repeat (first | refine blk_drewN ?_ _ | refine blk_drew ?_ | refine blk_alloc ?_ _)); exact BK333.out) hb); have n2_ := Aside0.mk (below_step (by repeat (first | (with_reducible first | exact HB.out | apply below_alloc | apply pw_below_drewN | apply below_drew1 | refine below_set ?_ GE332.out | refine below_set ?_ GE333.out) | exact HB.out)) hb); clear BK332; clear BK333; clear HB; have BK332 := n0_; have BK333 := n1_; have HB := n2_; clear n0_ n1_ n2_; (try clear hb); (try clear hb2); (try clear hk); (try clear hi); have hnb20 := NB332_333.out; have hnc20 := NB333_332.out; have hcz21_0 : w19.cell? ⟨gb332, 0, none⟩ = some (.int .i64 a0_0) := (blk_cell BK332.out 0).trans rfl; have hcz21_1 : w19.cell? ⟨gb332, 1, none⟩ = some (.bool a0_1) := (blk_cell BK332.out 1).trans rfl; have hcz21_2 : w19.cell? ⟨gb332, 2, none⟩ = some (.slice A0_2 l0_2.length c0_2) := (blk_cell BK332.out 2).trans rfl; have hcz21_3 : w19.cell? ⟨gb332, 3, none⟩ = some (.slice A0_3 l0_3.length c0_3) := (blk_cell BK332.out 3).trans rfl; have hcz21_4 : w19.cell? ⟨gb332, 4, none⟩ = some (.slice A0_4 l0_4.length c0_4) := (blk_cell BK332.out 4).trans rfl; have hcz21_5 : w19.cell? ⟨gb332, 5, none⟩ = some (.slice A0_5 l0_5.length c0_5) := (blk_cell BK332.out 5).trans rfl; have hcz21_6 : w19.cell? ⟨gb332, 6, none⟩ = some (.slice A0_6 l0_6.length c0_6) := (blk_cell BK332.out 6).trans rfl; have hfz21_0 := blk_frozen BK332.out 0; have hfz21_1 := blk_frozen BK332.out 1; have hfz21_2 := blk_frozen BK332.out 2; have hfz21_3 := blk_frozen BK332.out 3; have hfz21_4 := blk_frozen BK332.out 4; have hfz21_5 := blk_frozen BK332.out 5; have hfz21_6 := blk_frozen BK332.out 6) | (go_at_call 7; (with_reducible refine (greenwoodref23_Small.calls k a0_0 a0_1 _ _ l0_2 _ _ l0_3 _ _ l0_4 _ _ l0_5 _ _ l0_6 true _ ?side1 ?side2 ?side3 ?side4 ?side5 ?side6 ?side7 ?side8 ?side9 ?side10 A9.out).mono ?_); (case side1 => repeat (first | exact (Kd.C_below HR0_2.out HB.out) | (with_reducible refine Kd.C_alloc ?_ _) | (with_reducible refine Kd.C_drewN ?_ _) | (with_reducible refine Kd.C_drew ?_))); (case side2 => exact HC0_2.out); (case side3 => repeat (first | exact (Kd.C_below HR0_3.out HB.out) | (with_reducible refine Kd.C_alloc ?_ _) | (with_reducible refine Kd.C_drewN ?_ _) | (with_reducible refine Kd.C_drew ?_))); (case side4 => exact HC0_3.out); (case side5 => repeat (first | exact (Kd.C_below HR0_4.out HB.out) | (with_reducible refine Kd.C_alloc ?_ _) | (with_reducible refine Kd.C_drewN ?_ _) | (with_reducible refine Kd.C_drew ?_))); (case side6 => exact HC0_4.out); (case side7 => repeat (first | exact (Kd.C_below HR0_5.out HB.out) | (with_reducible refine Kd.C_alloc ?_ _) | (with_reducible refine Kd.C_drewN ?_ _) | (with_reducible refine Kd.C_drew ?_))); (case side8 => exact HC0_5.out); (case side9 => repeat (first | exact (Kd.C_below HR0_6.out HB.out) | (with_reducible refine Kd.C_alloc ?_ _) | (with_reducible refine Kd.C_drewN ?_ _) | (with_reducible refine Kd.C_drew ?_))); (case side10 => exact HC0_6.out); rintro e w22 ⟨rfl, hb⟩; have n0_ := Aside0.mk (blk_below (g := gb332) (o := .cells #[.int .i64 a0_0, .bool a0_1, .slice A0_2 l0_2.length c0_2, .slice A0_3 l0_3.length c0_3, .slice A0_4 l0_4.length c0_4, .slice A0_5 l0_5.length c0_5, .slice A0_6 l0_6.length c0_6] 27 (0, 0)) (by (with_reducible repeat (first | refine blk_drewN ?_ _ | refine blk_drew ?_ | refine blk_alloc ?_ _)); exact BK332.out) hb); have n1_ := Aside0.mk (blk_below (g := gb333) (o := .cells #[.int .i64 a1_0, .bool a1_1, .slice A1_2 l1_2.length c1_2, .slice A1_3 l1_3.length c1_3, .slice A1_4 l1_4.length c1_4, .slice A1_5 l1_5.length c1_5, .slice A1_6 l1_6.length c1_6] 27 (0, 0)) (by (with_reducible repeat (first | refine blk_drewN ?_ _ | refine blk_drew ?_ | refine blk_alloc ?_ _)); exact BK333.out) hb); have n2_ := Aside0.mk (below_step (by repeat (first | (with_reducible first | exact HB.out | apply below_alloc | apply pw_below_drewN | apply below_drew1 | refine below_set ?_ GE332.out | refine below_set ?_ GE333.out) | exact HB.out)) hb); clear BK332; clear BK333; clear HB; have BK332 := n0_; have BK333 := n1_; have HB := n2_; clear n0_ n1_ n2_; (try clear hb); (try clear hb2); (try clear hk); (try clear hi); have hcz23_0 : w22.cell? ⟨gb333, 0, none⟩ = some (.int .i64 a1_0) := (blk_cell BK333.out 0).trans rfl; have hcz23_1 : w22.cell? ⟨gb333, 1, none⟩ = some (.bool a1_1) := (blk_cell BK333.out 1).trans rfl; have hcz23_2 : w22.cell? ⟨gb333, 2, none⟩ = some (.slice A1_2 l1_2.length c1_2) := (blk_cell BK333.out 2).trans rfl; have hcz23_3 : w22.cell? ⟨gb333, 3, none⟩ = some (.slice A1_3 l1_3.length c1_3) := (blk_cell BK333.out 3).trans rfl; have hcz23_4 : w22.cell? ⟨gb333, 4, none⟩ = some (.slice A1_4 l1_4.length c1_4) := (blk_cell BK333.out 4).trans rfl; have hcz23_5 : w22.cell? ⟨gb333, 5, none⟩ = some (.slice A1_5 l1_5.length c1_5) := (blk_cell BK333.out 5).trans rfl; have hcz23_6 : w22.cell? ⟨gb333, 6, none⟩ = some (.slice A1_6 l1_6.length c1_6) := (blk_cell BK333.out 6).trans rfl; have hfz23_0 := blk_frozen BK333.out 0; have hfz23_1 := blk_frozen BK333.out 1; have hfz23_2 := blk_frozen BK333.out 2; have hfz23_3 := blk_frozen BK333.out 3; have hfz23_4 := blk_frozen BK333.out 4; have hfz23_5 := blk_frozen BK333.out 5; have hfz23_6 := blk_frozen BK333.out 6) | (go_at_call 7; (with_reducible refine (greenwoodref23_Small.calls k a1_0 a1_1 _ _ l1_2 _ _ l1_3 _ _ l1_4 _ _ l1_5 _ _ l1_6 false _ ?side1 ?side2 ?side3 ?side4 ?side5 ?side6 ?side7 ?side8 ?side9 ?side10 A11.out).mono ?_); (case side1 => repeat (first | exact (Kd.C_below HR1_2.out HB.out) | (with_reducible refine Kd.C_alloc ?_ _) | (with_reducible refine Kd.C_drewN ?_ _) | (with_reducible refine Kd.C_drew ?_))); (case side2 => exact HC1_2.out); (case side3 => repeat (first | exact (Kd.C_below HR1_3.out HB.out) | (with_reducible refine Kd.C_alloc ?_ _) | (with_reducible refine Kd.C_drewN ?_ _) | (with_reducible refine Kd.C_drew ?_))); (case side4 => exact HC1_3.out); (case side5 => repeat (first | exact (Kd.C_below HR1_4.out HB.out) | (with_reducible refine Kd.C_alloc ?_ _) | (with_reducible refine Kd.C_drewN ?_ _) | (with_reducible refine Kd.C_drew ?_))); (case side6 => exact HC1_4.out); (case side7 => repeat (first | exact (Kd.C_below HR1_5.out HB.out) | (with_reducible refine Kd.C_alloc ?_ _) | (with_reducible refine Kd.C_drewN ?_ _) | (with_reducible refine Kd.C_drew ?_))); (case side8 => exact HC1_5.out); (case side9 => repeat (first | exact (Kd.C_below HR1_6.out HB.out) | (with_reducible refine Kd.C_alloc ?_ _) | (with_reducible refine Kd.C_drewN ?_ _) | (with_reducible refine Kd.C_drew ?_))); (case side10 => exact HC1_6.out); rintro e w24 ⟨rfl, hb⟩; have n0_ := Aside0.mk (blk_below (g := gb332) (o := .cells #[.int .i64 a0_0, .bool a0_1, .slice A0_2 l0_2.length c0_2, .slice A0_3 l0_3.length c0_3, .slice A0_4 l0_4.length c0_4, .slice A0_5 l0_5.length c0_5, .slice A0_6 l0_6.length c0_6] 27 (0, 0)) (by (with_reducible repeat (first | refine blk_drewN ?_ _ | refine blk_drew ?_ | refine blk_alloc ?_ _)); exact BK332.out) hb); have n1_ := Aside0.mk (blk_below (g := gb333) (o := .cells #[.int .i64 a1_0, .bool a1_1, .slice A1_2 l1_2.length c1_2, .slice A1_3 l1_3.length c1_3, .slice A1_4 l1_4.length c1_4, .slice A1_5 l1_5.length c1_5, .slice A1_6 l1_6.length c1_6] 27 (0, 0)) (by (with_reducible repeat (first | refine blk_drewN ?_ _ | refine blk_drew ?_ | refine blk_alloc ?_ _)); exact BK333.out) hb); have n2_ := Aside0.mk (below_step (by repeat (first | (with_reducible first | exact HB.out | apply below_alloc | apply pw_below_drewN | apply below_drew1 | refine below_set ?_ GE332.out | refine below_set ?_ GE333.out) | exact HB.out)) hb); clear BK332; clear BK333; clear HB; have BK332 := n0_; have BK333 := n1_; have HB := n2_; clear n0_ n1_ n2_; (try clear hb); (try clear hb2); (try clear hk); (try clear hi)))
     go_meet
     case rel => exact ⟨_, (true), (by first | rfl | (simp; done) | (simp [*]; done)), H', ⟨by first | omega | exact Nat.le_refl _⟩, ⟨by (with_reducible repeat (first | refine blk_drewN ?_ _ | refine blk_drew ?_ | refine blk_alloc ?_ _)); exact BK332.out⟩, ⟨by (with_reducible repeat (first | refine blk_drewN ?_ _ | refine blk_drew ?_ | refine blk_alloc ?_ _)); exact BK333.out⟩, ⟨by repeat (first | (with_reducible first | exact HB.out | apply below_alloc | apply pw_below_drewN | apply below_drew1 | refine below_set ?_ GE332.out | refine below_set ?_ GE333.out) | exact HB.out)⟩⟩
   ·replace c10 := Bool.eq_false_iff.mpr c10
    subst c10
    have H1 : (greenwoodlaw23_AnswerBack.j0 k a2 true a0_0 a0_1 l0_2 l0_3 l0_4 l0_5 l0_6 a1_0 a1_1 l1_2 l1_3 l1_4 l1_5 l1_6) = some r := by rw [if_neg (show ¬ (false = true) by decide)] at H; exact H
    clear H
    have H := H1
    clear H1
    have H' := Aside0.mk H
    clear H
    go_wp2_with (first | ((with_reducible refine gate_callee (f := 8) rfl ?_); refine goesL_ (some 15) rfl rfl Tryd.func8 (by kernel_rfl) rfl #[] rfl (by (try simp only [List.map_toArray, List.map_cons, List.map_nil]); first | done | rfl | (simp only [List.length_drop, List.length_take]; rfl)) ?_; (with_reducible refine (greenwoodlaw23_fixed.calls  true _ ?side1 A7.out).mono ?_); (case side1 => exact EV.below HEV.out (by repeat (first | (with_reducible first | exact HB.out | apply below_alloc | apply pw_below_drewN | apply below_drew1 | refine below_set ?_ GE332.out | refine below_set ?_ GE333.out) | exact HB.out)) (EV.pos HEV.out)); rintro e w25 ⟨rfl, hb⟩; refine ⟨_, rfl, ?_⟩; have n0_ := Aside0.mk (blk_below (g := gb332) (o := .cells #[.int .i64 a0_0, .bool a0_1, .slice A0_2 l0_2.length c0_2, .slice A0_3 l0_3.length c0_3, .slice A0_4 l0_4.length c0_4, .slice A0_5 l0_5.length c0_5, .slice A0_6 l0_6.length c0_6] 27 (0, 0)) (by (with_reducible repeat (first | refine blk_drewN ?_ _ | refine blk_drew ?_ | refine blk_alloc ?_ _)); exact BK332.out) hb); have n1_ := Aside0.mk (blk_below (g := gb333) (o := .cells #[.int .i64 a1_0, .bool a1_1, .slice A1_2 l1_2.length c1_2, .slice A1_3 l1_3.length c1_3, .slice A1_4 l1_4.length c1_4, .slice A1_5 l1_5.length c1_5, .slice A1_6 l1_6.length c1_6] 27 (0, 0)) (by (with_reducible repeat (first | refine blk_drewN ?_ _ | refine blk_drew ?_ | refine blk_alloc ?_ _)); exact BK333.out) hb); have n2_ := Aside0.mk (below_step (by repeat (first | (with_reducible first | exact HB.out | apply below_alloc | apply pw_below_drewN | apply below_drew1 | refine below_set ?_ GE332.out | refine below_set ?_ GE333.out) | exact HB.out)) hb); clear BK332; clear BK333; clear HB; have BK332 := n0_; have BK333 := n1_; have HB := n2_; clear n0_ n1_ n2_; (try clear hb); (try clear hb2); (try clear hk); (try clear hi); have hnb26 := NB332_333.out; have hnc26 := NB333_332.out; have hcz27_0 : w25.cell? ⟨gb332, 0, none⟩ = some (.int .i64 a0_0) := (blk_cell BK332.out 0).trans rfl; have hcz27_1 : w25.cell? ⟨gb332, 1, none⟩ = some (.bool a0_1) := (blk_cell BK332.out 1).trans rfl; have hcz27_2 : w25.cell? ⟨gb332, 2, none⟩ = some (.slice A0_2 l0_2.length c0_2) := (blk_cell BK332.out 2).trans rfl; have hcz27_3 : w25.cell? ⟨gb332, 3, none⟩ = some (.slice A0_3 l0_3.length c0_3) := (blk_cell BK332.out 3).trans rfl; have hcz27_4 : w25.cell? ⟨gb332, 4, none⟩ = some (.slice A0_4 l0_4.length c0_4) := (blk_cell BK332.out 4).trans rfl; have hcz27_5 : w25.cell? ⟨gb332, 5, none⟩ = some (.slice A0_5 l0_5.length c0_5) := (blk_cell BK332.out 5).trans rfl; have hcz27_6 : w25.cell? ⟨gb332, 6, none⟩ = some (.slice A0_6 l0_6.length c0_6) := (blk_cell BK332.out 6).trans rfl; have hfz27_0 := blk_frozen BK332.out 0; have hfz27_1 := blk_frozen BK332.out 1; have hfz27_2 := blk_frozen BK332.out 2; have hfz27_3 := blk_frozen BK332.out 3; have hfz27_4 := blk_frozen BK332.out 4; have hfz27_5 := blk_frozen BK332.out 5; have hfz27_6 := blk_frozen BK332.out 6) | (go_at_call 7; (with_reducible refine (greenwoodref23_Small.calls k a0_0 a0_1 _ _ l0_2 _ _ l0_3 _ _ l0_4 _ _ l0_5 _ _ l0_6 false _ ?side1 ?side2 ?side3 ?side4 ?side5 ?side6 ?side7 ?side8 ?side9 ?side10 A9.out).mono ?_); (case side1 => repeat (first | exact (Kd.C_below HR0_2.out HB.out) | (with_reducible refine Kd.C_alloc ?_ _) | (with_reducible refine Kd.C_drewN ?_ _) | (with_reducible refine Kd.C_drew ?_))); (case side2 => exact HC0_2.out); (case side3 => repeat (first | exact (Kd.C_below HR0_3.out HB.out) | (with_reducible refine Kd.C_alloc ?_ _) | (with_reducible refine Kd.C_drewN ?_ _) | (with_reducible refine Kd.C_drew ?_))); (case side4 => exact HC0_3.out); (case side5 => repeat (first | exact (Kd.C_below HR0_4.out HB.out) | (with_reducible refine Kd.C_alloc ?_ _) | (with_reducible refine Kd.C_drewN ?_ _) | (with_reducible refine Kd.C_drew ?_))); (case side6 => exact HC0_4.out); (case side7 => repeat (first | exact (Kd.C_below HR0_5.out HB.out) | (with_reducible refine Kd.C_alloc ?_ _) | (with_reducible refine Kd.C_drewN ?_ _) | (with_reducible refine Kd.C_drew ?_))); (case side8 => exact HC0_5.out); (case side9 => repeat (first | exact (Kd.C_below HR0_6.out HB.out) | (with_reducible refine Kd.C_alloc ?_ _) | (with_reducible refine Kd.C_drewN ?_ _) | (with_reducible refine Kd.C_drew ?_))); (case side10 => exact HC0_6.out); rintro e w28 ⟨rfl, hb⟩; have n0_ := Aside0.mk (blk_below (g := gb332) (o := .cells #[.int .i64 a0_0, .bool a0_1, .slice A0_2 l0_2.length c0_2, .slice A0_3 l0_3.length c0_3, .slice A0_4 l0_4.length c0_4, .slice A0_5 l0_5.length c0_5, .slice A0_6 l0_6.length c0_6] 27 (0, 0)) (by (with_reducible repeat (first | refine blk_drewN ?_ _ | refine blk_drew ?_ | refine blk_alloc ?_ _)); exact BK332.out) hb); have n1_ := Aside0.mk (blk_below (g := gb333) (o := .cells #[.int .i64 a1_0, .bool a1_1, .slice A1_2 l1_2.length c1_2, .slice A1_3 l1_3.length c1_3, .slice A1_4 l1_4.length c1_4, .slice A1_5 l1_5.length c1_5, .slice A1_6 l1_6.length c1_6] 27 (0, 0)) (by (with_reducible repeat (first | refine blk_drewN ?_ _ | refine blk_drew ?_ | refine blk_alloc ?_ _)); exact BK333.out) hb); have n2_ := Aside0.mk (below_step (by repeat (first | (with_reducible first | exact HB.out | apply below_alloc | apply pw_below_drewN | apply below_drew1 | refine below_set ?_ GE332.out | refine below_set ?_ GE333.out) | exact HB.out)) hb); clear BK332; clear BK333; clear HB; have BK332 := n0_; have BK333 := n1_; have HB := n2_; clear n0_ n1_ n2_; (try clear hb); (try clear hb2); (try clear hk); (try clear hi)))
    go_meet
    case rel => exact ⟨_, (true), (by first | rfl | (simp; done) | (simp [*]; done)), H', ⟨by first | omega | exact Nat.le_refl _⟩, ⟨by (with_reducible repeat (first | refine blk_drewN ?_ _ | refine blk_drew ?_ | refine blk_alloc ?_ _)); exact BK332.out⟩, ⟨by (with_reducible repeat (first | refine blk_drewN ?_ _ | refine blk_drew ?_ | refine blk_alloc ?_ _)); exact BK333.out⟩, ⟨by repeat (first | (with_reducible first | exact HB.out | apply below_alloc | apply pw_below_drewN | apply below_drew1 | refine below_set ?_ GE332.out | refine below_set ?_ GE333.out) | exact HB.out)⟩⟩
  ·replace c8 := Bool.eq_false_iff.mpr c8
   subst c8
   have H1 : (greenwoodlaw23_AnswerBack.j0 k a2 true a0_0 a0_1 l0_2 l0_3 l0_4 l0_5 l0_6 a1_0 a1_1 l1_2 l1_3 l1_4 l1_5 l1_6) = some r := by rw [if_neg (show ¬ (false = true) by decide)] at H; exact H
   clear H
   have H := H1
   clear H1
   have H' := Aside0.mk H
   clear H
   go_wp2_with (first | ((with_reducible refine gate_callee (f := 8) rfl ?_); refine goesL_ (some 15) rfl rfl Tryd.func8 (by kernel_rfl) rfl #[] rfl (by (try simp only [List.map_toArray, List.map_cons, List.map_nil]); first | done | rfl | (simp only [List.length_drop, List.length_take]; rfl)) ?_; (with_reducible refine (greenwoodlaw23_fixed.calls  false _ ?side1 A7.out).mono ?_); (case side1 => exact EV.below HEV.out (by repeat (first | (with_reducible first | exact HB.out | apply below_alloc | apply pw_below_drewN | apply below_drew1 | refine below_set ?_ GE332.out | refine below_set ?_ GE333.out) | exact HB.out)) (EV.pos HEV.out)); rintro e w29 ⟨rfl, hb⟩; refine ⟨_, rfl, ?_⟩; have n0_ := Aside0.mk (blk_below (g := gb332) (o := .cells #[.int .i64 a0_0, .bool a0_1, .slice A0_2 l0_2.length c0_2, .slice A0_3 l0_3.length c0_3, .slice A0_4 l0_4.length c0_4, .slice A0_5 l0_5.length c0_5, .slice A0_6 l0_6.length c0_6] 27 (0, 0)) (by (with_reducible repeat (first | refine blk_drewN ?_ _ | refine blk_drew ?_ | refine blk_alloc ?_ _)); exact BK332.out) hb); have n1_ := Aside0.mk (blk_below (g := gb333) (o := .cells #[.int .i64 a1_0, .bool a1_1, .slice A1_2 l1_2.length c1_2, .slice A1_3 l1_3.length c1_3, .slice A1_4 l1_4.length c1_4, .slice A1_5 l1_5.length c1_5, .slice A1_6 l1_6.length c1_6] 27 (0, 0)) (by (with_reducible repeat (first | refine blk_drewN ?_ _ | refine blk_drew ?_ | refine blk_alloc ?_ _)); exact BK333.out) hb); have n2_ := Aside0.mk (below_step (by repeat (first | (with_reducible first | exact HB.out | apply below_alloc | apply pw_below_drewN | apply below_drew1 | refine below_set ?_ GE332.out | refine below_set ?_ GE333.out) | exact HB.out)) hb); clear BK332; clear BK333; clear HB; have BK332 := n0_; have BK333 := n1_; have HB := n2_; clear n0_ n1_ n2_; (try clear hb); (try clear hb2); (try clear hk); (try clear hi)))
   go_meet
   case rel => exact ⟨_, (true), (by first | rfl | (simp; done) | (simp [*]; done)), H', ⟨by first | omega | exact Nat.le_refl _⟩, ⟨by (with_reducible repeat (first | refine blk_drewN ?_ _ | refine blk_drew ?_ | refine blk_alloc ?_ _)); exact BK332.out⟩, ⟨by (with_reducible repeat (first | refine blk_drewN ?_ _ | refine blk_drew ?_ | refine blk_alloc ?_ _)); exact BK333.out⟩, ⟨by repeat (first | (with_reducible first | exact HB.out | apply below_alloc | apply pw_below_drewN | apply below_drew1 | refine below_set ?_ GE332.out | refine below_set ?_ GE333.out) | exact HB.out)⟩⟩
 case rest =>
  clear HC4
  try clear c1
  try clear c2
  try clear p2
  try clear c4
  try clear c8
  try clear c10
  try clear c12
  try clear c14
  try clear c20
  try clear c26
  try clear hcz15_0
  try clear hcz15_1
  try clear hcz15_2
  try clear hcz15_3
  try clear hcz15_4
  try clear hcz15_5
  try clear hcz15_6
  try clear hcz17_0
  try clear hcz17_1
  try clear hcz17_2
  try clear hcz17_3
  try clear hcz17_4
  try clear hcz17_5
  try clear hcz17_6
  try clear hcz21_0
  try clear hcz21_1
  try clear hcz21_2
  try clear hcz21_3
  try clear hcz21_4
  try clear hcz21_5
  try clear hcz21_6
  try clear hcz23_0
  try clear hcz23_1
  try clear hcz23_2
  try clear hcz23_3
  try clear hcz23_4
  try clear hcz23_5
  try clear hcz23_6
  try clear hcz27_0
  try clear hcz27_1
  try clear hcz27_2
  try clear hcz27_3
  try clear hcz27_4
  try clear hcz27_5
  try clear hcz27_6
  try clear hfz15_0
  try clear hfz15_1
  try clear hfz15_2
  try clear hfz15_3
  try clear hfz15_4
  try clear hfz15_5
  try clear hfz15_6
  try clear hfz17_0
  try clear hfz17_1
  try clear hfz17_2
  try clear hfz17_3
  try clear hfz17_4
  try clear hfz17_5
  try clear hfz17_6
  try clear hfz21_0
  try clear hfz21_1
  try clear hfz21_2
  try clear hfz21_3
  try clear hfz21_4
  try clear hfz21_5
  try clear hfz21_6
  try clear hfz23_0
  try clear hfz23_1
  try clear hfz23_2
  try clear hfz23_3
  try clear hfz23_4
  try clear hfz23_5
  try clear hfz23_6
  try clear hfz27_0
  try clear hfz27_1
  try clear hfz27_2
  try clear hfz27_3
  try clear hfz27_4
  try clear hfz27_5
  try clear hfz27_6
  obtain ⟨kq, x31_3, rfl, HA, HJ3, BK332, BK333, HB⟩ := hcut
  cases kq with
  | zero => exact absurd HA.out (by simp [greenwoodlaw23_AnswerBack.j0])
  | succ kj3 =>
   have H := HA.out
   clear HA
   simp only [greenwoodlaw23_AnswerBack.j0] at H
   by_cases c30 : x31_3 = true
   ·subst c30
    have H1 : ((greenwoodlaw23_fixed.f).bind fun t337 => (some t337)) = some r := by rw [if_pos rfl] at H; exact H
    clear H
    have H := H1
    clear H1
    replace H := Option.bind_eq_some_iff.mp H
    obtain ⟨t337, A310, H⟩ := H
    replace H : (some t337) = some r := H
    have A31 := Aside0.mk A310
    clear A310
    obtain rfl := Option.some.inj H
    go_wp2_with (first | ((with_reducible refine gate_callee (f := 8) rfl ?_); refine goesL_ (some 32) rfl rfl Tryd.func8 (by kernel_rfl) rfl #[] rfl (by (try simp only [List.map_toArray, List.map_cons, List.map_nil]); first | done | rfl | (simp only [List.length_drop, List.length_take]; rfl)) ?_; (with_reducible refine (greenwoodlaw23_fixed.calls  t337 _ ?side1 A31.out).mono ?_); (case side1 => exact EV.below HEV.out (by repeat (first | (with_reducible first | exact HB.out | apply below_alloc | apply pw_below_drewN | apply below_drew1 | refine below_set ?_ GE332.out | refine below_set ?_ GE333.out) | exact HB.out)) (EV.pos HEV.out)); rintro e w32 ⟨rfl, hb⟩; refine ⟨_, rfl, ?_⟩; have n0_ := Aside0.mk (blk_below (g := gb332) (o := .cells #[.int .i64 a0_0, .bool a0_1, .slice A0_2 l0_2.length c0_2, .slice A0_3 l0_3.length c0_3, .slice A0_4 l0_4.length c0_4, .slice A0_5 l0_5.length c0_5, .slice A0_6 l0_6.length c0_6] 27 (0, 0)) (by (with_reducible repeat (first | refine blk_drewN ?_ _ | refine blk_drew ?_ | refine blk_alloc ?_ _)); exact BK332.out) hb); have n1_ := Aside0.mk (blk_below (g := gb333) (o := .cells #[.int .i64 a1_0, .bool a1_1, .slice A1_2 l1_2.length c1_2, .slice A1_3 l1_3.length c1_3, .slice A1_4 l1_4.length c1_4, .slice A1_5 l1_5.length c1_5, .slice A1_6 l1_6.length c1_6] 27 (0, 0)) (by (with_reducible repeat (first | refine blk_drewN ?_ _ | refine blk_drew ?_ | refine blk_alloc ?_ _)); exact BK333.out) hb); have n2_ := Aside0.mk (below_step (by repeat (first | (with_reducible first | exact HB.out | apply below_alloc | apply pw_below_drewN | apply below_drew1 | refine below_set ?_ GE332.out | refine below_set ?_ GE333.out) | exact HB.out)) hb); clear BK332; clear BK333; clear HB; have BK332 := n0_; have BK333 := n1_; have HB := n2_; clear n0_ n1_ n2_; (try clear hb); (try clear hb2); (try clear hk); (try clear hi)))
    go_ret
    exact ⟨by first | rfl | (simp [errW_none, errW_some] <;> rfl) | (simp [*, errW_none, errW_some] <;> rfl), by repeat (first | (with_reducible first | exact HB.out | apply below_alloc | apply pw_below_drewN | apply below_drew1 | refine below_set ?_ GE332.out | refine below_set ?_ GE333.out) | exact HB.out)⟩
   ·replace c30 := Bool.eq_false_iff.mpr c30
    subst c30
    have H1 : ((answer_Decode.f a2).bind fun bt338 => (if bt338.2.2.2.2.2.2.2.1 = 0 then ((answer_Encode.f bt338.1 bt338.2.1 bt338.2.2.1 bt338.2.2.2.1 bt338.2.2.2.2.1 bt338.2.2.2.2.2.1 bt338.2.2.2.2.2.2.1).bind fun t358 => (if t358.toList = a2.toList then (if bt338.2.2.2.2.2.2.2.2 = (a2.size : Int) then ((answer_Check.f kj3 bt338.1 bt338.2.1 bt338.2.2.1 bt338.2.2.2.1 bt338.2.2.2.2.1 bt338.2.2.2.2.2.1 bt338.2.2.2.2.2.2.1).bind fun t359 => (greenwoodlaw23_AnswerBack.j1 kj3 (t359 != 0) a0_0 a0_1 l0_2 l0_3 l0_4 l0_5 l0_6 a1_0 a1_1 l1_2 l1_3 l1_4 l1_5 l1_6)) else (greenwoodlaw23_AnswerBack.j1 kj3 true a0_0 a0_1 l0_2 l0_3 l0_4 l0_5 l0_6 a1_0 a1_1 l1_2 l1_3 l1_4 l1_5 l1_6)) else (greenwoodlaw23_AnswerBack.j1 kj3 true a0_0 a0_1 l0_2 l0_3 l0_4 l0_5 l0_6 a1_0 a1_1 l1_2 l1_3 l1_4 l1_5 l1_6))) else (greenwoodlaw23_AnswerBack.j1 kj3 false a0_0 a0_1 l0_2 l0_3 l0_4 l0_5 l0_6 a1_0 a1_1 l1_2 l1_3 l1_4 l1_5 l1_6))) = some r := by rw [if_neg (show ¬ (false = true) by decide)] at H; exact H
    clear H
    have H := H1
    clear H1
    replace H := Option.bind_eq_some_iff.mp H
    obtain ⟨⟨t338, t339, t340, t343, t346, t349, t352, t355, t356⟩, A330, H⟩ := H
    replace H : (if t355 = 0 then ((answer_Encode.f t338 t339 t340 t343 t346 t349 t352).bind fun t358 => (if t358.toList = a2.toList then (if t356 = (a2.size : Int) then ((answer_Check.f kj3 t338 t339 t340 t343 t346 t349 t352).bind fun t359 => (greenwoodlaw23_AnswerBack.j1 kj3 (t359 != 0) a0_0 a0_1 l0_2 l0_3 l0_4 l0_5 l0_6 a1_0 a1_1 l1_2 l1_3 l1_4 l1_5 l1_6)) else (greenwoodlaw23_AnswerBack.j1 kj3 true a0_0 a0_1 l0_2 l0_3 l0_4 l0_5 l0_6 a1_0 a1_1 l1_2 l1_3 l1_4 l1_5 l1_6)) else (greenwoodlaw23_AnswerBack.j1 kj3 true a0_0 a0_1 l0_2 l0_3 l0_4 l0_5 l0_6 a1_0 a1_1 l1_2 l1_3 l1_4 l1_5 l1_6))) else (greenwoodlaw23_AnswerBack.j1 kj3 false a0_0 a0_1 l0_2 l0_3 l0_4 l0_5 l0_6 a1_0 a1_1 l1_2 l1_3 l1_4 l1_5 l1_6)) = some r := H
    have A33 := Aside0.mk A330
    clear A330
    have HC34 := Aside0.mk H
    clear H
    go_upto_region 4 with (first | ((with_reducible refine gate_callee (f := 9) rfl ?_); refine goesL_ (some 35) rfl rfl Tryd.func9 (by kernel_rfl) rfl #[.string a2] rfl (by (try simp only [List.map_toArray, List.map_cons, List.map_nil]); first | done | rfl | (simp only [List.length_drop, List.length_take]; rfl)) ?_; (with_reducible refine (answer_Decode.calls a2 t338 t339 t340 t343 t346 t349 t352 t355 t356 _ ?side1 A33.out).mono ?_); (case side1 => exact EV.below HEV.out (by repeat (first | (with_reducible first | exact HB.out | apply below_alloc | apply pw_below_drewN | apply below_drew1 | refine below_set ?_ GE332.out | refine below_set ?_ GE333.out) | exact HB.out)) (EV.pos HEV.out)); rintro e w35 ⟨v341, v344, v347, v350, v353, rfl, ho0, ho1, ho2, ho3, ho4, hb⟩; refine ⟨_, rfl, ?_⟩; have n0_ := Aside0.mk (Kd.R_lower ho0 (below_size (by repeat (first | (with_reducible first | exact HB.out | apply below_alloc | apply pw_below_drewN | apply below_drew1 | refine below_set ?_ GE332.out | refine below_set ?_ GE333.out) | exact HB.out)))); have n1_ := Aside0.mk (Kd.R_lower ho1 (below_size (by repeat (first | (with_reducible first | exact HB.out | apply below_alloc | apply pw_below_drewN | apply below_drew1 | refine below_set ?_ GE332.out | refine below_set ?_ GE333.out) | exact HB.out)))); have n2_ := Aside0.mk (Kd.S_lower ho2 (below_size (by repeat (first | (with_reducible first | exact HB.out | apply below_alloc | apply pw_below_drewN | apply below_drew1 | refine below_set ?_ GE332.out | refine below_set ?_ GE333.out) | exact HB.out)))); have n3_ := Aside0.mk (Kd.S_lower ho3 (below_size (by repeat (first | (with_reducible first | exact HB.out | apply below_alloc | apply pw_below_drewN | apply below_drew1 | refine below_set ?_ GE332.out | refine below_set ?_ GE333.out) | exact HB.out)))); have n4_ := Aside0.mk (Kd.S_lower ho4 (below_size (by repeat (first | (with_reducible first | exact HB.out | apply below_alloc | apply pw_below_drewN | apply below_drew1 | refine below_set ?_ GE332.out | refine below_set ?_ GE333.out) | exact HB.out)))); have n5_ := Aside0.mk (blk_below (g := gb332) (o := .cells #[.int .i64 a0_0, .bool a0_1, .slice A0_2 l0_2.length c0_2, .slice A0_3 l0_3.length c0_3, .slice A0_4 l0_4.length c0_4, .slice A0_5 l0_5.length c0_5, .slice A0_6 l0_6.length c0_6] 27 (0, 0)) (by (with_reducible repeat (first | refine blk_drewN ?_ _ | refine blk_drew ?_ | refine blk_alloc ?_ _)); exact BK332.out) hb); have n6_ := Aside0.mk (blk_below (g := gb333) (o := .cells #[.int .i64 a1_0, .bool a1_1, .slice A1_2 l1_2.length c1_2, .slice A1_3 l1_3.length c1_3, .slice A1_4 l1_4.length c1_4, .slice A1_5 l1_5.length c1_5, .slice A1_6 l1_6.length c1_6] 27 (0, 0)) (by (with_reducible repeat (first | refine blk_drewN ?_ _ | refine blk_drew ?_ | refine blk_alloc ?_ _)); exact BK333.out) hb); have n7_ := Aside0.mk (below_step (by repeat (first | (with_reducible first | exact HB.out | apply below_alloc | apply pw_below_drewN | apply below_drew1 | refine below_set ?_ GE332.out | refine below_set ?_ GE333.out) | exact HB.out)) hb); clear BK332; clear BK333; clear HB; have HO342 := n0_; have HO345 := n1_; have HO348 := n2_; have HO351 := n3_; have HO354 := n4_; have BK332 := n5_; have BK333 := n6_; have HB := n7_; clear n0_ n1_ n2_ n3_ n4_ n5_ n6_ n7_; (try clear hb); (try clear hb2); (try clear hk); (try clear hi); (try clear ho0); (try clear ho1); (try clear ho2); (try clear ho3); (try clear ho4)) | ((with_reducible refine gate_dst (N := 7) rfl ?_); (try (refine gate_guard (by rfl) ?_; dsimp only)); refine box_event ?hg (N := 7) ?hd (cs := #[.int .i64 0, .bool false, .slice none 0 0, .slice none 0 0, .slice none 0 0, .slice none 0 0, .slice none 0 0]) (t := 27) ?hr ?_; (case hd => rfl); (case hg => rfl); (case hr => first | (go_simp; done) | (go_simp; rfl)); intro gb357 hg w36 hbox hb; have n0_ := Aside0.mk (Kd.R_below (by (with_reducible repeat (first | apply Kd.R_alloc | apply Kd.R_drewN | apply Kd.R_drew)); exact HO342.out) hb); have n1_ := Aside0.mk (Kd.R_below (by (with_reducible repeat (first | apply Kd.R_alloc | apply Kd.R_drewN | apply Kd.R_drew)); exact HO345.out) hb); have n2_ := Aside0.mk (Kd.S_below (by (with_reducible repeat (first | apply Kd.S_alloc | apply Kd.S_drewN | apply Kd.S_drew)); exact HO348.out) hb); have n3_ := Aside0.mk (Kd.S_below (by (with_reducible repeat (first | apply Kd.S_alloc | apply Kd.S_drewN | apply Kd.S_drew)); exact HO351.out) hb); have n4_ := Aside0.mk (Kd.S_below (by (with_reducible repeat (first | apply Kd.S_alloc | apply Kd.S_drewN | apply Kd.S_drew)); exact HO354.out) hb); have n5_ := Aside0.mk (blk_below (g := gb332) (o := .cells #[.int .i64 a0_0, .bool a0_1, .slice A0_2 l0_2.length c0_2, .slice A0_3 l0_3.length c0_3, .slice A0_4 l0_4.length c0_4, .slice A0_5 l0_5.length c0_5, .slice A0_6 l0_6.length c0_6] 27 (0, 0)) (by (with_reducible repeat (first | refine blk_drewN ?_ _ | refine blk_drew ?_ | refine blk_alloc ?_ _)); exact BK332.out) hb); have n6_ := Aside0.mk (blk_below (g := gb333) (o := .cells #[.int .i64 a1_0, .bool a1_1, .slice A1_2 l1_2.length c1_2, .slice A1_3 l1_3.length c1_3, .slice A1_4 l1_4.length c1_4, .slice A1_5 l1_5.length c1_5, .slice A1_6 l1_6.length c1_6] 27 (0, 0)) (by (with_reducible repeat (first | refine blk_drewN ?_ _ | refine blk_drew ?_ | refine blk_alloc ?_ _)); exact BK333.out) hb); have n7_ := Aside0.mk (below_step (by repeat (first | (with_reducible first | exact HB.out | apply below_alloc | apply pw_below_drewN | apply below_drew1 | refine below_set ?_ GE332.out | refine below_set ?_ GE333.out) | exact HB.out)) hb); have n8_ := Aside0.mk (hbox); have n9_ := Aside0.mk ((by rw [hg]; exact (below_size (by repeat (first | (with_reducible first | exact HB.out | apply below_alloc | apply pw_below_drewN | apply below_drew1 | refine below_set ?_ GE332.out | refine below_set ?_ GE333.out) | exact HB.out))) : w.heap.size ≤ gb357)); have n10_ := Aside0.mk ((by rw [hg]; exact (below_size (by repeat (first | (with_reducible first | exact HB.out | apply below_alloc | apply pw_below_drewN | apply below_drew1 | refine below_set ?_ GE332.out | refine below_set ?_ GE333.out) | exact HB.out))) : w.heap.size ≤ gb357)); have n11_ := Aside0.mk ((by rw [hg]; exact Nat.ne_of_lt (blk_lt (g := gb332) (o := .cells #[.int .i64 a0_0, .bool a0_1, .slice A0_2 l0_2.length c0_2, .slice A0_3 l0_3.length c0_3, .slice A0_4 l0_4.length c0_4, .slice A0_5 l0_5.length c0_5, .slice A0_6 l0_6.length c0_6] 27 (0, 0)) (by (with_reducible repeat (first | refine blk_drewN ?_ _ | refine blk_drew ?_ | refine blk_alloc ?_ _)); exact BK332.out)) : gb332 ≠ gb357)); have n12_ := Aside0.mk ((by rw [hg]; exact Nat.ne_of_gt (blk_lt (g := gb332) (o := .cells #[.int .i64 a0_0, .bool a0_1, .slice A0_2 l0_2.length c0_2, .slice A0_3 l0_3.length c0_3, .slice A0_4 l0_4.length c0_4, .slice A0_5 l0_5.length c0_5, .slice A0_6 l0_6.length c0_6] 27 (0, 0)) (by (with_reducible repeat (first | refine blk_drewN ?_ _ | refine blk_drew ?_ | refine blk_alloc ?_ _)); exact BK332.out)) : gb357 ≠ gb332)); have n13_ := Aside0.mk ((by rw [hg]; exact Nat.ne_of_lt (blk_lt (g := gb333) (o := .cells #[.int .i64 a1_0, .bool a1_1, .slice A1_2 l1_2.length c1_2, .slice A1_3 l1_3.length c1_3, .slice A1_4 l1_4.length c1_4, .slice A1_5 l1_5.length c1_5, .slice A1_6 l1_6.length c1_6] 27 (0, 0)) (by (with_reducible repeat (first | refine blk_drewN ?_ _ | refine blk_drew ?_ | refine blk_alloc ?_ _)); exact BK333.out)) : gb333 ≠ gb357)); have n14_ := Aside0.mk ((by rw [hg]; exact Nat.ne_of_gt (blk_lt (g := gb333) (o := .cells #[.int .i64 a1_0, .bool a1_1, .slice A1_2 l1_2.length c1_2, .slice A1_3 l1_3.length c1_3, .slice A1_4 l1_4.length c1_4, .slice A1_5 l1_5.length c1_5, .slice A1_6 l1_6.length c1_6] 27 (0, 0)) (by (with_reducible repeat (first | refine blk_drewN ?_ _ | refine blk_drew ?_ | refine blk_alloc ?_ _)); exact BK333.out)) : gb357 ≠ gb333)); clear HO342; clear HO345; clear HO348; clear HO351; clear HO354; clear BK332; clear BK333; clear HB; have HO342 := n0_; have HO345 := n1_; have HO348 := n2_; have HO351 := n3_; have HO354 := n4_; have BK332 := n5_; have BK333 := n6_; have HB := n7_; have BK357 := n8_; have GW357 := n9_; have GE357 := n10_; have NB332_357 := n11_; have NB357_332 := n12_; have NB333_357 := n13_; have NB357_333 := n14_; clear n0_ n1_ n2_ n3_ n4_ n5_ n6_ n7_ n8_ n9_ n10_ n11_ n12_ n13_ n14_; clear hb hbox hg; have hnb37 := NB357_332.out; have hnc37 := NB332_357.out; have hnb38 := NB357_333.out; have hnc38 := NB333_357.out; have hcz39_0 : w36.cell? ⟨gb357, 0, none⟩ = some (.int .i64 0) := (blk_cell BK357.out 0).trans rfl; have hcz39_1 : w36.cell? ⟨gb357, 1, none⟩ = some (.bool false) := (blk_cell BK357.out 1).trans rfl; have hcz39_2 : w36.cell? ⟨gb357, 2, none⟩ = some (.slice none 0 0) := (blk_cell BK357.out 2).trans rfl; have hcz39_3 : w36.cell? ⟨gb357, 3, none⟩ = some (.slice none 0 0) := (blk_cell BK357.out 3).trans rfl; have hcz39_4 : w36.cell? ⟨gb357, 4, none⟩ = some (.slice none 0 0) := (blk_cell BK357.out 4).trans rfl; have hcz39_5 : w36.cell? ⟨gb357, 5, none⟩ = some (.slice none 0 0) := (blk_cell BK357.out 5).trans rfl; have hcz39_6 : w36.cell? ⟨gb357, 6, none⟩ = some (.slice none 0 0) := (blk_cell BK357.out 6).trans rfl; have hfz39_0 := blk_frozen BK357.out 0; have hfz39_1 := blk_frozen BK357.out 1; have hfz39_2 := blk_frozen BK357.out 2; have hfz39_3 := blk_frozen BK357.out 3; have hfz39_4 := blk_frozen BK357.out 4; have hfz39_5 := blk_frozen BK357.out 5; have hfz39_6 := blk_frozen BK357.out 6; obtain ⟨Ao40, co40, eo40⟩ := Kd.R_slice HO342.out; subst eo40; obtain ⟨Ao41, co41, eo41⟩ := Kd.R_slice HO345.out; subst eo41; obtain ⟨Ao42, co42, eo42⟩ := Kd.S_slice HO348.out; subst eo42; obtain ⟨Ao43, co43, eo43⟩ := Kd.S_slice HO351.out; subst eo43; obtain ⟨Ao44, co44, eo44⟩ := Kd.S_slice HO354.out; subst eo44))
    (try simp only [Act.put, List.setIfInBounds_toArray, List.set_cons_zero, List.set_cons_succ])
    go_cut [57] (fun v57 wc => ∃ (kq : Nat) (x57_33 : Bool), v57 = .bool x57_33 ∧ Aside0 (greenwoodlaw23_AnswerBack.j1 kq x57_33 a0_0 a0_1 l0_2 l0_3 l0_4 l0_5 l0_6 a1_0 a1_1 l1_2 l1_3 l1_4 l1_5 l1_6 = some r) ∧ Aside0 (kq ≤ kj3) ∧ Aside0 (Kd.R (Kd.int .i64) 3 wc w.heap.size (fun k_ => some k_ ≠ ((.slice Ao41 t343.length co41) : Value).ownBlock) (.slice Ao40 t340.length co40) t340) ∧ Aside0 (Kd.R (Kd.int .i64) 3 wc w.heap.size (fun k_ => some k_ ≠ ((.slice Ao40 t340.length co40) : Value).ownBlock) (.slice Ao41 t343.length co41) t343) ∧ Aside0 (Kd.S (Kd.slice 3 (Kd.int .i64)) 22 wc w.heap.size (fun k_ => some k_ ≠ ((.slice Ao40 t340.length co40) : Value).ownBlock ∧ some k_ ≠ ((.slice Ao41 t343.length co41) : Value).ownBlock) (.slice Ao42 t346.length co42) t346) ∧ Aside0 (Kd.S k41 41 wc w.heap.size (fun k_ => some k_ ≠ ((.slice Ao40 t340.length co40) : Value).ownBlock ∧ some k_ ≠ ((.slice Ao41 t343.length co41) : Value).ownBlock) (.slice Ao43 t349.length co43) t349) ∧ Aside0 (Kd.S k43 43 wc w.heap.size (fun k_ => some k_ ≠ ((.slice Ao40 t340.length co40) : Value).ownBlock ∧ some k_ ≠ ((.slice Ao41 t343.length co41) : Value).ownBlock) (.slice Ao44 t352.length co44) t352) ∧ Aside0 (wc.heap[gb332]? = some (.cells #[.int .i64 a0_0, .bool a0_1, (.slice A0_2 l0_2.length c0_2), (.slice A0_3 l0_3.length c0_3), (.slice A0_4 l0_4.length c0_4), (.slice A0_5 l0_5.length c0_5), (.slice A0_6 l0_6.length c0_6)] 27 (0, 0))) ∧ Aside0 (wc.heap[gb333]? = some (.cells #[.int .i64 a1_0, .bool a1_1, (.slice A1_2 l1_2.length c1_2), (.slice A1_3 l1_3.length c1_3), (.slice A1_4 l1_4.length c1_4), (.slice A1_5 l1_5.length c1_5), (.slice A1_6 l1_6.length c1_6)] 27 (0, 0))) ∧ Aside0 (wc.heap[gb357]? = some (.cells #[.int .i64 t338, .bool t339, (.slice Ao40 t340.length co40), (.slice Ao41 t343.length co41), (.slice Ao42 t346.length co42), (.slice Ao43 t349.length co43), (.slice Ao44 t352.length co44)] 27 (0, 0))) ∧ Aside0 (Below w.heap.size w wc))
    case first =>
     have H := HC34.out
     clear HC34
     by_cases c45 : t355 = 0
     ·rw [if_pos c45] at H
      have c45b0 : (t355 == 0) = true := beq_iff_eq.mpr c45
      have c45b1 : (t355 != 0) = false := bne_eq_false_iff_eq.mpr c45
      clear c45
      (first | rw [c45b0] | (simp only [i64_w, i32_w]; rw [c45b0]) | skip)
      replace H := Option.bind_eq_some_iff.mp H
      obtain ⟨t358, A460, H⟩ := H
      replace H : (if t358.toList = a2.toList then (if t356 = (a2.size : Int) then ((answer_Check.f kj3 t338 t339 t340 t343 t346 t349 t352).bind fun t359 => (greenwoodlaw23_AnswerBack.j1 kj3 (t359 != 0) a0_0 a0_1 l0_2 l0_3 l0_4 l0_5 l0_6 a1_0 a1_1 l1_2 l1_3 l1_4 l1_5 l1_6)) else (greenwoodlaw23_AnswerBack.j1 kj3 true a0_0 a0_1 l0_2 l0_3 l0_4 l0_5 l0_6 a1_0 a1_1 l1_2 l1_3 l1_4 l1_5 l1_6)) else (greenwoodlaw23_AnswerBack.j1 kj3 true a0_0 a0_1 l0_2 l0_3 l0_4 l0_5 l0_6 a1_0 a1_1 l1_2 l1_3 l1_4 l1_5 l1_6)) = some r := H
      have A46 := Aside0.mk A460
      clear A460
      by_cases c47 : t358.toList = a2.toList
      ·rw [if_pos c47] at H
       have c47b0 : (t358.toList == a2.toList) = true := beq_iff_eq.mpr c47
       have c47b1 : (t358.toList != a2.toList) = false := bne_eq_false_iff_eq.mpr c47
       clear c47
       by_cases c48 : t356 = (a2.size : Int)
       ·rw [if_pos c48] at H
        have c48b0 : (t356 == (a2.size : Int)) = true := beq_iff_eq.mpr c48
        have c48b1 : (t356 != (a2.size : Int)) = false := bne_eq_false_iff_eq.mpr c48
        clear c48
        replace H := Option.bind_eq_some_iff.mp H
        obtain ⟨t359, A490, H⟩ := H
        replace H : (greenwoodlaw23_AnswerBack.j1 kj3 (t359 != 0) a0_0 a0_1 l0_2 l0_3 l0_4 l0_5 l0_6 a1_0 a1_1 l1_2 l1_3 l1_4 l1_5 l1_6) = some r := H
        have A49 := Aside0.mk A490
        clear A490
        have H' := Aside0.mk H
        clear H
        have hnb50 := NB357_332.out
        have hnc50 := NB332_357.out
        have hnb51 := NB357_333.out
        have hnc51 := NB333_357.out
        have hcz52_0 : w36.cell? ⟨gb357, 0, none⟩ = some (.int .i64 0) := (blk_cell BK357.out 0).trans rfl
        have hcz52_1 : w36.cell? ⟨gb357, 1, none⟩ = some (.bool false) := (blk_cell BK357.out 1).trans rfl
        have hcz52_2 : w36.cell? ⟨gb357, 2, none⟩ = some (.slice none 0 0) := (blk_cell BK357.out 2).trans rfl
        have hcz52_3 : w36.cell? ⟨gb357, 3, none⟩ = some (.slice none 0 0) := (blk_cell BK357.out 3).trans rfl
        have hcz52_4 : w36.cell? ⟨gb357, 4, none⟩ = some (.slice none 0 0) := (blk_cell BK357.out 4).trans rfl
        have hcz52_5 : w36.cell? ⟨gb357, 5, none⟩ = some (.slice none 0 0) := (blk_cell BK357.out 5).trans rfl
        have hcz52_6 : w36.cell? ⟨gb357, 6, none⟩ = some (.slice none 0 0) := (blk_cell BK357.out 6).trans rfl
        have hfz52_0 := blk_frozen BK357.out 0
        have hfz52_1 := blk_frozen BK357.out 1
        have hfz52_2 := blk_frozen BK357.out 2
        have hfz52_3 := blk_frozen BK357.out 3
        have hfz52_4 := blk_frozen BK357.out 4
        have hfz52_5 := blk_frozen BK357.out 5
        have hfz52_6 := blk_frozen BK357.out 6
        go_wp2_with (first | (go_at_call 13; (with_reducible refine (answer_Encode.calls t338 t339 _ _ t340 _ _ t343 _ _ t346 _ _ t349 _ _ t352 t358 _ ?side1 ?side2 ?side3 ?side4 ?side5 ?side6 ?side7 ?side8 ?side9 ?side10 A46.out).mono ?_); (case side1 => refine (Kd.R_reads' (e := 3) (base := w.heap.size) (ok := fun k_ => some k_ ≠ (.slice Ao41 t343.length co41 : Value).ownBlock) (n := t340.length) (c := co40) ?_).2.2; exact (by (with_reducible repeat (first | apply Kd.R_alloc | apply Kd.R_drewN | apply Kd.R_drew)); exact (Kd.R_mono (Kd.R_far (p := ⟨gb357, 6, none⟩) (Kd.R_far (p := ⟨gb357, 5, none⟩) (Kd.R_far (p := ⟨gb357, 4, none⟩) (Kd.R_far (p := ⟨gb357, 3, none⟩) (Kd.R_far (p := ⟨gb357, 2, none⟩) (Kd.R_far (p := ⟨gb357, 1, none⟩) (Kd.R_far (p := ⟨gb357, 0, none⟩) (Kd.R_types HO342.out BK357.out (by decide)) (fun _ hk => hk.2) (.int .i64 t338)) (fun _ hk => hk.2) (.bool t339)) (fun _ hk => hk.2) (.slice Ao40 t340.length co40)) (fun _ hk => hk.2) (.slice Ao41 t343.length co41)) (fun _ hk => hk.2) (.slice Ao42 t346.length co42)) (fun _ hk => hk.2) (.slice Ao43 t349.length co43)) (fun _ hk => hk.2) (.slice Ao44 t352.length co44)) (fun _ h_ => h_.1)))); (case side2 => exact (Kd.R_reads' HO342.out).2.1); (case side3 => refine (Kd.R_reads' (e := 3) (base := w.heap.size) (ok := fun k_ => some k_ ≠ (.slice Ao40 t340.length co40 : Value).ownBlock) (n := t343.length) (c := co41) ?_).2.2; exact (by (with_reducible repeat (first | apply Kd.R_alloc | apply Kd.R_drewN | apply Kd.R_drew)); exact (Kd.R_mono (Kd.R_far (p := ⟨gb357, 6, none⟩) (Kd.R_far (p := ⟨gb357, 5, none⟩) (Kd.R_far (p := ⟨gb357, 4, none⟩) (Kd.R_far (p := ⟨gb357, 3, none⟩) (Kd.R_far (p := ⟨gb357, 2, none⟩) (Kd.R_far (p := ⟨gb357, 1, none⟩) (Kd.R_far (p := ⟨gb357, 0, none⟩) (Kd.R_types HO345.out BK357.out (by decide)) (fun _ hk => hk.2) (.int .i64 t338)) (fun _ hk => hk.2) (.bool t339)) (fun _ hk => hk.2) (.slice Ao40 t340.length co40)) (fun _ hk => hk.2) (.slice Ao41 t343.length co41)) (fun _ hk => hk.2) (.slice Ao42 t346.length co42)) (fun _ hk => hk.2) (.slice Ao43 t349.length co43)) (fun _ hk => hk.2) (.slice Ao44 t352.length co44)) (fun _ h_ => h_.1)))); (case side4 => exact (Kd.R_reads' HO345.out).2.1); (case side5 => refine (Kd.S_reads' (e := 22) (base := w.heap.size) (ok := fun k_ => (some k_ ≠ (.slice Ao40 t340.length co40 : Value).ownBlock ∧ some k_ ≠ (.slice Ao41 t343.length co41 : Value).ownBlock)) (n := t346.length) (c := co42) ?_).2.2; exact (by (with_reducible repeat (first | apply Kd.S_alloc | apply Kd.S_drewN | apply Kd.S_drew)); exact (Kd.S_mono (Kd.S_far (p := ⟨gb357, 6, none⟩) (Kd.S_far (p := ⟨gb357, 5, none⟩) (Kd.S_far (p := ⟨gb357, 4, none⟩) (Kd.S_far (p := ⟨gb357, 3, none⟩) (Kd.S_far (p := ⟨gb357, 2, none⟩) (Kd.S_far (p := ⟨gb357, 1, none⟩) (Kd.S_far (p := ⟨gb357, 0, none⟩) (Kd.S_types HO348.out BK357.out (by decide)) (fun _ hk => hk.2) (.int .i64 t338)) (fun _ hk => hk.2) (.bool t339)) (fun _ hk => hk.2) (.slice Ao40 t340.length co40)) (fun _ hk => hk.2) (.slice Ao41 t343.length co41)) (fun _ hk => hk.2) (.slice Ao42 t346.length co42)) (fun _ hk => hk.2) (.slice Ao43 t349.length co43)) (fun _ hk => hk.2) (.slice Ao44 t352.length co44)) (fun _ h_ => h_.1)))); (case side6 => exact (Kd.S_reads' HO348.out).2.1); (case side7 => refine (Kd.S_reads' (e := 41) (base := w.heap.size) (ok := fun k_ => (some k_ ≠ (.slice Ao40 t340.length co40 : Value).ownBlock ∧ some k_ ≠ (.slice Ao41 t343.length co41 : Value).ownBlock)) (n := t349.length) (c := co43) ?_).2.2; exact (by (with_reducible repeat (first | apply Kd.S_alloc | apply Kd.S_drewN | apply Kd.S_drew)); exact (Kd.S_mono (Kd.S_far (p := ⟨gb357, 6, none⟩) (Kd.S_far (p := ⟨gb357, 5, none⟩) (Kd.S_far (p := ⟨gb357, 4, none⟩) (Kd.S_far (p := ⟨gb357, 3, none⟩) (Kd.S_far (p := ⟨gb357, 2, none⟩) (Kd.S_far (p := ⟨gb357, 1, none⟩) (Kd.S_far (p := ⟨gb357, 0, none⟩) (Kd.S_types HO351.out BK357.out (by decide)) (fun _ hk => hk.2) (.int .i64 t338)) (fun _ hk => hk.2) (.bool t339)) (fun _ hk => hk.2) (.slice Ao40 t340.length co40)) (fun _ hk => hk.2) (.slice Ao41 t343.length co41)) (fun _ hk => hk.2) (.slice Ao42 t346.length co42)) (fun _ hk => hk.2) (.slice Ao43 t349.length co43)) (fun _ hk => hk.2) (.slice Ao44 t352.length co44)) (fun _ h_ => h_.1)))); (case side8 => exact (Kd.S_reads' HO351.out).2.1); (case side9 => refine (Kd.S_reads' (e := 43) (base := w.heap.size) (ok := fun k_ => (some k_ ≠ (.slice Ao40 t340.length co40 : Value).ownBlock ∧ some k_ ≠ (.slice Ao41 t343.length co41 : Value).ownBlock)) (n := t352.length) (c := co44) ?_).2.2; exact (by (with_reducible repeat (first | apply Kd.S_alloc | apply Kd.S_drewN | apply Kd.S_drew)); exact (Kd.S_mono (Kd.S_far (p := ⟨gb357, 6, none⟩) (Kd.S_far (p := ⟨gb357, 5, none⟩) (Kd.S_far (p := ⟨gb357, 4, none⟩) (Kd.S_far (p := ⟨gb357, 3, none⟩) (Kd.S_far (p := ⟨gb357, 2, none⟩) (Kd.S_far (p := ⟨gb357, 1, none⟩) (Kd.S_far (p := ⟨gb357, 0, none⟩) (Kd.S_types HO354.out BK357.out (by decide)) (fun _ hk => hk.2) (.int .i64 t338)) (fun _ hk => hk.2) (.bool t339)) (fun _ hk => hk.2) (.slice Ao40 t340.length co40)) (fun _ hk => hk.2) (.slice Ao41 t343.length co41)) (fun _ hk => hk.2) (.slice Ao42 t346.length co42)) (fun _ hk => hk.2) (.slice Ao43 t349.length co43)) (fun _ hk => hk.2) (.slice Ao44 t352.length co44)) (fun _ h_ => h_.1)))); (case side10 => exact (Kd.S_reads' HO354.out).2.1); rintro e w53 ⟨rfl, hb⟩; have n0_ := Aside0.mk (Kd.R_below (by (with_reducible repeat (first | apply Kd.R_alloc | apply Kd.R_drewN | apply Kd.R_drew)); exact (Kd.R_mono (Kd.R_far (p := ⟨gb357, 6, none⟩) (Kd.R_far (p := ⟨gb357, 5, none⟩) (Kd.R_far (p := ⟨gb357, 4, none⟩) (Kd.R_far (p := ⟨gb357, 3, none⟩) (Kd.R_far (p := ⟨gb357, 2, none⟩) (Kd.R_far (p := ⟨gb357, 1, none⟩) (Kd.R_far (p := ⟨gb357, 0, none⟩) (Kd.R_types HO342.out BK357.out (by decide)) (fun _ hk => hk.2) (.int .i64 t338)) (fun _ hk => hk.2) (.bool t339)) (fun _ hk => hk.2) (.slice Ao40 t340.length co40)) (fun _ hk => hk.2) (.slice Ao41 t343.length co41)) (fun _ hk => hk.2) (.slice Ao42 t346.length co42)) (fun _ hk => hk.2) (.slice Ao43 t349.length co43)) (fun _ hk => hk.2) (.slice Ao44 t352.length co44)) (fun _ h_ => h_.1))) hb); have n1_ := Aside0.mk (Kd.R_below (by (with_reducible repeat (first | apply Kd.R_alloc | apply Kd.R_drewN | apply Kd.R_drew)); exact (Kd.R_mono (Kd.R_far (p := ⟨gb357, 6, none⟩) (Kd.R_far (p := ⟨gb357, 5, none⟩) (Kd.R_far (p := ⟨gb357, 4, none⟩) (Kd.R_far (p := ⟨gb357, 3, none⟩) (Kd.R_far (p := ⟨gb357, 2, none⟩) (Kd.R_far (p := ⟨gb357, 1, none⟩) (Kd.R_far (p := ⟨gb357, 0, none⟩) (Kd.R_types HO345.out BK357.out (by decide)) (fun _ hk => hk.2) (.int .i64 t338)) (fun _ hk => hk.2) (.bool t339)) (fun _ hk => hk.2) (.slice Ao40 t340.length co40)) (fun _ hk => hk.2) (.slice Ao41 t343.length co41)) (fun _ hk => hk.2) (.slice Ao42 t346.length co42)) (fun _ hk => hk.2) (.slice Ao43 t349.length co43)) (fun _ hk => hk.2) (.slice Ao44 t352.length co44)) (fun _ h_ => h_.1))) hb); have n2_ := Aside0.mk (Kd.S_below (by (with_reducible repeat (first | apply Kd.S_alloc | apply Kd.S_drewN | apply Kd.S_drew)); exact (Kd.S_mono (Kd.S_far (p := ⟨gb357, 6, none⟩) (Kd.S_far (p := ⟨gb357, 5, none⟩) (Kd.S_far (p := ⟨gb357, 4, none⟩) (Kd.S_far (p := ⟨gb357, 3, none⟩) (Kd.S_far (p := ⟨gb357, 2, none⟩) (Kd.S_far (p := ⟨gb357, 1, none⟩) (Kd.S_far (p := ⟨gb357, 0, none⟩) (Kd.S_types HO348.out BK357.out (by decide)) (fun _ hk => hk.2) (.int .i64 t338)) (fun _ hk => hk.2) (.bool t339)) (fun _ hk => hk.2) (.slice Ao40 t340.length co40)) (fun _ hk => hk.2) (.slice Ao41 t343.length co41)) (fun _ hk => hk.2) (.slice Ao42 t346.length co42)) (fun _ hk => hk.2) (.slice Ao43 t349.length co43)) (fun _ hk => hk.2) (.slice Ao44 t352.length co44)) (fun _ h_ => h_.1))) hb); have n3_ := Aside0.mk (Kd.S_below (by (with_reducible repeat (first | apply Kd.S_alloc | apply Kd.S_drewN | apply Kd.S_drew)); exact (Kd.S_mono (Kd.S_far (p := ⟨gb357, 6, none⟩) (Kd.S_far (p := ⟨gb357, 5, none⟩) (Kd.S_far (p := ⟨gb357, 4, none⟩) (Kd.S_far (p := ⟨gb357, 3, none⟩) (Kd.S_far (p := ⟨gb357, 2, none⟩) (Kd.S_far (p := ⟨gb357, 1, none⟩) (Kd.S_far (p := ⟨gb357, 0, none⟩) (Kd.S_types HO351.out BK357.out (by decide)) (fun _ hk => hk.2) (.int .i64 t338)) (fun _ hk => hk.2) (.bool t339)) (fun _ hk => hk.2) (.slice Ao40 t340.length co40)) (fun _ hk => hk.2) (.slice Ao41 t343.length co41)) (fun _ hk => hk.2) (.slice Ao42 t346.length co42)) (fun _ hk => hk.2) (.slice Ao43 t349.length co43)) (fun _ hk => hk.2) (.slice Ao44 t352.length co44)) (fun _ h_ => h_.1))) hb); have n4_ := Aside0.mk (Kd.S_below (by (with_reducible repeat (first | apply Kd.S_alloc | apply Kd.S_drewN | apply Kd.S_drew)); exact (Kd.S_mono (Kd.S_far (p := ⟨gb357, 6, none⟩) (Kd.S_far (p := ⟨gb357, 5, none⟩) (Kd.S_far (p := ⟨gb357, 4, none⟩) (Kd.S_far (p := ⟨gb357, 3, none⟩) (Kd.S_far (p := ⟨gb357, 2, none⟩) (Kd.S_far (p := ⟨gb357, 1, none⟩) (Kd.S_far (p := ⟨gb357, 0, none⟩) (Kd.S_types HO354.out BK357.out (by decide)) (fun _ hk => hk.2) (.int .i64 t338)) (fun _ hk => hk.2) (.bool t339)) (fun _ hk => hk.2) (.slice Ao40 t340.length co40)) (fun _ hk => hk.2) (.slice Ao41 t343.length co41)) (fun _ hk => hk.2) (.slice Ao42 t346.length co42)) (fun _ hk => hk.2) (.slice Ao43 t349.length co43)) (fun _ hk => hk.2) (.slice Ao44 t352.length co44)) (fun _ h_ => h_.1))) hb); have n5_ := Aside0.mk (blk_below (g := gb332) (o := .cells #[.int .i64 a0_0, .bool a0_1, .slice A0_2 l0_2.length c0_2, .slice A0_3 l0_3.length c0_3, .slice A0_4 l0_4.length c0_4, .slice A0_5 l0_5.length c0_5, .slice A0_6 l0_6.length c0_6] 27 (0, 0)) (by (with_reducible repeat (first | refine blk_drewN ?_ _ | refine blk_drew ?_ | refine blk_alloc ?_ _)); refine blk_far ?_ NB332_357.out _; (with_reducible repeat (first | refine blk_drewN ?_ _ | refine blk_drew ?_ | refine blk_alloc ?_ _)); refine blk_far ?_ NB332_357.out _; (with_reducible repeat (first | refine blk_drewN ?_ _ | refine blk_drew ?_ | refine blk_alloc ?_ _)); refine blk_far ?_ NB332_357.out _; (with_reducible repeat (first | refine blk_drewN ?_ _ | refine blk_drew ?_ | refine blk_alloc ?_ _)); refine blk_far ?_ NB332_357.out _; (with_reducible repeat (first | refine blk_drewN ?_ _ | refine blk_drew ?_ | refine blk_alloc ?_ _)); refine blk_far ?_ NB332_357.out _; (with_reducible repeat (first | refine blk_drewN ?_ _ | refine blk_drew ?_ | refine blk_alloc ?_ _)); refine blk_far ?_ NB332_357.out _; (with_reducible repeat (first | refine blk_drewN ?_ _ | refine blk_drew ?_ | refine blk_alloc ?_ _)); refine blk_far ?_ NB332_357.out _; (with_reducible repeat (first | refine blk_drewN ?_ _ | refine blk_drew ?_ | refine blk_alloc ?_ _)); exact BK332.out) hb); have n6_ := Aside0.mk (blk_below (g := gb333) (o := .cells #[.int .i64 a1_0, .bool a1_1, .slice A1_2 l1_2.length c1_2, .slice A1_3 l1_3.length c1_3, .slice A1_4 l1_4.length c1_4, .slice A1_5 l1_5.length c1_5, .slice A1_6 l1_6.length c1_6] 27 (0, 0)) (by (with_reducible repeat (first | refine blk_drewN ?_ _ | refine blk_drew ?_ | refine blk_alloc ?_ _)); refine blk_far ?_ NB333_357.out _; (with_reducible repeat (first | refine blk_drewN ?_ _ | refine blk_drew ?_ | refine blk_alloc ?_ _)); refine blk_far ?_ NB333_357.out _; (with_reducible repeat (first | refine blk_drewN ?_ _ | refine blk_drew ?_ | refine blk_alloc ?_ _)); refine blk_far ?_ NB333_357.out _; (with_reducible repeat (first | refine blk_drewN ?_ _ | refine blk_drew ?_ | refine blk_alloc ?_ _)); refine blk_far ?_ NB333_357.out _; (with_reducible repeat (first | refine blk_drewN ?_ _ | refine blk_drew ?_ | refine blk_alloc ?_ _)); refine blk_far ?_ NB333_357.out _; (with_reducible repeat (first | refine blk_drewN ?_ _ | refine blk_drew ?_ | refine blk_alloc ?_ _)); refine blk_far ?_ NB333_357.out _; (with_reducible repeat (first | refine blk_drewN ?_ _ | refine blk_drew ?_ | refine blk_alloc ?_ _)); refine blk_far ?_ NB333_357.out _; (with_reducible repeat (first | refine blk_drewN ?_ _ | refine blk_drew ?_ | refine blk_alloc ?_ _)); exact BK333.out) hb); have n7_ := Aside0.mk (blk_below (g := gb357) (o := .cells #[.int .i64 t338, .bool t339, .slice Ao40 t340.length co40, .slice Ao41 t343.length co41, .slice Ao42 t346.length co42, .slice Ao43 t349.length co43, .slice Ao44 t352.length co44] 27 (0, 0)) (by (with_reducible repeat (first | refine blk_drewN ?_ _ | refine blk_drew ?_ | refine blk_alloc ?_ _)); refine blk_put (cs := #[.int .i64 t338, .bool t339, .slice Ao40 t340.length co40, .slice Ao41 t343.length co41, .slice Ao42 t346.length co42, .slice Ao43 t349.length co43, .slice none 0 0]) ?_ 6 _ rfl; (with_reducible repeat (first | refine blk_drewN ?_ _ | refine blk_drew ?_ | refine blk_alloc ?_ _)); refine blk_put (cs := #[.int .i64 t338, .bool t339, .slice Ao40 t340.length co40, .slice Ao41 t343.length co41, .slice Ao42 t346.length co42, .slice none 0 0, .slice none 0 0]) ?_ 5 _ rfl; (with_reducible repeat (first | refine blk_drewN ?_ _ | refine blk_drew ?_ | refine blk_alloc ?_ _)); refine blk_put (cs := #[.int .i64 t338, .bool t339, .slice Ao40 t340.length co40, .slice Ao41 t343.length co41, .slice none 0 0, .slice none 0 0, .slice none 0 0]) ?_ 4 _ rfl; (with_reducible repeat (first | refine blk_drewN ?_ _ | refine blk_drew ?_ | refine blk_alloc ?_ _)); refine blk_put (cs := #[.int .i64 t338, .bool t339, .slice Ao40 t340.length co40, .slice none 0 0, .slice none 0 0, .slice none 0 0, .slice none 0 0]) ?_ 3 _ rfl; (with_reducible repeat (first | refine blk_drewN ?_ _ | refine blk_drew ?_ | refine blk_alloc ?_ _)); refine blk_put (cs := #[.int .i64 t338, .bool t339, .slice none 0 0, .slice none 0 0, .slice none 0 0, .slice none 0 0, .slice none 0 0]) ?_ 2 _ rfl; (with_reducible repeat (first | refine blk_drewN ?_ _ | refine blk_drew ?_ | refine blk_alloc ?_ _)); refine blk_put (cs := #[.int .i64 t338, .bool false, .slice none 0 0, .slice none 0 0, .slice none 0 0, .slice none 0 0, .slice none 0 0]) ?_ 1 _ rfl; (with_reducible repeat (first | refine blk_drewN ?_ _ | refine blk_drew ?_ | refine blk_alloc ?_ _)); refine blk_put (cs := #[.int .i64 0, .bool false, .slice none 0 0, .slice none 0 0, .slice none 0 0, .slice none 0 0, .slice none 0 0]) ?_ 0 _ rfl; (with_reducible repeat (first | refine blk_drewN ?_ _ | refine blk_drew ?_ | refine blk_alloc ?_ _)); exact BK357.out) hb); have n8_ := Aside0.mk (below_step (by repeat (first | (with_reducible first | exact HB.out | apply below_alloc | apply pw_below_drewN | apply below_drew1 | refine below_set ?_ GE332.out | refine below_set ?_ GE333.out | refine below_set ?_ GE357.out) | exact HB.out)) hb); clear HO342; clear HO345; clear HO348; clear HO351; clear HO354; clear BK332; clear BK333; clear BK357; clear HB; have HO342 := n0_; have HO345 := n1_; have HO348 := n2_; have HO351 := n3_; have HO354 := n4_; have BK332 := n5_; have BK333 := n6_; have BK357 := n7_; have HB := n8_; clear n0_ n1_ n2_ n3_ n4_ n5_ n6_ n7_ n8_; (try clear hb); (try clear hb2); (try clear hk); (try clear hi); have hcz54_0 : w53.cell? ⟨gb357, 0, none⟩ = some (.int .i64 t338) := (blk_cell BK357.out 0).trans rfl; have hcz54_1 : w53.cell? ⟨gb357, 1, none⟩ = some (.bool t339) := (blk_cell BK357.out 1).trans rfl; have hcz54_2 : w53.cell? ⟨gb357, 2, none⟩ = some (.slice Ao40 t340.length co40) := (blk_cell BK357.out 2).trans rfl; have hcz54_3 : w53.cell? ⟨gb357, 3, none⟩ = some (.slice Ao41 t343.length co41) := (blk_cell BK357.out 3).trans rfl; have hcz54_4 : w53.cell? ⟨gb357, 4, none⟩ = some (.slice Ao42 t346.length co42) := (blk_cell BK357.out 4).trans rfl; have hcz54_5 : w53.cell? ⟨gb357, 5, none⟩ = some (.slice Ao43 t349.length co43) := (blk_cell BK357.out 5).trans rfl; have hcz54_6 : w53.cell? ⟨gb357, 6, none⟩ = some (.slice Ao44 t352.length co44) := (blk_cell BK357.out 6).trans rfl; have hfz54_0 := blk_frozen BK357.out 0; have hfz54_1 := blk_frozen BK357.out 1; have hfz54_2 := blk_frozen BK357.out 2; have hfz54_3 := blk_frozen BK357.out 3; have hfz54_4 := blk_frozen BK357.out 4; have hfz54_5 := blk_frozen BK357.out 5; have hfz54_6 := blk_frozen BK357.out 6) | (go_at_call 11; (with_reducible refine (answer_Check.calls kj3 t338 t339 (fun k_ => some k_ = (.slice Ao40 t340.length co40 : Value).ownBlock) _ _ t340 (fun k_ => some k_ = (.slice Ao41 t343.length co41 : Value).ownBlock) _ _ t343 (fun k_ => ((((((some k_ ≠ (.slice Ao40 t340.length co40 : Value).ownBlock ∧ some k_ ≠ (.slice Ao41 t343.length co41 : Value).ownBlock) ∧ some k_ ≠ (.slice Ao43 t349.length co43 : Value).ownBlock) ∧ some k_ ≠ (.slice Ao44 t352.length co44 : Value).ownBlock) ∧ k_ ≠ gb332) ∧ k_ ≠ gb333) ∧ k_ ≠ gb357)) _ _ t346 (fun k_ => ((((((some k_ ≠ (.slice Ao40 t340.length co40 : Value).ownBlock ∧ some k_ ≠ (.slice Ao41 t343.length co41 : Value).ownBlock) ∧ some k_ ≠ (.slice Ao42 t346.length co42 : Value).ownBlock) ∧ some k_ ≠ (.slice Ao44 t352.length co44 : Value).ownBlock) ∧ k_ ≠ gb332) ∧ k_ ≠ gb333) ∧ k_ ≠ gb357)) _ _ t349 (fun k_ => ((((((some k_ ≠ (.slice Ao40 t340.length co40 : Value).ownBlock ∧ some k_ ≠ (.slice Ao41 t343.length co41 : Value).ownBlock) ∧ some k_ ≠ (.slice Ao42 t346.length co42 : Value).ownBlock) ∧ some k_ ≠ (.slice Ao43 t349.length co43 : Value).ownBlock) ∧ k_ ≠ gb332) ∧ k_ ≠ gb333) ∧ k_ ≠ gb357)) _ _ t352 t359 _ ?side1 ?side2 ?side3 ?side4 ?side5 A49.out).mono ?_); (case side1 => exact Kd.R_V (Kd.R_tight rfl (Kd.R_types (Kd.R_types (Kd.R_types (Kd.R_apart' (Kd.R_apart' (Kd.R_apart' (HO342.out) (Kd.S_typed HO348.out) (by decide)) (Kd.S_typed HO351.out) (by decide)) (Kd.S_typed HO354.out) (by decide)) BK332.out (by decide)) BK333.out (by decide)) BK357.out (by decide)))); (case side2 => exact Kd.R_V (Kd.R_tight rfl (Kd.R_types (Kd.R_types (Kd.R_types (Kd.R_apart' (Kd.R_apart' (Kd.R_apart' (HO345.out) (Kd.S_typed HO348.out) (by decide)) (Kd.S_typed HO351.out) (by decide)) (Kd.S_typed HO354.out) (by decide)) BK332.out (by decide)) BK333.out (by decide)) BK357.out (by decide)))); (case side3 => exact Kd.S_V (Kd.S_types (Kd.S_types (Kd.S_types (Kd.S_apart' (Kd.S_apart' (HO348.out) (Kd.S_typed HO351.out) (by decide)) (Kd.S_typed HO354.out) (by decide)) BK332.out (by decide)) BK333.out (by decide)) BK357.out (by decide))); (case side4 => exact Kd.S_V (Kd.S_types (Kd.S_types (Kd.S_types (Kd.S_apart' (Kd.S_apart' (HO351.out) (Kd.S_typed HO348.out) (by decide)) (Kd.S_typed HO354.out) (by decide)) BK332.out (by decide)) BK333.out (by decide)) BK357.out (by decide))); (case side5 => exact Kd.S_V (Kd.S_types (Kd.S_types (Kd.S_types (Kd.S_apart' (Kd.S_apart' (HO354.out) (Kd.S_typed HO348.out) (by decide)) (Kd.S_typed HO351.out) (by decide)) BK332.out (by decide)) BK333.out (by decide)) BK357.out (by decide))); rintro e w55 ⟨rfl, hb⟩; have n0_ := Aside0.mk (Kd.R_below (by (with_reducible repeat (first | apply Kd.R_alloc | apply Kd.R_drewN | apply Kd.R_drew)); exact HO342.out) hb); have n1_ := Aside0.mk (Kd.R_below (by (with_reducible repeat (first | apply Kd.R_alloc | apply Kd.R_drewN | apply Kd.R_drew)); exact HO345.out) hb); have n2_ := Aside0.mk (Kd.S_below (by (with_reducible repeat (first | apply Kd.S_alloc | apply Kd.S_drewN | apply Kd.S_drew)); exact HO348.out) hb); have n3_ := Aside0.mk (Kd.S_below (by (with_reducible repeat (first | apply Kd.S_alloc | apply Kd.S_drewN | apply Kd.S_drew)); exact HO351.out) hb); have n4_ := Aside0.mk (Kd.S_below (by (with_reducible repeat (first | apply Kd.S_alloc | apply Kd.S_drewN | apply Kd.S_drew)); exact HO354.out) hb); have n5_ := Aside0.mk (blk_below (g := gb332) (o := .cells #[.int .i64 a0_0, .bool a0_1, .slice A0_2 l0_2.length c0_2, .slice A0_3 l0_3.length c0_3, .slice A0_4 l0_4.length c0_4, .slice A0_5 l0_5.length c0_5, .slice A0_6 l0_6.length c0_6] 27 (0, 0)) (by (with_reducible repeat (first | refine blk_drewN ?_ _ | refine blk_drew ?_ | refine blk_alloc ?_ _)); exact BK332.out) hb); have n6_ := Aside0.mk (blk_below (g := gb333) (o := .cells #[.int .i64 a1_0, .bool a1_1, .slice A1_2 l1_2.length c1_2, .slice A1_3 l1_3.length c1_3, .slice A1_4 l1_4.length c1_4, .slice A1_5 l1_5.length c1_5, .slice A1_6 l1_6.length c1_6] 27 (0, 0)) (by (with_reducible repeat (first | refine blk_drewN ?_ _ | refine blk_drew ?_ | refine blk_alloc ?_ _)); exact BK333.out) hb); have n7_ := Aside0.mk (blk_below (g := gb357) (o := .cells #[.int .i64 t338, .bool t339, .slice Ao40 t340.length co40, .slice Ao41 t343.length co41, .slice Ao42 t346.length co42, .slice Ao43 t349.length co43, .slice Ao44 t352.length co44] 27 (0, 0)) (by (with_reducible repeat (first | refine blk_drewN ?_ _ | refine blk_drew ?_ | refine blk_alloc ?_ _)); exact BK357.out) hb); have n8_ := Aside0.mk (below_step (by repeat (first | (with_reducible first | exact HB.out | apply below_alloc | apply pw_below_drewN | apply below_drew1 | refine below_set ?_ GE332.out | refine below_set ?_ GE333.out | refine below_set ?_ GE357.out) | exact HB.out)) hb); clear HO342; clear HO345; clear HO348; clear HO351; clear HO354; clear BK332; clear BK333; clear BK357; clear HB; have HO342 := n0_; have HO345 := n1_; have HO348 := n2_; have HO351 := n3_; have HO354 := n4_; have BK332 := n5_; have BK333 := n6_; have BK357 := n7_; have HB := n8_; clear n0_ n1_ n2_ n3_ n4_ n5_ n6_ n7_ n8_; (try clear hb); (try clear hb2); (try clear hk); (try clear hi)))
        go_meet
        case rel => exact ⟨_, ((t359 != 0)), (by first | rfl | (simp; done) | (simp [*]; done)), H', ⟨by have := HJ3.out; first | omega | exact Nat.le_refl _⟩, ⟨by (with_reducible repeat (first | apply Kd.R_alloc | apply Kd.R_drewN | apply Kd.R_drew)); exact HO342.out⟩, ⟨by (with_reducible repeat (first | apply Kd.R_alloc | apply Kd.R_drewN | apply Kd.R_drew)); exact HO345.out⟩, ⟨by (with_reducible repeat (first | apply Kd.S_alloc | apply Kd.S_drewN | apply Kd.S_drew)); exact HO348.out⟩, ⟨by (with_reducible repeat (first | apply Kd.S_alloc | apply Kd.S_drewN | apply Kd.S_drew)); exact HO351.out⟩, ⟨by (with_reducible repeat (first | apply Kd.S_alloc | apply Kd.S_drewN | apply Kd.S_drew)); exact HO354.out⟩, ⟨by (with_reducible repeat (first | refine blk_drewN ?_ _ | refine blk_drew ?_ | refine blk_alloc ?_ _)); exact BK332.out⟩, ⟨by (with_reducible repeat (first | refine blk_drewN ?_ _ | refine blk_drew ?_ | refine blk_alloc ?_ _)); exact BK333.out⟩, ⟨by (with_reducible repeat (first | refine blk_drewN ?_ _ | refine blk_drew ?_ | refine blk_alloc ?_ _)); exact BK357.out⟩, ⟨by repeat (first | (with_reducible first | exact HB.out | apply below_alloc | apply pw_below_drewN | apply below_drew1 | refine below_set ?_ GE332.out | refine below_set ?_ GE333.out | refine below_set ?_ GE357.out) | exact HB.out)⟩⟩
       ·rw [if_neg c48] at H
        have c48b0 : (t356 == (a2.size : Int)) = false := beq_eq_false_iff_ne.mpr c48
        have c48b1 : (t356 != (a2.size : Int)) = true := bne_iff_ne.mpr c48
        have H' := Aside0.mk H
        clear H
        have hnb56 := NB357_332.out
        have hnc56 := NB332_357.out
        have hnb57 := NB357_333.out
        have hnc57 := NB333_357.out
        have hcz58_0 : w36.cell? ⟨gb357, 0, none⟩ = some (.int .i64 0) := (blk_cell BK357.out 0).trans rfl
        have hcz58_1 : w36.cell? ⟨gb357, 1, none⟩ = some (.bool false) := (blk_cell BK357.out 1).trans rfl
        have hcz58_2 : w36.cell? ⟨gb357, 2, none⟩ = some (.slice none 0 0) := (blk_cell BK357.out 2).trans rfl
        have hcz58_3 : w36.cell? ⟨gb357, 3, none⟩ = some (.slice none 0 0) := (blk_cell BK357.out 3).trans rfl
        have hcz58_4 : w36.cell? ⟨gb357, 4, none⟩ = some (.slice none 0 0) := (blk_cell BK357.out 4).trans rfl
        have hcz58_5 : w36.cell? ⟨gb357, 5, none⟩ = some (.slice none 0 0) := (blk_cell BK357.out 5).trans rfl
        have hcz58_6 : w36.cell? ⟨gb357, 6, none⟩ = some (.slice none 0 0) := (blk_cell BK357.out 6).trans rfl
        have hfz58_0 := blk_frozen BK357.out 0
        have hfz58_1 := blk_frozen BK357.out 1
        have hfz58_2 := blk_frozen BK357.out 2
        have hfz58_3 := blk_frozen BK357.out 3
        have hfz58_4 := blk_frozen BK357.out 4
        have hfz58_5 := blk_frozen BK357.out 5
        have hfz58_6 := blk_frozen BK357.out 6
        go_wp2_with (first | (go_at_call 13; (with_reducible refine (answer_Encode.calls t338 t339 _ _ t340 _ _ t343 _ _ t346 _ _ t349 _ _ t352 t358 _ ?side1 ?side2 ?side3 ?side4 ?side5 ?side6 ?side7 ?side8 ?side9 ?side10 A46.out).mono ?_); (case side1 => refine (Kd.R_reads' (e := 3) (base := w.heap.size) (ok := fun k_ => some k_ ≠ (.slice Ao41 t343.length co41 : Value).ownBlock) (n := t340.length) (c := co40) ?_).2.2; exact (by (with_reducible repeat (first | apply Kd.R_alloc | apply Kd.R_drewN | apply Kd.R_drew)); exact (Kd.R_mono (Kd.R_far (p := ⟨gb357, 6, none⟩) (Kd.R_far (p := ⟨gb357, 5, none⟩) (Kd.R_far (p := ⟨gb357, 4, none⟩) (Kd.R_far (p := ⟨gb357, 3, none⟩) (Kd.R_far (p := ⟨gb357, 2, none⟩) (Kd.R_far (p := ⟨gb357, 1, none⟩) (Kd.R_far (p := ⟨gb357, 0, none⟩) (Kd.R_types HO342.out BK357.out (by decide)) (fun _ hk => hk.2) (.int .i64 t338)) (fun _ hk => hk.2) (.bool t339)) (fun _ hk => hk.2) (.slice Ao40 t340.length co40)) (fun _ hk => hk.2) (.slice Ao41 t343.length co41)) (fun _ hk => hk.2) (.slice Ao42 t346.length co42)) (fun _ hk => hk.2) (.slice Ao43 t349.length co43)) (fun _ hk => hk.2) (.slice Ao44 t352.length co44)) (fun _ h_ => h_.1)))); (case side2 => exact (Kd.R_reads' HO342.out).2.1); (case side3 => refine (Kd.R_reads' (e := 3) (base := w.heap.size) (ok := fun k_ => some k_ ≠ (.slice Ao40 t340.length co40 : Value).ownBlock) (n := t343.length) (c := co41) ?_).2.2; exact (by (with_reducible repeat (first | apply Kd.R_alloc | apply Kd.R_drewN | apply Kd.R_drew)); exact (Kd.R_mono (Kd.R_far (p := ⟨gb357, 6, none⟩) (Kd.R_far (p := ⟨gb357, 5, none⟩) (Kd.R_far (p := ⟨gb357, 4, none⟩) (Kd.R_far (p := ⟨gb357, 3, none⟩) (Kd.R_far (p := ⟨gb357, 2, none⟩) (Kd.R_far (p := ⟨gb357, 1, none⟩) (Kd.R_far (p := ⟨gb357, 0, none⟩) (Kd.R_types HO345.out BK357.out (by decide)) (fun _ hk => hk.2) (.int .i64 t338)) (fun _ hk => hk.2) (.bool t339)) (fun _ hk => hk.2) (.slice Ao40 t340.length co40)) (fun _ hk => hk.2) (.slice Ao41 t343.length co41)) (fun _ hk => hk.2) (.slice Ao42 t346.length co42)) (fun _ hk => hk.2) (.slice Ao43 t349.length co43)) (fun _ hk => hk.2) (.slice Ao44 t352.length co44)) (fun _ h_ => h_.1)))); (case side4 => exact (Kd.R_reads' HO345.out).2.1); (case side5 => refine (Kd.S_reads' (e := 22) (base := w.heap.size) (ok := fun k_ => (some k_ ≠ (.slice Ao40 t340.length co40 : Value).ownBlock ∧ some k_ ≠ (.slice Ao41 t343.length co41 : Value).ownBlock)) (n := t346.length) (c := co42) ?_).2.2; exact (by (with_reducible repeat (first | apply Kd.S_alloc | apply Kd.S_drewN | apply Kd.S_drew)); exact (Kd.S_mono (Kd.S_far (p := ⟨gb357, 6, none⟩) (Kd.S_far (p := ⟨gb357, 5, none⟩) (Kd.S_far (p := ⟨gb357, 4, none⟩) (Kd.S_far (p := ⟨gb357, 3, none⟩) (Kd.S_far (p := ⟨gb357, 2, none⟩) (Kd.S_far (p := ⟨gb357, 1, none⟩) (Kd.S_far (p := ⟨gb357, 0, none⟩) (Kd.S_types HO348.out BK357.out (by decide)) (fun _ hk => hk.2) (.int .i64 t338)) (fun _ hk => hk.2) (.bool t339)) (fun _ hk => hk.2) (.slice Ao40 t340.length co40)) (fun _ hk => hk.2) (.slice Ao41 t343.length co41)) (fun _ hk => hk.2) (.slice Ao42 t346.length co42)) (fun _ hk => hk.2) (.slice Ao43 t349.length co43)) (fun _ hk => hk.2) (.slice Ao44 t352.length co44)) (fun _ h_ => h_.1)))); (case side6 => exact (Kd.S_reads' HO348.out).2.1); (case side7 => refine (Kd.S_reads' (e := 41) (base := w.heap.size) (ok := fun k_ => (some k_ ≠ (.slice Ao40 t340.length co40 : Value).ownBlock ∧ some k_ ≠ (.slice Ao41 t343.length co41 : Value).ownBlock)) (n := t349.length) (c := co43) ?_).2.2; exact (by (with_reducible repeat (first | apply Kd.S_alloc | apply Kd.S_drewN | apply Kd.S_drew)); exact (Kd.S_mono (Kd.S_far (p := ⟨gb357, 6, none⟩) (Kd.S_far (p := ⟨gb357, 5, none⟩) (Kd.S_far (p := ⟨gb357, 4, none⟩) (Kd.S_far (p := ⟨gb357, 3, none⟩) (Kd.S_far (p := ⟨gb357, 2, none⟩) (Kd.S_far (p := ⟨gb357, 1, none⟩) (Kd.S_far (p := ⟨gb357, 0, none⟩) (Kd.S_types HO351.out BK357.out (by decide)) (fun _ hk => hk.2) (.int .i64 t338)) (fun _ hk => hk.2) (.bool t339)) (fun _ hk => hk.2) (.slice Ao40 t340.length co40)) (fun _ hk => hk.2) (.slice Ao41 t343.length co41)) (fun _ hk => hk.2) (.slice Ao42 t346.length co42)) (fun _ hk => hk.2) (.slice Ao43 t349.length co43)) (fun _ hk => hk.2) (.slice Ao44 t352.length co44)) (fun _ h_ => h_.1)))); (case side8 => exact (Kd.S_reads' HO351.out).2.1); (case side9 => refine (Kd.S_reads' (e := 43) (base := w.heap.size) (ok := fun k_ => (some k_ ≠ (.slice Ao40 t340.length co40 : Value).ownBlock ∧ some k_ ≠ (.slice Ao41 t343.length co41 : Value).ownBlock)) (n := t352.length) (c := co44) ?_).2.2; exact (by (with_reducible repeat (first | apply Kd.S_alloc | apply Kd.S_drewN | apply Kd.S_drew)); exact (Kd.S_mono (Kd.S_far (p := ⟨gb357, 6, none⟩) (Kd.S_far (p := ⟨gb357, 5, none⟩) (Kd.S_far (p := ⟨gb357, 4, none⟩) (Kd.S_far (p := ⟨gb357, 3, none⟩) (Kd.S_far (p := ⟨gb357, 2, none⟩) (Kd.S_far (p := ⟨gb357, 1, none⟩) (Kd.S_far (p := ⟨gb357, 0, none⟩) (Kd.S_types HO354.out BK357.out (by decide)) (fun _ hk => hk.2) (.int .i64 t338)) (fun _ hk => hk.2) (.bool t339)) (fun _ hk => hk.2) (.slice Ao40 t340.length co40)) (fun _ hk => hk.2) (.slice Ao41 t343.length co41)) (fun _ hk => hk.2) (.slice Ao42 t346.length co42)) (fun _ hk => hk.2) (.slice Ao43 t349.length co43)) (fun _ hk => hk.2) (.slice Ao44 t352.length co44)) (fun _ h_ => h_.1)))); (case side10 => exact (Kd.S_reads' HO354.out).2.1); rintro e w59 ⟨rfl, hb⟩; have n0_ := Aside0.mk (Kd.R_below (by (with_reducible repeat (first | apply Kd.R_alloc | apply Kd.R_drewN | apply Kd.R_drew)); exact (Kd.R_mono (Kd.R_far (p := ⟨gb357, 6, none⟩) (Kd.R_far (p := ⟨gb357, 5, none⟩) (Kd.R_far (p := ⟨gb357, 4, none⟩) (Kd.R_far (p := ⟨gb357, 3, none⟩) (Kd.R_far (p := ⟨gb357, 2, none⟩) (Kd.R_far (p := ⟨gb357, 1, none⟩) (Kd.R_far (p := ⟨gb357, 0, none⟩) (Kd.R_types HO342.out BK357.out (by decide)) (fun _ hk => hk.2) (.int .i64 t338)) (fun _ hk => hk.2) (.bool t339)) (fun _ hk => hk.2) (.slice Ao40 t340.length co40)) (fun _ hk => hk.2) (.slice Ao41 t343.length co41)) (fun _ hk => hk.2) (.slice Ao42 t346.length co42)) (fun _ hk => hk.2) (.slice Ao43 t349.length co43)) (fun _ hk => hk.2) (.slice Ao44 t352.length co44)) (fun _ h_ => h_.1))) hb); have n1_ := Aside0.mk (Kd.R_below (by (with_reducible repeat (first | apply Kd.R_alloc | apply Kd.R_drewN | apply Kd.R_drew)); exact (Kd.R_mono (Kd.R_far (p := ⟨gb357, 6, none⟩) (Kd.R_far (p := ⟨gb357, 5, none⟩) (Kd.R_far (p := ⟨gb357, 4, none⟩) (Kd.R_far (p := ⟨gb357, 3, none⟩) (Kd.R_far (p := ⟨gb357, 2, none⟩) (Kd.R_far (p := ⟨gb357, 1, none⟩) (Kd.R_far (p := ⟨gb357, 0, none⟩) (Kd.R_types HO345.out BK357.out (by decide)) (fun _ hk => hk.2) (.int .i64 t338)) (fun _ hk => hk.2) (.bool t339)) (fun _ hk => hk.2) (.slice Ao40 t340.length co40)) (fun _ hk => hk.2) (.slice Ao41 t343.length co41)) (fun _ hk => hk.2) (.slice Ao42 t346.length co42)) (fun _ hk => hk.2) (.slice Ao43 t349.length co43)) (fun _ hk => hk.2) (.slice Ao44 t352.length co44)) (fun _ h_ => h_.1))) hb); have n2_ := Aside0.mk (Kd.S_below (by (with_reducible repeat (first | apply Kd.S_alloc | apply Kd.S_drewN | apply Kd.S_drew)); exact (Kd.S_mono (Kd.S_far (p := ⟨gb357, 6, none⟩) (Kd.S_far (p := ⟨gb357, 5, none⟩) (Kd.S_far (p := ⟨gb357, 4, none⟩) (Kd.S_far (p := ⟨gb357, 3, none⟩) (Kd.S_far (p := ⟨gb357, 2, none⟩) (Kd.S_far (p := ⟨gb357, 1, none⟩) (Kd.S_far (p := ⟨gb357, 0, none⟩) (Kd.S_types HO348.out BK357.out (by decide)) (fun _ hk => hk.2) (.int .i64 t338)) (fun _ hk => hk.2) (.bool t339)) (fun _ hk => hk.2) (.slice Ao40 t340.length co40)) (fun _ hk => hk.2) (.slice Ao41 t343.length co41)) (fun _ hk => hk.2) (.slice Ao42 t346.length co42)) (fun _ hk => hk.2) (.slice Ao43 t349.length co43)) (fun _ hk => hk.2) (.slice Ao44 t352.length co44)) (fun _ h_ => h_.1))) hb); have n3_ := Aside0.mk (Kd.S_below (by (with_reducible repeat (first | apply Kd.S_alloc | apply Kd.S_drewN | apply Kd.S_drew)); exact (Kd.S_mono (Kd.S_far (p := ⟨gb357, 6, none⟩) (Kd.S_far (p := ⟨gb357, 5, none⟩) (Kd.S_far (p := ⟨gb357, 4, none⟩) (Kd.S_far (p := ⟨gb357, 3, none⟩) (Kd.S_far (p := ⟨gb357, 2, none⟩) (Kd.S_far (p := ⟨gb357, 1, none⟩) (Kd.S_far (p := ⟨gb357, 0, none⟩) (Kd.S_types HO351.out BK357.out (by decide)) (fun _ hk => hk.2) (.int .i64 t338)) (fun _ hk => hk.2) (.bool t339)) (fun _ hk => hk.2) (.slice Ao40 t340.length co40)) (fun _ hk => hk.2) (.slice Ao41 t343.length co41)) (fun _ hk => hk.2) (.slice Ao42 t346.length co42)) (fun _ hk => hk.2) (.slice Ao43 t349.length co43)) (fun _ hk => hk.2) (.slice Ao44 t352.length co44)) (fun _ h_ => h_.1))) hb); have n4_ := Aside0.mk (Kd.S_below (by (with_reducible repeat (first | apply Kd.S_alloc | apply Kd.S_drewN | apply Kd.S_drew)); exact (Kd.S_mono (Kd.S_far (p := ⟨gb357, 6, none⟩) (Kd.S_far (p := ⟨gb357, 5, none⟩) (Kd.S_far (p := ⟨gb357, 4, none⟩) (Kd.S_far (p := ⟨gb357, 3, none⟩) (Kd.S_far (p := ⟨gb357, 2, none⟩) (Kd.S_far (p := ⟨gb357, 1, none⟩) (Kd.S_far (p := ⟨gb357, 0, none⟩) (Kd.S_types HO354.out BK357.out (by decide)) (fun _ hk => hk.2) (.int .i64 t338)) (fun _ hk => hk.2) (.bool t339)) (fun _ hk => hk.2) (.slice Ao40 t340.length co40)) (fun _ hk => hk.2) (.slice Ao41 t343.length co41)) (fun _ hk => hk.2) (.slice Ao42 t346.length co42)) (fun _ hk => hk.2) (.slice Ao43 t349.length co43)) (fun _ hk => hk.2) (.slice Ao44 t352.length co44)) (fun _ h_ => h_.1))) hb); have n5_ := Aside0.mk (blk_below (g := gb332) (o := .cells #[.int .i64 a0_0, .bool a0_1, .slice A0_2 l0_2.length c0_2, .slice A0_3 l0_3.length c0_3, .slice A0_4 l0_4.length c0_4, .slice A0_5 l0_5.length c0_5, .slice A0_6 l0_6.length c0_6] 27 (0, 0)) (by (with_reducible repeat (first | refine blk_drewN ?_ _ | refine blk_drew ?_ | refine blk_alloc ?_ _)); refine blk_far ?_ NB332_357.out _; (with_reducible repeat (first | refine blk_drewN ?_ _ | refine blk_drew ?_ | refine blk_alloc ?_ _)); refine blk_far ?_ NB332_357.out _; (with_reducible repeat (first | refine blk_drewN ?_ _ | refine blk_drew ?_ | refine blk_alloc ?_ _)); refine blk_far ?_ NB332_357.out _; (with_reducible repeat (first | refine blk_drewN ?_ _ | refine blk_drew ?_ | refine blk_alloc ?_ _)); refine blk_far ?_ NB332_357.out _; (with_reducible repeat (first | refine blk_drewN ?_ _ | refine blk_drew ?_ | refine blk_alloc ?_ _)); refine blk_far ?_ NB332_357.out _; (with_reducible repeat (first | refine blk_drewN ?_ _ | refine blk_drew ?_ | refine blk_alloc ?_ _)); refine blk_far ?_ NB332_357.out _; (with_reducible repeat (first | refine blk_drewN ?_ _ | refine blk_drew ?_ | refine blk_alloc ?_ _)); refine blk_far ?_ NB332_357.out _; (with_reducible repeat (first | refine blk_drewN ?_ _ | refine blk_drew ?_ | refine blk_alloc ?_ _)); exact BK332.out) hb); have n6_ := Aside0.mk (blk_below (g := gb333) (o := .cells #[.int .i64 a1_0, .bool a1_1, .slice A1_2 l1_2.length c1_2, .slice A1_3 l1_3.length c1_3, .slice A1_4 l1_4.length c1_4, .slice A1_5 l1_5.length c1_5, .slice A1_6 l1_6.length c1_6] 27 (0, 0)) (by (with_reducible repeat (first | refine blk_drewN ?_ _ | refine blk_drew ?_ | refine blk_alloc ?_ _)); refine blk_far ?_ NB333_357.out _; (with_reducible repeat (first | refine blk_drewN ?_ _ | refine blk_drew ?_ | refine blk_alloc ?_ _)); refine blk_far ?_ NB333_357.out _; (with_reducible repeat (first | refine blk_drewN ?_ _ | refine blk_drew ?_ | refine blk_alloc ?_ _)); refine blk_far ?_ NB333_357.out _; (with_reducible repeat (first | refine blk_drewN ?_ _ | refine blk_drew ?_ | refine blk_alloc ?_ _)); refine blk_far ?_ NB333_357.out _; (with_reducible repeat (first | refine blk_drewN ?_ _ | refine blk_drew ?_ | refine blk_alloc ?_ _)); refine blk_far ?_ NB333_357.out _; (with_reducible repeat (first | refine blk_drewN ?_ _ | refine blk_drew ?_ | refine blk_alloc ?_ _)); refine blk_far ?_ NB333_357.out _; (with_reducible repeat (first | refine blk_drewN ?_ _ | refine blk_drew ?_ | refine blk_alloc ?_ _)); refine blk_far ?_ NB333_357.out _; (with_reducible repeat (first | refine blk_drewN ?_ _ | refine blk_drew ?_ | refine blk_alloc ?_ _)); exact BK333.out) hb); have n7_ := Aside0.mk (blk_below (g := gb357) (o := .cells #[.int .i64 t338, .bool t339, .slice Ao40 t340.length co40, .slice Ao41 t343.length co41, .slice Ao42 t346.length co42, .slice Ao43 t349.length co43, .slice Ao44 t352.length co44] 27 (0, 0)) (by (with_reducible repeat (first | refine blk_drewN ?_ _ | refine blk_drew ?_ | refine blk_alloc ?_ _)); refine blk_put (cs := #[.int .i64 t338, .bool t339, .slice Ao40 t340.length co40, .slice Ao41 t343.length co41, .slice Ao42 t346.length co42, .slice Ao43 t349.length co43, .slice none 0 0]) ?_ 6 _ rfl; (with_reducible repeat (first | refine blk_drewN ?_ _ | refine blk_drew ?_ | refine blk_alloc ?_ _)); refine blk_put (cs := #[.int .i64 t338, .bool t339, .slice Ao40 t340.length co40, .slice Ao41 t343.length co41, .slice Ao42 t346.length co42, .slice none 0 0, .slice none 0 0]) ?_ 5 _ rfl; (with_reducible repeat (first | refine blk_drewN ?_ _ | refine blk_drew ?_ | refine blk_alloc ?_ _)); refine blk_put (cs := #[.int .i64 t338, .bool t339, .slice Ao40 t340.length co40, .slice Ao41 t343.length co41, .slice none 0 0, .slice none 0 0, .slice none 0 0]) ?_ 4 _ rfl; (with_reducible repeat (first | refine blk_drewN ?_ _ | refine blk_drew ?_ | refine blk_alloc ?_ _)); refine blk_put (cs := #[.int .i64 t338, .bool t339, .slice Ao40 t340.length co40, .slice none 0 0, .slice none 0 0, .slice none 0 0, .slice none 0 0]) ?_ 3 _ rfl; (with_reducible repeat (first | refine blk_drewN ?_ _ | refine blk_drew ?_ | refine blk_alloc ?_ _)); refine blk_put (cs := #[.int .i64 t338, .bool t339, .slice none 0 0, .slice none 0 0, .slice none 0 0, .slice none 0 0, .slice none 0 0]) ?_ 2 _ rfl; (with_reducible repeat (first | refine blk_drewN ?_ _ | refine blk_drew ?_ | refine blk_alloc ?_ _)); refine blk_put (cs := #[.int .i64 t338, .bool false, .slice none 0 0, .slice none 0 0, .slice none 0 0, .slice none 0 0, .slice none 0 0]) ?_ 1 _ rfl; (with_reducible repeat (first | refine blk_drewN ?_ _ | refine blk_drew ?_ | refine blk_alloc ?_ _)); refine blk_put (cs := #[.int .i64 0, .bool false, .slice none 0 0, .slice none 0 0, .slice none 0 0, .slice none 0 0, .slice none 0 0]) ?_ 0 _ rfl; (with_reducible repeat (first | refine blk_drewN ?_ _ | refine blk_drew ?_ | refine blk_alloc ?_ _)); exact BK357.out) hb); have n8_ := Aside0.mk (below_step (by repeat (first | (with_reducible first | exact HB.out | apply below_alloc | apply pw_below_drewN | apply below_drew1 | refine below_set ?_ GE332.out | refine below_set ?_ GE333.out | refine below_set ?_ GE357.out) | exact HB.out)) hb); clear HO342; clear HO345; clear HO348; clear HO351; clear HO354; clear BK332; clear BK333; clear BK357; clear HB; have HO342 := n0_; have HO345 := n1_; have HO348 := n2_; have HO351 := n3_; have HO354 := n4_; have BK332 := n5_; have BK333 := n6_; have BK357 := n7_; have HB := n8_; clear n0_ n1_ n2_ n3_ n4_ n5_ n6_ n7_ n8_; (try clear hb); (try clear hb2); (try clear hk); (try clear hi)))
        go_meet
        case rel => exact ⟨_, (true), (by first | rfl | (simp; done) | (simp [*]; done)), H', ⟨by have := HJ3.out; first | omega | exact Nat.le_refl _⟩, ⟨by (with_reducible repeat (first | apply Kd.R_alloc | apply Kd.R_drewN | apply Kd.R_drew)); exact HO342.out⟩, ⟨by (with_reducible repeat (first | apply Kd.R_alloc | apply Kd.R_drewN | apply Kd.R_drew)); exact HO345.out⟩, ⟨by (with_reducible repeat (first | apply Kd.S_alloc | apply Kd.S_drewN | apply Kd.S_drew)); exact HO348.out⟩, ⟨by (with_reducible repeat (first | apply Kd.S_alloc | apply Kd.S_drewN | apply Kd.S_drew)); exact HO351.out⟩, ⟨by (with_reducible repeat (first | apply Kd.S_alloc | apply Kd.S_drewN | apply Kd.S_drew)); exact HO354.out⟩, ⟨by (with_reducible repeat (first | refine blk_drewN ?_ _ | refine blk_drew ?_ | refine blk_alloc ?_ _)); exact BK332.out⟩, ⟨by (with_reducible repeat (first | refine blk_drewN ?_ _ | refine blk_drew ?_ | refine blk_alloc ?_ _)); exact BK333.out⟩, ⟨by (with_reducible repeat (first | refine blk_drewN ?_ _ | refine blk_drew ?_ | refine blk_alloc ?_ _)); exact BK357.out⟩, ⟨by repeat (first | (with_reducible first | exact HB.out | apply below_alloc | apply pw_below_drewN | apply below_drew1 | refine below_set ?_ GE332.out | refine below_set ?_ GE333.out | refine below_set ?_ GE357.out) | exact HB.out)⟩⟩
      ·rw [if_neg c47] at H
       have c47b0 : (t358.toList == a2.toList) = false := beq_eq_false_iff_ne.mpr c47
       have c47b1 : (t358.toList != a2.toList) = true := bne_iff_ne.mpr c47
       have H' := Aside0.mk H
       clear H
       have hnb60 := NB357_332.out
       have hnc60 := NB332_357.out
       have hnb61 := NB357_333.out
       have hnc61 := NB333_357.out
       have hcz62_0 : w36.cell? ⟨gb357, 0, none⟩ = some (.int .i64 0) := (blk_cell BK357.out 0).trans rfl
       have hcz62_1 : w36.cell? ⟨gb357, 1, none⟩ = some (.bool false) := (blk_cell BK357.out 1).trans rfl
       have hcz62_2 : w36.cell? ⟨gb357, 2, none⟩ = some (.slice none 0 0) := (blk_cell BK357.out 2).trans rfl
       have hcz62_3 : w36.cell? ⟨gb357, 3, none⟩ = some (.slice none 0 0) := (blk_cell BK357.out 3).trans rfl
       have hcz62_4 : w36.cell? ⟨gb357, 4, none⟩ = some (.slice none 0 0) := (blk_cell BK357.out 4).trans rfl
       have hcz62_5 : w36.cell? ⟨gb357, 5, none⟩ = some (.slice none 0 0) := (blk_cell BK357.out 5).trans rfl
       have hcz62_6 : w36.cell? ⟨gb357, 6, none⟩ = some (.slice none 0 0) := (blk_cell BK357.out 6).trans rfl
       have hfz62_0 := blk_frozen BK357.out 0
       have hfz62_1 := blk_frozen BK357.out 1
       have hfz62_2 := blk_frozen BK357.out 2
       have hfz62_3 := blk_frozen BK357.out 3
       have hfz62_4 := blk_frozen BK357.out 4
       have hfz62_5 := blk_frozen BK357.out 5
       have hfz62_6 := blk_frozen BK357.out 6
       go_wp2_with (first | (go_at_call 13; (with_reducible refine (answer_Encode.calls t338 t339 _ _ t340 _ _ t343 _ _ t346 _ _ t349 _ _ t352 t358 _ ?side1 ?side2 ?side3 ?side4 ?side5 ?side6 ?side7 ?side8 ?side9 ?side10 A46.out).mono ?_); (case side1 => refine (Kd.R_reads' (e := 3) (base := w.heap.size) (ok := fun k_ => some k_ ≠ (.slice Ao41 t343.length co41 : Value).ownBlock) (n := t340.length) (c := co40) ?_).2.2; exact (by (with_reducible repeat (first | apply Kd.R_alloc | apply Kd.R_drewN | apply Kd.R_drew)); exact (Kd.R_mono (Kd.R_far (p := ⟨gb357, 6, none⟩) (Kd.R_far (p := ⟨gb357, 5, none⟩) (Kd.R_far (p := ⟨gb357, 4, none⟩) (Kd.R_far (p := ⟨gb357, 3, none⟩) (Kd.R_far (p := ⟨gb357, 2, none⟩) (Kd.R_far (p := ⟨gb357, 1, none⟩) (Kd.R_far (p := ⟨gb357, 0, none⟩) (Kd.R_types HO342.out BK357.out (by decide)) (fun _ hk => hk.2) (.int .i64 t338)) (fun _ hk => hk.2) (.bool t339)) (fun _ hk => hk.2) (.slice Ao40 t340.length co40)) (fun _ hk => hk.2) (.slice Ao41 t343.length co41)) (fun _ hk => hk.2) (.slice Ao42 t346.length co42)) (fun _ hk => hk.2) (.slice Ao43 t349.length co43)) (fun _ hk => hk.2) (.slice Ao44 t352.length co44)) (fun _ h_ => h_.1)))); (case side2 => exact (Kd.R_reads' HO342.out).2.1); (case side3 => refine (Kd.R_reads' (e := 3) (base := w.heap.size) (ok := fun k_ => some k_ ≠ (.slice Ao40 t340.length co40 : Value).ownBlock) (n := t343.length) (c := co41) ?_).2.2; exact (by (with_reducible repeat (first | apply Kd.R_alloc | apply Kd.R_drewN | apply Kd.R_drew)); exact (Kd.R_mono (Kd.R_far (p := ⟨gb357, 6, none⟩) (Kd.R_far (p := ⟨gb357, 5, none⟩) (Kd.R_far (p := ⟨gb357, 4, none⟩) (Kd.R_far (p := ⟨gb357, 3, none⟩) (Kd.R_far (p := ⟨gb357, 2, none⟩) (Kd.R_far (p := ⟨gb357, 1, none⟩) (Kd.R_far (p := ⟨gb357, 0, none⟩) (Kd.R_types HO345.out BK357.out (by decide)) (fun _ hk => hk.2) (.int .i64 t338)) (fun _ hk => hk.2) (.bool t339)) (fun _ hk => hk.2) (.slice Ao40 t340.length co40)) (fun _ hk => hk.2) (.slice Ao41 t343.length co41)) (fun _ hk => hk.2) (.slice Ao42 t346.length co42)) (fun _ hk => hk.2) (.slice Ao43 t349.length co43)) (fun _ hk => hk.2) (.slice Ao44 t352.length co44)) (fun _ h_ => h_.1)))); (case side4 => exact (Kd.R_reads' HO345.out).2.1); (case side5 => refine (Kd.S_reads' (e := 22) (base := w.heap.size) (ok := fun k_ => (some k_ ≠ (.slice Ao40 t340.length co40 : Value).ownBlock ∧ some k_ ≠ (.slice Ao41 t343.length co41 : Value).ownBlock)) (n := t346.length) (c := co42) ?_).2.2; exact (by (with_reducible repeat (first | apply Kd.S_alloc | apply Kd.S_drewN | apply Kd.S_drew)); exact (Kd.S_mono (Kd.S_far (p := ⟨gb357, 6, none⟩) (Kd.S_far (p := ⟨gb357, 5, none⟩) (Kd.S_far (p := ⟨gb357, 4, none⟩) (Kd.S_far (p := ⟨gb357, 3, none⟩) (Kd.S_far (p := ⟨gb357, 2, none⟩) (Kd.S_far (p := ⟨gb357, 1, none⟩) (Kd.S_far (p := ⟨gb357, 0, none⟩) (Kd.S_types HO348.out BK357.out (by decide)) (fun _ hk => hk.2) (.int .i64 t338)) (fun _ hk => hk.2) (.bool t339)) (fun _ hk => hk.2) (.slice Ao40 t340.length co40)) (fun _ hk => hk.2) (.slice Ao41 t343.length co41)) (fun _ hk => hk.2) (.slice Ao42 t346.length co42)) (fun _ hk => hk.2) (.slice Ao43 t349.length co43)) (fun _ hk => hk.2) (.slice Ao44 t352.length co44)) (fun _ h_ => h_.1)))); (case side6 => exact (Kd.S_reads' HO348.out).2.1); (case side7 => refine (Kd.S_reads' (e := 41) (base := w.heap.size) (ok := fun k_ => (some k_ ≠ (.slice Ao40 t340.length co40 : Value).ownBlock ∧ some k_ ≠ (.slice Ao41 t343.length co41 : Value).ownBlock)) (n := t349.length) (c := co43) ?_).2.2; exact (by (with_reducible repeat (first | apply Kd.S_alloc | apply Kd.S_drewN | apply Kd.S_drew)); exact (Kd.S_mono (Kd.S_far (p := ⟨gb357, 6, none⟩) (Kd.S_far (p := ⟨gb357, 5, none⟩) (Kd.S_far (p := ⟨gb357, 4, none⟩) (Kd.S_far (p := ⟨gb357, 3, none⟩) (Kd.S_far (p := ⟨gb357, 2, none⟩) (Kd.S_far (p := ⟨gb357, 1, none⟩) (Kd.S_far (p := ⟨gb357, 0, none⟩) (Kd.S_types HO351.out BK357.out (by decide)) (fun _ hk => hk.2) (.int .i64 t338)) (fun _ hk => hk.2) (.bool t339)) (fun _ hk => hk.2) (.slice Ao40 t340.length co40)) (fun _ hk => hk.2) (.slice Ao41 t343.length co41)) (fun _ hk => hk.2) (.slice Ao42 t346.length co42)) (fun _ hk => hk.2) (.slice Ao43 t349.length co43)) (fun _ hk => hk.2) (.slice Ao44 t352.length co44)) (fun _ h_ => h_.1)))); (case side8 => exact (Kd.S_reads' HO351.out).2.1); (case side9 => refine (Kd.S_reads' (e := 43) (base := w.heap.size) (ok := fun k_ => (some k_ ≠ (.slice Ao40 t340.length co40 : Value).ownBlock ∧ some k_ ≠ (.slice Ao41 t343.length co41 : Value).ownBlock)) (n := t352.length) (c := co44) ?_).2.2; exact (by (with_reducible repeat (first | apply Kd.S_alloc | apply Kd.S_drewN | apply Kd.S_drew)); exact (Kd.S_mono (Kd.S_far (p := ⟨gb357, 6, none⟩) (Kd.S_far (p := ⟨gb357, 5, none⟩) (Kd.S_far (p := ⟨gb357, 4, none⟩) (Kd.S_far (p := ⟨gb357, 3, none⟩) (Kd.S_far (p := ⟨gb357, 2, none⟩) (Kd.S_far (p := ⟨gb357, 1, none⟩) (Kd.S_far (p := ⟨gb357, 0, none⟩) (Kd.S_types HO354.out BK357.out (by decide)) (fun _ hk => hk.2) (.int .i64 t338)) (fun _ hk => hk.2) (.bool t339)) (fun _ hk => hk.2) (.slice Ao40 t340.length co40)) (fun _ hk => hk.2) (.slice Ao41 t343.length co41)) (fun _ hk => hk.2) (.slice Ao42 t346.length co42)) (fun _ hk => hk.2) (.slice Ao43 t349.length co43)) (fun _ hk => hk.2) (.slice Ao44 t352.length co44)) (fun _ h_ => h_.1)))); (case side10 => exact (Kd.S_reads' HO354.out).2.1); rintro e w63 ⟨rfl, hb⟩; have n0_ := Aside0.mk (Kd.R_below (by (with_reducible repeat (first | apply Kd.R_alloc | apply Kd.R_drewN | apply Kd.R_drew)); exact (Kd.R_mono (Kd.R_far (p := ⟨gb357, 6, none⟩) (Kd.R_far (p := ⟨gb357, 5, none⟩) (Kd.R_far (p := ⟨gb357, 4, none⟩) (Kd.R_far (p := ⟨gb357, 3, none⟩) (Kd.R_far (p := ⟨gb357, 2, none⟩) (Kd.R_far (p := ⟨gb357, 1, none⟩) (Kd.R_far (p := ⟨gb357, 0, none⟩) (Kd.R_types HO342.out BK357.out (by decide)) (fun _ hk => hk.2) (.int .i64 t338)) (fun _ hk => hk.2) (.bool t339)) (fun _ hk => hk.2) (.slice Ao40 t340.length co40)) (fun _ hk => hk.2) (.slice Ao41 t343.length co41)) (fun _ hk => hk.2) (.slice Ao42 t346.length co42)) (fun _ hk => hk.2) (.slice Ao43 t349.length co43)) (fun _ hk => hk.2) (.slice Ao44 t352.length co44)) (fun _ h_ => h_.1))) hb); have n1_ := Aside0.mk (Kd.R_below (by (with_reducible repeat (first | apply Kd.R_alloc | apply Kd.R_drewN | apply Kd.R_drew)); exact (Kd.R_mono (Kd.R_far (p := ⟨gb357, 6, none⟩) (Kd.R_far (p := ⟨gb357, 5, none⟩) (Kd.R_far (p := ⟨gb357, 4, none⟩) (Kd.R_far (p := ⟨gb357, 3, none⟩) (Kd.R_far (p := ⟨gb357, 2, none⟩) (Kd.R_far (p := ⟨gb357, 1, none⟩) (Kd.R_far (p := ⟨gb357, 0, none⟩) (Kd.R_types HO345.out BK357.out (by decide)) (fun _ hk => hk.2) (.int .i64 t338)) (fun _ hk => hk.2) (.bool t339)) (fun _ hk => hk.2) (.slice Ao40 t340.length co40)) (fun _ hk => hk.2) (.slice Ao41 t343.length co41)) (fun _ hk => hk.2) (.slice Ao42 t346.length co42)) (fun _ hk => hk.2) (.slice Ao43 t349.length co43)) (fun _ hk => hk.2) (.slice Ao44 t352.length co44)) (fun _ h_ => h_.1))) hb); have n2_ := Aside0.mk (Kd.S_below (by (with_reducible repeat (first | apply Kd.S_alloc | apply Kd.S_drewN | apply Kd.S_drew)); exact (Kd.S_mono (Kd.S_far (p := ⟨gb357, 6, none⟩) (Kd.S_far (p := ⟨gb357, 5, none⟩) (Kd.S_far (p := ⟨gb357, 4, none⟩) (Kd.S_far (p := ⟨gb357, 3, none⟩) (Kd.S_far (p := ⟨gb357, 2, none⟩) (Kd.S_far (p := ⟨gb357, 1, none⟩) (Kd.S_far (p := ⟨gb357, 0, none⟩) (Kd.S_types HO348.out BK357.out (by decide)) (fun _ hk => hk.2) (.int .i64 t338)) (fun _ hk => hk.2) (.bool t339)) (fun _ hk => hk.2) (.slice Ao40 t340.length co40)) (fun _ hk => hk.2) (.slice Ao41 t343.length co41)) (fun _ hk => hk.2) (.slice Ao42 t346.length co42)) (fun _ hk => hk.2) (.slice Ao43 t349.length co43)) (fun _ hk => hk.2) (.slice Ao44 t352.length co44)) (fun _ h_ => h_.1))) hb); have n3_ := Aside0.mk (Kd.S_below (by (with_reducible repeat (first | apply Kd.S_alloc | apply Kd.S_drewN | apply Kd.S_drew)); exact (Kd.S_mono (Kd.S_far (p := ⟨gb357, 6, none⟩) (Kd.S_far (p := ⟨gb357, 5, none⟩) (Kd.S_far (p := ⟨gb357, 4, none⟩) (Kd.S_far (p := ⟨gb357, 3, none⟩) (Kd.S_far (p := ⟨gb357, 2, none⟩) (Kd.S_far (p := ⟨gb357, 1, none⟩) (Kd.S_far (p := ⟨gb357, 0, none⟩) (Kd.S_types HO351.out BK357.out (by decide)) (fun _ hk => hk.2) (.int .i64 t338)) (fun _ hk => hk.2) (.bool t339)) (fun _ hk => hk.2) (.slice Ao40 t340.length co40)) (fun _ hk => hk.2) (.slice Ao41 t343.length co41)) (fun _ hk => hk.2) (.slice Ao42 t346.length co42)) (fun _ hk => hk.2) (.slice Ao43 t349.length co43)) (fun _ hk => hk.2) (.slice Ao44 t352.length co44)) (fun _ h_ => h_.1))) hb); have n4_ := Aside0.mk (Kd.S_below (by (with_reducible repeat (first | apply Kd.S_alloc | apply Kd.S_drewN | apply Kd.S_drew)); exact (Kd.S_mono (Kd.S_far (p := ⟨gb357, 6, none⟩) (Kd.S_far (p := ⟨gb357, 5, none⟩) (Kd.S_far (p := ⟨gb357, 4, none⟩) (Kd.S_far (p := ⟨gb357, 3, none⟩) (Kd.S_far (p := ⟨gb357, 2, none⟩) (Kd.S_far (p := ⟨gb357, 1, none⟩) (Kd.S_far (p := ⟨gb357, 0, none⟩) (Kd.S_types HO354.out BK357.out (by decide)) (fun _ hk => hk.2) (.int .i64 t338)) (fun _ hk => hk.2) (.bool t339)) (fun _ hk => hk.2) (.slice Ao40 t340.length co40)) (fun _ hk => hk.2) (.slice Ao41 t343.length co41)) (fun _ hk => hk.2) (.slice Ao42 t346.length co42)) (fun _ hk => hk.2) (.slice Ao43 t349.length co43)) (fun _ hk => hk.2) (.slice Ao44 t352.length co44)) (fun _ h_ => h_.1))) hb); have n5_ := Aside0.mk (blk_below (g := gb332) (o := .cells #[.int .i64 a0_0, .bool a0_1, .slice A0_2 l0_2.length c0_2, .slice A0_3 l0_3.length c0_3, .slice A0_4 l0_4.length c0_4, .slice A0_5 l0_5.length c0_5, .slice A0_6 l0_6.length c0_6] 27 (0, 0)) (by (with_reducible repeat (first | refine blk_drewN ?_ _ | refine blk_drew ?_ | refine blk_alloc ?_ _)); refine blk_far ?_ NB332_357.out _; (with_reducible repeat (first | refine blk_drewN ?_ _ | refine blk_drew ?_ | refine blk_alloc ?_ _)); refine blk_far ?_ NB332_357.out _; (with_reducible repeat (first | refine blk_drewN ?_ _ | refine blk_drew ?_ | refine blk_alloc ?_ _)); refine blk_far ?_ NB332_357.out _; (with_reducible repeat (first | refine blk_drewN ?_ _ | refine blk_drew ?_ | refine blk_alloc ?_ _)); refine blk_far ?_ NB332_357.out _; (with_reducible repeat (first | refine blk_drewN ?_ _ | refine blk_drew ?_ | refine blk_alloc ?_ _)); refine blk_far ?_ NB332_357.out _; (with_reducible repeat (first | refine blk_drewN ?_ _ | refine blk_drew ?_ | refine blk_alloc ?_ _)); refine blk_far ?_ NB332_357.out _; (with_reducible repeat (first | refine blk_drewN ?_ _ | refine blk_drew ?_ | refine blk_alloc ?_ _)); refine blk_far ?_ NB332_357.out _; (with_reducible repeat (first | refine blk_drewN ?_ _ | refine blk_drew ?_ | refine blk_alloc ?_ _)); exact BK332.out) hb); have n6_ := Aside0.mk (blk_below (g := gb333) (o := .cells #[.int .i64 a1_0, .bool a1_1, .slice A1_2 l1_2.length c1_2, .slice A1_3 l1_3.length c1_3, .slice A1_4 l1_4.length c1_4, .slice A1_5 l1_5.length c1_5, .slice A1_6 l1_6.length c1_6] 27 (0, 0)) (by (with_reducible repeat (first | refine blk_drewN ?_ _ | refine blk_drew ?_ | refine blk_alloc ?_ _)); refine blk_far ?_ NB333_357.out _; (with_reducible repeat (first | refine blk_drewN ?_ _ | refine blk_drew ?_ | refine blk_alloc ?_ _)); refine blk_far ?_ NB333_357.out _; (with_reducible repeat (first | refine blk_drewN ?_ _ | refine blk_drew ?_ | refine blk_alloc ?_ _)); refine blk_far ?_ NB333_357.out _; (with_reducible repeat (first | refine blk_drewN ?_ _ | refine blk_drew ?_ | refine blk_alloc ?_ _)); refine blk_far ?_ NB333_357.out _; (with_reducible repeat (first | refine blk_drewN ?_ _ | refine blk_drew ?_ | refine blk_alloc ?_ _)); refine blk_far ?_ NB333_357.out _; (with_reducible repeat (first | refine blk_drewN ?_ _ | refine blk_drew ?_ | refine blk_alloc ?_ _)); refine blk_far ?_ NB333_357.out _; (with_reducible repeat (first | refine blk_drewN ?_ _ | refine blk_drew ?_ | refine blk_alloc ?_ _)); refine blk_far ?_ NB333_357.out _; (with_reducible repeat (first | refine blk_drewN ?_ _ | refine blk_drew ?_ | refine blk_alloc ?_ _)); exact BK333.out) hb); have n7_ := Aside0.mk (blk_below (g := gb357) (o := .cells #[.int .i64 t338, .bool t339, .slice Ao40 t340.length co40, .slice Ao41 t343.length co41, .slice Ao42 t346.length co42, .slice Ao43 t349.length co43, .slice Ao44 t352.length co44] 27 (0, 0)) (by (with_reducible repeat (first | refine blk_drewN ?_ _ | refine blk_drew ?_ | refine blk_alloc ?_ _)); refine blk_put (cs := #[.int .i64 t338, .bool t339, .slice Ao40 t340.length co40, .slice Ao41 t343.length co41, .slice Ao42 t346.length co42, .slice Ao43 t349.length co43, .slice none 0 0]) ?_ 6 _ rfl; (with_reducible repeat (first | refine blk_drewN ?_ _ | refine blk_drew ?_ | refine blk_alloc ?_ _)); refine blk_put (cs := #[.int .i64 t338, .bool t339, .slice Ao40 t340.length co40, .slice Ao41 t343.length co41, .slice Ao42 t346.length co42, .slice none 0 0, .slice none 0 0]) ?_ 5 _ rfl; (with_reducible repeat (first | refine blk_drewN ?_ _ | refine blk_drew ?_ | refine blk_alloc ?_ _)); refine blk_put (cs := #[.int .i64 t338, .bool t339, .slice Ao40 t340.length co40, .slice Ao41 t343.length co41, .slice none 0 0, .slice none 0 0, .slice none 0 0]) ?_ 4 _ rfl; (with_reducible repeat (first | refine blk_drewN ?_ _ | refine blk_drew ?_ | refine blk_alloc ?_ _)); refine blk_put (cs := #[.int .i64 t338, .bool t339, .slice Ao40 t340.length co40, .slice none 0 0, .slice none 0 0, .slice none 0 0, .slice none 0 0]) ?_ 3 _ rfl; (with_reducible repeat (first | refine blk_drewN ?_ _ | refine blk_drew ?_ | refine blk_alloc ?_ _)); refine blk_put (cs := #[.int .i64 t338, .bool t339, .slice none 0 0, .slice none 0 0, .slice none 0 0, .slice none 0 0, .slice none 0 0]) ?_ 2 _ rfl; (with_reducible repeat (first | refine blk_drewN ?_ _ | refine blk_drew ?_ | refine blk_alloc ?_ _)); refine blk_put (cs := #[.int .i64 t338, .bool false, .slice none 0 0, .slice none 0 0, .slice none 0 0, .slice none 0 0, .slice none 0 0]) ?_ 1 _ rfl; (with_reducible repeat (first | refine blk_drewN ?_ _ | refine blk_drew ?_ | refine blk_alloc ?_ _)); refine blk_put (cs := #[.int .i64 0, .bool false, .slice none 0 0, .slice none 0 0, .slice none 0 0, .slice none 0 0, .slice none 0 0]) ?_ 0 _ rfl; (with_reducible repeat (first | refine blk_drewN ?_ _ | refine blk_drew ?_ | refine blk_alloc ?_ _)); exact BK357.out) hb); have n8_ := Aside0.mk (below_step (by repeat (first | (with_reducible first | exact HB.out | apply below_alloc | apply pw_below_drewN | apply below_drew1 | refine below_set ?_ GE332.out | refine below_set ?_ GE333.out | refine below_set ?_ GE357.out) | exact HB.out)) hb); clear HO342; clear HO345; clear HO348; clear HO351; clear HO354; clear BK332; clear BK333; clear BK357; clear HB; have HO342 := n0_; have HO345 := n1_; have HO348 := n2_; have HO351 := n3_; have HO354 := n4_; have BK332 := n5_; have BK333 := n6_; have BK357 := n7_; have HB := n8_; clear n0_ n1_ n2_ n3_ n4_ n5_ n6_ n7_ n8_; (try clear hb); (try clear hb2); (try clear hk); (try clear hi)))
       go_meet
       case rel => exact ⟨_, (true), (by first | rfl | (simp; done) | (simp [*]; done)), H', ⟨by have := HJ3.out; first | omega | exact Nat.le_refl _⟩, ⟨by (with_reducible repeat (first | apply Kd.R_alloc | apply Kd.R_drewN | apply Kd.R_drew)); exact HO342.out⟩, ⟨by (with_reducible repeat (first | apply Kd.R_alloc | apply Kd.R_drewN | apply Kd.R_drew)); exact HO345.out⟩, ⟨by (with_reducible repeat (first | apply Kd.S_alloc | apply Kd.S_drewN | apply Kd.S_drew)); exact HO348.out⟩, ⟨by (with_reducible repeat (first | apply Kd.S_alloc | apply Kd.S_drewN | apply Kd.S_drew)); exact HO351.out⟩, ⟨by (with_reducible repeat (first | apply Kd.S_alloc | apply Kd.S_drewN | apply Kd.S_drew)); exact HO354.out⟩, ⟨by (with_reducible repeat (first | refine blk_drewN ?_ _ | refine blk_drew ?_ | refine blk_alloc ?_ _)); exact BK332.out⟩, ⟨by (with_reducible repeat (first | refine blk_drewN ?_ _ | refine blk_drew ?_ | refine blk_alloc ?_ _)); exact BK333.out⟩, ⟨by (with_reducible repeat (first | refine blk_drewN ?_ _ | refine blk_drew ?_ | refine blk_alloc ?_ _)); exact BK357.out⟩, ⟨by repeat (first | (with_reducible first | exact HB.out | apply below_alloc | apply pw_below_drewN | apply below_drew1 | refine below_set ?_ GE332.out | refine below_set ?_ GE333.out | refine below_set ?_ GE357.out) | exact HB.out)⟩⟩
     ·rw [if_neg c45] at H
      have c45b0 : (t355 == 0) = false := beq_eq_false_iff_ne.mpr c45
      have c45b1 : (t355 != 0) = true := bne_iff_ne.mpr c45
      (first | rw [c45b0] | (simp only [i64_w, i32_w]; rw [c45b0]) | skip)
      have H' := Aside0.mk H
      clear H
      go_wp2
      go_meet
      case rel => exact ⟨_, (false), (by first | rfl | (simp; done) | (simp [*]; done)), H', ⟨by have := HJ3.out; first | omega | exact Nat.le_refl _⟩, ⟨by (with_reducible repeat (first | apply Kd.R_alloc | apply Kd.R_drewN | apply Kd.R_drew)); exact Kd.R_mono (Kd.R_far (p := ⟨gb357, 6, none⟩) (Kd.R_far (p := ⟨gb357, 5, none⟩) (Kd.R_far (p := ⟨gb357, 4, none⟩) (Kd.R_far (p := ⟨gb357, 3, none⟩) (Kd.R_far (p := ⟨gb357, 2, none⟩) (Kd.R_far (p := ⟨gb357, 1, none⟩) (Kd.R_far (p := ⟨gb357, 0, none⟩) (Kd.R_types HO342.out BK357.out (by decide)) (fun _ hk => hk.2) (.int .i64 t338)) (fun _ hk => hk.2) (.bool t339)) (fun _ hk => hk.2) (.slice Ao40 t340.length co40)) (fun _ hk => hk.2) (.slice Ao41 t343.length co41)) (fun _ hk => hk.2) (.slice Ao42 t346.length co42)) (fun _ hk => hk.2) (.slice Ao43 t349.length co43)) (fun _ hk => hk.2) (.slice Ao44 t352.length co44)) (fun _ hk => hk.1)⟩, ⟨by (with_reducible repeat (first | apply Kd.R_alloc | apply Kd.R_drewN | apply Kd.R_drew)); exact Kd.R_mono (Kd.R_far (p := ⟨gb357, 6, none⟩) (Kd.R_far (p := ⟨gb357, 5, none⟩) (Kd.R_far (p := ⟨gb357, 4, none⟩) (Kd.R_far (p := ⟨gb357, 3, none⟩) (Kd.R_far (p := ⟨gb357, 2, none⟩) (Kd.R_far (p := ⟨gb357, 1, none⟩) (Kd.R_far (p := ⟨gb357, 0, none⟩) (Kd.R_types HO345.out BK357.out (by decide)) (fun _ hk => hk.2) (.int .i64 t338)) (fun _ hk => hk.2) (.bool t339)) (fun _ hk => hk.2) (.slice Ao40 t340.length co40)) (fun _ hk => hk.2) (.slice Ao41 t343.length co41)) (fun _ hk => hk.2) (.slice Ao42 t346.length co42)) (fun _ hk => hk.2) (.slice Ao43 t349.length co43)) (fun _ hk => hk.2) (.slice Ao44 t352.length co44)) (fun _ hk => hk.1)⟩, ⟨by (with_reducible repeat (first | apply Kd.S_alloc | apply Kd.S_drewN | apply Kd.S_drew)); exact Kd.S_mono (Kd.S_far (p := ⟨gb357, 6, none⟩) (Kd.S_far (p := ⟨gb357, 5, none⟩) (Kd.S_far (p := ⟨gb357, 4, none⟩) (Kd.S_far (p := ⟨gb357, 3, none⟩) (Kd.S_far (p := ⟨gb357, 2, none⟩) (Kd.S_far (p := ⟨gb357, 1, none⟩) (Kd.S_far (p := ⟨gb357, 0, none⟩) (Kd.S_types HO348.out BK357.out (by decide)) (fun _ hk => hk.2) (.int .i64 t338)) (fun _ hk => hk.2) (.bool t339)) (fun _ hk => hk.2) (.slice Ao40 t340.length co40)) (fun _ hk => hk.2) (.slice Ao41 t343.length co41)) (fun _ hk => hk.2) (.slice Ao42 t346.length co42)) (fun _ hk => hk.2) (.slice Ao43 t349.length co43)) (fun _ hk => hk.2) (.slice Ao44 t352.length co44)) (fun _ hk => ⟨hk.1.1, hk.1.2⟩)⟩, ⟨by (with_reducible repeat (first | apply Kd.S_alloc | apply Kd.S_drewN | apply Kd.S_drew)); exact Kd.S_mono (Kd.S_far (p := ⟨gb357, 6, none⟩) (Kd.S_far (p := ⟨gb357, 5, none⟩) (Kd.S_far (p := ⟨gb357, 4, none⟩) (Kd.S_far (p := ⟨gb357, 3, none⟩) (Kd.S_far (p := ⟨gb357, 2, none⟩) (Kd.S_far (p := ⟨gb357, 1, none⟩) (Kd.S_far (p := ⟨gb357, 0, none⟩) (Kd.S_types HO351.out BK357.out (by decide)) (fun _ hk => hk.2) (.int .i64 t338)) (fun _ hk => hk.2) (.bool t339)) (fun _ hk => hk.2) (.slice Ao40 t340.length co40)) (fun _ hk => hk.2) (.slice Ao41 t343.length co41)) (fun _ hk => hk.2) (.slice Ao42 t346.length co42)) (fun _ hk => hk.2) (.slice Ao43 t349.length co43)) (fun _ hk => hk.2) (.slice Ao44 t352.length co44)) (fun _ hk => ⟨hk.1.1, hk.1.2⟩)⟩, ⟨by (with_reducible repeat (first | apply Kd.S_alloc | apply Kd.S_drewN | apply Kd.S_drew)); exact Kd.S_mono (Kd.S_far (p := ⟨gb357, 6, none⟩) (Kd.S_far (p := ⟨gb357, 5, none⟩) (Kd.S_far (p := ⟨gb357, 4, none⟩) (Kd.S_far (p := ⟨gb357, 3, none⟩) (Kd.S_far (p := ⟨gb357, 2, none⟩) (Kd.S_far (p := ⟨gb357, 1, none⟩) (Kd.S_far (p := ⟨gb357, 0, none⟩) (Kd.S_types HO354.out BK357.out (by decide)) (fun _ hk => hk.2) (.int .i64 t338)) (fun _ hk => hk.2) (.bool t339)) (fun _ hk => hk.2) (.slice Ao40 t340.length co40)) (fun _ hk => hk.2) (.slice Ao41 t343.length co41)) (fun _ hk => hk.2) (.slice Ao42 t346.length co42)) (fun _ hk => hk.2) (.slice Ao43 t349.length co43)) (fun _ hk => hk.2) (.slice Ao44 t352.length co44)) (fun _ hk => ⟨hk.1.1, hk.1.2⟩)⟩, ⟨by (with_reducible repeat (first | refine blk_drewN ?_ _ | refine blk_drew ?_ | refine blk_alloc ?_ _)); refine blk_far ?_ NB332_357.out _; (with_reducible repeat (first | refine blk_drewN ?_ _ | refine blk_drew ?_ | refine blk_alloc ?_ _)); refine blk_far ?_ NB332_357.out _; (with_reducible repeat (first | refine blk_drewN ?_ _ | refine blk_drew ?_ | refine blk_alloc ?_ _)); refine blk_far ?_ NB332_357.out _; (with_reducible repeat (first | refine blk_drewN ?_ _ | refine blk_drew ?_ | refine blk_alloc ?_ _)); refine blk_far ?_ NB332_357.out _; (with_reducible repeat (first | refine blk_drewN ?_ _ | refine blk_drew ?_ | refine blk_alloc ?_ _)); refine blk_far ?_ NB332_357.out _; (with_reducible repeat (first | refine blk_drewN ?_ _ | refine blk_drew ?_ | refine blk_alloc ?_ _)); refine blk_far ?_ NB332_357.out _; (with_reducible repeat (first | refine blk_drewN ?_ _ | refine blk_drew ?_ | refine blk_alloc ?_ _)); refine blk_far ?_ NB332_357.out _; (with_reducible repeat (first | refine blk_drewN ?_ _ | refine blk_drew ?_ | refine blk_alloc ?_ _)); exact BK332.out⟩, ⟨by (with_reducible repeat (first | refine blk_drewN ?_ _ | refine blk_drew ?_ | refine blk_alloc ?_ _)); refine blk_far ?_ NB333_357.out _; (with_reducible repeat (first | refine blk_drewN ?_ _ | refine blk_drew ?_ | refine blk_alloc ?_ _)); refine blk_far ?_ NB333_357.out _; (with_reducible repeat (first | refine blk_drewN ?_ _ | refine blk_drew ?_ | refine blk_alloc ?_ _)); refine blk_far ?_ NB333_357.out _; (with_reducible repeat (first | refine blk_drewN ?_ _ | refine blk_drew ?_ | refine blk_alloc ?_ _)); refine blk_far ?_ NB333_357.out _; (with_reducible repeat (first | refine blk_drewN ?_ _ | refine blk_drew ?_ | refine blk_alloc ?_ _)); refine blk_far ?_ NB333_357.out _; (with_reducible repeat (first | refine blk_drewN ?_ _ | refine blk_drew ?_ | refine blk_alloc ?_ _)); refine blk_far ?_ NB333_357.out _; (with_reducible repeat (first | refine blk_drewN ?_ _ | refine blk_drew ?_ | refine blk_alloc ?_ _)); refine blk_far ?_ NB333_357.out _; (with_reducible repeat (first | refine blk_drewN ?_ _ | refine blk_drew ?_ | refine blk_alloc ?_ _)); exact BK333.out⟩, ⟨by (with_reducible repeat (first | refine blk_drewN ?_ _ | refine blk_drew ?_ | refine blk_alloc ?_ _)); refine blk_put (cs := #[.int .i64 t338, .bool t339, .slice Ao40 t340.length co40, .slice Ao41 t343.length co41, .slice Ao42 t346.length co42, .slice Ao43 t349.length co43, .slice none 0 0]) ?_ 6 _ rfl; (with_reducible repeat (first | refine blk_drewN ?_ _ | refine blk_drew ?_ | refine blk_alloc ?_ _)); refine blk_put (cs := #[.int .i64 t338, .bool t339, .slice Ao40 t340.length co40, .slice Ao41 t343.length co41, .slice Ao42 t346.length co42, .slice none 0 0, .slice none 0 0]) ?_ 5 _ rfl; (with_reducible repeat (first | refine blk_drewN ?_ _ | refine blk_drew ?_ | refine blk_alloc ?_ _)); refine blk_put (cs := #[.int .i64 t338, .bool t339, .slice Ao40 t340.length co40, .slice Ao41 t343.length co41, .slice none 0 0, .slice none 0 0, .slice none 0 0]) ?_ 4 _ rfl; (with_reducible repeat (first | refine blk_drewN ?_ _ | refine blk_drew ?_ | refine blk_alloc ?_ _)); refine blk_put (cs := #[.int .i64 t338, .bool t339, .slice Ao40 t340.length co40, .slice none 0 0, .slice none 0 0, .slice none 0 0, .slice none 0 0]) ?_ 3 _ rfl; (with_reducible repeat (first | refine blk_drewN ?_ _ | refine blk_drew ?_ | refine blk_alloc ?_ _)); refine blk_put (cs := #[.int .i64 t338, .bool t339, .slice none 0 0, .slice none 0 0, .slice none 0 0, .slice none 0 0, .slice none 0 0]) ?_ 2 _ rfl; (with_reducible repeat (first | refine blk_drewN ?_ _ | refine blk_drew ?_ | refine blk_alloc ?_ _)); refine blk_put (cs := #[.int .i64 t338, .bool false, .slice none 0 0, .slice none 0 0, .slice none 0 0, .slice none 0 0, .slice none 0 0]) ?_ 1 _ rfl; (with_reducible repeat (first | refine blk_drewN ?_ _ | refine blk_drew ?_ | refine blk_alloc ?_ _)); refine blk_put (cs := #[.int .i64 0, .bool false, .slice none 0 0, .slice none 0 0, .slice none 0 0, .slice none 0 0, .slice none 0 0]) ?_ 0 _ rfl; (with_reducible repeat (first | refine blk_drewN ?_ _ | refine blk_drew ?_ | refine blk_alloc ?_ _)); exact BK357.out⟩, ⟨by repeat (first | (with_reducible first | exact HB.out | apply below_alloc | apply pw_below_drewN | apply below_drew1 | refine below_set ?_ GE332.out | refine below_set ?_ GE333.out | refine below_set ?_ GE357.out) | exact HB.out)⟩⟩
    case rest =>
     clear HC34
     try clear c1
     try clear c2
     try clear p2
     try clear c3
     try clear c4
     try clear c5
     try clear c6
     try clear c8
     try clear c9
     try clear c10
     try clear c12
     try clear c14
     try clear c20
     try clear c26
     try clear c30
     try clear c37
     try clear c38
     try clear c45
     try clear c45b0
     try clear c45b1
     try clear c47
     try clear c47b0
     try clear c47b1
     try clear c48
     try clear c48b0
     try clear c48b1
     try clear c50
     try clear c51
     try clear c56
     try clear c57
     try clear c60
     try clear c61
     try clear hcz15_0
     try clear hcz15_1
     try clear hcz15_2
     try clear hcz15_3
     try clear hcz15_4
     try clear hcz15_5
     try clear hcz15_6
     try clear hcz17_0
     try clear hcz17_1
     try clear hcz17_2
     try clear hcz17_3
     try clear hcz17_4
     try clear hcz17_5
     try clear hcz17_6
     try clear hcz21_0
     try clear hcz21_1
     try clear hcz21_2
     try clear hcz21_3
     try clear hcz21_4
     try clear hcz21_5
     try clear hcz21_6
     try clear hcz23_0
     try clear hcz23_1
     try clear hcz23_2
     try clear hcz23_3
     try clear hcz23_4
     try clear hcz23_5
     try clear hcz23_6
     try clear hcz27_0
     try clear hcz27_1
     try clear hcz27_2
     try clear hcz27_3
     try clear hcz27_4
     try clear hcz27_5
     try clear hcz27_6
     try clear hcz39_0
     try clear hcz39_1
     try clear hcz39_2
     try clear hcz39_3
     try clear hcz39_4
     try clear hcz39_5
     try clear hcz39_6
     try clear hcz52_0
     try clear hcz52_1
     try clear hcz52_2
     try clear hcz52_3
     try clear hcz52_4
     try clear hcz52_5
     try clear hcz52_6
     try clear hcz54_0
     try clear hcz54_1
     try clear hcz54_2
     try clear hcz54_3
     try clear hcz54_4
     try clear hcz54_5
     try clear hcz54_6
     try clear hcz58_0
     try clear hcz58_1
     try clear hcz58_2
     try clear hcz58_3
     try clear hcz58_4
     try clear hcz58_5
     try clear hcz58_6
     try clear hcz62_0
     try clear hcz62_1
     try clear hcz62_2
     try clear hcz62_3
     try clear hcz62_4
     try clear hcz62_5
     try clear hcz62_6
     try clear hfz15_0
     try clear hfz15_1
     try clear hfz15_2
     try clear hfz15_3
     try clear hfz15_4
     try clear hfz15_5
     try clear hfz15_6
     try clear hfz17_0
     try clear hfz17_1
     try clear hfz17_2
     try clear hfz17_3
     try clear hfz17_4
     try clear hfz17_5
     try clear hfz17_6
     try clear hfz21_0
     try clear hfz21_1
     try clear hfz21_2
     try clear hfz21_3
     try clear hfz21_4
     try clear hfz21_5
     try clear hfz21_6
     try clear hfz23_0
     try clear hfz23_1
     try clear hfz23_2
     try clear hfz23_3
     try clear hfz23_4
     try clear hfz23_5
     try clear hfz23_6
     try clear hfz27_0
     try clear hfz27_1
     try clear hfz27_2
     try clear hfz27_3
     try clear hfz27_4
     try clear hfz27_5
     try clear hfz27_6
     try clear hfz39_0
     try clear hfz39_1
     try clear hfz39_2
     try clear hfz39_3
     try clear hfz39_4
     try clear hfz39_5
     try clear hfz39_6
     try clear hfz52_0
     try clear hfz52_1
     try clear hfz52_2
     try clear hfz52_3
     try clear hfz52_4
     try clear hfz52_5
     try clear hfz52_6
     try clear hfz54_0
     try clear hfz54_1
     try clear hfz54_2
     try clear hfz54_3
     try clear hfz54_4
     try clear hfz54_5
     try clear hfz54_6
     try clear hfz58_0
     try clear hfz58_1
     try clear hfz58_2
     try clear hfz58_3
     try clear hfz58_4
     try clear hfz58_5
     try clear hfz58_6
     try clear hfz62_0
     try clear hfz62_1
     try clear hfz62_2
     try clear hfz62_3
     try clear hfz62_4
     try clear hfz62_5
     try clear hfz62_6
     try clear p2
     obtain ⟨kq, x57_33, rfl, HA, HJ33, HO_358002, HO_358003, HO_358004, HO_358005, HO_358006, BK332, BK333, BK357, HB⟩ := hcut
     cases kq with
     | zero => exact absurd HA.out (by simp [greenwoodlaw23_AnswerBack.j1])
     | succ kj33 =>
      have H := HA.out
      clear HA
      simp only [greenwoodlaw23_AnswerBack.j1] at H
      by_cases c64 : x57_33 = true
      ·subst c64
       have H1 : (some false) = some r := by rw [if_pos rfl] at H; exact H
       clear H
       have H := H1
       clear H1
       exact absurd ((Option.some.inj H).trans hrT) (by decide)
      ·replace c64 := Bool.eq_false_iff.mpr c64
       subst c64
       have H1 : ((answer_Encode.f a0_0 a0_1 l0_2 l0_3 l0_4 l0_5 l0_6).bind fun t360 => ((answer_Encode.f a1_0 a1_1 l1_2 l1_3 l1_4 l1_5 l1_6).bind fun t361 => (if t360.toList = ([] : List UInt8) then (greenwoodlaw23_AnswerBack.j2 kj33 t360 t361 true a0_0 a0_1 l0_2 l0_3 l0_4 l0_5 l0_6 a1_0 a1_1 l1_2 l1_3 l1_4 l1_5 l1_6) else (greenwoodlaw23_AnswerBack.j2 kj33 t360 t361 (t361.toList == ([] : List UInt8)) a0_0 a0_1 l0_2 l0_3 l0_4 l0_5 l0_6 a1_0 a1_1 l1_2 l1_3 l1_4 l1_5 l1_6)))) = some r := by rw [if_neg (show ¬ (false = true) by decide)] at H; exact H
       clear H
       have H := H1
       clear H1
       replace H := Option.bind_eq_some_iff.mp H
       obtain ⟨t360, A650, H⟩ := H
       replace H : ((answer_Encode.f a1_0 a1_1 l1_2 l1_3 l1_4 l1_5 l1_6).bind fun t361 => (if t360.toList = ([] : List UInt8) then (greenwoodlaw23_AnswerBack.j2 kj33 t360 t361 true a0_0 a0_1 l0_2 l0_3 l0_4 l0_5 l0_6 a1_0 a1_1 l1_2 l1_3 l1_4 l1_5 l1_6) else (greenwoodlaw23_AnswerBack.j2 kj33 t360 t361 (t361.toList == ([] : List UInt8)) a0_0 a0_1 l0_2 l0_3 l0_4 l0_5 l0_6 a1_0 a1_1 l1_2 l1_3 l1_4 l1_5 l1_6))) = some r := H
       have A65 := Aside0.mk A650
       clear A650
       replace H := Option.bind_eq_some_iff.mp H
       obtain ⟨t361, A660, H⟩ := H
       replace H : (if t360.toList = ([] : List UInt8) then (greenwoodlaw23_AnswerBack.j2 kj33 t360 t361 true a0_0 a0_1 l0_2 l0_3 l0_4 l0_5 l0_6 a1_0 a1_1 l1_2 l1_3 l1_4 l1_5 l1_6) else (greenwoodlaw23_AnswerBack.j2 kj33 t360 t361 (t361.toList == ([] : List UInt8)) a0_0 a0_1 l0_2 l0_3 l0_4 l0_5 l0_6 a1_0 a1_1 l1_2 l1_3 l1_4 l1_5 l1_6)) = some r := H
       have A66 := Aside0.mk A660
       clear A660
       have HC67 := Aside0.mk H
       clear H
       try go_wp2
       have n0_ := Aside0.mk (Kd.R_drew HO_358002.out)
       have n1_ := Aside0.mk (Kd.R_drew HO_358003.out)
       have n2_ := Aside0.mk (Kd.S_drew HO_358004.out)
       have n3_ := Aside0.mk (Kd.S_drew HO_358005.out)
       have n4_ := Aside0.mk (Kd.S_drew HO_358006.out)
       have n5_ := Aside0.mk (blk_drew BK332.out)
       have n6_ := Aside0.mk (blk_drew BK333.out)
       have n7_ := Aside0.mk (blk_drew BK357.out)
       have n8_ := Aside0.mk (below_drew1 HB.out)
       clear HO_358002
       clear HO_358003
       clear HO_358004
       clear HO_358005
       clear HO_358006
       clear BK332
       clear BK333
       clear BK357
       clear HB
       have HO_358002 := n0_
       have HO_358003 := n1_
       have HO_358004 := n2_
       have HO_358005 := n3_
       have HO_358006 := n4_
       have BK332 := n5_
       have BK333 := n6_
       have BK357 := n7_
       have HB := n8_
       clear n0_ n1_ n2_ n3_ n4_ n5_ n6_ n7_ n8_
       refine start_ (n := 6) (S := fun w' => w'.cell? ⟨gb332, 0, none⟩ = some (.int .i64 a0_0) ∧ w'.cell? ⟨gb332, 1, none⟩ = some (.bool a0_1) ∧ w'.cell? ⟨gb332, 2, none⟩ = some (.slice A0_2 l0_2.length c0_2) ∧ w'.cell? ⟨gb332, 3, none⟩ = some (.slice A0_3 l0_3.length c0_3) ∧ w'.cell? ⟨gb332, 4, none⟩ = some (.slice A0_4 l0_4.length c0_4) ∧ w'.cell? ⟨gb332, 5, none⟩ = some (.slice A0_5 l0_5.length c0_5) ∧ w'.cell? ⟨gb332, 6, none⟩ = some (.slice A0_6 l0_6.length c0_6) ∧ w'.cell? ⟨gb333, 0, none⟩ = some (.int .i64 a1_0) ∧ w'.cell? ⟨gb333, 1, none⟩ = some (.bool a1_1) ∧ w'.cell? ⟨gb333, 2, none⟩ = some (.slice A1_2 l1_2.length c1_2) ∧ w'.cell? ⟨gb333, 3, none⟩ = some (.slice A1_3 l1_3.length c1_3) ∧ w'.cell? ⟨gb333, 4, none⟩ = some (.slice A1_4 l1_4.length c1_4) ∧ w'.cell? ⟨gb333, 5, none⟩ = some (.slice A1_5 l1_5.length c1_5) ∧ w'.cell? ⟨gb333, 6, none⟩ = some (.slice A1_6 l1_6.length c1_6)) (ds := []) #[false, false, false, false, false, false] (by kernel_rfl) rfl rfl ⟨(blk_cell BK332.out 0).trans rfl, (blk_cell BK332.out 1).trans rfl, (blk_cell BK332.out 2).trans rfl, (blk_cell BK332.out 3).trans rfl, (blk_cell BK332.out 4).trans rfl, (blk_cell BK332.out 5).trans rfl, (blk_cell BK332.out 6).trans rfl, (blk_cell BK333.out 0).trans rfl, (blk_cell BK333.out 1).trans rfl, (blk_cell BK333.out 2).trans rfl, (blk_cell BK333.out 3).trans rfl, (blk_cell BK333.out 4).trans rfl, (blk_cell BK333.out 5).trans rfl, (blk_cell BK333.out 6).trans rfl⟩ (fun hHeld => ?_)
       generalize wc.drew = w68 at HO_358002 HO_358003 HO_358004 HO_358005 HO_358006 BK332 BK333 BK357 HB hHeld ⊢
       refine take_ (i := 0) (N := some 58) (v := ?_) (a' := ?_) #[true, false, false, false, false, false] rfl rfl (by kernel_rfl) (fun _ _ _ h => h) (Or.inl ⟨by rfl, ?_⟩) hHeld ?_ ?_
       rotate_left
       ·rintro w' ⟨s0, s1, s2, s3, s4, s5, s6, s7, s8, s9, s10, s11, s12, s13⟩
        go_simp
        with_reducible rfl
       rotate_left
       ·simp only [Act.put, List.setIfInBounds_toArray, List.set_cons_zero, List.set_cons_succ, i64_w, i32_w]
        rfl
       refine take_ (i := 2) (N := some 60) (v := ?_) (a' := ?_) #[true, false, true, false, false, false] rfl rfl (by kernel_rfl) (fun _ _ _ h => h) (Or.inl ⟨by rfl, ?_⟩) hHeld ?_ ?_
       rotate_left
       ·rintro w' ⟨s0, s1, s2, s3, s4, s5, s6, s7, s8, s9, s10, s11, s12, s13⟩
        go_simp
        with_reducible rfl
       rotate_left
       ·simp only [Act.put, List.setIfInBounds_toArray, List.set_cons_zero, List.set_cons_succ, i64_w, i32_w]
        rfl
       refine one_ (i := 1) (N := some 59) #[true, true, true, false, false, false] rfl rfl (by kernel_rfl) (by decide) (fun K hK => ?_)
       refine goes_ Tryd.func13 (by kernel_rfl) rfl #[.agg #[.int .i64 a0_0, .bool a0_1, .slice A0_2 l0_2.length c0_2, .slice A0_3 l0_3.length c0_3, .slice A0_4 l0_4.length c0_4, .slice A0_5 l0_5.length c0_5, .slice A0_6 l0_6.length c0_6]] (by rfl) rfl rfl (by (try simp only [List.map_toArray, List.map_cons, List.map_nil]); first | done | rfl | (simp only [List.length_drop, List.length_take]; rfl)) ?_
       with_reducible refine (answer_Encode.calls a0_0 a0_1 _ _ l0_2 _ _ l0_3 _ _ l0_4 _ _ l0_5 _ _ l0_6 t360 _ ?side1 ?side2 ?side3 ?side4 ?side5 ?side6 ?side7 ?side8 ?side9 ?side10 A65.out).mono ?_
       (case side1 => repeat (first | exact (Kd.C_below HR0_2.out HB.out) | (with_reducible refine Kd.C_alloc ?_ _) | (with_reducible refine Kd.C_drewN ?_ _) | (with_reducible refine Kd.C_drew ?_)))
       (case side2 => exact HC0_2.out)
       (case side3 => repeat (first | exact (Kd.C_below HR0_3.out HB.out) | (with_reducible refine Kd.C_alloc ?_ _) | (with_reducible refine Kd.C_drewN ?_ _) | (with_reducible refine Kd.C_drew ?_)))
       (case side4 => exact HC0_3.out)
       (case side5 => repeat (first | exact (Kd.C_below HR0_4.out HB.out) | (with_reducible refine Kd.C_alloc ?_ _) | (with_reducible refine Kd.C_drewN ?_ _) | (with_reducible refine Kd.C_drew ?_)))
       (case side6 => exact HC0_4.out)
       (case side7 => repeat (first | exact (Kd.C_below HR0_5.out HB.out) | (with_reducible refine Kd.C_alloc ?_ _) | (with_reducible refine Kd.C_drewN ?_ _) | (with_reducible refine Kd.C_drew ?_)))
       (case side8 => exact HC0_5.out)
       (case side9 => repeat (first | exact (Kd.C_below HR0_6.out HB.out) | (with_reducible refine Kd.C_alloc ?_ _) | (with_reducible refine Kd.C_drewN ?_ _) | (with_reducible refine Kd.C_drew ?_)))
       (case side10 => exact HC0_6.out)
       rintro e w69 ⟨rfl, hb⟩
       refine ⟨_, rfl, ?_⟩
       have n0_ := Aside0.mk (Kd.R_below (by (with_reducible repeat (first | apply Kd.R_alloc | apply Kd.R_drewN | apply Kd.R_drew)); exact HO_358002.out) hb)
       have n1_ := Aside0.mk (Kd.R_below (by (with_reducible repeat (first | apply Kd.R_alloc | apply Kd.R_drewN | apply Kd.R_drew)); exact HO_358003.out) hb)
       have n2_ := Aside0.mk (Kd.S_below (by (with_reducible repeat (first | apply Kd.S_alloc | apply Kd.S_drewN | apply Kd.S_drew)); exact HO_358004.out) hb)
       have n3_ := Aside0.mk (Kd.S_below (by (with_reducible repeat (first | apply Kd.S_alloc | apply Kd.S_drewN | apply Kd.S_drew)); exact HO_358005.out) hb)
       have n4_ := Aside0.mk (Kd.S_below (by (with_reducible repeat (first | apply Kd.S_alloc | apply Kd.S_drewN | apply Kd.S_drew)); exact HO_358006.out) hb)
       have n5_ := Aside0.mk (blk_below (g := gb332) (o := .cells #[.int .i64 a0_0, .bool a0_1, .slice A0_2 l0_2.length c0_2, .slice A0_3 l0_3.length c0_3, .slice A0_4 l0_4.length c0_4, .slice A0_5 l0_5.length c0_5, .slice A0_6 l0_6.length c0_6] 27 (0, 0)) (by (with_reducible repeat (first | refine blk_drewN ?_ _ | refine blk_drew ?_ | refine blk_alloc ?_ _)); exact BK332.out) hb)
       have n6_ := Aside0.mk (blk_below (g := gb333) (o := .cells #[.int .i64 a1_0, .bool a1_1, .slice A1_2 l1_2.length c1_2, .slice A1_3 l1_3.length c1_3, .slice A1_4 l1_4.length c1_4, .slice A1_5 l1_5.length c1_5, .slice A1_6 l1_6.length c1_6] 27 (0, 0)) (by (with_reducible repeat (first | refine blk_drewN ?_ _ | refine blk_drew ?_ | refine blk_alloc ?_ _)); exact BK333.out) hb)
       have n7_ := Aside0.mk (blk_below (g := gb357) (o := .cells #[.int .i64 t338, .bool t339, .slice Ao40 t340.length co40, .slice Ao41 t343.length co41, .slice Ao42 t346.length co42, .slice Ao43 t349.length co43, .slice Ao44 t352.length co44] 27 (0, 0)) (by (with_reducible repeat (first | refine blk_drewN ?_ _ | refine blk_drew ?_ | refine blk_alloc ?_ _)); exact BK357.out) hb)
       have n8_ := Aside0.mk (below_step (by repeat (first | (with_reducible first | exact HB.out | apply below_alloc | apply pw_below_drewN | apply below_drew1 | refine below_set ?_ GE332.out | refine below_set ?_ GE333.out | refine below_set ?_ GE357.out) | exact HB.out)) hb)
       clear HO_358002
       clear HO_358003
       clear HO_358004
       clear HO_358005
       clear HO_358006
       clear BK332
       clear BK333
       clear BK357
       clear HB
       have HO_358002 := n0_
       have HO_358003 := n1_
       have HO_358004 := n2_
       have HO_358005 := n3_
       have HO_358006 := n4_
       have BK332 := n5_
       have BK333 := n6_
       have BK357 := n7_
       have HB := n8_
       clear n0_ n1_ n2_ n3_ n4_ n5_ n6_ n7_ n8_
       (try clear hb)
       (try clear hb2)
       (try clear hk)
       (try clear hi)
       refine hK.out _ _ ⟨(blk_cell BK332.out 0).trans rfl, (blk_cell BK332.out 1).trans rfl, (blk_cell BK332.out 2).trans rfl, (blk_cell BK332.out 3).trans rfl, (blk_cell BK332.out 4).trans rfl, (blk_cell BK332.out 5).trans rfl, (blk_cell BK332.out 6).trans rfl, (blk_cell BK333.out 0).trans rfl, (blk_cell BK333.out 1).trans rfl, (blk_cell BK333.out 2).trans rfl, (blk_cell BK333.out 3).trans rfl, (blk_cell BK333.out 4).trans rfl, (blk_cell BK333.out 5).trans rfl, (blk_cell BK333.out 6).trans rfl⟩ (fun hHeld => ?_)
       clear hK K
       refine norm_ (a' := ?_) ?_ ?_
       rotate_left
       ·show Act.put _ (some 59) _ = _
        simp only [Act.put, List.setIfInBounds_toArray, List.set_cons_zero, List.set_cons_succ, i64_w, i32_w]
        rfl
       refine one_ (i := 3) (N := some 61) #[true, true, true, true, false, false] rfl rfl (by kernel_rfl) (by decide) (fun K hK => ?_)
       refine goes_ Tryd.func13 (by kernel_rfl) rfl #[.agg #[.int .i64 a1_0, .bool a1_1, .slice A1_2 l1_2.length c1_2, .slice A1_3 l1_3.length c1_3, .slice A1_4 l1_4.length c1_4, .slice A1_5 l1_5.length c1_5, .slice A1_6 l1_6.length c1_6]] (by rfl) rfl rfl (by (try simp only [List.map_toArray, List.map_cons, List.map_nil]); first | done | rfl | (simp only [List.length_drop, List.length_take]; rfl)) ?_
       with_reducible refine (answer_Encode.calls a1_0 a1_1 _ _ l1_2 _ _ l1_3 _ _ l1_4 _ _ l1_5 _ _ l1_6 t361 _ ?side1 ?side2 ?side3 ?side4 ?side5 ?side6 ?side7 ?side8 ?side9 ?side10 A66.out).mono ?_
       (case side1 => repeat (first | exact (Kd.C_below HR1_2.out HB.out) | (with_reducible refine Kd.C_alloc ?_ _) | (with_reducible refine Kd.C_drewN ?_ _) | (with_reducible refine Kd.C_drew ?_)))
       (case side2 => exact HC1_2.out)
       (case side3 => repeat (first | exact (Kd.C_below HR1_3.out HB.out) | (with_reducible refine Kd.C_alloc ?_ _) | (with_reducible refine Kd.C_drewN ?_ _) | (with_reducible refine Kd.C_drew ?_)))
       (case side4 => exact HC1_3.out)
       (case side5 => repeat (first | exact (Kd.C_below HR1_4.out HB.out) | (with_reducible refine Kd.C_alloc ?_ _) | (with_reducible refine Kd.C_drewN ?_ _) | (with_reducible refine Kd.C_drew ?_)))
       (case side6 => exact HC1_4.out)
       (case side7 => repeat (first | exact (Kd.C_below HR1_5.out HB.out) | (with_reducible refine Kd.C_alloc ?_ _) | (with_reducible refine Kd.C_drewN ?_ _) | (with_reducible refine Kd.C_drew ?_)))
       (case side8 => exact HC1_5.out)
       (case side9 => repeat (first | exact (Kd.C_below HR1_6.out HB.out) | (with_reducible refine Kd.C_alloc ?_ _) | (with_reducible refine Kd.C_drewN ?_ _) | (with_reducible refine Kd.C_drew ?_)))
       (case side10 => exact HC1_6.out)
       rintro e w70 ⟨rfl, hb⟩
       refine ⟨_, rfl, ?_⟩
       have n0_ := Aside0.mk (Kd.R_below (by (with_reducible repeat (first | apply Kd.R_alloc | apply Kd.R_drewN | apply Kd.R_drew)); exact HO_358002.out) hb)
       have n1_ := Aside0.mk (Kd.R_below (by (with_reducible repeat (first | apply Kd.R_alloc | apply Kd.R_drewN | apply Kd.R_drew)); exact HO_358003.out) hb)
       have n2_ := Aside0.mk (Kd.S_below (by (with_reducible repeat (first | apply Kd.S_alloc | apply Kd.S_drewN | apply Kd.S_drew)); exact HO_358004.out) hb)
       have n3_ := Aside0.mk (Kd.S_below (by (with_reducible repeat (first | apply Kd.S_alloc | apply Kd.S_drewN | apply Kd.S_drew)); exact HO_358005.out) hb)
       have n4_ := Aside0.mk (Kd.S_below (by (with_reducible repeat (first | apply Kd.S_alloc | apply Kd.S_drewN | apply Kd.S_drew)); exact HO_358006.out) hb)
       have n5_ := Aside0.mk (blk_below (g := gb332) (o := .cells #[.int .i64 a0_0, .bool a0_1, .slice A0_2 l0_2.length c0_2, .slice A0_3 l0_3.length c0_3, .slice A0_4 l0_4.length c0_4, .slice A0_5 l0_5.length c0_5, .slice A0_6 l0_6.length c0_6] 27 (0, 0)) (by (with_reducible repeat (first | refine blk_drewN ?_ _ | refine blk_drew ?_ | refine blk_alloc ?_ _)); exact BK332.out) hb)
       have n6_ := Aside0.mk (blk_below (g := gb333) (o := .cells #[.int .i64 a1_0, .bool a1_1, .slice A1_2 l1_2.length c1_2, .slice A1_3 l1_3.length c1_3, .slice A1_4 l1_4.length c1_4, .slice A1_5 l1_5.length c1_5, .slice A1_6 l1_6.length c1_6] 27 (0, 0)) (by (with_reducible repeat (first | refine blk_drewN ?_ _ | refine blk_drew ?_ | refine blk_alloc ?_ _)); exact BK333.out) hb)
       have n7_ := Aside0.mk (blk_below (g := gb357) (o := .cells #[.int .i64 t338, .bool t339, .slice Ao40 t340.length co40, .slice Ao41 t343.length co41, .slice Ao42 t346.length co42, .slice Ao43 t349.length co43, .slice Ao44 t352.length co44] 27 (0, 0)) (by (with_reducible repeat (first | refine blk_drewN ?_ _ | refine blk_drew ?_ | refine blk_alloc ?_ _)); exact BK357.out) hb)
       have n8_ := Aside0.mk (below_step (by repeat (first | (with_reducible first | exact HB.out | apply below_alloc | apply pw_below_drewN | apply below_drew1 | refine below_set ?_ GE332.out | refine below_set ?_ GE333.out | refine below_set ?_ GE357.out) | exact HB.out)) hb)
       clear HO_358002
       clear HO_358003
       clear HO_358004
       clear HO_358005
       clear HO_358006
       clear BK332
       clear BK333
       clear BK357
       clear HB
       have HO_358002 := n0_
       have HO_358003 := n1_
       have HO_358004 := n2_
       have HO_358005 := n3_
       have HO_358006 := n4_
       have BK332 := n5_
       have BK333 := n6_
       have BK357 := n7_
       have HB := n8_
       clear n0_ n1_ n2_ n3_ n4_ n5_ n6_ n7_ n8_
       (try clear hb)
       (try clear hb2)
       (try clear hk)
       (try clear hi)
       refine hK.out _ _ ⟨(blk_cell BK332.out 0).trans rfl, (blk_cell BK332.out 1).trans rfl, (blk_cell BK332.out 2).trans rfl, (blk_cell BK332.out 3).trans rfl, (blk_cell BK332.out 4).trans rfl, (blk_cell BK332.out 5).trans rfl, (blk_cell BK332.out 6).trans rfl, (blk_cell BK333.out 0).trans rfl, (blk_cell BK333.out 1).trans rfl, (blk_cell BK333.out 2).trans rfl, (blk_cell BK333.out 3).trans rfl, (blk_cell BK333.out 4).trans rfl, (blk_cell BK333.out 5).trans rfl, (blk_cell BK333.out 6).trans rfl⟩ (fun hHeld => ?_)
       clear hK K
       refine norm_ (a' := ?_) ?_ ?_
       rotate_left
       ·show Act.put _ (some 61) _ = _
        simp only [Act.put, List.setIfInBounds_toArray, List.set_cons_zero, List.set_cons_succ, i64_w, i32_w]
        rfl
       refine pure_ (i := 4) (N := some 10) (v := ?_) (a' := ?_) #[true, true, true, true, true, false] rfl rfl (by kernel_rfl) (fun _ _ _ h => h) (Or.inl ⟨by rfl, ?_⟩) ?_ ?_
       rotate_left
       ·intro w'
        go_simp
        with_reducible rfl
       rotate_left
       ·simp only [Act.put, List.setIfInBounds_toArray, List.set_cons_zero, List.set_cons_succ, i64_w, i32_w]
        rfl
       refine pure_ (i := 5) (N := some 11) (v := ?_) (a' := ?_) #[true, true, true, true, true, true] rfl rfl (by kernel_rfl) (fun _ _ _ h => h) (Or.inl ⟨by rfl, ?_⟩) ?_ ?_
       rotate_left
       ·intro w'
        go_simp
        with_reducible rfl
       rotate_left
       ·simp only [Act.put, List.setIfInBounds_toArray, List.set_cons_zero, List.set_cons_succ, i64_w, i32_w]
        rfl
       refine done_ (by kernel_rfl) ?_
       go_upto_region 7 with (fail)
       go_cut [67] (fun v67 wc => ∃ (kq : Nat) (x67_66 : Bool), v67 = .bool x67_66 ∧ Aside0 (greenwoodlaw23_AnswerBack.j2 kq t360 t361 x67_66 a0_0 a0_1 l0_2 l0_3 l0_4 l0_5 l0_6 a1_0 a1_1 l1_2 l1_3 l1_4 l1_5 l1_6 = some r) ∧ Aside0 (kq ≤ kj33) ∧ Aside0 (Kd.R (Kd.int .i64) 3 wc w.heap.size (fun k_ => some k_ ≠ ((.slice Ao41 t343.length co41) : Value).ownBlock) (.slice Ao40 t340.length co40) t340) ∧ Aside0 (Kd.R (Kd.int .i64) 3 wc w.heap.size (fun k_ => some k_ ≠ ((.slice Ao40 t340.length co40) : Value).ownBlock) (.slice Ao41 t343.length co41) t343) ∧ Aside0 (Kd.S (Kd.slice 3 (Kd.int .i64)) 22 wc w.heap.size (fun k_ => some k_ ≠ ((.slice Ao40 t340.length co40) : Value).ownBlock ∧ some k_ ≠ ((.slice Ao41 t343.length co41) : Value).ownBlock) (.slice Ao42 t346.length co42) t346) ∧ Aside0 (Kd.S k41 41 wc w.heap.size (fun k_ => some k_ ≠ ((.slice Ao40 t340.length co40) : Value).ownBlock ∧ some k_ ≠ ((.slice Ao41 t343.length co41) : Value).ownBlock) (.slice Ao43 t349.length co43) t349) ∧ Aside0 (Kd.S k43 43 wc w.heap.size (fun k_ => some k_ ≠ ((.slice Ao40 t340.length co40) : Value).ownBlock ∧ some k_ ≠ ((.slice Ao41 t343.length co41) : Value).ownBlock) (.slice Ao44 t352.length co44) t352) ∧ Aside0 (wc.heap[gb332]? = some (.cells #[.int .i64 a0_0, .bool a0_1, (.slice A0_2 l0_2.length c0_2), (.slice A0_3 l0_3.length c0_3), (.slice A0_4 l0_4.length c0_4), (.slice A0_5 l0_5.length c0_5), (.slice A0_6 l0_6.length c0_6)] 27 (0, 0))) ∧ Aside0 (wc.heap[gb333]? = some (.cells #[.int .i64 a1_0, .bool a1_1, (.slice A1_2 l1_2.length c1_2), (.slice A1_3 l1_3.length c1_3), (.slice A1_4 l1_4.length c1_4), (.slice A1_5 l1_5.length c1_5), (.slice A1_6 l1_6.length c1_6)] 27 (0, 0))) ∧ Aside0 (wc.heap[gb357]? = some (.cells #[.int .i64 t338, .bool t339, (.slice Ao40 t340.length co40), (.slice Ao41 t343.length co41), (.slice Ao42 t346.length co42), (.slice Ao43 t349.length co43), (.slice Ao44 t352.length co44)] 27 (0, 0))) ∧ Aside0 (Below w.heap.size w wc))
       case first =>
        have H := HC67.out
        clear HC67
        by_cases c71 : t360.toList = ([] : List UInt8)
        ·rw [if_pos c71] at H
         have c71b0 : (t360.toList == ([] : List UInt8)) = true := beq_iff_eq.mpr c71
         have c71b1 : (t360.toList != ([] : List UInt8)) = false := bne_eq_false_iff_eq.mpr c71
         clear c71
         (first | rw [c71b0] | (simp only [i64_w, i32_w]; rw [c71b0]) | skip)
         have H' := Aside0.mk H
         clear H
         go_wp2
         go_meet
         case rel => exact ⟨_, (true), (by first | rfl | (simp; done) | (simp [*]; done)), H', ⟨by have := HJ3.out; have := HJ33.out; first | omega | exact Nat.le_refl _⟩, ⟨by (with_reducible repeat (first | apply Kd.R_alloc | apply Kd.R_drewN | apply Kd.R_drew)); exact HO_358002.out⟩, ⟨by (with_reducible repeat (first | apply Kd.R_alloc | apply Kd.R_drewN | apply Kd.R_drew)); exact HO_358003.out⟩, ⟨by (with_reducible repeat (first | apply Kd.S_alloc | apply Kd.S_drewN | apply Kd.S_drew)); exact HO_358004.out⟩, ⟨by (with_reducible repeat (first | apply Kd.S_alloc | apply Kd.S_drewN | apply Kd.S_drew)); exact HO_358005.out⟩, ⟨by (with_reducible repeat (first | apply Kd.S_alloc | apply Kd.S_drewN | apply Kd.S_drew)); exact HO_358006.out⟩, ⟨by (with_reducible repeat (first | refine blk_drewN ?_ _ | refine blk_drew ?_ | refine blk_alloc ?_ _)); exact BK332.out⟩, ⟨by (with_reducible repeat (first | refine blk_drewN ?_ _ | refine blk_drew ?_ | refine blk_alloc ?_ _)); exact BK333.out⟩, ⟨by (with_reducible repeat (first | refine blk_drewN ?_ _ | refine blk_drew ?_ | refine blk_alloc ?_ _)); exact BK357.out⟩, ⟨by repeat (first | (with_reducible first | exact HB.out | apply below_alloc | apply pw_below_drewN | apply below_drew1 | refine below_set ?_ GE332.out | refine below_set ?_ GE333.out | refine below_set ?_ GE357.out) | exact HB.out)⟩⟩
        ·rw [if_neg c71] at H
         have c71b0 : (t360.toList == ([] : List UInt8)) = false := beq_eq_false_iff_ne.mpr c71
         have c71b1 : (t360.toList != ([] : List UInt8)) = true := bne_iff_ne.mpr c71
         (first | rw [c71b0] | (simp only [i64_w, i32_w]; rw [c71b0]) | skip)
         have H' := Aside0.mk H
         clear H
         go_wp2
         go_meet
         case rel => exact ⟨_, ((t361.toList == ([] : List UInt8))), (by first | rfl | (simp; done) | (simp [*]; done)), H', ⟨by have := HJ3.out; have := HJ33.out; first | omega | exact Nat.le_refl _⟩, ⟨by (with_reducible repeat (first | apply Kd.R_alloc | apply Kd.R_drewN | apply Kd.R_drew)); exact HO_358002.out⟩, ⟨by (with_reducible repeat (first | apply Kd.R_alloc | apply Kd.R_drewN | apply Kd.R_drew)); exact HO_358003.out⟩, ⟨by (with_reducible repeat (first | apply Kd.S_alloc | apply Kd.S_drewN | apply Kd.S_drew)); exact HO_358004.out⟩, ⟨by (with_reducible repeat (first | apply Kd.S_alloc | apply Kd.S_drewN | apply Kd.S_drew)); exact HO_358005.out⟩, ⟨by (with_reducible repeat (first | apply Kd.S_alloc | apply Kd.S_drewN | apply Kd.S_drew)); exact HO_358006.out⟩, ⟨by (with_reducible repeat (first | refine blk_drewN ?_ _ | refine blk_drew ?_ | refine blk_alloc ?_ _)); exact BK332.out⟩, ⟨by (with_reducible repeat (first | refine blk_drewN ?_ _ | refine blk_drew ?_ | refine blk_alloc ?_ _)); exact BK333.out⟩, ⟨by (with_reducible repeat (first | refine blk_drewN ?_ _ | refine blk_drew ?_ | refine blk_alloc ?_ _)); exact BK357.out⟩, ⟨by repeat (first | (with_reducible first | exact HB.out | apply below_alloc | apply pw_below_drewN | apply below_drew1 | refine below_set ?_ GE332.out | refine below_set ?_ GE333.out | refine below_set ?_ GE357.out) | exact HB.out)⟩⟩
       case rest =>
        clear HC67
        try clear c1
        try clear c2
        try clear p2
        try clear c3
        try clear c4
        try clear c5
        try clear c6
        try clear c7
        try clear c8
        try clear c9
        try clear c10
        try clear c12
        try clear c13
        try clear c14
        try clear c20
        try clear c26
        try clear c30
        try clear c37
        try clear c38
        try clear c45
        try clear c45b0
        try clear c45b1
        try clear c47
        try clear c47b0
        try clear c47b1
        try clear c48
        try clear c48b0
        try clear c48b1
        try clear c50
        try clear c51
        try clear c56
        try clear c57
        try clear c60
        try clear c61
        try clear c64
        try clear c71
        try clear c71b0
        try clear c71b1
        try clear hcz15_0
        try clear hcz15_1
        try clear hcz15_2
        try clear hcz15_3
        try clear hcz15_4
        try clear hcz15_5
        try clear hcz15_6
        try clear hcz17_0
        try clear hcz17_1
        try clear hcz17_2
        try clear hcz17_3
        try clear hcz17_4
        try clear hcz17_5
        try clear hcz17_6
        try clear hcz21_0
        try clear hcz21_1
        try clear hcz21_2
        try clear hcz21_3
        try clear hcz21_4
        try clear hcz21_5
        try clear hcz21_6
        try clear hcz23_0
        try clear hcz23_1
        try clear hcz23_2
        try clear hcz23_3
        try clear hcz23_4
        try clear hcz23_5
        try clear hcz23_6
        try clear hcz27_0
        try clear hcz27_1
        try clear hcz27_2
        try clear hcz27_3
        try clear hcz27_4
        try clear hcz27_5
        try clear hcz27_6
        try clear hcz39_0
        try clear hcz39_1
        try clear hcz39_2
        try clear hcz39_3
        try clear hcz39_4
        try clear hcz39_5
        try clear hcz39_6
        try clear hcz52_0
        try clear hcz52_1
        try clear hcz52_2
        try clear hcz52_3
        try clear hcz52_4
        try clear hcz52_5
        try clear hcz52_6
        try clear hcz54_0
        try clear hcz54_1
        try clear hcz54_2
        try clear hcz54_3
        try clear hcz54_4
        try clear hcz54_5
        try clear hcz54_6
        try clear hcz58_0
        try clear hcz58_1
        try clear hcz58_2
        try clear hcz58_3
        try clear hcz58_4
        try clear hcz58_5
        try clear hcz58_6
        try clear hcz62_0
        try clear hcz62_1
        try clear hcz62_2
        try clear hcz62_3
        try clear hcz62_4
        try clear hcz62_5
        try clear hcz62_6
        try clear hfz15_0
        try clear hfz15_1
        try clear hfz15_2
        try clear hfz15_3
        try clear hfz15_4
        try clear hfz15_5
        try clear hfz15_6
        try clear hfz17_0
        try clear hfz17_1
        try clear hfz17_2
        try clear hfz17_3
        try clear hfz17_4
        try clear hfz17_5
        try clear hfz17_6
        try clear hfz21_0
        try clear hfz21_1
        try clear hfz21_2
        try clear hfz21_3
        try clear hfz21_4
        try clear hfz21_5
        try clear hfz21_6
        try clear hfz23_0
        try clear hfz23_1
        try clear hfz23_2
        try clear hfz23_3
        try clear hfz23_4
        try clear hfz23_5
        try clear hfz23_6
        try clear hfz27_0
        try clear hfz27_1
        try clear hfz27_2
        try clear hfz27_3
        try clear hfz27_4
        try clear hfz27_5
        try clear hfz27_6
        try clear hfz39_0
        try clear hfz39_1
        try clear hfz39_2
        try clear hfz39_3
        try clear hfz39_4
        try clear hfz39_5
        try clear hfz39_6
        try clear hfz52_0
        try clear hfz52_1
        try clear hfz52_2
        try clear hfz52_3
        try clear hfz52_4
        try clear hfz52_5
        try clear hfz52_6
        try clear hfz54_0
        try clear hfz54_1
        try clear hfz54_2
        try clear hfz54_3
        try clear hfz54_4
        try clear hfz54_5
        try clear hfz54_6
        try clear hfz58_0
        try clear hfz58_1
        try clear hfz58_2
        try clear hfz58_3
        try clear hfz58_4
        try clear hfz58_5
        try clear hfz58_6
        try clear hfz62_0
        try clear hfz62_1
        try clear hfz62_2
        try clear hfz62_3
        try clear hfz62_4
        try clear hfz62_5
        try clear hfz62_6
        try clear p2
        obtain ⟨kq, x67_66, rfl, HA, HJ66, HO_358002, HO_358003, HO_358004, HO_358005, HO_358006, BK332, BK333, BK357, HB⟩ := hcut
        cases kq with
        | zero => exact absurd HA.out (by simp [greenwoodlaw23_AnswerBack.j2])
        | succ kj66 =>
         have H := HA.out
         clear HA
         simp only [greenwoodlaw23_AnswerBack.j2] at H
         by_cases c72 : x67_66 = true
         ·subst c72
          have H1 : (if t360.toList = ([] : List UInt8) then ((answer_Check.f kj66 a0_0 a0_1 l0_2 l0_3 l0_4 l0_5 l0_6).bind fun t362 => (some (t362 == 230))) else (some true)) = some r := by rw [if_pos rfl] at H; exact H
          clear H
          have H := H1
          clear H1
          by_cases c73 : t360.toList = ([] : List UInt8)
          ·rw [if_pos c73] at H
           have c73b0 : (t360.toList == ([] : List UInt8)) = true := beq_iff_eq.mpr c73
           have c73b1 : (t360.toList != ([] : List UInt8)) = false := bne_eq_false_iff_eq.mpr c73
           clear c73
           replace H := Option.bind_eq_some_iff.mp H
           obtain ⟨t362, A740, H⟩ := H
           replace H : (some (t362 == 230)) = some r := H
           have A74 := Aside0.mk A740
           clear A740
           obtain rfl := Option.some.inj H
           have hnb75 := NB332_333.out
           have hnc75 := NB333_332.out
           have hnb76 := NB332_357.out
           have hnc76 := NB357_332.out
           have hcz77_0 : wc.cell? ⟨gb332, 0, none⟩ = some (.int .i64 a0_0) := (blk_cell BK332.out 0).trans rfl
           have hcz77_1 : wc.cell? ⟨gb332, 1, none⟩ = some (.bool a0_1) := (blk_cell BK332.out 1).trans rfl
           have hcz77_2 : wc.cell? ⟨gb332, 2, none⟩ = some (.slice A0_2 l0_2.length c0_2) := (blk_cell BK332.out 2).trans rfl
           have hcz77_3 : wc.cell? ⟨gb332, 3, none⟩ = some (.slice A0_3 l0_3.length c0_3) := (blk_cell BK332.out 3).trans rfl
           have hcz77_4 : wc.cell? ⟨gb332, 4, none⟩ = some (.slice A0_4 l0_4.length c0_4) := (blk_cell BK332.out 4).trans rfl
           have hcz77_5 : wc.cell? ⟨gb332, 5, none⟩ = some (.slice A0_5 l0_5.length c0_5) := (blk_cell BK332.out 5).trans rfl
           have hcz77_6 : wc.cell? ⟨gb332, 6, none⟩ = some (.slice A0_6 l0_6.length c0_6) := (blk_cell BK332.out 6).trans rfl
           have hfz77_0 := blk_frozen BK332.out 0
           have hfz77_1 := blk_frozen BK332.out 1
           have hfz77_2 := blk_frozen BK332.out 2
           have hfz77_3 := blk_frozen BK332.out 3
           have hfz77_4 := blk_frozen BK332.out 4
           have hfz77_5 := blk_frozen BK332.out 5
           have hfz77_6 := blk_frozen BK332.out 6
           go_wp2_with (first | (go_at_call 11; (with_reducible refine (answer_Check.calls kj66 a0_0 a0_1 (fun k_ => k_ < w.heap.size) _ _ l0_2 (fun k_ => k_ < w.heap.size) _ _ l0_3 (fun k_ => k_ < w.heap.size) _ _ l0_4 (fun k_ => k_ < w.heap.size) _ _ l0_5 (fun k_ => k_ < w.heap.size) _ _ l0_6 t362 _ ?side1 ?side2 ?side3 ?side4 ?side5 A74.out).mono ?_); (case side1 => exact Kd.V_mk HC0_2.out (Kd.F_below (Kd.C_F (Kd.heap_int .i64) HR0_2.out) (by repeat (first | (with_reducible first | exact HB.out | apply below_alloc | apply pw_below_drewN | apply below_drew1 | refine below_set ?_ GE332.out | refine below_set ?_ GE333.out | refine below_set ?_ GE357.out) | exact HB.out)))); (case side2 => exact Kd.V_mk HC0_3.out (Kd.F_below (Kd.C_F (Kd.heap_int .i64) HR0_3.out) (by repeat (first | (with_reducible first | exact HB.out | apply below_alloc | apply pw_below_drewN | apply below_drew1 | refine below_set ?_ GE332.out | refine below_set ?_ GE333.out | refine below_set ?_ GE357.out) | exact HB.out)))); (case side3 => exact Kd.V_mk HC0_4.out (Kd.F_below (Kd.C_F (Kd.heap_slice 3 (Kd.heap_int .i64)) HR0_4.out) (by repeat (first | (with_reducible first | exact HB.out | apply below_alloc | apply pw_below_drewN | apply below_drew1 | refine below_set ?_ GE332.out | refine below_set ?_ GE333.out | refine below_set ?_ GE357.out) | exact HB.out)))); (case side4 => exact Kd.V_mk HC0_5.out (Kd.F_below (Kd.C_F k41_heap HR0_5.out) (by repeat (first | (with_reducible first | exact HB.out | apply below_alloc | apply pw_below_drewN | apply below_drew1 | refine below_set ?_ GE332.out | refine below_set ?_ GE333.out | refine below_set ?_ GE357.out) | exact HB.out)))); (case side5 => exact Kd.V_mk HC0_6.out (Kd.F_below (Kd.C_F k43_heap HR0_6.out) (by repeat (first | (with_reducible first | exact HB.out | apply below_alloc | apply pw_below_drewN | apply below_drew1 | refine below_set ?_ GE332.out | refine below_set ?_ GE333.out | refine below_set ?_ GE357.out) | exact HB.out)))); rintro e w78 ⟨rfl, hb⟩; have n0_ := Aside0.mk (Kd.R_below (by (with_reducible repeat (first | apply Kd.R_alloc | apply Kd.R_drewN | apply Kd.R_drew)); exact HO_358002.out) hb); have n1_ := Aside0.mk (Kd.R_below (by (with_reducible repeat (first | apply Kd.R_alloc | apply Kd.R_drewN | apply Kd.R_drew)); exact HO_358003.out) hb); have n2_ := Aside0.mk (Kd.S_below (by (with_reducible repeat (first | apply Kd.S_alloc | apply Kd.S_drewN | apply Kd.S_drew)); exact HO_358004.out) hb); have n3_ := Aside0.mk (Kd.S_below (by (with_reducible repeat (first | apply Kd.S_alloc | apply Kd.S_drewN | apply Kd.S_drew)); exact HO_358005.out) hb); have n4_ := Aside0.mk (Kd.S_below (by (with_reducible repeat (first | apply Kd.S_alloc | apply Kd.S_drewN | apply Kd.S_drew)); exact HO_358006.out) hb); have n5_ := Aside0.mk (blk_below (g := gb332) (o := .cells #[.int .i64 a0_0, .bool a0_1, .slice A0_2 l0_2.length c0_2, .slice A0_3 l0_3.length c0_3, .slice A0_4 l0_4.length c0_4, .slice A0_5 l0_5.length c0_5, .slice A0_6 l0_6.length c0_6] 27 (0, 0)) (by (with_reducible repeat (first | refine blk_drewN ?_ _ | refine blk_drew ?_ | refine blk_alloc ?_ _)); exact BK332.out) hb); have n6_ := Aside0.mk (blk_below (g := gb333) (o := .cells #[.int .i64 a1_0, .bool a1_1, .slice A1_2 l1_2.length c1_2, .slice A1_3 l1_3.length c1_3, .slice A1_4 l1_4.length c1_4, .slice A1_5 l1_5.length c1_5, .slice A1_6 l1_6.length c1_6] 27 (0, 0)) (by (with_reducible repeat (first | refine blk_drewN ?_ _ | refine blk_drew ?_ | refine blk_alloc ?_ _)); exact BK333.out) hb); have n7_ := Aside0.mk (blk_below (g := gb357) (o := .cells #[.int .i64 t338, .bool t339, .slice Ao40 t340.length co40, .slice Ao41 t343.length co41, .slice Ao42 t346.length co42, .slice Ao43 t349.length co43, .slice Ao44 t352.length co44] 27 (0, 0)) (by (with_reducible repeat (first | refine blk_drewN ?_ _ | refine blk_drew ?_ | refine blk_alloc ?_ _)); exact BK357.out) hb); have n8_ := Aside0.mk (below_step (by repeat (first | (with_reducible first | exact HB.out | apply below_alloc | apply pw_below_drewN | apply below_drew1 | refine below_set ?_ GE332.out | refine below_set ?_ GE333.out | refine below_set ?_ GE357.out) | exact HB.out)) hb); clear HO_358002; clear HO_358003; clear HO_358004; clear HO_358005; clear HO_358006; clear BK332; clear BK333; clear BK357; clear HB; have HO_358002 := n0_; have HO_358003 := n1_; have HO_358004 := n2_; have HO_358005 := n3_; have HO_358006 := n4_; have BK332 := n5_; have BK333 := n6_; have BK357 := n7_; have HB := n8_; clear n0_ n1_ n2_ n3_ n4_ n5_ n6_ n7_ n8_; (try clear hb); (try clear hb2); (try clear hk); (try clear hi)))
           go_ret
           exact ⟨by first | rfl | (simp [errW_none, errW_some] <;> rfl) | (simp [*, errW_none, errW_some] <;> rfl), by repeat (first | (with_reducible first | exact HB.out | apply below_alloc | apply pw_below_drewN | apply below_drew1 | refine below_set ?_ GE332.out | refine below_set ?_ GE333.out | refine below_set ?_ GE357.out) | exact HB.out)⟩
          ·rw [if_neg c73] at H
           have c73b0 : (t360.toList == ([] : List UInt8)) = false := beq_eq_false_iff_ne.mpr c73
           have c73b1 : (t360.toList != ([] : List UInt8)) = true := bne_iff_ne.mpr c73
           obtain rfl := Option.some.inj H
           go_wp2
           go_ret
           exact ⟨by first | rfl | (simp [errW_none, errW_some] <;> rfl) | (simp [*, errW_none, errW_some] <;> rfl), by repeat (first | (with_reducible first | exact HB.out | apply below_alloc | apply pw_below_drewN | apply below_drew1 | refine below_set ?_ GE332.out | refine below_set ?_ GE333.out | refine below_set ?_ GE357.out) | exact HB.out)⟩
         ·replace c72 := Bool.eq_false_iff.mpr c72
          subst c72
          have H1 : ((answer_Decode.f t360).bind fun bt363 => (if bt363.2.2.2.2.2.2.2.1 = 0 then ((greenwoodref23_Same.f kj66 bt363.1 bt363.2.1 bt363.2.2.1 bt363.2.2.2.1 bt363.2.2.2.2.1 bt363.2.2.2.2.2.1 bt363.2.2.2.2.2.2.1 a0_0 a0_1 l0_2 l0_3 l0_4 l0_5 l0_6).bind fun t383 => (if t383 = true then ((greenwoodref23_Same.f kj66 a0_0 a0_1 l0_2 l0_3 l0_4 l0_5 l0_6 a1_0 a1_1 l1_2 l1_3 l1_4 l1_5 l1_6).bind fun t384 => (some ((t360.toList == t361.toList) == t384))) else (some false))) else (some false))) = some r := by rw [if_neg (show ¬ (false = true) by decide)] at H; exact H
          clear H
          have H := H1
          clear H1
          replace H := Option.bind_eq_some_iff.mp H
          obtain ⟨⟨t363, t364, t365, t368, t371, t374, t377, t380, t381⟩, A790, H⟩ := H
          replace H : (if t380 = 0 then ((greenwoodref23_Same.f kj66 t363 t364 t365 t368 t371 t374 t377 a0_0 a0_1 l0_2 l0_3 l0_4 l0_5 l0_6).bind fun t383 => (if t383 = true then ((greenwoodref23_Same.f kj66 a0_0 a0_1 l0_2 l0_3 l0_4 l0_5 l0_6 a1_0 a1_1 l1_2 l1_3 l1_4 l1_5 l1_6).bind fun t384 => (some ((t360.toList == t361.toList) == t384))) else (some false))) else (some false)) = some r := H
          have A79 := Aside0.mk A790
          clear A790
          by_cases c80 : t380 = 0
          ·rw [if_pos c80] at H
           have c80b0 : (t380 == 0) = true := beq_iff_eq.mpr c80
           have c80b1 : (t380 != 0) = false := bne_eq_false_iff_eq.mpr c80
           clear c80
           replace H := Option.bind_eq_some_iff.mp H
           obtain ⟨t383, A810, H⟩ := H
           replace H : (if t383 = true then ((greenwoodref23_Same.f kj66 a0_0 a0_1 l0_2 l0_3 l0_4 l0_5 l0_6 a1_0 a1_1 l1_2 l1_3 l1_4 l1_5 l1_6).bind fun t384 => (some ((t360.toList == t361.toList) == t384))) else (some false)) = some r := H
           have A81 := Aside0.mk A810
           clear A810
           by_cases c82 : t383 = true
           ·subst c82
            have H1 : ((greenwoodref23_Same.f kj66 a0_0 a0_1 l0_2 l0_3 l0_4 l0_5 l0_6 a1_0 a1_1 l1_2 l1_3 l1_4 l1_5 l1_6).bind fun t384 => (some ((t360.toList == t361.toList) == t384))) = some r := by rw [if_pos rfl] at H; exact H
            clear H
            have H := H1
            clear H1
            replace H := Option.bind_eq_some_iff.mp H
            obtain ⟨t384, A830, H⟩ := H
            replace H : (some ((t360.toList == t361.toList) == t384)) = some r := H
            have A83 := Aside0.mk A830
            clear A830
            obtain rfl := Option.some.inj H
            go_wp2_with (first | ((with_reducible refine gate_callee (f := 9) rfl ?_); refine goesL_ (some 77) rfl rfl Tryd.func9 (by kernel_rfl) rfl #[.string t360] rfl (by (try simp only [List.map_toArray, List.map_cons, List.map_nil]); first | done | rfl | (simp only [List.length_drop, List.length_take]; rfl)) ?_; (with_reducible refine (answer_Decode.calls t360 t363 t364 t365 t368 t371 t374 t377 t380 t381 _ ?side1 A79.out).mono ?_); (case side1 => exact EV.below HEV.out (by repeat (first | (with_reducible first | exact HB.out | apply below_alloc | apply pw_below_drewN | apply below_drew1 | refine below_set ?_ GE332.out | refine below_set ?_ GE333.out | refine below_set ?_ GE357.out) | exact HB.out)) (EV.pos HEV.out)); rintro e w84 ⟨v366, v369, v372, v375, v378, rfl, ho0, ho1, ho2, ho3, ho4, hb⟩; refine ⟨_, rfl, ?_⟩; have n0_ := Aside0.mk (Kd.R_mono (Kd.R_told (Kd.R_told (Kd.R_old (by (with_reducible repeat (first | apply Kd.R_alloc | apply Kd.R_drewN | apply Kd.R_drew)); exact HO_358002.out) hb) (Kd.R_base ho0)) (Kd.R_base ho1)) (fun _ h_ => h_.1)); have n1_ := Aside0.mk (Kd.R_mono (Kd.R_told (Kd.R_told (Kd.R_old (by (with_reducible repeat (first | apply Kd.R_alloc | apply Kd.R_drewN | apply Kd.R_drew)); exact HO_358003.out) hb) (Kd.R_base ho0)) (Kd.R_base ho1)) (fun _ h_ => h_.1)); have n2_ := Aside0.mk (Kd.S_mono (Kd.S_told (Kd.S_told (Kd.S_told (Kd.S_old (by (with_reducible repeat (first | apply Kd.S_alloc | apply Kd.S_drewN | apply Kd.S_drew)); exact HO_358004.out) hb) (Kd.R_base ho0)) (Kd.R_base ho1)) (Kd.S_base ho2)) (fun _ h_ => h_.1)); have n3_ := Aside0.mk (Kd.S_mono (Kd.S_told (Kd.S_told (Kd.S_told (Kd.S_old (by (with_reducible repeat (first | apply Kd.S_alloc | apply Kd.S_drewN | apply Kd.S_drew)); exact HO_358005.out) hb) (Kd.R_base ho0)) (Kd.R_base ho1)) (Kd.S_base ho3)) (fun _ h_ => h_.1)); have n4_ := Aside0.mk (Kd.S_mono (Kd.S_told (Kd.S_told (Kd.S_told (Kd.S_old (by (with_reducible repeat (first | apply Kd.S_alloc | apply Kd.S_drewN | apply Kd.S_drew)); exact HO_358006.out) hb) (Kd.R_base ho0)) (Kd.R_base ho1)) (Kd.S_base ho4)) (fun _ h_ => h_.1)); have n5_ := Aside0.mk (Kd.R_lower (Kd.R_new' (Kd.R_new' ho0 (Kd.R_lt (by (with_reducible repeat (first | apply Kd.R_alloc | apply Kd.R_drewN | apply Kd.R_drew)); exact HO_358002.out))) (Kd.R_lt (by (with_reducible repeat (first | apply Kd.R_alloc | apply Kd.R_drewN | apply Kd.R_drew)); exact HO_358003.out))) (below_size (by repeat (first | (with_reducible first | exact HB.out | apply below_alloc | apply pw_below_drewN | apply below_drew1 | refine below_set ?_ GE332.out | refine below_set ?_ GE333.out | refine below_set ?_ GE357.out) | exact HB.out)))); have n6_ := Aside0.mk (Kd.R_lower (Kd.R_new' (Kd.R_new' ho1 (Kd.R_lt (by (with_reducible repeat (first | apply Kd.R_alloc | apply Kd.R_drewN | apply Kd.R_drew)); exact HO_358002.out))) (Kd.R_lt (by (with_reducible repeat (first | apply Kd.R_alloc | apply Kd.R_drewN | apply Kd.R_drew)); exact HO_358003.out))) (below_size (by repeat (first | (with_reducible first | exact HB.out | apply below_alloc | apply pw_below_drewN | apply below_drew1 | refine below_set ?_ GE332.out | refine below_set ?_ GE333.out | refine below_set ?_ GE357.out) | exact HB.out)))); have n7_ := Aside0.mk (Kd.S_lower (Kd.S_new' (Kd.S_new' (Kd.S_new' ho2 (Kd.R_lt (by (with_reducible repeat (first | apply Kd.R_alloc | apply Kd.R_drewN | apply Kd.R_drew)); exact HO_358002.out))) (Kd.R_lt (by (with_reducible repeat (first | apply Kd.R_alloc | apply Kd.R_drewN | apply Kd.R_drew)); exact HO_358003.out))) (Kd.S_lt (by (with_reducible repeat (first | apply Kd.S_alloc | apply Kd.S_drewN | apply Kd.S_drew)); exact HO_358004.out))) (below_size (by repeat (first | (with_reducible first | exact HB.out | apply below_alloc | apply pw_below_drewN | apply below_drew1 | refine below_set ?_ GE332.out | refine below_set ?_ GE333.out | refine below_set ?_ GE357.out) | exact HB.out)))); have n8_ := Aside0.mk (Kd.S_lower (Kd.S_new' (Kd.S_new' (Kd.S_new' ho3 (Kd.R_lt (by (with_reducible repeat (first | apply Kd.R_alloc | apply Kd.R_drewN | apply Kd.R_drew)); exact HO_358002.out))) (Kd.R_lt (by (with_reducible repeat (first | apply Kd.R_alloc | apply Kd.R_drewN | apply Kd.R_drew)); exact HO_358003.out))) (Kd.S_lt (by (with_reducible repeat (first | apply Kd.S_alloc | apply Kd.S_drewN | apply Kd.S_drew)); exact HO_358005.out))) (below_size (by repeat (first | (with_reducible first | exact HB.out | apply below_alloc | apply pw_below_drewN | apply below_drew1 | refine below_set ?_ GE332.out | refine below_set ?_ GE333.out | refine below_set ?_ GE357.out) | exact HB.out)))); have n9_ := Aside0.mk (Kd.S_lower (Kd.S_new' (Kd.S_new' (Kd.S_new' ho4 (Kd.R_lt (by (with_reducible repeat (first | apply Kd.R_alloc | apply Kd.R_drewN | apply Kd.R_drew)); exact HO_358002.out))) (Kd.R_lt (by (with_reducible repeat (first | apply Kd.R_alloc | apply Kd.R_drewN | apply Kd.R_drew)); exact HO_358003.out))) (Kd.S_lt (by (with_reducible repeat (first | apply Kd.S_alloc | apply Kd.S_drewN | apply Kd.S_drew)); exact HO_358006.out))) (below_size (by repeat (first | (with_reducible first | exact HB.out | apply below_alloc | apply pw_below_drewN | apply below_drew1 | refine below_set ?_ GE332.out | refine below_set ?_ GE333.out | refine below_set ?_ GE357.out) | exact HB.out)))); have n10_ := Aside0.mk (blk_below (g := gb332) (o := .cells #[.int .i64 a0_0, .bool a0_1, .slice A0_2 l0_2.length c0_2, .slice A0_3 l0_3.length c0_3, .slice A0_4 l0_4.length c0_4, .slice A0_5 l0_5.length c0_5, .slice A0_6 l0_6.length c0_6] 27 (0, 0)) (by (with_reducible repeat (first | refine blk_drewN ?_ _ | refine blk_drew ?_ | refine blk_alloc ?_ _)); exact BK332.out) hb); have n11_ := Aside0.mk (blk_below (g := gb333) (o := .cells #[.int .i64 a1_0, .bool a1_1, .slice A1_2 l1_2.length c1_2, .slice A1_3 l1_3.length c1_3, .slice A1_4 l1_4.length c1_4, .slice A1_5 l1_5.length c1_5, .slice A1_6 l1_6.length c1_6] 27 (0, 0)) (by (with_reducible repeat (first | refine blk_drewN ?_ _ | refine blk_drew ?_ | refine blk_alloc ?_ _)); exact BK333.out) hb); have n12_ := Aside0.mk (blk_below (g := gb357) (o := .cells #[.int .i64 t338, .bool t339, .slice Ao40 t340.length co40, .slice Ao41 t343.length co41, .slice Ao42 t346.length co42, .slice Ao43 t349.length co43, .slice Ao44 t352.length co44] 27 (0, 0)) (by (with_reducible repeat (first | refine blk_drewN ?_ _ | refine blk_drew ?_ | refine blk_alloc ?_ _)); exact BK357.out) hb); have n13_ := Aside0.mk (below_step (by repeat (first | (with_reducible first | exact HB.out | apply below_alloc | apply pw_below_drewN | apply below_drew1 | refine below_set ?_ GE332.out | refine below_set ?_ GE333.out | refine below_set ?_ GE357.out) | exact HB.out)) hb); clear HO_358002; clear HO_358003; clear HO_358004; clear HO_358005; clear HO_358006; clear BK332; clear BK333; clear BK357; clear HB; have HO_358002 := n0_; have HO_358003 := n1_; have HO_358004 := n2_; have HO_358005 := n3_; have HO_358006 := n4_; have HO367 := n5_; have HO370 := n6_; have HO373 := n7_; have HO376 := n8_; have HO379 := n9_; have BK332 := n10_; have BK333 := n11_; have BK357 := n12_; have HB := n13_; clear n0_ n1_ n2_ n3_ n4_ n5_ n6_ n7_ n8_ n9_ n10_ n11_ n12_ n13_; (try clear hb); (try clear hb2); (try clear hk); (try clear hi); (try clear ho0); (try clear ho1); (try clear ho2); (try clear ho3); (try clear ho4)) | ((with_reducible refine gate_dst (N := 12) rfl ?_); (try (refine gate_guard (by rfl) ?_; dsimp only)); refine box_event ?hg (N := 12) ?hd (cs := #[.int .i64 0, .bool false, .slice none 0 0, .slice none 0 0, .slice none 0 0, .slice none 0 0, .slice none 0 0]) (t := 27) ?hr ?_; (case hd => rfl); (case hg => rfl); (case hr => first | (go_simp; done) | (go_simp; rfl)); intro gb382 hg w85 hbox hb; have n0_ := Aside0.mk (Kd.R_below (by (with_reducible repeat (first | apply Kd.R_alloc | apply Kd.R_drewN | apply Kd.R_drew)); exact HO_358002.out) hb); have n1_ := Aside0.mk (Kd.R_below (by (with_reducible repeat (first | apply Kd.R_alloc | apply Kd.R_drewN | apply Kd.R_drew)); exact HO_358003.out) hb); have n2_ := Aside0.mk (Kd.S_below (by (with_reducible repeat (first | apply Kd.S_alloc | apply Kd.S_drewN | apply Kd.S_drew)); exact HO_358004.out) hb); have n3_ := Aside0.mk (Kd.S_below (by (with_reducible repeat (first | apply Kd.S_alloc | apply Kd.S_drewN | apply Kd.S_drew)); exact HO_358005.out) hb); have n4_ := Aside0.mk (Kd.S_below (by (with_reducible repeat (first | apply Kd.S_alloc | apply Kd.S_drewN | apply Kd.S_drew)); exact HO_358006.out) hb); have n5_ := Aside0.mk (Kd.R_below (by (with_reducible repeat (first | apply Kd.R_alloc | apply Kd.R_drewN | apply Kd.R_drew)); exact HO367.out) hb); have n6_ := Aside0.mk (Kd.R_below (by (with_reducible repeat (first | apply Kd.R_alloc | apply Kd.R_drewN | apply Kd.R_drew)); exact HO370.out) hb); have n7_ := Aside0.mk (Kd.S_below (by (with_reducible repeat (first | apply Kd.S_alloc | apply Kd.S_drewN | apply Kd.S_drew)); exact HO373.out) hb); have n8_ := Aside0.mk (Kd.S_below (by (with_reducible repeat (first | apply Kd.S_alloc | apply Kd.S_drewN | apply Kd.S_drew)); exact HO376.out) hb); have n9_ := Aside0.mk (Kd.S_below (by (with_reducible repeat (first | apply Kd.S_alloc | apply Kd.S_drewN | apply Kd.S_drew)); exact HO379.out) hb); have n10_ := Aside0.mk (blk_below (g := gb332) (o := .cells #[.int .i64 a0_0, .bool a0_1, .slice A0_2 l0_2.length c0_2, .slice A0_3 l0_3.length c0_3, .slice A0_4 l0_4.length c0_4, .slice A0_5 l0_5.length c0_5, .slice A0_6 l0_6.length c0_6] 27 (0, 0)) (by (with_reducible repeat (first | refine blk_drewN ?_ _ | refine blk_drew ?_ | refine blk_alloc ?_ _)); exact BK332.out) hb); have n11_ := Aside0.mk (blk_below (g := gb333) (o := .cells #[.int .i64 a1_0, .bool a1_1, .slice A1_2 l1_2.length c1_2, .slice A1_3 l1_3.length c1_3, .slice A1_4 l1_4.length c1_4, .slice A1_5 l1_5.length c1_5, .slice A1_6 l1_6.length c1_6] 27 (0, 0)) (by (with_reducible repeat (first | refine blk_drewN ?_ _ | refine blk_drew ?_ | refine blk_alloc ?_ _)); exact BK333.out) hb); have n12_ := Aside0.mk (blk_below (g := gb357) (o := .cells #[.int .i64 t338, .bool t339, .slice Ao40 t340.length co40, .slice Ao41 t343.length co41, .slice Ao42 t346.length co42, .slice Ao43 t349.length co43, .slice Ao44 t352.length co44] 27 (0, 0)) (by (with_reducible repeat (first | refine blk_drewN ?_ _ | refine blk_drew ?_ | refine blk_alloc ?_ _)); exact BK357.out) hb); have n13_ := Aside0.mk (below_step (by repeat (first | (with_reducible first | exact HB.out | apply below_alloc | apply pw_below_drewN | apply below_drew1 | refine below_set ?_ GE332.out | refine below_set ?_ GE333.out | refine below_set ?_ GE357.out) | exact HB.out)) hb); have n14_ := Aside0.mk (hbox); have n15_ := Aside0.mk ((by rw [hg]; exact (below_size (by repeat (first | (with_reducible first | exact HB.out | apply below_alloc | apply pw_below_drewN | apply below_drew1 | refine below_set ?_ GE332.out | refine below_set ?_ GE333.out | refine below_set ?_ GE357.out) | exact HB.out))) : w.heap.size ≤ gb382)); have n16_ := Aside0.mk ((by rw [hg]; exact (below_size (by repeat (first | (with_reducible first | exact HB.out | apply below_alloc | apply pw_below_drewN | apply below_drew1 | refine below_set ?_ GE332.out | refine below_set ?_ GE333.out | refine below_set ?_ GE357.out) | exact HB.out))) : w.heap.size ≤ gb382)); have n17_ := Aside0.mk ((by rw [hg]; exact Nat.ne_of_lt (blk_lt (g := gb332) (o := .cells #[.int .i64 a0_0, .bool a0_1, .slice A0_2 l0_2.length c0_2, .slice A0_3 l0_3.length c0_3, .slice A0_4 l0_4.length c0_4, .slice A0_5 l0_5.length c0_5, .slice A0_6 l0_6.length c0_6] 27 (0, 0)) (by (with_reducible repeat (first | refine blk_drewN ?_ _ | refine blk_drew ?_ | refine blk_alloc ?_ _)); exact BK332.out)) : gb332 ≠ gb382)); have n18_ := Aside0.mk ((by rw [hg]; exact Nat.ne_of_gt (blk_lt (g := gb332) (o := .cells #[.int .i64 a0_0, .bool a0_1, .slice A0_2 l0_2.length c0_2, .slice A0_3 l0_3.length c0_3, .slice A0_4 l0_4.length c0_4, .slice A0_5 l0_5.length c0_5, .slice A0_6 l0_6.length c0_6] 27 (0, 0)) (by (with_reducible repeat (first | refine blk_drewN ?_ _ | refine blk_drew ?_ | refine blk_alloc ?_ _)); exact BK332.out)) : gb382 ≠ gb332)); have n19_ := Aside0.mk ((by rw [hg]; exact Nat.ne_of_lt (blk_lt (g := gb333) (o := .cells #[.int .i64 a1_0, .bool a1_1, .slice A1_2 l1_2.length c1_2, .slice A1_3 l1_3.length c1_3, .slice A1_4 l1_4.length c1_4, .slice A1_5 l1_5.length c1_5, .slice A1_6 l1_6.length c1_6] 27 (0, 0)) (by (with_reducible repeat (first | refine blk_drewN ?_ _ | refine blk_drew ?_ | refine blk_alloc ?_ _)); exact BK333.out)) : gb333 ≠ gb382)); have n20_ := Aside0.mk ((by rw [hg]; exact Nat.ne_of_gt (blk_lt (g := gb333) (o := .cells #[.int .i64 a1_0, .bool a1_1, .slice A1_2 l1_2.length c1_2, .slice A1_3 l1_3.length c1_3, .slice A1_4 l1_4.length c1_4, .slice A1_5 l1_5.length c1_5, .slice A1_6 l1_6.length c1_6] 27 (0, 0)) (by (with_reducible repeat (first | refine blk_drewN ?_ _ | refine blk_drew ?_ | refine blk_alloc ?_ _)); exact BK333.out)) : gb382 ≠ gb333)); have n21_ := Aside0.mk ((by rw [hg]; exact Nat.ne_of_lt (blk_lt (g := gb357) (o := .cells #[.int .i64 t338, .bool t339, .slice Ao40 t340.length co40, .slice Ao41 t343.length co41, .slice Ao42 t346.length co42, .slice Ao43 t349.length co43, .slice Ao44 t352.length co44] 27 (0, 0)) (by (with_reducible repeat (first | refine blk_drewN ?_ _ | refine blk_drew ?_ | refine blk_alloc ?_ _)); exact BK357.out)) : gb357 ≠ gb382)); have n22_ := Aside0.mk ((by rw [hg]; exact Nat.ne_of_gt (blk_lt (g := gb357) (o := .cells #[.int .i64 t338, .bool t339, .slice Ao40 t340.length co40, .slice Ao41 t343.length co41, .slice Ao42 t346.length co42, .slice Ao43 t349.length co43, .slice Ao44 t352.length co44] 27 (0, 0)) (by (with_reducible repeat (first | refine blk_drewN ?_ _ | refine blk_drew ?_ | refine blk_alloc ?_ _)); exact BK357.out)) : gb382 ≠ gb357)); clear HO_358002; clear HO_358003; clear HO_358004; clear HO_358005; clear HO_358006; clear HO367; clear HO370; clear HO373; clear HO376; clear HO379; clear BK332; clear BK333; clear BK357; clear HB; have HO_358002 := n0_; have HO_358003 := n1_; have HO_358004 := n2_; have HO_358005 := n3_; have HO_358006 := n4_; have HO367 := n5_; have HO370 := n6_; have HO373 := n7_; have HO376 := n8_; have HO379 := n9_; have BK332 := n10_; have BK333 := n11_; have BK357 := n12_; have HB := n13_; have BK382 := n14_; have GW382 := n15_; have GE382 := n16_; have NB332_382 := n17_; have NB382_332 := n18_; have NB333_382 := n19_; have NB382_333 := n20_; have NB357_382 := n21_; have NB382_357 := n22_; clear n0_ n1_ n2_ n3_ n4_ n5_ n6_ n7_ n8_ n9_ n10_ n11_ n12_ n13_ n14_ n15_ n16_ n17_ n18_ n19_ n20_ n21_ n22_; clear hb hbox hg; have hnb86 := NB382_332.out; have hnc86 := NB332_382.out; have hnb87 := NB382_333.out; have hnc87 := NB333_382.out; have hnb88 := NB382_357.out; have hnc88 := NB357_382.out; have hcz89_0 : w85.cell? ⟨gb382, 0, none⟩ = some (.int .i64 0) := (blk_cell BK382.out 0).trans rfl; have hcz89_1 : w85.cell? ⟨gb382, 1, none⟩ = some (.bool false) := (blk_cell BK382.out 1).trans rfl; have hcz89_2 : w85.cell? ⟨gb382, 2, none⟩ = some (.slice none 0 0) := (blk_cell BK382.out 2).trans rfl; have hcz89_3 : w85.cell? ⟨gb382, 3, none⟩ = some (.slice none 0 0) := (blk_cell BK382.out 3).trans rfl; have hcz89_4 : w85.cell? ⟨gb382, 4, none⟩ = some (.slice none 0 0) := (blk_cell BK382.out 4).trans rfl; have hcz89_5 : w85.cell? ⟨gb382, 5, none⟩ = some (.slice none 0 0) := (blk_cell BK382.out 5).trans rfl; have hcz89_6 : w85.cell? ⟨gb382, 6, none⟩ = some (.slice none 0 0) := (blk_cell BK382.out 6).trans rfl; have hfz89_0 := blk_frozen BK382.out 0; have hfz89_1 := blk_frozen BK382.out 1; have hfz89_2 := blk_frozen BK382.out 2; have hfz89_3 := blk_frozen BK382.out 3; have hfz89_4 := blk_frozen BK382.out 4; have hfz89_5 := blk_frozen BK382.out 5; have hfz89_6 := blk_frozen BK382.out 6; obtain ⟨Ao90, co90, eo90⟩ := Kd.R_slice HO367.out; subst eo90; obtain ⟨Ao91, co91, eo91⟩ := Kd.R_slice HO370.out; subst eo91; obtain ⟨Ao92, co92, eo92⟩ := Kd.S_slice HO373.out; subst eo92; obtain ⟨Ao93, co93, eo93⟩ := Kd.S_slice HO376.out; subst eo93; obtain ⟨Ao94, co94, eo94⟩ := Kd.S_slice HO379.out; subst eo94; have hnb95 := NB332_333.out; have hnc95 := NB333_332.out; have hnb96 := NB332_357.out; have hnc96 := NB357_332.out; have hcz97_0 : w85.cell? ⟨gb332, 0, none⟩ = some (.int .i64 a0_0) := (blk_cell BK332.out 0).trans rfl; have hcz97_1 : w85.cell? ⟨gb332, 1, none⟩ = some (.bool a0_1) := (blk_cell BK332.out 1).trans rfl; have hcz97_2 : w85.cell? ⟨gb332, 2, none⟩ = some (.slice A0_2 l0_2.length c0_2) := (blk_cell BK332.out 2).trans rfl; have hcz97_3 : w85.cell? ⟨gb332, 3, none⟩ = some (.slice A0_3 l0_3.length c0_3) := (blk_cell BK332.out 3).trans rfl; have hcz97_4 : w85.cell? ⟨gb332, 4, none⟩ = some (.slice A0_4 l0_4.length c0_4) := (blk_cell BK332.out 4).trans rfl; have hcz97_5 : w85.cell? ⟨gb332, 5, none⟩ = some (.slice A0_5 l0_5.length c0_5) := (blk_cell BK332.out 5).trans rfl; have hcz97_6 : w85.cell? ⟨gb332, 6, none⟩ = some (.slice A0_6 l0_6.length c0_6) := (blk_cell BK332.out 6).trans rfl; have hfz97_0 := blk_frozen BK332.out 0; have hfz97_1 := blk_frozen BK332.out 1; have hfz97_2 := blk_frozen BK332.out 2; have hfz97_3 := blk_frozen BK332.out 3; have hfz97_4 := blk_frozen BK332.out 4; have hfz97_5 := blk_frozen BK332.out 5; have hfz97_6 := blk_frozen BK332.out 6) | (go_at_call 15; (with_reducible refine (greenwoodref23_Same.calls kj66 t363 t364 _ _ t365 _ _ t368 _ _ t371 _ _ t374 _ _ t377 a0_0 a0_1 _ _ l0_2 _ _ l0_3 _ _ l0_4 _ _ l0_5 _ _ l0_6 true _ ?side1 ?side2 ?side3 ?side4 ?side5 ?side6 ?side7 ?side8 ?side9 ?side10 ?side11 ?side12 ?side13 ?side14 ?side15 ?side16 ?side17 ?side18 ?side19 ?side20 A81.out).mono ?_); (case side1 => refine (Kd.R_reads' (e := 3) (base := w.heap.size) (ok := fun k_ => ((some k_ ≠ (.slice Ao91 t368.length co91 : Value).ownBlock ∧ some k_ ≠ (.slice Ao40 t340.length co40 : Value).ownBlock) ∧ some k_ ≠ (.slice Ao41 t343.length co41 : Value).ownBlock)) (n := t365.length) (c := co90) ?_).2.2; exact (by (with_reducible repeat (first | apply Kd.R_alloc | apply Kd.R_drewN | apply Kd.R_drew)); exact (Kd.R_mono (Kd.R_far (p := ⟨gb382, 6, none⟩) (Kd.R_far (p := ⟨gb382, 5, none⟩) (Kd.R_far (p := ⟨gb382, 4, none⟩) (Kd.R_far (p := ⟨gb382, 3, none⟩) (Kd.R_far (p := ⟨gb382, 2, none⟩) (Kd.R_far (p := ⟨gb382, 1, none⟩) (Kd.R_far (p := ⟨gb382, 0, none⟩) (Kd.R_types HO367.out BK382.out (by decide)) (fun _ hk => hk.2) (.int .i64 t363)) (fun _ hk => hk.2) (.bool t364)) (fun _ hk => hk.2) (.slice Ao90 t365.length co90)) (fun _ hk => hk.2) (.slice Ao91 t368.length co91)) (fun _ hk => hk.2) (.slice Ao92 t371.length co92)) (fun _ hk => hk.2) (.slice Ao93 t374.length co93)) (fun _ hk => hk.2) (.slice Ao94 t377.length co94)) (fun _ h_ => h_.1)))); (case side2 => exact (Kd.R_reads' HO367.out).2.1); (case side3 => refine (Kd.R_reads' (e := 3) (base := w.heap.size) (ok := fun k_ => ((some k_ ≠ (.slice Ao90 t365.length co90 : Value).ownBlock ∧ some k_ ≠ (.slice Ao40 t340.length co40 : Value).ownBlock) ∧ some k_ ≠ (.slice Ao41 t343.length co41 : Value).ownBlock)) (n := t368.length) (c := co91) ?_).2.2; exact (by (with_reducible repeat (first | apply Kd.R_alloc | apply Kd.R_drewN | apply Kd.R_drew)); exact (Kd.R_mono (Kd.R_far (p := ⟨gb382, 6, none⟩) (Kd.R_far (p := ⟨gb382, 5, none⟩) (Kd.R_far (p := ⟨gb382, 4, none⟩) (Kd.R_far (p := ⟨gb382, 3, none⟩) (Kd.R_far (p := ⟨gb382, 2, none⟩) (Kd.R_far (p := ⟨gb382, 1, none⟩) (Kd.R_far (p := ⟨gb382, 0, none⟩) (Kd.R_types HO370.out BK382.out (by decide)) (fun _ hk => hk.2) (.int .i64 t363)) (fun _ hk => hk.2) (.bool t364)) (fun _ hk => hk.2) (.slice Ao90 t365.length co90)) (fun _ hk => hk.2) (.slice Ao91 t368.length co91)) (fun _ hk => hk.2) (.slice Ao92 t371.length co92)) (fun _ hk => hk.2) (.slice Ao93 t374.length co93)) (fun _ hk => hk.2) (.slice Ao94 t377.length co94)) (fun _ h_ => h_.1)))); (case side4 => exact (Kd.R_reads' HO370.out).2.1); (case side5 => refine (Kd.S_reads' (e := 22) (base := w.heap.size) (ok := fun k_ => ((((some k_ ≠ (.slice Ao90 t365.length co90 : Value).ownBlock ∧ some k_ ≠ (.slice Ao91 t368.length co91 : Value).ownBlock) ∧ some k_ ≠ (.slice Ao40 t340.length co40 : Value).ownBlock) ∧ some k_ ≠ (.slice Ao41 t343.length co41 : Value).ownBlock) ∧ some k_ ≠ (.slice Ao42 t346.length co42 : Value).ownBlock)) (n := t371.length) (c := co92) ?_).2.2; exact (by (with_reducible repeat (first | apply Kd.S_alloc | apply Kd.S_drewN | apply Kd.S_drew)); exact (Kd.S_mono (Kd.S_far (p := ⟨gb382, 6, none⟩) (Kd.S_far (p := ⟨gb382, 5, none⟩) (Kd.S_far (p := ⟨gb382, 4, none⟩) (Kd.S_far (p := ⟨gb382, 3, none⟩) (Kd.S_far (p := ⟨gb382, 2, none⟩) (Kd.S_far (p := ⟨gb382, 1, none⟩) (Kd.S_far (p := ⟨gb382, 0, none⟩) (Kd.S_types HO373.out BK382.out (by decide)) (fun _ hk => hk.2) (.int .i64 t363)) (fun _ hk => hk.2) (.bool t364)) (fun _ hk => hk.2) (.slice Ao90 t365.length co90)) (fun _ hk => hk.2) (.slice Ao91 t368.length co91)) (fun _ hk => hk.2) (.slice Ao92 t371.length co92)) (fun _ hk => hk.2) (.slice Ao93 t374.length co93)) (fun _ hk => hk.2) (.slice Ao94 t377.length co94)) (fun _ h_ => h_.1)))); (case side6 => exact (Kd.S_reads' HO373.out).2.1); (case side7 => refine (Kd.S_reads' (e := 41) (base := w.heap.size) (ok := fun k_ => ((((some k_ ≠ (.slice Ao90 t365.length co90 : Value).ownBlock ∧ some k_ ≠ (.slice Ao91 t368.length co91 : Value).ownBlock) ∧ some k_ ≠ (.slice Ao40 t340.length co40 : Value).ownBlock) ∧ some k_ ≠ (.slice Ao41 t343.length co41 : Value).ownBlock) ∧ some k_ ≠ (.slice Ao43 t349.length co43 : Value).ownBlock)) (n := t374.length) (c := co93) ?_).2.2; exact (by (with_reducible repeat (first | apply Kd.S_alloc | apply Kd.S_drewN | apply Kd.S_drew)); exact (Kd.S_mono (Kd.S_far (p := ⟨gb382, 6, none⟩) (Kd.S_far (p := ⟨gb382, 5, none⟩) (Kd.S_far (p := ⟨gb382, 4, none⟩) (Kd.S_far (p := ⟨gb382, 3, none⟩) (Kd.S_far (p := ⟨gb382, 2, none⟩) (Kd.S_far (p := ⟨gb382, 1, none⟩) (Kd.S_far (p := ⟨gb382, 0, none⟩) (Kd.S_types HO376.out BK382.out (by decide)) (fun _ hk => hk.2) (.int .i64 t363)) (fun _ hk => hk.2) (.bool t364)) (fun _ hk => hk.2) (.slice Ao90 t365.length co90)) (fun _ hk => hk.2) (.slice Ao91 t368.length co91)) (fun _ hk => hk.2) (.slice Ao92 t371.length co92)) (fun _ hk => hk.2) (.slice Ao93 t374.length co93)) (fun _ hk => hk.2) (.slice Ao94 t377.length co94)) (fun _ h_ => h_.1)))); (case side8 => exact (Kd.S_reads' HO376.out).2.1); (case side9 => refine (Kd.S_reads' (e := 43) (base := w.heap.size) (ok := fun k_ => ((((some k_ ≠ (.slice Ao90 t365.length co90 : Value).ownBlock ∧ some k_ ≠ (.slice Ao91 t368.length co91 : Value).ownBlock) ∧ some k_ ≠ (.slice Ao40 t340.length co40 : Value).ownBlock) ∧ some k_ ≠ (.slice Ao41 t343.length co41 : Value).ownBlock) ∧ some k_ ≠ (.slice Ao44 t352.length co44 : Value).ownBlock)) (n := t377.length) (c := co94) ?_).2.2; exact (by (with_reducible repeat (first | apply Kd.S_alloc | apply Kd.S_drewN | apply Kd.S_drew)); exact (Kd.S_mono (Kd.S_far (p := ⟨gb382, 6, none⟩) (Kd.S_far (p := ⟨gb382, 5, none⟩) (Kd.S_far (p := ⟨gb382, 4, none⟩) (Kd.S_far (p := ⟨gb382, 3, none⟩) (Kd.S_far (p := ⟨gb382, 2, none⟩) (Kd.S_far (p := ⟨gb382, 1, none⟩) (Kd.S_far (p := ⟨gb382, 0, none⟩) (Kd.S_types HO379.out BK382.out (by decide)) (fun _ hk => hk.2) (.int .i64 t363)) (fun _ hk => hk.2) (.bool t364)) (fun _ hk => hk.2) (.slice Ao90 t365.length co90)) (fun _ hk => hk.2) (.slice Ao91 t368.length co91)) (fun _ hk => hk.2) (.slice Ao92 t371.length co92)) (fun _ hk => hk.2) (.slice Ao93 t374.length co93)) (fun _ hk => hk.2) (.slice Ao94 t377.length co94)) (fun _ h_ => h_.1)))); (case side10 => exact (Kd.S_reads' HO379.out).2.1); (case side11 => exact Kd.C_below HR0_2.out (by repeat (first | (with_reducible first | exact HB.out | apply below_alloc | apply pw_below_drewN | apply below_drew1 | refine below_set ?_ GE332.out | refine below_set ?_ GE333.out | refine below_set ?_ GE357.out | refine below_set ?_ GE382.out) | exact HB.out))); (case side12 => exact HC0_2.out); (case side13 => exact Kd.C_below HR0_3.out (by repeat (first | (with_reducible first | exact HB.out | apply below_alloc | apply pw_below_drewN | apply below_drew1 | refine below_set ?_ GE332.out | refine below_set ?_ GE333.out | refine below_set ?_ GE357.out | refine below_set ?_ GE382.out) | exact HB.out))); (case side14 => exact HC0_3.out); (case side15 => exact Kd.C_below HR0_4.out (by repeat (first | (with_reducible first | exact HB.out | apply below_alloc | apply pw_below_drewN | apply below_drew1 | refine below_set ?_ GE332.out | refine below_set ?_ GE333.out | refine below_set ?_ GE357.out | refine below_set ?_ GE382.out) | exact HB.out))); (case side16 => exact HC0_4.out); (case side17 => exact Kd.C_below HR0_5.out (by repeat (first | (with_reducible first | exact HB.out | apply below_alloc | apply pw_below_drewN | apply below_drew1 | refine below_set ?_ GE332.out | refine below_set ?_ GE333.out | refine below_set ?_ GE357.out | refine below_set ?_ GE382.out) | exact HB.out))); (case side18 => exact HC0_5.out); (case side19 => exact Kd.C_below HR0_6.out (by repeat (first | (with_reducible first | exact HB.out | apply below_alloc | apply pw_below_drewN | apply below_drew1 | refine below_set ?_ GE332.out | refine below_set ?_ GE333.out | refine below_set ?_ GE357.out | refine below_set ?_ GE382.out) | exact HB.out))); (case side20 => exact HC0_6.out); rintro e w98 ⟨rfl, hb⟩; have n0_ := Aside0.mk (Kd.R_below (by (with_reducible repeat (first | apply Kd.R_alloc | apply Kd.R_drewN | apply Kd.R_drew)); exact (Kd.R_mono (Kd.R_far (p := ⟨gb382, 6, none⟩) (Kd.R_far (p := ⟨gb382, 5, none⟩) (Kd.R_far (p := ⟨gb382, 4, none⟩) (Kd.R_far (p := ⟨gb382, 3, none⟩) (Kd.R_far (p := ⟨gb382, 2, none⟩) (Kd.R_far (p := ⟨gb382, 1, none⟩) (Kd.R_far (p := ⟨gb382, 0, none⟩) (Kd.R_types HO_358002.out BK382.out (by decide)) (fun _ hk => hk.2) (.int .i64 t363)) (fun _ hk => hk.2) (.bool t364)) (fun _ hk => hk.2) (.slice Ao90 t365.length co90)) (fun _ hk => hk.2) (.slice Ao91 t368.length co91)) (fun _ hk => hk.2) (.slice Ao92 t371.length co92)) (fun _ hk => hk.2) (.slice Ao93 t374.length co93)) (fun _ hk => hk.2) (.slice Ao94 t377.length co94)) (fun _ h_ => h_.1))) hb); have n1_ := Aside0.mk (Kd.R_below (by (with_reducible repeat (first | apply Kd.R_alloc | apply Kd.R_drewN | apply Kd.R_drew)); exact (Kd.R_mono (Kd.R_far (p := ⟨gb382, 6, none⟩) (Kd.R_far (p := ⟨gb382, 5, none⟩) (Kd.R_far (p := ⟨gb382, 4, none⟩) (Kd.R_far (p := ⟨gb382, 3, none⟩) (Kd.R_far (p := ⟨gb382, 2, none⟩) (Kd.R_far (p := ⟨gb382, 1, none⟩) (Kd.R_far (p := ⟨gb382, 0, none⟩) (Kd.R_types HO_358003.out BK382.out (by decide)) (fun _ hk => hk.2) (.int .i64 t363)) (fun _ hk => hk.2) (.bool t364)) (fun _ hk => hk.2) (.slice Ao90 t365.length co90)) (fun _ hk => hk.2) (.slice Ao91 t368.length co91)) (fun _ hk => hk.2) (.slice Ao92 t371.length co92)) (fun _ hk => hk.2) (.slice Ao93 t374.length co93)) (fun _ hk => hk.2) (.slice Ao94 t377.length co94)) (fun _ h_ => h_.1))) hb); have n2_ := Aside0.mk (Kd.S_below (by (with_reducible repeat (first | apply Kd.S_alloc | apply Kd.S_drewN | apply Kd.S_drew)); exact (Kd.S_mono (Kd.S_far (p := ⟨gb382, 6, none⟩) (Kd.S_far (p := ⟨gb382, 5, none⟩) (Kd.S_far (p := ⟨gb382, 4, none⟩) (Kd.S_far (p := ⟨gb382, 3, none⟩) (Kd.S_far (p := ⟨gb382, 2, none⟩) (Kd.S_far (p := ⟨gb382, 1, none⟩) (Kd.S_far (p := ⟨gb382, 0, none⟩) (Kd.S_types HO_358004.out BK382.out (by decide)) (fun _ hk => hk.2) (.int .i64 t363)) (fun _ hk => hk.2) (.bool t364)) (fun _ hk => hk.2) (.slice Ao90 t365.length co90)) (fun _ hk => hk.2) (.slice Ao91 t368.length co91)) (fun _ hk => hk.2) (.slice Ao92 t371.length co92)) (fun _ hk => hk.2) (.slice Ao93 t374.length co93)) (fun _ hk => hk.2) (.slice Ao94 t377.length co94)) (fun _ h_ => h_.1))) hb); have n3_ := Aside0.mk (Kd.S_below (by (with_reducible repeat (first | apply Kd.S_alloc | apply Kd.S_drewN | apply Kd.S_drew)); exact (Kd.S_mono (Kd.S_far (p := ⟨gb382, 6, none⟩) (Kd.S_far (p := ⟨gb382, 5, none⟩) (Kd.S_far (p := ⟨gb382, 4, none⟩) (Kd.S_far (p := ⟨gb382, 3, none⟩) (Kd.S_far (p := ⟨gb382, 2, none⟩) (Kd.S_far (p := ⟨gb382, 1, none⟩) (Kd.S_far (p := ⟨gb382, 0, none⟩) (Kd.S_types HO_358005.out BK382.out (by decide)) (fun _ hk => hk.2) (.int .i64 t363)) (fun _ hk => hk.2) (.bool t364)) (fun _ hk => hk.2) (.slice Ao90 t365.length co90)) (fun _ hk => hk.2) (.slice Ao91 t368.length co91)) (fun _ hk => hk.2) (.slice Ao92 t371.length co92)) (fun _ hk => hk.2) (.slice Ao93 t374.length co93)) (fun _ hk => hk.2) (.slice Ao94 t377.length co94)) (fun _ h_ => h_.1))) hb); have n4_ := Aside0.mk (Kd.S_below (by (with_reducible repeat (first | apply Kd.S_alloc | apply Kd.S_drewN | apply Kd.S_drew)); exact (Kd.S_mono (Kd.S_far (p := ⟨gb382, 6, none⟩) (Kd.S_far (p := ⟨gb382, 5, none⟩) (Kd.S_far (p := ⟨gb382, 4, none⟩) (Kd.S_far (p := ⟨gb382, 3, none⟩) (Kd.S_far (p := ⟨gb382, 2, none⟩) (Kd.S_far (p := ⟨gb382, 1, none⟩) (Kd.S_far (p := ⟨gb382, 0, none⟩) (Kd.S_types HO_358006.out BK382.out (by decide)) (fun _ hk => hk.2) (.int .i64 t363)) (fun _ hk => hk.2) (.bool t364)) (fun _ hk => hk.2) (.slice Ao90 t365.length co90)) (fun _ hk => hk.2) (.slice Ao91 t368.length co91)) (fun _ hk => hk.2) (.slice Ao92 t371.length co92)) (fun _ hk => hk.2) (.slice Ao93 t374.length co93)) (fun _ hk => hk.2) (.slice Ao94 t377.length co94)) (fun _ h_ => h_.1))) hb); have n5_ := Aside0.mk (Kd.R_below (by (with_reducible repeat (first | apply Kd.R_alloc | apply Kd.R_drewN | apply Kd.R_drew)); exact (Kd.R_mono (Kd.R_far (p := ⟨gb382, 6, none⟩) (Kd.R_far (p := ⟨gb382, 5, none⟩) (Kd.R_far (p := ⟨gb382, 4, none⟩) (Kd.R_far (p := ⟨gb382, 3, none⟩) (Kd.R_far (p := ⟨gb382, 2, none⟩) (Kd.R_far (p := ⟨gb382, 1, none⟩) (Kd.R_far (p := ⟨gb382, 0, none⟩) (Kd.R_types HO367.out BK382.out (by decide)) (fun _ hk => hk.2) (.int .i64 t363)) (fun _ hk => hk.2) (.bool t364)) (fun _ hk => hk.2) (.slice Ao90 t365.length co90)) (fun _ hk => hk.2) (.slice Ao91 t368.length co91)) (fun _ hk => hk.2) (.slice Ao92 t371.length co92)) (fun _ hk => hk.2) (.slice Ao93 t374.length co93)) (fun _ hk => hk.2) (.slice Ao94 t377.length co94)) (fun _ h_ => h_.1))) hb); have n6_ := Aside0.mk (Kd.R_below (by (with_reducible repeat (first | apply Kd.R_alloc | apply Kd.R_drewN | apply Kd.R_drew)); exact (Kd.R_mono (Kd.R_far (p := ⟨gb382, 6, none⟩) (Kd.R_far (p := ⟨gb382, 5, none⟩) (Kd.R_far (p := ⟨gb382, 4, none⟩) (Kd.R_far (p := ⟨gb382, 3, none⟩) (Kd.R_far (p := ⟨gb382, 2, none⟩) (Kd.R_far (p := ⟨gb382, 1, none⟩) (Kd.R_far (p := ⟨gb382, 0, none⟩) (Kd.R_types HO370.out BK382.out (by decide)) (fun _ hk => hk.2) (.int .i64 t363)) (fun _ hk => hk.2) (.bool t364)) (fun _ hk => hk.2) (.slice Ao90 t365.length co90)) (fun _ hk => hk.2) (.slice Ao91 t368.length co91)) (fun _ hk => hk.2) (.slice Ao92 t371.length co92)) (fun _ hk => hk.2) (.slice Ao93 t374.length co93)) (fun _ hk => hk.2) (.slice Ao94 t377.length co94)) (fun _ h_ => h_.1))) hb); have n7_ := Aside0.mk (Kd.S_below (by (with_reducible repeat (first | apply Kd.S_alloc | apply Kd.S_drewN | apply Kd.S_drew)); exact (Kd.S_mono (Kd.S_far (p := ⟨gb382, 6, none⟩) (Kd.S_far (p := ⟨gb382, 5, none⟩) (Kd.S_far (p := ⟨gb382, 4, none⟩) (Kd.S_far (p := ⟨gb382, 3, none⟩) (Kd.S_far (p := ⟨gb382, 2, none⟩) (Kd.S_far (p := ⟨gb382, 1, none⟩) (Kd.S_far (p := ⟨gb382, 0, none⟩) (Kd.S_types HO373.out BK382.out (by decide)) (fun _ hk => hk.2) (.int .i64 t363)) (fun _ hk => hk.2) (.bool t364)) (fun _ hk => hk.2) (.slice Ao90 t365.length co90)) (fun _ hk => hk.2) (.slice Ao91 t368.length co91)) (fun _ hk => hk.2) (.slice Ao92 t371.length co92)) (fun _ hk => hk.2) (.slice Ao93 t374.length co93)) (fun _ hk => hk.2) (.slice Ao94 t377.length co94)) (fun _ h_ => h_.1))) hb); have n8_ := Aside0.mk (Kd.S_below (by (with_reducible repeat (first | apply Kd.S_alloc | apply Kd.S_drewN | apply Kd.S_drew)); exact (Kd.S_mono (Kd.S_far (p := ⟨gb382, 6, none⟩) (Kd.S_far (p := ⟨gb382, 5, none⟩) (Kd.S_far (p := ⟨gb382, 4, none⟩) (Kd.S_far (p := ⟨gb382, 3, none⟩) (Kd.S_far (p := ⟨gb382, 2, none⟩) (Kd.S_far (p := ⟨gb382, 1, none⟩) (Kd.S_far (p := ⟨gb382, 0, none⟩) (Kd.S_types HO376.out BK382.out (by decide)) (fun _ hk => hk.2) (.int .i64 t363)) (fun _ hk => hk.2) (.bool t364)) (fun _ hk => hk.2) (.slice Ao90 t365.length co90)) (fun _ hk => hk.2) (.slice Ao91 t368.length co91)) (fun _ hk => hk.2) (.slice Ao92 t371.length co92)) (fun _ hk => hk.2) (.slice Ao93 t374.length co93)) (fun _ hk => hk.2) (.slice Ao94 t377.length co94)) (fun _ h_ => h_.1))) hb); have n9_ := Aside0.mk (Kd.S_below (by (with_reducible repeat (first | apply Kd.S_alloc | apply Kd.S_drewN | apply Kd.S_drew)); exact (Kd.S_mono (Kd.S_far (p := ⟨gb382, 6, none⟩) (Kd.S_far (p := ⟨gb382, 5, none⟩) (Kd.S_far (p := ⟨gb382, 4, none⟩) (Kd.S_far (p := ⟨gb382, 3, none⟩) (Kd.S_far (p := ⟨gb382, 2, none⟩) (Kd.S_far (p := ⟨gb382, 1, none⟩) (Kd.S_far (p := ⟨gb382, 0, none⟩) (Kd.S_types HO379.out BK382.out (by decide)) (fun _ hk => hk.2) (.int .i64 t363)) (fun _ hk => hk.2) (.bool t364)) (fun _ hk => hk.2) (.slice Ao90 t365.length co90)) (fun _ hk => hk.2) (.slice Ao91 t368.length co91)) (fun _ hk => hk.2) (.slice Ao92 t371.length co92)) (fun _ hk => hk.2) (.slice Ao93 t374.length co93)) (fun _ hk => hk.2) (.slice Ao94 t377.length co94)) (fun _ h_ => h_.1))) hb); have n10_ := Aside0.mk (blk_below (g := gb332) (o := .cells #[.int .i64 a0_0, .bool a0_1, .slice A0_2 l0_2.length c0_2, .slice A0_3 l0_3.length c0_3, .slice A0_4 l0_4.length c0_4, .slice A0_5 l0_5.length c0_5, .slice A0_6 l0_6.length c0_6] 27 (0, 0)) (by (with_reducible repeat (first | refine blk_drewN ?_ _ | refine blk_drew ?_ | refine blk_alloc ?_ _)); refine blk_far ?_ NB332_382.out _; (with_reducible repeat (first | refine blk_drewN ?_ _ | refine blk_drew ?_ | refine blk_alloc ?_ _)); refine blk_far ?_ NB332_382.out _; (with_reducible repeat (first | refine blk_drewN ?_ _ | refine blk_drew ?_ | refine blk_alloc ?_ _)); refine blk_far ?_ NB332_382.out _; (with_reducible repeat (first | refine blk_drewN ?_ _ | refine blk_drew ?_ | refine blk_alloc ?_ _)); refine blk_far ?_ NB332_382.out _; (with_reducible repeat (first | refine blk_drewN ?_ _ | refine blk_drew ?_ | refine blk_alloc ?_ _)); refine blk_far ?_ NB332_382.out _; (with_reducible repeat (first | refine blk_drewN ?_ _ | refine blk_drew ?_ | refine blk_alloc ?_ _)); refine blk_far ?_ NB332_382.out _; (with_reducible repeat (first | refine blk_drewN ?_ _ | refine blk_drew ?_ | refine blk_alloc ?_ _)); refine blk_far ?_ NB332_382.out _; (with_reducible repeat (first | refine blk_drewN ?_ _ | refine blk_drew ?_ | refine blk_alloc ?_ _)); exact BK332.out) hb); have n11_ := Aside0.mk (blk_below (g := gb333) (o := .cells #[.int .i64 a1_0, .bool a1_1, .slice A1_2 l1_2.length c1_2, .slice A1_3 l1_3.length c1_3, .slice A1_4 l1_4.length c1_4, .slice A1_5 l1_5.length c1_5, .slice A1_6 l1_6.length c1_6] 27 (0, 0)) (by (with_reducible repeat (first | refine blk_drewN ?_ _ | refine blk_drew ?_ | refine blk_alloc ?_ _)); refine blk_far ?_ NB333_382.out _; (with_reducible repeat (first | refine blk_drewN ?_ _ | refine blk_drew ?_ | refine blk_alloc ?_ _)); refine blk_far ?_ NB333_382.out _; (with_reducible repeat (first | refine blk_drewN ?_ _ | refine blk_drew ?_ | refine blk_alloc ?_ _)); refine blk_far ?_ NB333_382.out _; (with_reducible repeat (first | refine blk_drewN ?_ _ | refine blk_drew ?_ | refine blk_alloc ?_ _)); refine blk_far ?_ NB333_382.out _; (with_reducible repeat (first | refine blk_drewN ?_ _ | refine blk_drew ?_ | refine blk_alloc ?_ _)); refine blk_far ?_ NB333_382.out _; (with_reducible repeat (first | refine blk_drewN ?_ _ | refine blk_drew ?_ | refine blk_alloc ?_ _)); refine blk_far ?_ NB333_382.out _; (with_reducible repeat (first | refine blk_drewN ?_ _ | refine blk_drew ?_ | refine blk_alloc ?_ _)); refine blk_far ?_ NB333_382.out _; (with_reducible repeat (first | refine blk_drewN ?_ _ | refine blk_drew ?_ | refine blk_alloc ?_ _)); exact BK333.out) hb); have n12_ := Aside0.mk (blk_below (g := gb357) (o := .cells #[.int .i64 t338, .bool t339, .slice Ao40 t340.length co40, .slice Ao41 t343.length co41, .slice Ao42 t346.length co42, .slice Ao43 t349.length co43, .slice Ao44 t352.length co44] 27 (0, 0)) (by (with_reducible repeat (first | refine blk_drewN ?_ _ | refine blk_drew ?_ | refine blk_alloc ?_ _)); refine blk_far ?_ NB357_382.out _; (with_reducible repeat (first | refine blk_drewN ?_ _ | refine blk_drew ?_ | refine blk_alloc ?_ _)); refine blk_far ?_ NB357_382.out _; (with_reducible repeat (first | refine blk_drewN ?_ _ | refine blk_drew ?_ | refine blk_alloc ?_ _)); refine blk_far ?_ NB357_382.out _; (with_reducible repeat (first | refine blk_drewN ?_ _ | refine blk_drew ?_ | refine blk_alloc ?_ _)); refine blk_far ?_ NB357_382.out _; (with_reducible repeat (first | refine blk_drewN ?_ _ | refine blk_drew ?_ | refine blk_alloc ?_ _)); refine blk_far ?_ NB357_382.out _; (with_reducible repeat (first | refine blk_drewN ?_ _ | refine blk_drew ?_ | refine blk_alloc ?_ _)); refine blk_far ?_ NB357_382.out _; (with_reducible repeat (first | refine blk_drewN ?_ _ | refine blk_drew ?_ | refine blk_alloc ?_ _)); refine blk_far ?_ NB357_382.out _; (with_reducible repeat (first | refine blk_drewN ?_ _ | refine blk_drew ?_ | refine blk_alloc ?_ _)); exact BK357.out) hb); have n13_ := Aside0.mk (blk_below (g := gb382) (o := .cells #[.int .i64 t363, .bool t364, .slice Ao90 t365.length co90, .slice Ao91 t368.length co91, .slice Ao92 t371.length co92, .slice Ao93 t374.length co93, .slice Ao94 t377.length co94] 27 (0, 0)) (by (with_reducible repeat (first | refine blk_drewN ?_ _ | refine blk_drew ?_ | refine blk_alloc ?_ _)); refine blk_put (cs := #[.int .i64 t363, .bool t364, .slice Ao90 t365.length co90, .slice Ao91 t368.length co91, .slice Ao92 t371.length co92, .slice Ao93 t374.length co93, .slice none 0 0]) ?_ 6 _ rfl; (with_reducible repeat (first | refine blk_drewN ?_ _ | refine blk_drew ?_ | refine blk_alloc ?_ _)); refine blk_put (cs := #[.int .i64 t363, .bool t364, .slice Ao90 t365.length co90, .slice Ao91 t368.length co91, .slice Ao92 t371.length co92, .slice none 0 0, .slice none 0 0]) ?_ 5 _ rfl; (with_reducible repeat (first | refine blk_drewN ?_ _ | refine blk_drew ?_ | refine blk_alloc ?_ _)); refine blk_put (cs := #[.int .i64 t363, .bool t364, .slice Ao90 t365.length co90, .slice Ao91 t368.length co91, .slice none 0 0, .slice none 0 0, .slice none 0 0]) ?_ 4 _ rfl; (with_reducible repeat (first | refine blk_drewN ?_ _ | refine blk_drew ?_ | refine blk_alloc ?_ _)); refine blk_put (cs := #[.int .i64 t363, .bool t364, .slice Ao90 t365.length co90, .slice none 0 0, .slice none 0 0, .slice none 0 0, .slice none 0 0]) ?_ 3 _ rfl; (with_reducible repeat (first | refine blk_drewN ?_ _ | refine blk_drew ?_ | refine blk_alloc ?_ _)); refine blk_put (cs := #[.int .i64 t363, .bool t364, .slice none 0 0, .slice none 0 0, .slice none 0 0, .slice none 0 0, .slice none 0 0]) ?_ 2 _ rfl; (with_reducible repeat (first | refine blk_drewN ?_ _ | refine blk_drew ?_ | refine blk_alloc ?_ _)); refine blk_put (cs := #[.int .i64 t363, .bool false, .slice none 0 0, .slice none 0 0, .slice none 0 0, .slice none 0 0, .slice none 0 0]) ?_ 1 _ rfl; (with_reducible repeat (first | refine blk_drewN ?_ _ | refine blk_drew ?_ | refine blk_alloc ?_ _)); refine blk_put (cs := #[.int .i64 0, .bool false, .slice none 0 0, .slice none 0 0, .slice none 0 0, .slice none 0 0, .slice none 0 0]) ?_ 0 _ rfl; (with_reducible repeat (first | refine blk_drewN ?_ _ | refine blk_drew ?_ | refine blk_alloc ?_ _)); exact BK382.out) hb); have n14_ := Aside0.mk (below_step (by repeat (first | (with_reducible first | exact HB.out | apply below_alloc | apply pw_below_drewN | apply below_drew1 | refine below_set ?_ GE332.out | refine below_set ?_ GE333.out | refine below_set ?_ GE357.out | refine below_set ?_ GE382.out) | exact HB.out)) hb); clear HO_358002; clear HO_358003; clear HO_358004; clear HO_358005; clear HO_358006; clear HO367; clear HO370; clear HO373; clear HO376; clear HO379; clear BK332; clear BK333; clear BK357; clear BK382; clear HB; have HO_358002 := n0_; have HO_358003 := n1_; have HO_358004 := n2_; have HO_358005 := n3_; have HO_358006 := n4_; have HO367 := n5_; have HO370 := n6_; have HO373 := n7_; have HO376 := n8_; have HO379 := n9_; have BK332 := n10_; have BK333 := n11_; have BK357 := n12_; have BK382 := n13_; have HB := n14_; clear n0_ n1_ n2_ n3_ n4_ n5_ n6_ n7_ n8_ n9_ n10_ n11_ n12_ n13_ n14_; (try clear hb); (try clear hb2); (try clear hk); (try clear hi); have hcz99_0 : w98.cell? ⟨gb332, 0, none⟩ = some (.int .i64 a0_0) := (blk_cell BK332.out 0).trans rfl; have hcz99_1 : w98.cell? ⟨gb332, 1, none⟩ = some (.bool a0_1) := (blk_cell BK332.out 1).trans rfl; have hcz99_2 : w98.cell? ⟨gb332, 2, none⟩ = some (.slice A0_2 l0_2.length c0_2) := (blk_cell BK332.out 2).trans rfl; have hcz99_3 : w98.cell? ⟨gb332, 3, none⟩ = some (.slice A0_3 l0_3.length c0_3) := (blk_cell BK332.out 3).trans rfl; have hcz99_4 : w98.cell? ⟨gb332, 4, none⟩ = some (.slice A0_4 l0_4.length c0_4) := (blk_cell BK332.out 4).trans rfl; have hcz99_5 : w98.cell? ⟨gb332, 5, none⟩ = some (.slice A0_5 l0_5.length c0_5) := (blk_cell BK332.out 5).trans rfl; have hcz99_6 : w98.cell? ⟨gb332, 6, none⟩ = some (.slice A0_6 l0_6.length c0_6) := (blk_cell BK332.out 6).trans rfl; have hfz99_0 := blk_frozen BK332.out 0; have hfz99_1 := blk_frozen BK332.out 1; have hfz99_2 := blk_frozen BK332.out 2; have hfz99_3 := blk_frozen BK332.out 3; have hfz99_4 := blk_frozen BK332.out 4; have hfz99_5 := blk_frozen BK332.out 5; have hfz99_6 := blk_frozen BK332.out 6; have hnb100 := NB333_357.out; have hnc100 := NB357_333.out; have hcz101_0 : w98.cell? ⟨gb333, 0, none⟩ = some (.int .i64 a1_0) := (blk_cell BK333.out 0).trans rfl; have hcz101_1 : w98.cell? ⟨gb333, 1, none⟩ = some (.bool a1_1) := (blk_cell BK333.out 1).trans rfl; have hcz101_2 : w98.cell? ⟨gb333, 2, none⟩ = some (.slice A1_2 l1_2.length c1_2) := (blk_cell BK333.out 2).trans rfl; have hcz101_3 : w98.cell? ⟨gb333, 3, none⟩ = some (.slice A1_3 l1_3.length c1_3) := (blk_cell BK333.out 3).trans rfl; have hcz101_4 : w98.cell? ⟨gb333, 4, none⟩ = some (.slice A1_4 l1_4.length c1_4) := (blk_cell BK333.out 4).trans rfl; have hcz101_5 : w98.cell? ⟨gb333, 5, none⟩ = some (.slice A1_5 l1_5.length c1_5) := (blk_cell BK333.out 5).trans rfl; have hcz101_6 : w98.cell? ⟨gb333, 6, none⟩ = some (.slice A1_6 l1_6.length c1_6) := (blk_cell BK333.out 6).trans rfl; have hfz101_0 := blk_frozen BK333.out 0; have hfz101_1 := blk_frozen BK333.out 1; have hfz101_2 := blk_frozen BK333.out 2; have hfz101_3 := blk_frozen BK333.out 3; have hfz101_4 := blk_frozen BK333.out 4; have hfz101_5 := blk_frozen BK333.out 5; have hfz101_6 := blk_frozen BK333.out 6) | (go_at_call 15; (with_reducible refine (greenwoodref23_Same.calls kj66 a0_0 a0_1 _ _ l0_2 _ _ l0_3 _ _ l0_4 _ _ l0_5 _ _ l0_6 a1_0 a1_1 _ _ l1_2 _ _ l1_3 _ _ l1_4 _ _ l1_5 _ _ l1_6 t384 _ ?side1 ?side2 ?side3 ?side4 ?side5 ?side6 ?side7 ?side8 ?side9 ?side10 ?side11 ?side12 ?side13 ?side14 ?side15 ?side16 ?side17 ?side18 ?side19 ?side20 A83.out).mono ?_); (case side1 => repeat (first | exact (Kd.C_below HR0_2.out HB.out) | (with_reducible refine Kd.C_alloc ?_ _) | (with_reducible refine Kd.C_drewN ?_ _) | (with_reducible refine Kd.C_drew ?_))); (case side2 => exact HC0_2.out); (case side3 => repeat (first | exact (Kd.C_below HR0_3.out HB.out) | (with_reducible refine Kd.C_alloc ?_ _) | (with_reducible refine Kd.C_drewN ?_ _) | (with_reducible refine Kd.C_drew ?_))); (case side4 => exact HC0_3.out); (case side5 => repeat (first | exact (Kd.C_below HR0_4.out HB.out) | (with_reducible refine Kd.C_alloc ?_ _) | (with_reducible refine Kd.C_drewN ?_ _) | (with_reducible refine Kd.C_drew ?_))); (case side6 => exact HC0_4.out); (case side7 => repeat (first | exact (Kd.C_below HR0_5.out HB.out) | (with_reducible refine Kd.C_alloc ?_ _) | (with_reducible refine Kd.C_drewN ?_ _) | (with_reducible refine Kd.C_drew ?_))); (case side8 => exact HC0_5.out); (case side9 => repeat (first | exact (Kd.C_below HR0_6.out HB.out) | (with_reducible refine Kd.C_alloc ?_ _) | (with_reducible refine Kd.C_drewN ?_ _) | (with_reducible refine Kd.C_drew ?_))); (case side10 => exact HC0_6.out); (case side11 => repeat (first | exact (Kd.C_below HR1_2.out HB.out) | (with_reducible refine Kd.C_alloc ?_ _) | (with_reducible refine Kd.C_drewN ?_ _) | (with_reducible refine Kd.C_drew ?_))); (case side12 => exact HC1_2.out); (case side13 => repeat (first | exact (Kd.C_below HR1_3.out HB.out) | (with_reducible refine Kd.C_alloc ?_ _) | (with_reducible refine Kd.C_drewN ?_ _) | (with_reducible refine Kd.C_drew ?_))); (case side14 => exact HC1_3.out); (case side15 => repeat (first | exact (Kd.C_below HR1_4.out HB.out) | (with_reducible refine Kd.C_alloc ?_ _) | (with_reducible refine Kd.C_drewN ?_ _) | (with_reducible refine Kd.C_drew ?_))); (case side16 => exact HC1_4.out); (case side17 => repeat (first | exact (Kd.C_below HR1_5.out HB.out) | (with_reducible refine Kd.C_alloc ?_ _) | (with_reducible refine Kd.C_drewN ?_ _) | (with_reducible refine Kd.C_drew ?_))); (case side18 => exact HC1_5.out); (case side19 => repeat (first | exact (Kd.C_below HR1_6.out HB.out) | (with_reducible refine Kd.C_alloc ?_ _) | (with_reducible refine Kd.C_drewN ?_ _) | (with_reducible refine Kd.C_drew ?_))); (case side20 => exact HC1_6.out); rintro e w102 ⟨rfl, hb⟩; have n0_ := Aside0.mk (Kd.R_below (by (with_reducible repeat (first | apply Kd.R_alloc | apply Kd.R_drewN | apply Kd.R_drew)); exact HO_358002.out) hb); have n1_ := Aside0.mk (Kd.R_below (by (with_reducible repeat (first | apply Kd.R_alloc | apply Kd.R_drewN | apply Kd.R_drew)); exact HO_358003.out) hb); have n2_ := Aside0.mk (Kd.S_below (by (with_reducible repeat (first | apply Kd.S_alloc | apply Kd.S_drewN | apply Kd.S_drew)); exact HO_358004.out) hb); have n3_ := Aside0.mk (Kd.S_below (by (with_reducible repeat (first | apply Kd.S_alloc | apply Kd.S_drewN | apply Kd.S_drew)); exact HO_358005.out) hb); have n4_ := Aside0.mk (Kd.S_below (by (with_reducible repeat (first | apply Kd.S_alloc | apply Kd.S_drewN | apply Kd.S_drew)); exact HO_358006.out) hb); have n5_ := Aside0.mk (Kd.R_below (by (with_reducible repeat (first | apply Kd.R_alloc | apply Kd.R_drewN | apply Kd.R_drew)); exact HO367.out) hb); have n6_ := Aside0.mk (Kd.R_below (by (with_reducible repeat (first | apply Kd.R_alloc | apply Kd.R_drewN | apply Kd.R_drew)); exact HO370.out) hb); have n7_ := Aside0.mk (Kd.S_below (by (with_reducible repeat (first | apply Kd.S_alloc | apply Kd.S_drewN | apply Kd.S_drew)); exact HO373.out) hb); have n8_ := Aside0.mk (Kd.S_below (by (with_reducible repeat (first | apply Kd.S_alloc | apply Kd.S_drewN | apply Kd.S_drew)); exact HO376.out) hb); have n9_ := Aside0.mk (Kd.S_below (by (with_reducible repeat (first | apply Kd.S_alloc | apply Kd.S_drewN | apply Kd.S_drew)); exact HO379.out) hb); have n10_ := Aside0.mk (blk_below (g := gb332) (o := .cells #[.int .i64 a0_0, .bool a0_1, .slice A0_2 l0_2.length c0_2, .slice A0_3 l0_3.length c0_3, .slice A0_4 l0_4.length c0_4, .slice A0_5 l0_5.length c0_5, .slice A0_6 l0_6.length c0_6] 27 (0, 0)) (by (with_reducible repeat (first | refine blk_drewN ?_ _ | refine blk_drew ?_ | refine blk_alloc ?_ _)); exact BK332.out) hb); have n11_ := Aside0.mk (blk_below (g := gb333) (o := .cells #[.int .i64 a1_0, .bool a1_1, .slice A1_2 l1_2.length c1_2, .slice A1_3 l1_3.length c1_3, .slice A1_4 l1_4.length c1_4, .slice A1_5 l1_5.length c1_5, .slice A1_6 l1_6.length c1_6] 27 (0, 0)) (by (with_reducible repeat (first | refine blk_drewN ?_ _ | refine blk_drew ?_ | refine blk_alloc ?_ _)); exact BK333.out) hb); have n12_ := Aside0.mk (blk_below (g := gb357) (o := .cells #[.int .i64 t338, .bool t339, .slice Ao40 t340.length co40, .slice Ao41 t343.length co41, .slice Ao42 t346.length co42, .slice Ao43 t349.length co43, .slice Ao44 t352.length co44] 27 (0, 0)) (by (with_reducible repeat (first | refine blk_drewN ?_ _ | refine blk_drew ?_ | refine blk_alloc ?_ _)); exact BK357.out) hb); have n13_ := Aside0.mk (blk_below (g := gb382) (o := .cells #[.int .i64 t363, .bool t364, .slice Ao90 t365.length co90, .slice Ao91 t368.length co91, .slice Ao92 t371.length co92, .slice Ao93 t374.length co93, .slice Ao94 t377.length co94] 27 (0, 0)) (by (with_reducible repeat (first | refine blk_drewN ?_ _ | refine blk_drew ?_ | refine blk_alloc ?_ _)); exact BK382.out) hb); have n14_ := Aside0.mk (below_step (by repeat (first | (with_reducible first | exact HB.out | apply below_alloc | apply pw_below_drewN | apply below_drew1 | refine below_set ?_ GE332.out | refine below_set ?_ GE333.out | refine below_set ?_ GE357.out | refine below_set ?_ GE382.out) | exact HB.out)) hb); clear HO_358002; clear HO_358003; clear HO_358004; clear HO_358005; clear HO_358006; clear HO367; clear HO370; clear HO373; clear HO376; clear HO379; clear BK332; clear BK333; clear BK357; clear BK382; clear HB; have HO_358002 := n0_; have HO_358003 := n1_; have HO_358004 := n2_; have HO_358005 := n3_; have HO_358006 := n4_; have HO367 := n5_; have HO370 := n6_; have HO373 := n7_; have HO376 := n8_; have HO379 := n9_; have BK332 := n10_; have BK333 := n11_; have BK357 := n12_; have BK382 := n13_; have HB := n14_; clear n0_ n1_ n2_ n3_ n4_ n5_ n6_ n7_ n8_ n9_ n10_ n11_ n12_ n13_ n14_; (try clear hb); (try clear hb2); (try clear hk); (try clear hi)))
            go_ret
            exact ⟨by first | rfl | (simp [errW_none, errW_some] <;> rfl) | (simp [*, errW_none, errW_some] <;> rfl), by repeat (first | (with_reducible first | exact HB.out | apply below_alloc | apply pw_below_drewN | apply below_drew1 | refine below_set ?_ GE332.out | refine below_set ?_ GE333.out | refine below_set ?_ GE357.out | refine below_set ?_ GE382.out) | exact HB.out)⟩
           ·replace c82 := Bool.eq_false_iff.mpr c82
            subst c82
            have H1 : (some false) = some r := by rw [if_neg (show ¬ (false = true) by decide)] at H; exact H
            clear H
            have H := H1
            clear H1
            exact absurd ((Option.some.inj H).trans hrT) (by decide)
          ·rw [if_neg c80] at H
           have c80b0 : (t380 == 0) = false := beq_eq_false_iff_ne.mpr c80
           have c80b1 : (t380 != 0) = true := bne_iff_ne.mpr c80
           exact absurd ((Option.some.inj H).trans hrT) (by decide)

end Go.Proofs.YtlekdhejgdfnpaaDoor.P
/- Layer 23: AnswerBack: its value. -/
namespace Go.Proofs.YtlekdhejgdfnpaaDoor.P
open Go.RowKit Go.Proofs.YtlekdhejgdfnpaaDoorW.PrintWords Go.Proofs.YtlekdhejgdfnpaaDoorW.PrintLast Go.Proofs.YtlekdhejgdfnpaaDoorW.PrintMore
open Wr
set_option linter.unusedVariables false
set_option linter.unusedSimpArgs false

theorem mkV_self {x : AnsV} (h0 : 0 ≤ x.no) (h1 : x.no ≤ 1) : mkV x.kd (x.no == 1) x.S x.U x.Se x.Sp x.Cu = x := by
 obtain ⟨kd, no, S, U, Se, Sp, Cu⟩ := x
 dsimp only at h0 h1
 have : no = 0 ∨ no = 1 := by omega
 rcases this with rfl | rfl <;> rfl
theorem check_ok {kd : Int} {no : Bool} {S U : List Int} {Se : List (List Int)} {Sp : List Spl} {Cu : List Cut} (h4 : Se.length ≤ 1000000) (h5 : Sp.length ≤ 1000000) (h6 : Cu.length ≤ 1000000) (h : okV (mkV kd no S U Se Sp Cu) = true) :
 Ev (fun k => answer_Check.f k kd no S U Se Sp Cu) 0 := by
 have := check_ev kd no S U Se Sp Cu h4 h5 h6
 have e : okAns kd S U Se Sp Cu = true := h
 rwa [if_pos e] at this
theorem check_no {kd : Int} {no : Bool} {S U : List Int} {Se : List (List Int)} {Sp : List Spl} {Cu : List Cut} (h4 : Se.length ≤ 1000000) (h5 : Sp.length ≤ 1000000) (h6 : Cu.length ≤ 1000000) (h : okV (mkV kd no S U Se Sp Cu) = false) :
 Ev (fun k => answer_Check.f k kd no S U Se Sp Cu) 230 := by
 have := check_ev kd no S U Se Sp Cu h4 h5 h6
 have e : okAns kd S U Se Sp Cu = false := h
 rw [e, if_neg (by decide)] at this
 exact this
theorem encV_inj {x y : AnsV} (hx : okV x = true) (hx0 : 0 ≤ x.no) (hx1 : x.no ≤ 1) (hy : okV y = true) (hy0 : 0 ≤ y.no) (hy1 : y.no ≤ 1) (h : encV x = encV y) : x = y := by
 have e1 := dec_enc hx hx0 hx1
 have e2 := dec_enc hy hy0 hy1
 rw [h, e2] at e1
 exact (congrArg Prod.fst e1).symm
theorem sn_ne {l : List Int} (h : l ≠ []) : ¬ (strOfNums l).toList = [] := fun e => h ((sn_toList l).1 e)
theorem enc_len {x : AnsV} (h : okV x = true) (h1 : x.no ≤ 1) : (encV x).length ≤ 1000000 := by
 obtain ⟨-, h2, h3, ⟨h4, h5⟩, ⟨h6, h7⟩, h8, h9⟩ := (ok_iff x).1 h
 dsimp only at *
 have lLE : ∀ l, LP l → (LE l).length ≤ 520 := fun l hl => by
  have a := encN_len (l.length : Int)
  have b := flat_len' encI 8 l (fun x _ => encI_len x)
  have := hl.1
  unfold LE
  rw [List.length_append]; omega
 have lSE : ∀ y ∈ x.Sp, (SE y).length ≤ 1560 := fun y hy => by
  obtain ⟨q0, q1, q2⟩ := h7 y hy
  have a0 := lLE _ q0
  have a1 := lLE _ q1
  have a2 := lLE _ q2
  unfold SE
  rw [List.length_append, List.length_append]; omega
 have lCE : ∀ y ∈ x.Cu, (CE y).length ≤ 528 := fun y hy => by
  have a0 := lLE _ (h9 y hy).1
  have a1 := encI_len y.f1
  unfold CE
  rw [List.length_append]; omega
 have b1 := encN_len x.kd
 have b2 := encN_len x.no
 have b3 := lLE _ h2
 have b4 := lLE _ h3
 have b5 := encN_len (x.Se.length : Int)
 have b6 := flat_len' LE 520 x.Se (fun l hl => lLE l (h5 l hl))
 have b7 := encN_len (x.Sp.length : Int)
 have b8 := flat_len' SE 1560 x.Sp lSE
 have b9 := encN_len (x.Cu.length : Int)
 have b10 := flat_len' CE 528 x.Cu lCE
 unfold encV ofV e0 e1 e2 e3 e4 e5 cntE
 simp only [List.length_append]
 omega
set_option maxHeartbeats 1000000 in
theorem AnswerBack_ev (kd : Int) (no : Bool) (S U : List Int) (Se : List (List Int)) (Sp : List Spl) (Cu : List Cut) (kd' : Int) (no' : Bool) (S' U' : List Int) (Se' : List (List Int)) (Sp' : List Spl) (Cu' : List Cut) (s : ByteArray) (ok0 : OkA S U Se Sp Cu) (ok1 : OkA S' U' Se' Sp' Cu') :
 Ev (fun k => greenwoodlaw23_AnswerBack.f k kd no S U Se Sp Cu kd' no' S' U' Se' Sp' Cu' s) true := by
 have fix : Ev (fun k => greenwoodlaw23_AnswerBack.j0 k s true kd no S U Se Sp Cu kd' no' S' U' Se' Sp' Cu') true := by
  refine Ev.step (fun k => by rw [greenwoodlaw23_AnswerBack.j0]) ?_
  refine Ev.ifp rfl ?_
  exact Ev.bnd (a := true) (Ev.val rfl)
 unfold greenwoodlaw23_AnswerBack.f
 refine Ev.bnd (a := true) ?_
 refine Ev.ifp rfl ?_
 obtain ⟨r0, e0, f0⟩ := small_ev kd no S U Se Sp Cu ok0
 obtain ⟨r1, e1, f1⟩ := small_ev kd' no' S' U' Se' Sp' Cu' ok1
 refine Ev.bind e0 ?_
 cases r0 with
 | false => exact Ev.ifn (by decide) fix
 | true =>
 refine Ev.ifp rfl ?_
 refine Ev.bind e1 ?_
 cases r1 with
 | false => exact Ev.ifn (by decide) fix
 | true =>
 refine Ev.ifp rfl ?_
 obtain ⟨a1, a2, a3, a4, a5⟩ := f0 rfl
 obtain ⟨b1, b2, b3, b4, b5⟩ := f1 rfl
 clear f0 f1 e0 e1
 by_cases hs : (s.size : Int) > 3000
 ·rw [decide_eq_true hs]; exact fix
 rw [decide_eq_false hs]
 clear fix
 have hX := mkV_no kd no S U Se Sp Cu
 have hY := mkV_no kd' no' S' U' Se' Sp' Cu'
 have J1 : Ev (fun k => greenwoodlaw23_AnswerBack.j1 k false kd no S U Se Sp Cu kd' no' S' U' Se' Sp' Cu') true := by
  refine Ev.step (fun k => by rw [greenwoodlaw23_AnswerBack.j1]) ?_
  refine Ev.ifn (by decide) ?_
  rw [encode_val (kd := kd) (no := no) (S := S) (U := U) (Se := Se) (Sp := Sp) (Cu := Cu) (by omega) (by omega) (by omega), encode_val (kd := kd') (no := no') (S := S') (U := U') (Se := Se') (Sp := Sp') (Cu := Cu') (by omega) (by omega) (by omega)]
  refine Ev.bnd ?_
  refine Ev.bnd ?_
  cases hx : okV (mkV kd no S U Se Sp Cu) with
  | false =>
   rw [if_neg (by decide)]
   refine Ev.ifp ((sn_toList []).2 rfl) ?_
   refine Ev.step (fun k => by rw [greenwoodlaw23_AnswerBack.j2]) ?_
   refine Ev.ifp rfl ?_
   refine Ev.ifp ((sn_toList []).2 rfl) ?_
   exact Ev.bind (check_no (by omega) (by omega) (by omega) hx) (Ev.val (by decide))
  | true =>
   rw [if_pos rfl]
   have hne := sn_ne (encV_ne hx)
   refine Ev.ifn hne ?_
   cases hy : okV (mkV kd' no' S' U' Se' Sp' Cu') with
   | false =>
    rw [if_neg (by decide)]
    have e : ((strOfNums ([] : List Int)).toList == ([] : List UInt8)) = true := by rw [(sn_toList []).2 rfl]; rfl
    rw [e]
    refine Ev.step (fun k => by rw [greenwoodlaw23_AnswerBack.j2]) ?_
    refine Ev.ifp rfl ?_
    exact Ev.ifn hne (Ev.val rfl)
   | true =>
    rw [if_pos rfl]
    have hne' := sn_ne (encV_ne hy)
    have e : ((strOfNums (encV (mkV kd' no' S' U' Se' Sp' Cu'))).toList == ([] : List UInt8)) = false := beq_eq_false_iff_ne.mpr hne'
    rw [e]
    refine Ev.step (fun k => by rw [greenwoodlaw23_AnswerBack.j2]) ?_
    refine Ev.ifn (by decide) ?_
    have hl := enc_len hx hX.2.1
    rw [decode_val (by rw [size_sn]; omega), bytesOf_sn (encV_by _), dec_enc hx hX.1 hX.2.1]
    refine Ev.bnd ?_
    refine Ev.ifp rfl ?_
    obtain ⟨r, hr, hiff⟩ := sameA_ev kd ((mkV kd no S U Se Sp Cu).no == 1) S U Se Sp Cu kd no S U Se Sp Cu (ok_len hx)
    obtain rfl : r = true := hiff.2 ⟨rfl, hX.2.2, rfl, rfl, rfl, rfl, rfl⟩
    refine Ev.bind hr ?_
    refine Ev.ifp rfl ?_
    obtain ⟨r2, hr2, hiff2⟩ := sameA_ev kd no S U Se Sp Cu kd' no' S' U' Se' Sp' Cu' (ok_len hx)
    refine Ev.bind hr2 ?_
    refine Ev.val ?_
    have key : (strOfNums (encV (mkV kd no S U Se Sp Cu))).toList = (strOfNums (encV (mkV kd' no' S' U' Se' Sp' Cu'))).toList ↔ r2 = true := by
     rw [toList_eq, hiff2]
     constructor
     ·intro h
      have h1 : encV (mkV kd no S U Se Sp Cu) = encV (mkV kd' no' S' U' Se' Sp' Cu') := by rw [← bytesOf_sn (encV_by (mkV kd no S U Se Sp Cu)), h, bytesOf_sn (encV_by _)]
      have h2 := encV_inj hx hX.1 hX.2.1 hy hY.1 hY.2.1 h1
      have h3 : no = no' := by
       have h4 := congrArg (fun v => v.no == 1) h2
       rw [hX.2.2, hY.2.2] at h4
       exact h4
      unfold mkV at h2
      injection h2 with q1 q2 q3 q4 q5 q6 q7
      exact ⟨q1, h3, q3, q4, q5, q6, q7⟩
     ·rintro ⟨rfl, rfl, rfl, rfl, rfl, rfl, rfl⟩; rfl
    by_cases h : (strOfNums (encV (mkV kd no S U Se Sp Cu))).toList = (strOfNums (encV (mkV kd' no' S' U' Se' Sp' Cu'))).toList
    ·rw [key.1 h, beq_iff_eq.mpr h]; rfl
    ·rw [beq_eq_false_iff_ne.mpr h]
     cases r2 with
     | false => rfl
     | true => exact absurd (key.2 rfl) h
 refine Ev.step (fun k => by rw [greenwoodlaw23_AnswerBack.j0]) ?_
 refine Ev.ifn (by decide) ?_
 rw [decode_val (by omega)]
 refine Ev.bnd ?_
 have hbk := dec_back s
 obtain ⟨x, c, p, hd⟩ : ∃ x c p, decV (bytesOf s) = (x, c, p) := ⟨_, _, _, rfl⟩
 rw [hd] at hbk ⊢
 dsimp only [decR] at hbk ⊢
 by_cases hc : c = 0
 ·refine Ev.ifp hc ?_
  obtain ⟨h1, h2, h3, h4, h5⟩ := hbk hc
  have hself := mkV_self h2 h3
  obtain ⟨l1, l2, l3, l4, l5, l6, l7, l8⟩ := ok_len h1
  rw [encode_val (kd := x.kd) (no := x.no == 1) l3 l5 l7, hself, if_pos h1, h4, sn_bytes]
  refine Ev.bnd ?_
  refine Ev.ifp rfl ?_
  refine Ev.ifp (by rw [h5, bytesOf_length]) ?_
  exact Ev.bind (check_ok (kd := x.kd) (no := x.no == 1) l3 l5 l7 (by rw [hself]; exact h1)) J1
 ·exact Ev.ifn hc J1
end Go.Proofs.YtlekdhejgdfnpaaDoor.P
/- What a tied row's premise gives a walk: the one variable of the library's, laid; a world that meets it. (Turned from a worked proof of the kit.) -/
namespace Go.Proofs.YtlekdhejgdfnpaaDoor.P
open Go.ChangeShapes Go.WideShapes Go.RowKit
set_option linter.unusedVariables false
set_option linter.unusedSimpArgs false

theorem td_et : Tryd.prog.globalNamed "errors.errorType" = some 0 := by kernel_rfl
theorem td_rt : (Tryd.prog.cutTypes.find? (·.1 == "internal/reflectlite.rtype")).map (·.2) = some 116 := by kernel_rfl
theorem td_oneRow : ((List.range 158).filter fun t => Tryd.prog.rowNamed t [101, 114, 114, 111, 114]) = [66] := by kernel_rfl
theorem td_size : Tryd.prog.types.size = 158 := by kernel_rfl
def laidE {H : Type} : List (String × DataW H) := [("errors.errorType", Rows.laid_errors_errorType)]
theorem ev_of_laid {W : World} (h : laidMetH Tryd.prog laidE W) : EV W := by
 have h' : laidMet Tryd.prog [] W ∧ handlesMet Tryd.prog laidE W := h
 obtain ⟨name, u, ty, e1, e2, e3, e4, e5⟩ := h'.2 _ (List.mem_singleton.2 rfl)
 have en : name = [101, 114, 114, 111, 114] := (Option.some.inj e1).symm
 subst en
 obtain rfl := Option.some.inj (td_rt.symm.trans e2)
 have hm : ty ∈ (List.range 158).filter fun t => Tryd.prog.rowNamed t [101, 114, 114, 111, 114] := List.mem_filter.2 ⟨List.mem_range.2 (by rw [← td_size]; exact e3), e4⟩
 rw [td_oneRow] at hm
 obtain rfl := List.mem_singleton.1 hm
 have hh : typeHandle Tryd.prog 66 = .pointer (some ⟨1, 66, none⟩) := by kernel_rfl
 rw [hh] at e5
 have := World.var?_cell td_et e5 0
 unfold EV
 simpa using this
noncomputable def laidWorld (os : Os) : World :=
 let w0 := World.holding Tryd.prog os ⟨#[], #[], []⟩
 { w0 with heap := w0.heap.modify 0 fun
  | .cells _ t frozen => .cells #[.iface 116 (.agg #[.pointer (some ⟨1, 66, none⟩)])] t frozen
  | o => o }
theorem laidWorld_met (os : Os) (args : Array Value) : laidMetH Tryd.prog laidE ((laidWorld os).forCall (fun _ _ => 0) ⟨#[], args, []⟩).memory :=
 laidMetH_of_parts (laidMet_nil _ _) (by kernel_rfl)
end Go.Proofs.YtlekdhejgdfnpaaDoor.P
/- What came in, opened: an answer. -/
namespace Go.Proofs.YtlekdhejgdfnpaaDoor.P
open Go.RowKit Go.WideShapes Go.Proofs.YtlekdhejgdfnpaaDoorW.PrintWords Go.Proofs.YtlekdhejgdfnpaaDoorW.PrintLast Go.Proofs.YtlekdhejgdfnpaaDoorW.PrintMore
set_option linter.unusedVariables false
set_option linter.unusedSimpArgs false

theorem cells_spl : Tryd.prog.cellsOf 41 = 3 := by kernel_rfl
theorem cells_cut : Tryd.prog.cellsOf 43 = 2 := by kernel_rfl
theorem cells_ans : Tryd.prog.cellsOf 27 = 7 := by kernel_rfl
theorem opens_il : Opens Tryd.prog 22 (Kd.slice 3 (Kd.int .i64)) (fun _ => True) :=
 (opens_slice 3 Tryd.underlying22 (by kernel_rfl) (opens_int Tryd.underlying3 (by kernel_rfl))).mono (fun _ _ => trivial)
set_option maxRecDepth 100000 in
theorem opens_spl : Opens Tryd.prog 41 k41 (fun _ => True) :=
 ⟨cells_spl, fun {H enc w base fuel held cs x} h => by
  obtain ⟨xs, n, rfl, _, hl, hlen, hf⟩ := DataW.trod_struct Tryd.underlying41 h
  rw [cells_spl] at hl
  match cs, hl with
  | [v0, v1, v2], _ =>
   match xs, hlen with
   | [y0, y1, y2], _ =>
    have g0 : DataW.trod enc Tryd.prog w base (fun _ => true) held n 22 [v0] = some y0 := hf 0 _ rfl
    have g1 : DataW.trod enc Tryd.prog w base (fun _ => true) held n 22 [v1] = some y1 := hf 1 _ rfl
    have g2 : DataW.trod enc Tryd.prog w base (fun _ => true) held n 22 [v2] = some y2 := hf 2 _ rfl
    obtain ⟨l0, ⟨A0, c0, e0, hc0, hr0⟩, _⟩ := opens_il.op g0
    obtain ⟨l1, ⟨A1, c1, e1, hc1, hr1⟩, _⟩ := opens_il.op g1
    obtain ⟨l2, ⟨A2, c2, e2, hc2, hr2⟩, _⟩ := opens_il.op g2
    have e0 := List.head_eq_of_cons_eq e0
    have e1 := List.head_eq_of_cons_eq e1
    have e2 := List.head_eq_of_cons_eq e2
    subst e0 e1 e2
    exact ⟨⟨l0, l1, l2⟩, k41_mk w ⟨l0, l1, l2⟩ hc0 hr0 hc1 hr1 hc2 hr2, trivial⟩⟩
set_option maxRecDepth 100000 in
theorem opens_cut : Opens Tryd.prog 43 k43 (fun _ => True) :=
 ⟨cells_cut, fun {H enc w base fuel held cs x} h => by
  obtain ⟨xs, n, rfl, _, hl, hlen, hf⟩ := DataW.trod_struct Tryd.underlying43 h
  rw [cells_cut] at hl
  match cs, hl with
  | [v0, v1], _ =>
   match xs, hlen with
   | [y0, y1], _ =>
    have g0 : DataW.trod enc Tryd.prog w base (fun _ => true) held n 22 [v0] = some y0 := hf 0 _ rfl
    have g1 : DataW.trod enc Tryd.prog w base (fun _ => true) held n 3 [v1] = some y1 := hf 1 _ rfl
    obtain ⟨l0, ⟨A0, c0, e0, hc0, hr0⟩, _⟩ := opens_il.op g0
    obtain ⟨a1, e1, _, w1⟩ := DataW.trod_int Tryd.underlying3 g1
    have e0 := List.head_eq_of_cons_eq e0
    have e1 := List.head_eq_of_cons_eq e1
    subst e0 e1
    exact ⟨⟨l0, a1⟩, k43_mk w ⟨l0, a1⟩ hc0 hr0, trivial⟩⟩
theorem opens_ills : Opens Tryd.prog 23 (Kd.slice 22 (Kd.slice 3 (Kd.int .i64))) (fun _ => True) :=
 (opens_slice 22 Tryd.underlying23 (by kernel_rfl) opens_il).mono (fun _ _ => trivial)
theorem opens_spls : Opens Tryd.prog 24 (Kd.slice 41 k41) (fun _ => True) :=
 (opens_slice 41 Tryd.underlying24 (by kernel_rfl) opens_spl).mono (fun _ _ => trivial)
theorem opens_cuts : Opens Tryd.prog 25 (Kd.slice 43 k43) (fun _ => True) :=
 (opens_slice 43 Tryd.underlying25 (by kernel_rfl) opens_cut).mono (fun _ _ => trivial)
/-- how long a slice may be, whose bytes are within reach -/
theorem sl_len {H : Type} {enc : TypeId × Value → H} {w : World} {base fuel : Nat} {held : Bool} {t e : TypeId} {x : DataW H × List MemPlace} {A : Option Addr} {len c : Nat} (ht : Tryd.prog.underlying t = some (.slice e)) (hb : 1 ≤ Tryd.prog.bytesOf e)
 (h : DataW.trod enc Tryd.prog w base (fun _ => true) held fuel t [.slice A len c] = some x) (hw : ∀ n ∈ x.1.weights Tryd.prog t, n ≤ reachBytes) : len ≤ 140737488355328 := by
 rcases DataW.trod_slice ht h with ⟨e1, _⟩ | ⟨a, len', cap, elems, rest, n, _, e1, e2, _, _, _, hl, _⟩
 ·have e3 := List.head_eq_of_cons_eq e1
  injection e3 with _ e4 _
  omega
 ·have e3 := List.head_eq_of_cons_eq e1
  injection e3 with _ e4 _
  subst e4
  subst e2
  have h1 := hw (((elems.map (·.1)).length + (rest.map (·.1)).length) * Tryd.prog.bytesOf e) (by simp [DataW.weights, ht])
  rw [List.length_map] at h1
  have h2 : elems.length + (rest.map (·.1)).length ≤ (elems.length + (rest.map (·.1)).length) * Tryd.prog.bytesOf e := Nat.le_mul_of_pos_right _ hb
  have h3 := reachBytes_lt
  omega
set_option maxRecDepth 100000 in
theorem ans_arg {r : Reach} {H : Type} {enc : TypeId × Value → H} {w W0 : World} {base b0 : Nat} {held : Bool} {v : Value} {dd : DataW H} {ps : List MemPlace} (hv : Value.okWide Tryd.prog W0 r b0 27 v)
 (ht : DataW.Trod enc Tryd.prog w base (fun _ => true) held 27 v dd ps) (hw : ∀ n ∈ dd.weights Tryd.prog 27, n ≤ reachBytes) :
 ∃ (a0 : Int) (a1 : Bool) (A2 : Option Addr) (c2 : Nat) (l2 : List Int) (A3 : Option Addr) (c3 : Nat) (l3 : List Int) (A4 : Option Addr) (c4 : Nat) (l4 : List (List Int)) (A5 : Option Addr) (c5 : Nat) (l5 : List Spl) (A6 : Option Addr) (c6 : Nat) (l6 : List Cut),
  v = .agg #[.int .i64 a0, .bool a1, .slice A2 l2.length c2, .slice A3 l3.length c3, .slice A4 l4.length c4, .slice A5 l5.length c5, .slice A6 l6.length c6] ∧ Kd.C (Kd.int .i64) w A2 l2.length l2 ∧ l2.length ≤ c2 ∧ Kd.C (Kd.int .i64) w A3 l3.length l3 ∧ l3.length ≤ c3 ∧
  Kd.C (Kd.slice 3 (Kd.int .i64)) w A4 l4.length l4 ∧ l4.length ≤ c4 ∧ Kd.C k41 w A5 l5.length l5 ∧ l5.length ≤ c5 ∧ Kd.C k43 w A6 l6.length l6 ∧ l6.length ≤ c6 ∧ OkA l2 l3 l4 l5 l6 := by
 obtain ⟨cs, rfl, _⟩ := okWide_struct Tryd.underlying27 hv
 obtain ⟨fuel, hf0⟩ := ht
 obtain ⟨xs, n, rfl, hx, hl, hlen, hf⟩ := DataW.trod_struct Tryd.underlying27 hf0
 rw [cells_ans] at hl
 obtain rfl : dd = .agg (xs.map (·.1)) := congrArg Prod.fst hx
 obtain ⟨cs⟩ := cs
 match cs, hl with
 | [v0, v1, v2, v3, v4, v5, v6], _ =>
  match xs, hlen with
  | [y0, y1, y2, y3, y4, y5, y6], _ =>
   have g0 : DataW.trod enc Tryd.prog w base (fun _ => true) held n 3 [v0] = some y0 := hf 0 _ rfl
   have g1 : DataW.trod enc Tryd.prog w base (fun _ => true) held n 4 [v1] = some y1 := hf 1 _ rfl
   have g2 : DataW.trod enc Tryd.prog w base (fun _ => true) held n 22 [v2] = some y2 := hf 2 _ rfl
   have g3 : DataW.trod enc Tryd.prog w base (fun _ => true) held n 22 [v3] = some y3 := hf 3 _ rfl
   have g4 : DataW.trod enc Tryd.prog w base (fun _ => true) held n 23 [v4] = some y4 := hf 4 _ rfl
   have g5 : DataW.trod enc Tryd.prog w base (fun _ => true) held n 24 [v5] = some y5 := hf 5 _ rfl
   have g6 : DataW.trod enc Tryd.prog w base (fun _ => true) held n 25 [v6] = some y6 := hf 6 _ rfl
   have hwt : ∀ (j : Nat) (t : TypeId) (d : DataW H), ([3, 4, 22, 22, 23, 24, 25] : List TypeId)[j]? = some t → ([y0.1, y1.1, y2.1, y3.1, y4.1, y5.1, y6.1] : List (DataW H))[j]? = some d → ∀ m ∈ d.weights Tryd.prog t, m ≤ reachBytes := fun j t d h1 h2 m hm => by
    refine hw m ?_
    have h3 := DataW.weights_mem_each (P := Tryd.prog) h1 h2 m hm
    rw [DataW.weights, Tryd.underlying27]
    exact h3
   obtain ⟨a0, e0, _, _⟩ := DataW.trod_int Tryd.underlying3 g0
   obtain ⟨a1, e1, _⟩ := DataW.trod_bool Tryd.underlying4 g1
   obtain ⟨l2, ⟨A2, c2, e2, hc2, hr2⟩, _⟩ := opens_il.op g2
   obtain ⟨l3, ⟨A3, c3, e3, hc3, hr3⟩, _⟩ := opens_il.op g3
   obtain ⟨l4, ⟨A4, c4, e4, hc4, hr4⟩, _⟩ := opens_ills.op g4
   obtain ⟨l5, ⟨A5, c5, e5, hc5, hr5⟩, _⟩ := opens_spls.op g5
   obtain ⟨l6, ⟨A6, c6, e6, hc6, hr6⟩, _⟩ := opens_cuts.op g6
   have e0 := List.head_eq_of_cons_eq e0
   have e1 := List.head_eq_of_cons_eq e1
   have e2 := List.head_eq_of_cons_eq e2
   have e3 := List.head_eq_of_cons_eq e3
   have e4 := List.head_eq_of_cons_eq e4
   have e5 := List.head_eq_of_cons_eq e5
   have e6 := List.head_eq_of_cons_eq e6
   subst e0 e1 e2 e3 e4 e5 e6
   exact ⟨a0, a1, A2, c2, l2, A3, c3, l3, A4, c4, l4, A5, c5, l5, A6, c6, l6, rfl, hr2, hc2, hr3, hc3, hr4, hc4, hr5, hc5, hr6, hc6,
    sl_len Tryd.underlying22 (of_decide_eq_true (by kernel_rfl)) g2 (hwt 2 _ _ rfl rfl), sl_len Tryd.underlying22 (of_decide_eq_true (by kernel_rfl)) g3 (hwt 3 _ _ rfl rfl), sl_len Tryd.underlying23 (of_decide_eq_true (by kernel_rfl)) g4 (hwt 4 _ _ rfl rfl),
    sl_len Tryd.underlying24 (of_decide_eq_true (by kernel_rfl)) g5 (hwt 5 _ _ rfl rfl), sl_len Tryd.underlying25 (of_decide_eq_true (by kernel_rfl)) g6 (hwt 6 _ _ rfl rfl)⟩
end Go.Proofs.YtlekdhejgdfnpaaDoor.P
