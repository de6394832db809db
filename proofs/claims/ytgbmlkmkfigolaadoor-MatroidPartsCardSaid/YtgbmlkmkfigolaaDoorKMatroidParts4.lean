/- Texts of this claim's own repository, merged by wip/tool/pack.py: Px14, MatPt, Opn, TiedC, MatOpn. -/
import Derived.Deep.Slices
import Derived.ChangeArms
import Derived.ProofKit
import Derived.Test.YtgbmlkmkfigolaaDoorRows
import Derived.ChangeSame
import Derived.ChangeVars
import Derived.JoinedOf
import Derived.RowKit
import Derived.RowKitTokens
import Derived.LaidLaws
import Derived.LaidHandle
import Derived.Stop.Joined
import Derived.WideShapes
import Derived.Test.YtgbmlkmkfigolaaDoorKMatroidParts3
set_option linter.unusedVariables false
set_option linter.unusedSimpArgs false
namespace Go.Proofs.YtgbmlkmkfigolaaDoor.P
open Go.RowKit Go.Proofs.YtgbmlkmkfigolaaDoorW.PrintWords Go.Proofs.YtgbmlkmkfigolaaDoorW.PrintLast Go.Proofs.YtgbmlkmkfigolaaDoorW.PrintMore
attribute [local go_sem] max2_int min2_int max_two min_two max_three min_three max_four min_four   -- for this text's walks alone
set_option linter.unusedVariables false
set_option linter.unusedSimpArgs false

/-! ### greenwoodlaw09_MatroidParts: function 6 -/
mutual
def greenwoodlaw09_MatroidParts.j0 : Nat → List Int → Bool → Int → Int → Int → Int → List (List Int) → List (S25) → Option (Bool)
 | 0, _, _, _, _, _, _, _, _ => none
 | k + 1, x1, x39, x301000, x301001, x301002, x301003, x301004, x301005 => if x39 = true then ((greenwoodlaw09_fixed.f).bind fun t306 => (some t306)) else (greenwoodlaw09_MatroidParts.l0 k x1 (([] : List Int)) (([] : List Int)) (([] : List Int)) 0 x301000 x301001 x301002 x301003 x301004 x301005)
def greenwoodlaw09_MatroidParts.l0 : Nat → List Int → List Int → List Int → List Int → Int → Int → Int → Int → Int → List (List Int) → List (S25) → Option (Bool)
 | 0, _, _, _, _, _, _, _, _, _, _, _ => none
 | k + 1, x1, x5, x6, x7, x8, x301000, x301001, x301002, x301003, x301004, x301005 => if x8 < x301001 then ((greenwoodlaw09_in.f k x1 x8).bind fun t316 => (if t316 = true then (greenwoodlaw09_MatroidParts.l0 k x1 x5 x6 x7 (wrap64 (x8 + 1)) x301000 x301001 x301002 x301003 x301004 x301005) else (if x5.length < 17592186044416 then (if x6.length < 17592186044416 then (greenwoodlaw09_MatroidParts.l0 k x1 (x5 ++ [x8]) (x6 ++ [(x6.length : Int)]) x7 (wrap64 (x8 + 1)) x301000 x301001 x301002 x301003 x301004 x301005) else (none)) else (none)))) else (greenwoodlaw09_MatroidParts.l1 k x1 x5 x6 x7 0 x301000 x301001 x301002 x301003 x301004 x301005)
def greenwoodlaw09_MatroidParts.l1 : Nat → List Int → List Int → List Int → List Int → Int → Int → Int → Int → Int → List (List Int) → List (S25) → Option (Bool)
 | 0, _, _, _, _, _, _, _, _, _, _, _ => none
 | k + 1, x1, x5, x6, x7, x9, x301000, x301001, x301002, x301003, x301004, x301005 => if x9 < (x1.length : Int) then (if x7.length < 17592186044416 then (greenwoodlaw09_MatroidParts.l1 k x1 x5 x6 (x7 ++ [x9]) (wrap64 (x9 + 1)) x301000 x301001 x301002 x301003 x301004 x301005) else (none)) else ((some (([x1] : List (List Int)) : List (List Int))).bind fun y326 => ((some (([(⟨x301000, x301001, x301002, x301003, x301004, x301005⟩ : S25)] : List (S25)) : List (S25))).bind fun y329 => ((some (([x1] : List (List Int)) : List (List Int))).bind fun y333 => ((some (([(⟨x301000, x301001, x301002, x301003, x301004, x301005⟩ : S25)] : List (S25)) : List (S25))).bind fun y336 => ((matroid_Image.f k 5 (x1.length : Int) 0 0 y326 y329 x7).bind fun bt340 => ((matroid_Image.f k 6 (x5.length : Int) 0 0 y333 y336 x6).bind fun bt344 => ((matroid_Check.f 5 (x1.length : Int) 0 0 y326 y329).bind fun t348 => (if t348 = 0 then (if bt340.2 = true then ((greenwoodref01_Same.f k bt340.1 x1).bind fun t349 => (if t349 = true then (if bt344.2 = true then ((greenwoodref01_Same.f k bt344.1 x5).bind fun t350 => (if t350 = true then ((matroid_Check.f 6 (wrap64 ((x5.length : Int) + 1)) 0 0 y333 y336).bind fun t351 => (some (t351 == 90))) else (some false))) else (some false)) else (some false))) else (some false)) else (some false)))))))))
end
def greenwoodlaw09_MatroidParts.f (k : Nat) (a0_0 : Int) (a0_1 : Int) (a0_2 : Int) (a0_3 : Int) (l0_4 : List (List Int)) (l0_5 : List (S25)) (l1 : List Int) : Option (Bool) := (greenwoodlaw09_fixed.f).bind fun t301 => (if t301 = true then ((greenwoodref09_Small.f k a0_0 a0_1 a0_2 a0_3 l0_4 l0_5).bind fun t302 => (if t302 = true then ((matroid_Check.f a0_0 a0_1 a0_2 a0_3 l0_4 l0_5).bind fun t303 => (if t303 = 0 then ((matroid_Deep.f k a0_0 a0_1 a0_2 a0_3 l0_4 l0_5).bind fun t304 => (if t304 > 3 then (greenwoodlaw09_MatroidParts.j0 k l1 true a0_0 a0_1 a0_2 a0_3 l0_4 l0_5) else ((greenwoodref09_Set.f k l1 a0_1).bind fun t305 => (greenwoodlaw09_MatroidParts.j0 k l1 (!t305) a0_0 a0_1 a0_2 a0_3 l0_4 l0_5)))) else (greenwoodlaw09_MatroidParts.j0 k l1 true a0_0 a0_1 a0_2 a0_3 l0_4 l0_5))) else (greenwoodlaw09_MatroidParts.j0 k l1 true a0_0 a0_1 a0_2 a0_3 l0_4 l0_5))) else (greenwoodlaw09_MatroidParts.j0 k l1 true a0_0 a0_1 a0_2 a0_3 l0_4 l0_5))
set_option maxHeartbeats 8000000 in
set_option maxRecDepth 100000 in
theorem greenwoodlaw09_MatroidParts.callsT (k : Nat) (a0_0 : Int) (a0_1 : Int) (a0_2 : Int) (a0_3 : Int) (P0_4_ : Nat → Prop) (A0_4 : Option Addr) (c0_4 : Nat) (l0_4 : List (List Int)) (P0_5_ : Nat → Prop) (A0_5 : Option Addr) (c0_5 : Nat) (l0_5 : List (S25)) (P1_ : Nat → Prop) (A1 : Option Addr) (c1 : Nat) (l1 : List Int) (r : Bool) (w : World) (hEV : EV w) (hs0_4 : Kd.V (Kd.slice 3 (Kd.int .i64)) 26 w w.heap.size (fun k_ => P0_4_ k_) (.slice A0_4 l0_4.length c0_4) l0_4) (hs0_5 : Kd.V k25 25 w w.heap.size (fun k_ => P0_5_ k_) (.slice A0_5 l0_5.length c0_5) l0_5) (hs1 : Kd.V (Kd.int .i64) 3 w w.heap.size (fun k_ => P1_ k_) (.slice A1 l1.length c1) l1) (hrT : r = true) (h : greenwoodlaw09_MatroidParts.f k a0_0 a0_1 a0_2 a0_3 l0_4 l0_5 l1 = some r) :
 Calls Tryd.prog 6 #[.agg #[.int .i64 a0_0, .int .i64 a0_1, .int .i64 a0_2, .int .i64 a0_3, .slice A0_4 l0_4.length c0_4, .slice A0_5 l0_5.length c0_5], .slice A1 l1.length c1] w fun e w' => e = .returned (.bool r) ∧ Below w.heap.size w w' := by
 have HEV := Aside0.mk hEV
 clear hEV
 have hu25 := Tryd.underlying25
 have HO0_4 := Aside0.mk (show Kd.V (Kd.slice 3 (Kd.int .i64)) 26 w w.heap.size (fun k_ => ((P0_4_ k_ ∨ P0_5_ k_ ∨ P1_ k_) ∨ w.heap.size ≤ k_)) (.slice A0_4 l0_4.length c0_4) l0_4 from Kd.V_mono hs0_4 (fun k_ hk => .inl (.inl hk)))
 have HO0_5 := Aside0.mk (show Kd.V k25 25 w w.heap.size (fun k_ => ((P0_4_ k_ ∨ P0_5_ k_ ∨ P1_ k_) ∨ w.heap.size ≤ k_)) (.slice A0_5 l0_5.length c0_5) l0_5 from Kd.V_mono hs0_5 (fun k_ hk => .inl (.inr (.inl hk))))
 have HO1 := Aside0.mk (show Kd.V (Kd.int .i64) 3 w w.heap.size (fun k_ => ((P0_4_ k_ ∨ P0_5_ k_ ∨ P1_ k_) ∨ w.heap.size ≤ k_)) (.slice A1 l1.length c1) l1 from Kd.V_mono hs1 (fun k_ hk => .inl (.inr (.inr hk))))
 have HB := Aside0.mk (Below.refl w.heap.size w)
 have H : ((greenwoodlaw09_fixed.f).bind fun t301 => (if t301 = true then ((greenwoodref09_Small.f k a0_0 a0_1 a0_2 a0_3 l0_4 l0_5).bind fun t302 => (if t302 = true then ((matroid_Check.f a0_0 a0_1 a0_2 a0_3 l0_4 l0_5).bind fun t303 => (if t303 = 0 then ((matroid_Deep.f k a0_0 a0_1 a0_2 a0_3 l0_4 l0_5).bind fun t304 => (if t304 > 3 then (greenwoodlaw09_MatroidParts.j0 k l1 true a0_0 a0_1 a0_2 a0_3 l0_4 l0_5) else ((greenwoodref09_Set.f k l1 a0_1).bind fun t305 => (greenwoodlaw09_MatroidParts.j0 k l1 (!t305) a0_0 a0_1 a0_2 a0_3 l0_4 l0_5)))) else (greenwoodlaw09_MatroidParts.j0 k l1 true a0_0 a0_1 a0_2 a0_3 l0_4 l0_5))) else (greenwoodlaw09_MatroidParts.j0 k l1 true a0_0 a0_1 a0_2 a0_3 l0_4 l0_5))) else (greenwoodlaw09_MatroidParts.j0 k l1 true a0_0 a0_1 a0_2 a0_3 l0_4 l0_5))) = some r := h
 clear h
 have HC3 := Aside0.mk H
 clear H
 go_enter Tryd.func6, Tryd.ntmps6
 go_upto_region 1 with (first | ((with_reducible refine gate_dst (N := 2) rfl ?_); refine box_event ?hg (N := 2) ?hd (cs := #[.int .i64 a0_0, .int .i64 a0_1, .int .i64 a0_2, .int .i64 a0_3, .slice A0_4 l0_4.length c0_4, .slice A0_5 l0_5.length c0_5]) (t := 25) ?hr ?_; (case hd => rfl); (case hg => rfl); (case hr => first | (go_simp; done) | (go_simp; rfl)); intro gb300 hg w4 hbox hb; have n0_ := Aside0.mk (Kd.V_below (Kd.V_elderB (by (with_reducible repeat (first | apply Kd.V_alloc | apply Kd.V_drewN | apply Kd.V_drew)); exact HO0_4.out) gb300 (Nat.le_of_eq hg.symm)) hb); have n1_ := Aside0.mk (Kd.V_below (Kd.V_elderB (by (with_reducible repeat (first | apply Kd.V_alloc | apply Kd.V_drewN | apply Kd.V_drew)); exact HO0_5.out) gb300 (Nat.le_of_eq hg.symm)) hb); have n2_ := Aside0.mk (Kd.V_below (Kd.V_elderB (by (with_reducible repeat (first | apply Kd.V_alloc | apply Kd.V_drewN | apply Kd.V_drew)); exact HO1.out) gb300 (Nat.le_of_eq hg.symm)) hb); have n3_ := Aside0.mk (below_step (by repeat (first | (with_reducible first | exact HB.out | apply below_alloc | apply pw_below_drewN | apply below_drew1) | exact HB.out)) hb); have n4_ := Aside0.mk (hbox); have n5_ := Aside0.mk ((by rw [hg]; exact (below_size (by repeat (first | (with_reducible first | exact HB.out | apply below_alloc | apply pw_below_drewN | apply below_drew1) | exact HB.out))) : w.heap.size ≤ gb300)); have n6_ := Aside0.mk ((by rw [hg]; exact (below_size (by repeat (first | (with_reducible first | exact HB.out | apply below_alloc | apply pw_below_drewN | apply below_drew1) | exact HB.out))) : w.heap.size ≤ gb300)); clear HO0_4; clear HO0_5; clear HO1; clear HB; have HO0_4 := n0_; have HO0_5 := n1_; have HO1 := n2_; have HB := n3_; have BK300 := n4_; have GW300 := n5_; have GE300 := n6_; clear n0_ n1_ n2_ n3_ n4_ n5_ n6_; clear hb hbox hg))
 (try simp only [Act.put, List.setIfInBounds_toArray, List.set_cons_zero, List.set_cons_succ])
 go_cut [39] (fun v39 wc => ∃ (kq : Nat) (x39_2 : Bool), v39 = .bool x39_2 ∧ Aside0 (greenwoodlaw09_MatroidParts.j0 kq l1 x39_2 a0_0 a0_1 a0_2 a0_3 l0_4 l0_5 = some r) ∧ Aside0 (kq ≤ k) ∧ Aside0 (Kd.V (Kd.int .i64) 3 wc w.heap.size (fun k_ => ((P0_4_ k_ ∨ P0_5_ k_ ∨ P1_ k_) ∨ w.heap.size ≤ k_) ∧ k_ ≠ gb300) (.slice A1 l1.length c1) l1) ∧ Aside0 (Kd.V (Kd.slice 3 (Kd.int .i64)) 26 wc w.heap.size (fun k_ => ((P0_4_ k_ ∨ P0_5_ k_ ∨ P1_ k_) ∨ w.heap.size ≤ k_) ∧ k_ ≠ gb300) (.slice A0_4 l0_4.length c0_4) l0_4) ∧ Aside0 (Kd.V k25 25 wc w.heap.size (fun k_ => ((P0_4_ k_ ∨ P0_5_ k_ ∨ P1_ k_) ∨ w.heap.size ≤ k_) ∧ k_ ≠ gb300) (.slice A0_5 l0_5.length c0_5) l0_5) ∧ Aside0 (wc.heap[gb300]? = some (.cells #[.int .i64 a0_0, .int .i64 a0_1, .int .i64 a0_2, .int .i64 a0_3, (.slice A0_4 l0_4.length c0_4), (.slice A0_5 l0_5.length c0_5)] 25 (0, 0))) ∧ Aside0 (Below w.heap.size w wc))
 case first =>
  have H := HC3.out
  clear HC3
  replace H := Option.bind_eq_some_iff.mp H
  obtain ⟨t301, A50, H⟩ := H
  replace H : (if t301 = true then ((greenwoodref09_Small.f k a0_0 a0_1 a0_2 a0_3 l0_4 l0_5).bind fun t302 => (if t302 = true then ((matroid_Check.f a0_0 a0_1 a0_2 a0_3 l0_4 l0_5).bind fun t303 => (if t303 = 0 then ((matroid_Deep.f k a0_0 a0_1 a0_2 a0_3 l0_4 l0_5).bind fun t304 => (if t304 > 3 then (greenwoodlaw09_MatroidParts.j0 k l1 true a0_0 a0_1 a0_2 a0_3 l0_4 l0_5) else ((greenwoodref09_Set.f k l1 a0_1).bind fun t305 => (greenwoodlaw09_MatroidParts.j0 k l1 (!t305) a0_0 a0_1 a0_2 a0_3 l0_4 l0_5)))) else (greenwoodlaw09_MatroidParts.j0 k l1 true a0_0 a0_1 a0_2 a0_3 l0_4 l0_5))) else (greenwoodlaw09_MatroidParts.j0 k l1 true a0_0 a0_1 a0_2 a0_3 l0_4 l0_5))) else (greenwoodlaw09_MatroidParts.j0 k l1 true a0_0 a0_1 a0_2 a0_3 l0_4 l0_5)) = some r := H
  have A5 := Aside0.mk A50
  clear A50
  by_cases c6 : t301 = true
  ·subst c6
   have H1 : ((greenwoodref09_Small.f k a0_0 a0_1 a0_2 a0_3 l0_4 l0_5).bind fun t302 => (if t302 = true then ((matroid_Check.f a0_0 a0_1 a0_2 a0_3 l0_4 l0_5).bind fun t303 => (if t303 = 0 then ((matroid_Deep.f k a0_0 a0_1 a0_2 a0_3 l0_4 l0_5).bind fun t304 => (if t304 > 3 then (greenwoodlaw09_MatroidParts.j0 k l1 true a0_0 a0_1 a0_2 a0_3 l0_4 l0_5) else ((greenwoodref09_Set.f k l1 a0_1).bind fun t305 => (greenwoodlaw09_MatroidParts.j0 k l1 (!t305) a0_0 a0_1 a0_2 a0_3 l0_4 l0_5)))) else (greenwoodlaw09_MatroidParts.j0 k l1 true a0_0 a0_1 a0_2 a0_3 l0_4 l0_5))) else (greenwoodlaw09_MatroidParts.j0 k l1 true a0_0 a0_1 a0_2 a0_3 l0_4 l0_5))) = some r := by rw [if_pos rfl] at H; exact H
   clear H
   have H := H1
   clear H1
   replace H := Option.bind_eq_some_iff.mp H
   obtain ⟨t302, A70, H⟩ := H
   replace H : (if t302 = true then ((matroid_Check.f a0_0 a0_1 a0_2 a0_3 l0_4 l0_5).bind fun t303 => (if t303 = 0 then ((matroid_Deep.f k a0_0 a0_1 a0_2 a0_3 l0_4 l0_5).bind fun t304 => (if t304 > 3 then (greenwoodlaw09_MatroidParts.j0 k l1 true a0_0 a0_1 a0_2 a0_3 l0_4 l0_5) else ((greenwoodref09_Set.f k l1 a0_1).bind fun t305 => (greenwoodlaw09_MatroidParts.j0 k l1 (!t305) a0_0 a0_1 a0_2 a0_3 l0_4 l0_5)))) else (greenwoodlaw09_MatroidParts.j0 k l1 true a0_0 a0_1 a0_2 a0_3 l0_4 l0_5))) else (greenwoodlaw09_MatroidParts.j0 k l1 true a0_0 a0_1 a0_2 a0_3 l0_4 l0_5)) = some r := H
   have A7 := Aside0.mk A70
   clear A70
   by_cases c8 : t302 = true
   ·subst c8
    have H1 : ((matroid_Check.f a0_0 a0_1 a0_2 a0_3 l0_4 l0_5).bind fun t303 => (if t303 = 0 then ((matroid_Deep.f k a0_0 a0_1 a0_2 a0_3 l0_4 l0_5).bind fun t304 => (if t304 > 3 then (greenwoodlaw09_MatroidParts.j0 k l1 true a0_0 a0_1 a0_2 a0_3 l0_4 l0_5) else ((greenwoodref09_Set.f k l1 a0_1).bind fun t305 => (greenwoodlaw09_MatroidParts.j0 k l1 (!t305) a0_0 a0_1 a0_2 a0_3 l0_4 l0_5)))) else (greenwoodlaw09_MatroidParts.j0 k l1 true a0_0 a0_1 a0_2 a0_3 l0_4 l0_5))) = some r := by rw [if_pos rfl] at H; exact H
    clear H
    have H := H1
    clear H1
    replace H := Option.bind_eq_some_iff.mp H
    obtain ⟨t303, A90, H⟩ := H
    replace H : (if t303 = 0 then ((matroid_Deep.f k a0_0 a0_1 a0_2 a0_3 l0_4 l0_5).bind fun t304 => (if t304 > 3 then (greenwoodlaw09_MatroidParts.j0 k l1 true a0_0 a0_1 a0_2 a0_3 l0_4 l0_5) else ((greenwoodref09_Set.f k l1 a0_1).bind fun t305 => (greenwoodlaw09_MatroidParts.j0 k l1 (!t305) a0_0 a0_1 a0_2 a0_3 l0_4 l0_5)))) else (greenwoodlaw09_MatroidParts.j0 k l1 true a0_0 a0_1 a0_2 a0_3 l0_4 l0_5)) = some r := H
    have A9 := Aside0.mk A90
    clear A90
    by_cases c10 : t303 = 0
    ·rw [if_pos c10] at H
     have c10b0 : (t303 == 0) = true := beq_iff_eq.mpr c10
     have c10b1 : (t303 != 0) = false := bne_eq_false_iff_eq.mpr c10
     clear c10
     (first | rw [c10b0] | (simp only [i64_w, i32_w]; rw [c10b0]) | skip)
     replace H := Option.bind_eq_some_iff.mp H
     obtain ⟨t304, A110, H⟩ := H
     replace H : (if t304 > 3 then (greenwoodlaw09_MatroidParts.j0 k l1 true a0_0 a0_1 a0_2 a0_3 l0_4 l0_5) else ((greenwoodref09_Set.f k l1 a0_1).bind fun t305 => (greenwoodlaw09_MatroidParts.j0 k l1 (!t305) a0_0 a0_1 a0_2 a0_3 l0_4 l0_5))) = some r := H
     have A11 := Aside0.mk A110
     clear A110
     by_cases c12 : t304 > 3
     ·rw [if_pos c12] at H
      have c12b0 : decide (3 < t304) = true := decide_eq_true c12
      clear c12
      have H' := Aside0.mk H
      clear H
      go_wp2_with (first | ((with_reducible refine gate_callee (f := 9) rfl ?_); refine goesL_ (some 16) rfl rfl Tryd.func9 (by kernel_rfl) rfl #[] rfl (by (try simp only [List.map_toArray, List.map_cons, List.map_nil]); first | done | rfl | (simp only [List.length_drop, List.length_take]; rfl)) ?_; (with_reducible refine (greenwoodlaw09_fixed.calls  true _ ?side1 A5.out).mono ?_); (case side1 => exact EV.below HEV.out (by repeat (first | (with_reducible first | exact HB.out | apply below_alloc | apply pw_below_drewN | apply below_drew1 | refine below_set ?_ GE300.out) | exact HB.out)) (EV.pos HEV.out)); rintro e w13 ⟨rfl, hb⟩; refine ⟨_, rfl, ?_⟩; have n0_ := Aside0.mk (Kd.V_below (by (with_reducible repeat (first | apply Kd.V_alloc | apply Kd.V_drewN | apply Kd.V_drew)); exact HO0_4.out) hb); have n1_ := Aside0.mk (Kd.V_below (by (with_reducible repeat (first | apply Kd.V_alloc | apply Kd.V_drewN | apply Kd.V_drew)); exact HO0_5.out) hb); have n2_ := Aside0.mk (Kd.V_below (by (with_reducible repeat (first | apply Kd.V_alloc | apply Kd.V_drewN | apply Kd.V_drew)); exact HO1.out) hb); have n3_ := Aside0.mk (blk_below (g := gb300) (o := .cells #[.int .i64 a0_0, .int .i64 a0_1, .int .i64 a0_2, .int .i64 a0_3, .slice A0_4 l0_4.length c0_4, .slice A0_5 l0_5.length c0_5] 25 (0, 0)) (by (with_reducible repeat (first | refine blk_drewN ?_ _ | refine blk_drew ?_ | refine blk_alloc ?_ _)); exact BK300.out) hb); have n4_ := Aside0.mk (below_step (by repeat (first | (with_reducible first | exact HB.out | apply below_alloc | apply pw_below_drewN | apply below_drew1 | refine below_set ?_ GE300.out) | exact HB.out)) hb); clear HO0_4; clear HO0_5; clear HO1; clear BK300; clear HB; have HO0_4 := n0_; have HO0_5 := n1_; have HO1 := n2_; have BK300 := n3_; have HB := n4_; clear n0_ n1_ n2_ n3_ n4_; (try clear hb); (try clear hb2); (try clear hk); (try clear hi); have hcz14_0 : w13.cell? ⟨gb300, 0, none⟩ = some (.int .i64 a0_0) := (blk_cell BK300.out 0).trans rfl; have hcz14_1 : w13.cell? ⟨gb300, 1, none⟩ = some (.int .i64 a0_1) := (blk_cell BK300.out 1).trans rfl; have hcz14_2 : w13.cell? ⟨gb300, 2, none⟩ = some (.int .i64 a0_2) := (blk_cell BK300.out 2).trans rfl; have hcz14_3 : w13.cell? ⟨gb300, 3, none⟩ = some (.int .i64 a0_3) := (blk_cell BK300.out 3).trans rfl; have hcz14_4 : w13.cell? ⟨gb300, 4, none⟩ = some (.slice A0_4 l0_4.length c0_4) := (blk_cell BK300.out 4).trans rfl; have hcz14_5 : w13.cell? ⟨gb300, 5, none⟩ = some (.slice A0_5 l0_5.length c0_5) := (blk_cell BK300.out 5).trans rfl; have hfz14_0 := blk_frozen BK300.out 0; have hfz14_1 := blk_frozen BK300.out 1; have hfz14_2 := blk_frozen BK300.out 2; have hfz14_3 := blk_frozen BK300.out 3; have hfz14_4 := blk_frozen BK300.out 4; have hfz14_5 := blk_frozen BK300.out 5) | (go_at_call 8; (with_reducible refine (greenwoodref09_Small.calls k a0_0 a0_1 a0_2 a0_3 _ _ l0_4 _ _ l0_5 true _ ?side1 ?side2 ?side3 ?side4 A7.out).mono ?_); (case side1 => repeat (first | exact (Kd.V_reads' HO0_4.out).2.2 | (with_reducible refine Kd.C_alloc ?_ _) | (with_reducible refine Kd.C_drewN ?_ _) | (with_reducible refine Kd.C_drew ?_))); (case side2 => exact (Kd.V_reads' HO0_4.out).2.1); (case side3 => repeat (first | exact (Kd.V_reads' HO0_5.out).2.2 | (with_reducible refine Kd.C_alloc ?_ _) | (with_reducible refine Kd.C_drewN ?_ _) | (with_reducible refine Kd.C_drew ?_))); (case side4 => exact (Kd.V_reads' HO0_5.out).2.1); rintro e w15 ⟨rfl, hb⟩; have n0_ := Aside0.mk (Kd.V_below (by (with_reducible repeat (first | apply Kd.V_alloc | apply Kd.V_drewN | apply Kd.V_drew)); exact HO0_4.out) hb); have n1_ := Aside0.mk (Kd.V_below (by (with_reducible repeat (first | apply Kd.V_alloc | apply Kd.V_drewN | apply Kd.V_drew)); exact HO0_5.out) hb); have n2_ := Aside0.mk (Kd.V_below (by (with_reducible repeat (first | apply Kd.V_alloc | apply Kd.V_drewN | apply Kd.V_drew)); exact HO1.out) hb); have n3_ := Aside0.mk (blk_below (g := gb300) (o := .cells #[.int .i64 a0_0, .int .i64 a0_1, .int .i64 a0_2, .int .i64 a0_3, .slice A0_4 l0_4.length c0_4, .slice A0_5 l0_5.length c0_5] 25 (0, 0)) (by (with_reducible repeat (first | refine blk_drewN ?_ _ | refine blk_drew ?_ | refine blk_alloc ?_ _)); exact BK300.out) hb); have n4_ := Aside0.mk (below_step (by repeat (first | (with_reducible first | exact HB.out | apply below_alloc | apply pw_below_drewN | apply below_drew1 | refine below_set ?_ GE300.out) | exact HB.out)) hb); clear HO0_4; clear HO0_5; clear HO1; clear BK300; clear HB; have HO0_4 := n0_; have HO0_5 := n1_; have HO1 := n2_; have BK300 := n3_; have HB := n4_; clear n0_ n1_ n2_ n3_ n4_; (try clear hb); (try clear hb2); (try clear hk); (try clear hi); have hcz16_0 : w15.cell? ⟨gb300, 0, none⟩ = some (.int .i64 a0_0) := (blk_cell BK300.out 0).trans rfl; have hcz16_1 : w15.cell? ⟨gb300, 1, none⟩ = some (.int .i64 a0_1) := (blk_cell BK300.out 1).trans rfl; have hcz16_2 : w15.cell? ⟨gb300, 2, none⟩ = some (.int .i64 a0_2) := (blk_cell BK300.out 2).trans rfl; have hcz16_3 : w15.cell? ⟨gb300, 3, none⟩ = some (.int .i64 a0_3) := (blk_cell BK300.out 3).trans rfl; have hcz16_4 : w15.cell? ⟨gb300, 4, none⟩ = some (.slice A0_4 l0_4.length c0_4) := (blk_cell BK300.out 4).trans rfl; have hcz16_5 : w15.cell? ⟨gb300, 5, none⟩ = some (.slice A0_5 l0_5.length c0_5) := (blk_cell BK300.out 5).trans rfl; have hfz16_0 := blk_frozen BK300.out 0; have hfz16_1 := blk_frozen BK300.out 1; have hfz16_2 := blk_frozen BK300.out 2; have hfz16_3 := blk_frozen BK300.out 3; have hfz16_4 := blk_frozen BK300.out 4; have hfz16_5 := blk_frozen BK300.out 5) | (go_at_call 12; (with_reducible refine (matroid_Check.calls a0_0 a0_1 a0_2 a0_3 _ _ l0_4 _ _ l0_5 t303 _ ?side5 ?side1 ?side2 ?side3 ?side4 A9.out).mono ?_); (case side1 => repeat (first | exact (Kd.V_reads' HO0_4.out).2.2 | (with_reducible refine Kd.C_alloc ?_ _) | (with_reducible refine Kd.C_drewN ?_ _) | (with_reducible refine Kd.C_drew ?_))); (case side2 => exact (Kd.V_reads' HO0_4.out).2.1); (case side3 => repeat (first | exact (Kd.V_reads' HO0_5.out).2.2 | (with_reducible refine Kd.C_alloc ?_ _) | (with_reducible refine Kd.C_drewN ?_ _) | (with_reducible refine Kd.C_drew ?_))); (case side4 => exact (Kd.V_reads' HO0_5.out).2.1); (case side5 => exact EV.below HEV.out (by repeat (first | (with_reducible first | exact HB.out | apply below_alloc | apply pw_below_drewN | apply below_drew1 | refine below_set ?_ GE300.out) | exact HB.out)) (EV.pos HEV.out)); rintro e w17 ⟨rfl, hb⟩; have n0_ := Aside0.mk (Kd.V_below (by (with_reducible repeat (first | apply Kd.V_alloc | apply Kd.V_drewN | apply Kd.V_drew)); exact HO0_4.out) hb); have n1_ := Aside0.mk (Kd.V_below (by (with_reducible repeat (first | apply Kd.V_alloc | apply Kd.V_drewN | apply Kd.V_drew)); exact HO0_5.out) hb); have n2_ := Aside0.mk (Kd.V_below (by (with_reducible repeat (first | apply Kd.V_alloc | apply Kd.V_drewN | apply Kd.V_drew)); exact HO1.out) hb); have n3_ := Aside0.mk (blk_below (g := gb300) (o := .cells #[.int .i64 a0_0, .int .i64 a0_1, .int .i64 a0_2, .int .i64 a0_3, .slice A0_4 l0_4.length c0_4, .slice A0_5 l0_5.length c0_5] 25 (0, 0)) (by (with_reducible repeat (first | refine blk_drewN ?_ _ | refine blk_drew ?_ | refine blk_alloc ?_ _)); exact BK300.out) hb); have n4_ := Aside0.mk (below_step (by repeat (first | (with_reducible first | exact HB.out | apply below_alloc | apply pw_below_drewN | apply below_drew1 | refine below_set ?_ GE300.out) | exact HB.out)) hb); clear HO0_4; clear HO0_5; clear HO1; clear BK300; clear HB; have HO0_4 := n0_; have HO0_5 := n1_; have HO1 := n2_; have BK300 := n3_; have HB := n4_; clear n0_ n1_ n2_ n3_ n4_; (try clear hb); (try clear hb2); (try clear hk); (try clear hi); have hcz18_0 : w17.cell? ⟨gb300, 0, none⟩ = some (.int .i64 a0_0) := (blk_cell BK300.out 0).trans rfl; have hcz18_1 : w17.cell? ⟨gb300, 1, none⟩ = some (.int .i64 a0_1) := (blk_cell BK300.out 1).trans rfl; have hcz18_2 : w17.cell? ⟨gb300, 2, none⟩ = some (.int .i64 a0_2) := (blk_cell BK300.out 2).trans rfl; have hcz18_3 : w17.cell? ⟨gb300, 3, none⟩ = some (.int .i64 a0_3) := (blk_cell BK300.out 3).trans rfl; have hcz18_4 : w17.cell? ⟨gb300, 4, none⟩ = some (.slice A0_4 l0_4.length c0_4) := (blk_cell BK300.out 4).trans rfl; have hcz18_5 : w17.cell? ⟨gb300, 5, none⟩ = some (.slice A0_5 l0_5.length c0_5) := (blk_cell BK300.out 5).trans rfl; have hfz18_0 := blk_frozen BK300.out 0; have hfz18_1 := blk_frozen BK300.out 1; have hfz18_2 := blk_frozen BK300.out 2; have hfz18_3 := blk_frozen BK300.out 3; have hfz18_4 := blk_frozen BK300.out 4; have hfz18_5 := blk_frozen BK300.out 5) | (go_at_call 14; (with_reducible refine (matroid_Deep.calls k a0_0 a0_1 a0_2 a0_3 _ _ l0_4 _ _ l0_5 t304 _ ?side1 ?side2 ?side3 ?side4 A11.out).mono ?_); (case side1 => repeat (first | exact (Kd.V_reads' HO0_4.out).2.2 | (with_reducible refine Kd.C_alloc ?_ _) | (with_reducible refine Kd.C_drewN ?_ _) | (with_reducible refine Kd.C_drew ?_))); (case side2 => exact (Kd.V_reads' HO0_4.out).2.1); (case side3 => repeat (first | exact (Kd.V_reads' HO0_5.out).2.2 | (with_reducible refine Kd.C_alloc ?_ _) | (with_reducible refine Kd.C_drewN ?_ _) | (with_reducible refine Kd.C_drew ?_))); (case side4 => exact (Kd.V_reads' HO0_5.out).2.1); rintro e w19 ⟨rfl, hb⟩; have n0_ := Aside0.mk (Kd.V_below (by (with_reducible repeat (first | apply Kd.V_alloc | apply Kd.V_drewN | apply Kd.V_drew)); exact HO0_4.out) hb); have n1_ := Aside0.mk (Kd.V_below (by (with_reducible repeat (first | apply Kd.V_alloc | apply Kd.V_drewN | apply Kd.V_drew)); exact HO0_5.out) hb); have n2_ := Aside0.mk (Kd.V_below (by (with_reducible repeat (first | apply Kd.V_alloc | apply Kd.V_drewN | apply Kd.V_drew)); exact HO1.out) hb); have n3_ := Aside0.mk (blk_below (g := gb300) (o := .cells #[.int .i64 a0_0, .int .i64 a0_1, .int .i64 a0_2, .int .i64 a0_3, .slice A0_4 l0_4.length c0_4, .slice A0_5 l0_5.length c0_5] 25 (0, 0)) (by (with_reducible repeat (first | refine blk_drewN ?_ _ | refine blk_drew ?_ | refine blk_alloc ?_ _)); exact BK300.out) hb); have n4_ := Aside0.mk (below_step (by repeat (first | (with_reducible first | exact HB.out | apply below_alloc | apply pw_below_drewN | apply below_drew1 | refine below_set ?_ GE300.out) | exact HB.out)) hb); clear HO0_4; clear HO0_5; clear HO1; clear BK300; clear HB; have HO0_4 := n0_; have HO0_5 := n1_; have HO1 := n2_; have BK300 := n3_; have HB := n4_; clear n0_ n1_ n2_ n3_ n4_; (try clear hb); (try clear hb2); (try clear hk); (try clear hi)))
      go_meet
      case rel => exact ⟨_, (true), (by first | rfl | (simp; done) | (simp [*]; done)), H', ⟨by first | omega | exact Nat.le_refl _⟩, ⟨by (with_reducible repeat (first | apply Kd.V_alloc | apply Kd.V_drewN | apply Kd.V_drew)); exact HO1.out⟩, ⟨by (with_reducible repeat (first | apply Kd.V_alloc | apply Kd.V_drewN | apply Kd.V_drew)); exact HO0_4.out⟩, ⟨by (with_reducible repeat (first | apply Kd.V_alloc | apply Kd.V_drewN | apply Kd.V_drew)); exact HO0_5.out⟩, ⟨by (with_reducible repeat (first | refine blk_drewN ?_ _ | refine blk_drew ?_ | refine blk_alloc ?_ _)); exact BK300.out⟩, ⟨by repeat (first | (with_reducible first | exact HB.out | apply below_alloc | apply pw_below_drewN | apply below_drew1 | refine below_set ?_ GE300.out) | exact HB.out)⟩⟩
     ·rw [if_neg c12] at H
      have c12b0 : decide (3 < t304) = false := decide_eq_false c12
      clear c12
      replace H := Option.bind_eq_some_iff.mp H
      obtain ⟨t305, A200, H⟩ := H
      replace H : (greenwoodlaw09_MatroidParts.j0 k l1 (!t305) a0_0 a0_1 a0_2 a0_3 l0_4 l0_5) = some r := H
      have A20 := Aside0.mk A200
      clear A200
      have H' := Aside0.mk H
      clear H
      go_wp2_with (first | ((with_reducible refine gate_callee (f := 9) rfl ?_); refine goesL_ (some 16) rfl rfl Tryd.func9 (by kernel_rfl) rfl #[] rfl (by (try simp only [List.map_toArray, List.map_cons, List.map_nil]); first | done | rfl | (simp only [List.length_drop, List.length_take]; rfl)) ?_; (with_reducible refine (greenwoodlaw09_fixed.calls  true _ ?side1 A5.out).mono ?_); (case side1 => exact EV.below HEV.out (by repeat (first | (with_reducible first | exact HB.out | apply below_alloc | apply pw_below_drewN | apply below_drew1 | refine below_set ?_ GE300.out) | exact HB.out)) (EV.pos HEV.out)); rintro e w21 ⟨rfl, hb⟩; refine ⟨_, rfl, ?_⟩; have n0_ := Aside0.mk (Kd.V_below (by (with_reducible repeat (first | apply Kd.V_alloc | apply Kd.V_drewN | apply Kd.V_drew)); exact HO0_4.out) hb); have n1_ := Aside0.mk (Kd.V_below (by (with_reducible repeat (first | apply Kd.V_alloc | apply Kd.V_drewN | apply Kd.V_drew)); exact HO0_5.out) hb); have n2_ := Aside0.mk (Kd.V_below (by (with_reducible repeat (first | apply Kd.V_alloc | apply Kd.V_drewN | apply Kd.V_drew)); exact HO1.out) hb); have n3_ := Aside0.mk (blk_below (g := gb300) (o := .cells #[.int .i64 a0_0, .int .i64 a0_1, .int .i64 a0_2, .int .i64 a0_3, .slice A0_4 l0_4.length c0_4, .slice A0_5 l0_5.length c0_5] 25 (0, 0)) (by (with_reducible repeat (first | refine blk_drewN ?_ _ | refine blk_drew ?_ | refine blk_alloc ?_ _)); exact BK300.out) hb); have n4_ := Aside0.mk (below_step (by repeat (first | (with_reducible first | exact HB.out | apply below_alloc | apply pw_below_drewN | apply below_drew1 | refine below_set ?_ GE300.out) | exact HB.out)) hb); clear HO0_4; clear HO0_5; clear HO1; clear BK300; clear HB; have HO0_4 := n0_; have HO0_5 := n1_; have HO1 := n2_; have BK300 := n3_; have HB := n4_; clear n0_ n1_ n2_ n3_ n4_; (try clear hb); (try clear hb2); (try clear hk); (try clear hi); have hcz22_0 : w21.cell? ⟨gb300, 0, none⟩ = some (.int .i64 a0_0) := (blk_cell BK300.out 0).trans rfl; have hcz22_1 : w21.cell? ⟨gb300, 1, none⟩ = some (.int .i64 a0_1) := (blk_cell BK300.out 1).trans rfl; have hcz22_2 : w21.cell? ⟨gb300, 2, none⟩ = some (.int .i64 a0_2) := (blk_cell BK300.out 2).trans rfl; have hcz22_3 : w21.cell? ⟨gb300, 3, none⟩ = some (.int .i64 a0_3) := (blk_cell BK300.out 3).trans rfl; have hcz22_4 : w21.cell? ⟨gb300, 4, none⟩ = some (.slice A0_4 l0_4.length c0_4) := (blk_cell BK300.out 4).trans rfl; have hcz22_5 : w21.cell? ⟨gb300, 5, none⟩ = some (.slice A0_5 l0_5.length c0_5) := (blk_cell BK300.out 5).trans rfl; have hfz22_0 := blk_frozen BK300.out 0; have hfz22_1 := blk_frozen BK300.out 1; have hfz22_2 := blk_frozen BK300.out 2; have hfz22_3 := blk_frozen BK300.out 3; have hfz22_4 := blk_frozen BK300.out 4; have hfz22_5 := blk_frozen BK300.out 5) | (go_at_call 8; (with_reducible refine (greenwoodref09_Small.calls k a0_0 a0_1 a0_2 a0_3 _ _ l0_4 _ _ l0_5 true _ ?side1 ?side2 ?side3 ?side4 A7.out).mono ?_); (case side1 => repeat (first | exact (Kd.V_reads' HO0_4.out).2.2 | (with_reducible refine Kd.C_alloc ?_ _) | (with_reducible refine Kd.C_drewN ?_ _) | (with_reducible refine Kd.C_drew ?_))); (case side2 => exact (Kd.V_reads' HO0_4.out).2.1); (case side3 => repeat (first | exact (Kd.V_reads' HO0_5.out).2.2 | (with_reducible refine Kd.C_alloc ?_ _) | (with_reducible refine Kd.C_drewN ?_ _) | (with_reducible refine Kd.C_drew ?_))); (case side4 => exact (Kd.V_reads' HO0_5.out).2.1); rintro e w23 ⟨rfl, hb⟩; have n0_ := Aside0.mk (Kd.V_below (by (with_reducible repeat (first | apply Kd.V_alloc | apply Kd.V_drewN | apply Kd.V_drew)); exact HO0_4.out) hb); have n1_ := Aside0.mk (Kd.V_below (by (with_reducible repeat (first | apply Kd.V_alloc | apply Kd.V_drewN | apply Kd.V_drew)); exact HO0_5.out) hb); have n2_ := Aside0.mk (Kd.V_below (by (with_reducible repeat (first | apply Kd.V_alloc | apply Kd.V_drewN | apply Kd.V_drew)); exact HO1.out) hb); have n3_ := Aside0.mk (blk_below (g := gb300) (o := .cells #[.int .i64 a0_0, .int .i64 a0_1, .int .i64 a0_2, .int .i64 a0_3, .slice A0_4 l0_4.length c0_4, .slice A0_5 l0_5.length c0_5] 25 (0, 0)) (by (with_reducible repeat (first | refine blk_drewN ?_ _ | refine blk_drew ?_ | refine blk_alloc ?_ _)); exact BK300.out) hb); have n4_ := Aside0.mk (below_step (by repeat (first | (with_reducible first | exact HB.out | apply below_alloc | apply pw_below_drewN | apply below_drew1 | refine below_set ?_ GE300.out) | exact HB.out)) hb); clear HO0_4; clear HO0_5; clear HO1; clear BK300; clear HB; have HO0_4 := n0_; have HO0_5 := n1_; have HO1 := n2_; have BK300 := n3_; have HB := n4_; clear n0_ n1_ n2_ n3_ n4_; (try clear hb); (try clear hb2); (try clear hk); (try clear hi); have hcz24_0 : w23.cell? ⟨gb300, 0, none⟩ = some (.int .i64 a0_0) := (blk_cell BK300.out 0).trans rfl; have hcz24_1 : w23.cell? ⟨gb300, 1, none⟩ = some (.int .i64 a0_1) := (blk_cell BK300.out 1).trans rfl; have hcz24_2 : w23.cell? ⟨gb300, 2, none⟩ = some (.int .i64 a0_2) := (blk_cell BK300.out 2).trans rfl; have hcz24_3 : w23.cell? ⟨gb300, 3, none⟩ = some (.int .i64 a0_3) := (blk_cell BK300.out 3).trans rfl; have hcz24_4 : w23.cell? ⟨gb300, 4, none⟩ = some (.slice A0_4 l0_4.length c0_4) := (blk_cell BK300.out 4).trans rfl; have hcz24_5 : w23.cell? ⟨gb300, 5, none⟩ = some (.slice A0_5 l0_5.length c0_5) := (blk_cell BK300.out 5).trans rfl; have hfz24_0 := blk_frozen BK300.out 0; have hfz24_1 := blk_frozen BK300.out 1; have hfz24_2 := blk_frozen BK300.out 2; have hfz24_3 := blk_frozen BK300.out 3; have hfz24_4 := blk_frozen BK300.out 4; have hfz24_5 := blk_frozen BK300.out 5) | (go_at_call 12; (with_reducible refine (matroid_Check.calls a0_0 a0_1 a0_2 a0_3 _ _ l0_4 _ _ l0_5 t303 _ ?side5 ?side1 ?side2 ?side3 ?side4 A9.out).mono ?_); (case side1 => repeat (first | exact (Kd.V_reads' HO0_4.out).2.2 | (with_reducible refine Kd.C_alloc ?_ _) | (with_reducible refine Kd.C_drewN ?_ _) | (with_reducible refine Kd.C_drew ?_))); (case side2 => exact (Kd.V_reads' HO0_4.out).2.1); (case side3 => repeat (first | exact (Kd.V_reads' HO0_5.out).2.2 | (with_reducible refine Kd.C_alloc ?_ _) | (with_reducible refine Kd.C_drewN ?_ _) | (with_reducible refine Kd.C_drew ?_))); (case side4 => exact (Kd.V_reads' HO0_5.out).2.1); (case side5 => exact EV.below HEV.out (by repeat (first | (with_reducible first | exact HB.out | apply below_alloc | apply pw_below_drewN | apply below_drew1 | refine below_set ?_ GE300.out) | exact HB.out)) (EV.pos HEV.out)); rintro e w25 ⟨rfl, hb⟩; have n0_ := Aside0.mk (Kd.V_below (by (with_reducible repeat (first | apply Kd.V_alloc | apply Kd.V_drewN | apply Kd.V_drew)); exact HO0_4.out) hb); have n1_ := Aside0.mk (Kd.V_below (by (with_reducible repeat (first | apply Kd.V_alloc | apply Kd.V_drewN | apply Kd.V_drew)); exact HO0_5.out) hb); have n2_ := Aside0.mk (Kd.V_below (by (with_reducible repeat (first | apply Kd.V_alloc | apply Kd.V_drewN | apply Kd.V_drew)); exact HO1.out) hb); have n3_ := Aside0.mk (blk_below (g := gb300) (o := .cells #[.int .i64 a0_0, .int .i64 a0_1, .int .i64 a0_2, .int .i64 a0_3, .slice A0_4 l0_4.length c0_4, .slice A0_5 l0_5.length c0_5] 25 (0, 0)) (by (with_reducible repeat (first | refine blk_drewN ?_ _ | refine blk_drew ?_ | refine blk_alloc ?_ _)); exact BK300.out) hb); have n4_ := Aside0.mk (below_step (by repeat (first | (with_reducible first | exact HB.out | apply below_alloc | apply pw_below_drewN | apply below_drew1 | refine below_set ?_ GE300.out) | exact HB.out)) hb); clear HO0_4; clear HO0_5; clear HO1; clear BK300; clear HB; have HO0_4 := n0_; have HO0_5 := n1_; have HO1 := n2_; have BK300 := n3_; have HB := n4_; clear n0_ n1_ n2_ n3_ n4_; (try clear hb); (try clear hb2); (try clear hk); (try clear hi); have hcz26_0 : w25.cell? ⟨gb300, 0, none⟩ = some (.int .i64 a0_0) := (blk_cell BK300.out 0).trans rfl; have hcz26_1 : w25.cell? ⟨gb300, 1, none⟩ = some (.int .i64 a0_1) := (blk_cell BK300.out 1).trans rfl; have hcz26_2 : w25.cell? ⟨gb300, 2, none⟩ = some (.int .i64 a0_2) := (blk_cell BK300.out 2).trans rfl; have hcz26_3 : w25.cell? ⟨gb300, 3, none⟩ = some (.int .i64 a0_3) := (blk_cell BK300.out 3).trans rfl; have hcz26_4 : w25.cell? ⟨gb300, 4, none⟩ = some (.slice A0_4 l0_4.length c0_4) := (blk_cell BK300.out 4).trans rfl; have hcz26_5 : w25.cell? ⟨gb300, 5, none⟩ = some (.slice A0_5 l0_5.length c0_5) := (blk_cell BK300.out 5).trans rfl; have hfz26_0 := blk_frozen BK300.out 0; have hfz26_1 := blk_frozen BK300.out 1; have hfz26_2 := blk_frozen BK300.out 2; have hfz26_3 := blk_frozen BK300.out 3; have hfz26_4 := blk_frozen BK300.out 4; have hfz26_5 := blk_frozen BK300.out 5) | (go_at_call 14; (with_reducible refine (matroid_Deep.calls k a0_0 a0_1 a0_2 a0_3 _ _ l0_4 _ _ l0_5 t304 _ ?side1 ?side2 ?side3 ?side4 A11.out).mono ?_); (case side1 => repeat (first | exact (Kd.V_reads' HO0_4.out).2.2 | (with_reducible refine Kd.C_alloc ?_ _) | (with_reducible refine Kd.C_drewN ?_ _) | (with_reducible refine Kd.C_drew ?_))); (case side2 => exact (Kd.V_reads' HO0_4.out).2.1); (case side3 => repeat (first | exact (Kd.V_reads' HO0_5.out).2.2 | (with_reducible refine Kd.C_alloc ?_ _) | (with_reducible refine Kd.C_drewN ?_ _) | (with_reducible refine Kd.C_drew ?_))); (case side4 => exact (Kd.V_reads' HO0_5.out).2.1); rintro e w27 ⟨rfl, hb⟩; have n0_ := Aside0.mk (Kd.V_below (by (with_reducible repeat (first | apply Kd.V_alloc | apply Kd.V_drewN | apply Kd.V_drew)); exact HO0_4.out) hb); have n1_ := Aside0.mk (Kd.V_below (by (with_reducible repeat (first | apply Kd.V_alloc | apply Kd.V_drewN | apply Kd.V_drew)); exact HO0_5.out) hb); have n2_ := Aside0.mk (Kd.V_below (by (with_reducible repeat (first | apply Kd.V_alloc | apply Kd.V_drewN | apply Kd.V_drew)); exact HO1.out) hb); have n3_ := Aside0.mk (blk_below (g := gb300) (o := .cells #[.int .i64 a0_0, .int .i64 a0_1, .int .i64 a0_2, .int .i64 a0_3, .slice A0_4 l0_4.length c0_4, .slice A0_5 l0_5.length c0_5] 25 (0, 0)) (by (with_reducible repeat (first | refine blk_drewN ?_ _ | refine blk_drew ?_ | refine blk_alloc ?_ _)); exact BK300.out) hb); have n4_ := Aside0.mk (below_step (by repeat (first | (with_reducible first | exact HB.out | apply below_alloc | apply pw_below_drewN | apply below_drew1 | refine below_set ?_ GE300.out) | exact HB.out)) hb); clear HO0_4; clear HO0_5; clear HO1; clear BK300; clear HB; have HO0_4 := n0_; have HO0_5 := n1_; have HO1 := n2_; have BK300 := n3_; have HB := n4_; clear n0_ n1_ n2_ n3_ n4_; (try clear hb); (try clear hb2); (try clear hk); (try clear hi); have hcz28_0 : w27.cell? ⟨gb300, 0, none⟩ = some (.int .i64 a0_0) := (blk_cell BK300.out 0).trans rfl; have hcz28_1 : w27.cell? ⟨gb300, 1, none⟩ = some (.int .i64 a0_1) := (blk_cell BK300.out 1).trans rfl; have hcz28_2 : w27.cell? ⟨gb300, 2, none⟩ = some (.int .i64 a0_2) := (blk_cell BK300.out 2).trans rfl; have hcz28_3 : w27.cell? ⟨gb300, 3, none⟩ = some (.int .i64 a0_3) := (blk_cell BK300.out 3).trans rfl; have hcz28_4 : w27.cell? ⟨gb300, 4, none⟩ = some (.slice A0_4 l0_4.length c0_4) := (blk_cell BK300.out 4).trans rfl; have hcz28_5 : w27.cell? ⟨gb300, 5, none⟩ = some (.slice A0_5 l0_5.length c0_5) := (blk_cell BK300.out 5).trans rfl; have hfz28_0 := blk_frozen BK300.out 0; have hfz28_1 := blk_frozen BK300.out 1; have hfz28_2 := blk_frozen BK300.out 2; have hfz28_3 := blk_frozen BK300.out 3; have hfz28_4 := blk_frozen BK300.out 4; have hfz28_5 := blk_frozen BK300.out 5) | (go_at_call 17; (with_reducible refine (greenwoodref09_Set.calls k _ _ l1 a0_1 t305 _ ?side1 ?side2 A20.out).mono ?_); (case side1 => repeat (first | exact (Kd.V_reads' HO1.out).2.2 | (with_reducible refine Kd.C_alloc ?_ _) | (with_reducible refine Kd.C_drewN ?_ _) | (with_reducible refine Kd.C_drew ?_))); (case side2 => exact (Kd.V_reads' HO1.out).2.1); rintro e w' ⟨rfl, ⟨nd, rfl⟩⟩))
      go_meet
      case rel => exact ⟨_, (!t305), (by first | rfl | (simp; done) | (simp [*]; done)), H', ⟨by first | omega | exact Nat.le_refl _⟩, ⟨by (with_reducible repeat (first | apply Kd.V_alloc | apply Kd.V_drewN | apply Kd.V_drew)); exact HO1.out⟩, ⟨by (with_reducible repeat (first | apply Kd.V_alloc | apply Kd.V_drewN | apply Kd.V_drew)); exact HO0_4.out⟩, ⟨by (with_reducible repeat (first | apply Kd.V_alloc | apply Kd.V_drewN | apply Kd.V_drew)); exact HO0_5.out⟩, ⟨by (with_reducible repeat (first | refine blk_drewN ?_ _ | refine blk_drew ?_ | refine blk_alloc ?_ _)); exact BK300.out⟩, ⟨by repeat (first | (with_reducible first | exact HB.out | apply below_alloc | apply pw_below_drewN | apply below_drew1 | refine below_set ?_ GE300.out) | exact HB.out)⟩⟩
    ·rw [if_neg c10] at H
     have c10b0 : (t303 == 0) = false := beq_eq_false_iff_ne.mpr c10
     have c10b1 : (t303 != 0) = true := bne_iff_ne.mpr c10
     (first | rw [c10b0] | (simp only [i64_w, i32_w]; rw [c10b0]) | skip)
     have H' := Aside0.mk H
     clear H
     go_wp2_with (first | ((with_reducible refine gate_callee (f := 9) rfl ?_); refine goesL_ (some 16) rfl rfl Tryd.func9 (by kernel_rfl) rfl #[] rfl (by (try simp only [List.map_toArray, List.map_cons, List.map_nil]); first | done | rfl | (simp only [List.length_drop, List.length_take]; rfl)) ?_; (with_reducible refine (greenwoodlaw09_fixed.calls  true _ ?side1 A5.out).mono ?_); (case side1 => exact EV.below HEV.out (by repeat (first | (with_reducible first | exact HB.out | apply below_alloc | apply pw_below_drewN | apply below_drew1 | refine below_set ?_ GE300.out) | exact HB.out)) (EV.pos HEV.out)); rintro e w29 ⟨rfl, hb⟩; refine ⟨_, rfl, ?_⟩; have n0_ := Aside0.mk (Kd.V_below (by (with_reducible repeat (first | apply Kd.V_alloc | apply Kd.V_drewN | apply Kd.V_drew)); exact HO0_4.out) hb); have n1_ := Aside0.mk (Kd.V_below (by (with_reducible repeat (first | apply Kd.V_alloc | apply Kd.V_drewN | apply Kd.V_drew)); exact HO0_5.out) hb); have n2_ := Aside0.mk (Kd.V_below (by (with_reducible repeat (first | apply Kd.V_alloc | apply Kd.V_drewN | apply Kd.V_drew)); exact HO1.out) hb); have n3_ := Aside0.mk (blk_below (g := gb300) (o := .cells #[.int .i64 a0_0, .int .i64 a0_1, .int .i64 a0_2, .int .i64 a0_3, .slice A0_4 l0_4.length c0_4, .slice A0_5 l0_5.length c0_5] 25 (0, 0)) (by (with_reducible repeat (first | refine blk_drewN ?_ _ | refine blk_drew ?_ | refine blk_alloc ?_ _)); exact BK300.out) hb); have n4_ := Aside0.mk (below_step (by repeat (first | (with_reducible first | exact HB.out | apply below_alloc | apply pw_below_drewN | apply below_drew1 | refine below_set ?_ GE300.out) | exact HB.out)) hb); clear HO0_4; clear HO0_5; clear HO1; clear BK300; clear HB; have HO0_4 := n0_; have HO0_5 := n1_; have HO1 := n2_; have BK300 := n3_; have HB := n4_; clear n0_ n1_ n2_ n3_ n4_; (try clear hb); (try clear hb2); (try clear hk); (try clear hi); have hcz30_0 : w29.cell? ⟨gb300, 0, none⟩ = some (.int .i64 a0_0) := (blk_cell BK300.out 0).trans rfl; have hcz30_1 : w29.cell? ⟨gb300, 1, none⟩ = some (.int .i64 a0_1) := (blk_cell BK300.out 1).trans rfl; have hcz30_2 : w29.cell? ⟨gb300, 2, none⟩ = some (.int .i64 a0_2) := (blk_cell BK300.out 2).trans rfl; have hcz30_3 : w29.cell? ⟨gb300, 3, none⟩ = some (.int .i64 a0_3) := (blk_cell BK300.out 3).trans rfl; have hcz30_4 : w29.cell? ⟨gb300, 4, none⟩ = some (.slice A0_4 l0_4.length c0_4) := (blk_cell BK300.out 4).trans rfl; have hcz30_5 : w29.cell? ⟨gb300, 5, none⟩ = some (.slice A0_5 l0_5.length c0_5) := (blk_cell BK300.out 5).trans rfl; have hfz30_0 := blk_frozen BK300.out 0; have hfz30_1 := blk_frozen BK300.out 1; have hfz30_2 := blk_frozen BK300.out 2; have hfz30_3 := blk_frozen BK300.out 3; have hfz30_4 := blk_frozen BK300.out 4; have hfz30_5 := blk_frozen BK300.out 5) | (go_at_call 8; (with_reducible refine (greenwoodref09_Small.calls k a0_0 a0_1 a0_2 a0_3 _ _ l0_4 _ _ l0_5 true _ ?side1 ?side2 ?side3 ?side4 A7.out).mono ?_); (case side1 => repeat (first | exact (Kd.V_reads' HO0_4.out).2.2 | (with_reducible refine Kd.C_alloc ?_ _) | (with_reducible refine Kd.C_drewN ?_ _) | (with_reducible refine Kd.C_drew ?_))); (case side2 => exact (Kd.V_reads' HO0_4.out).2.1); (case side3 => repeat (first | exact (Kd.V_reads' HO0_5.out).2.2 | (with_reducible refine Kd.C_alloc ?_ _) | (with_reducible refine Kd.C_drewN ?_ _) | (with_reducible refine Kd.C_drew ?_))); (case side4 => exact (Kd.V_reads' HO0_5.out).2.1); rintro e w31 ⟨rfl, hb⟩; have n0_ := Aside0.mk (Kd.V_below (by (with_reducible repeat (first | apply Kd.V_alloc | apply Kd.V_drewN | apply Kd.V_drew)); exact HO0_4.out) hb); have n1_ := Aside0.mk (Kd.V_below (by (with_reducible repeat (first | apply Kd.V_alloc | apply Kd.V_drewN | apply Kd.V_drew)); exact HO0_5.out) hb); have n2_ := Aside0.mk (Kd.V_below (by (with_reducible repeat (first | apply Kd.V_alloc | apply Kd.V_drewN | apply Kd.V_drew)); exact HO1.out) hb); have n3_ := Aside0.mk (blk_below (g := gb300) (o := .cells #[.int .i64 a0_0, .int .i64 a0_1, .int .i64 a0_2, .int .i64 a0_3, .slice A0_4 l0_4.length c0_4, .slice A0_5 l0_5.length c0_5] 25 (0, 0)) (by (with_reducible repeat (first | refine blk_drewN ?_ _ | refine blk_drew ?_ | refine blk_alloc ?_ _)); exact BK300.out) hb); have n4_ := Aside0.mk (below_step (by repeat (first | (with_reducible first | exact HB.out | apply below_alloc | apply pw_below_drewN | apply below_drew1 | refine below_set ?_ GE300.out) | exact HB.out)) hb); clear HO0_4; clear HO0_5; clear HO1; clear BK300; clear HB; have HO0_4 := n0_; have HO0_5 := n1_; have HO1 := n2_; have BK300 := n3_; have HB := n4_; clear n0_ n1_ n2_ n3_ n4_; (try clear hb); (try clear hb2); (try clear hk); (try clear hi); have hcz32_0 : w31.cell? ⟨gb300, 0, none⟩ = some (.int .i64 a0_0) := (blk_cell BK300.out 0).trans rfl; have hcz32_1 : w31.cell? ⟨gb300, 1, none⟩ = some (.int .i64 a0_1) := (blk_cell BK300.out 1).trans rfl; have hcz32_2 : w31.cell? ⟨gb300, 2, none⟩ = some (.int .i64 a0_2) := (blk_cell BK300.out 2).trans rfl; have hcz32_3 : w31.cell? ⟨gb300, 3, none⟩ = some (.int .i64 a0_3) := (blk_cell BK300.out 3).trans rfl; have hcz32_4 : w31.cell? ⟨gb300, 4, none⟩ = some (.slice A0_4 l0_4.length c0_4) := (blk_cell BK300.out 4).trans rfl; have hcz32_5 : w31.cell? ⟨gb300, 5, none⟩ = some (.slice A0_5 l0_5.length c0_5) := (blk_cell BK300.out 5).trans rfl; have hfz32_0 := blk_frozen BK300.out 0; have hfz32_1 := blk_frozen BK300.out 1; have hfz32_2 := blk_frozen BK300.out 2; have hfz32_3 := blk_frozen BK300.out 3; have hfz32_4 := blk_frozen BK300.out 4; have hfz32_5 := blk_frozen BK300.out 5) | (go_at_call 12; (with_reducible refine (matroid_Check.calls a0_0 a0_1 a0_2 a0_3 _ _ l0_4 _ _ l0_5 t303 _ ?side5 ?side1 ?side2 ?side3 ?side4 A9.out).mono ?_); (case side1 => repeat (first | exact (Kd.V_reads' HO0_4.out).2.2 | (with_reducible refine Kd.C_alloc ?_ _) | (with_reducible refine Kd.C_drewN ?_ _) | (with_reducible refine Kd.C_drew ?_))); (case side2 => exact (Kd.V_reads' HO0_4.out).2.1); (case side3 => repeat (first | exact (Kd.V_reads' HO0_5.out).2.2 | (with_reducible refine Kd.C_alloc ?_ _) | (with_reducible refine Kd.C_drewN ?_ _) | (with_reducible refine Kd.C_drew ?_))); (case side4 => exact (Kd.V_reads' HO0_5.out).2.1); (case side5 => exact EV.below HEV.out (by repeat (first | (with_reducible first | exact HB.out | apply below_alloc | apply pw_below_drewN | apply below_drew1 | refine below_set ?_ GE300.out) | exact HB.out)) (EV.pos HEV.out)); rintro e w33 ⟨rfl, hb⟩; have n0_ := Aside0.mk (Kd.V_below (by (with_reducible repeat (first | apply Kd.V_alloc | apply Kd.V_drewN | apply Kd.V_drew)); exact HO0_4.out) hb); have n1_ := Aside0.mk (Kd.V_below (by (with_reducible repeat (first | apply Kd.V_alloc | apply Kd.V_drewN | apply Kd.V_drew)); exact HO0_5.out) hb); have n2_ := Aside0.mk (Kd.V_below (by (with_reducible repeat (first | apply Kd.V_alloc | apply Kd.V_drewN | apply Kd.V_drew)); exact HO1.out) hb); have n3_ := Aside0.mk (blk_below (g := gb300) (o := .cells #[.int .i64 a0_0, .int .i64 a0_1, .int .i64 a0_2, .int .i64 a0_3, .slice A0_4 l0_4.length c0_4, .slice A0_5 l0_5.length c0_5] 25 (0, 0)) (by (with_reducible repeat (first | refine blk_drewN ?_ _ | refine blk_drew ?_ | refine blk_alloc ?_ _)); exact BK300.out) hb); have n4_ := Aside0.mk (below_step (by repeat (first | (with_reducible first | exact HB.out | apply below_alloc | apply pw_below_drewN | apply below_drew1 | refine below_set ?_ GE300.out) | exact HB.out)) hb); clear HO0_4; clear HO0_5; clear HO1; clear BK300; clear HB; have HO0_4 := n0_; have HO0_5 := n1_; have HO1 := n2_; have BK300 := n3_; have HB := n4_; clear n0_ n1_ n2_ n3_ n4_; (try clear hb); (try clear hb2); (try clear hk); (try clear hi)))
     go_meet
     case rel => exact ⟨_, (true), (by first | rfl | (simp; done) | (simp [*]; done)), H', ⟨by first | omega | exact Nat.le_refl _⟩, ⟨by (with_reducible repeat (first | apply Kd.V_alloc | apply Kd.V_drewN | apply Kd.V_drew)); exact HO1.out⟩, ⟨by (with_reducible repeat (first | apply Kd.V_alloc | apply Kd.V_drewN | apply Kd.V_drew)); exact HO0_4.out⟩, ⟨by (with_reducible repeat (first | apply Kd.V_alloc | apply Kd.V_drewN | apply Kd.V_drew)); exact HO0_5.out⟩, ⟨by (with_reducible repeat (first | refine blk_drewN ?_ _ | refine blk_drew ?_ | refine blk_alloc ?_ _)); exact BK300.out⟩, ⟨by repeat (first | (with_reducible first | exact HB.out | apply below_alloc | apply pw_below_drewN | apply below_drew1 | refine below_set ?_ GE300.out) | exact HB.out)⟩⟩
   ·replace c8 := Bool.eq_false_iff.mpr c8
    subst c8
    have H1 : (greenwoodlaw09_MatroidParts.j0 k l1 true a0_0 a0_1 a0_2 a0_3 l0_4 l0_5) = some r := by rw [if_neg (show ¬ (false = true) by decide)] at H; exact H
    clear H
    have H := H1
    clear H1
    have H' := Aside0.mk H
    clear H
    go_wp2_with (first | ((with_reducible refine gate_callee (f := 9) rfl ?_); refine goesL_ (some 16) rfl rfl Tryd.func9 (by kernel_rfl) rfl #[] rfl (by (try simp only [List.map_toArray, List.map_cons, List.map_nil]); first | done | rfl | (simp only [List.length_drop, List.length_take]; rfl)) ?_; (with_reducible refine (greenwoodlaw09_fixed.calls  true _ ?side1 A5.out).mono ?_); (case side1 => exact EV.below HEV.out (by repeat (first | (with_reducible first | exact HB.out | apply below_alloc | apply pw_below_drewN | apply below_drew1 | refine below_set ?_ GE300.out) | exact HB.out)) (EV.pos HEV.out)); rintro e w34 ⟨rfl, hb⟩; refine ⟨_, rfl, ?_⟩; have n0_ := Aside0.mk (Kd.V_below (by (with_reducible repeat (first | apply Kd.V_alloc | apply Kd.V_drewN | apply Kd.V_drew)); exact HO0_4.out) hb); have n1_ := Aside0.mk (Kd.V_below (by (with_reducible repeat (first | apply Kd.V_alloc | apply Kd.V_drewN | apply Kd.V_drew)); exact HO0_5.out) hb); have n2_ := Aside0.mk (Kd.V_below (by (with_reducible repeat (first | apply Kd.V_alloc | apply Kd.V_drewN | apply Kd.V_drew)); exact HO1.out) hb); have n3_ := Aside0.mk (blk_below (g := gb300) (o := .cells #[.int .i64 a0_0, .int .i64 a0_1, .int .i64 a0_2, .int .i64 a0_3, .slice A0_4 l0_4.length c0_4, .slice A0_5 l0_5.length c0_5] 25 (0, 0)) (by (with_reducible repeat (first | refine blk_drewN ?_ _ | refine blk_drew ?_ | refine blk_alloc ?_ _)); exact BK300.out) hb); have n4_ := Aside0.mk (below_step (by repeat (first | (with_reducible first | exact HB.out | apply below_alloc | apply pw_below_drewN | apply below_drew1 | refine below_set ?_ GE300.out) | exact HB.out)) hb); clear HO0_4; clear HO0_5; clear HO1; clear BK300; clear HB; have HO0_4 := n0_; have HO0_5 := n1_; have HO1 := n2_; have BK300 := n3_; have HB := n4_; clear n0_ n1_ n2_ n3_ n4_; (try clear hb); (try clear hb2); (try clear hk); (try clear hi); have hcz35_0 : w34.cell? ⟨gb300, 0, none⟩ = some (.int .i64 a0_0) := (blk_cell BK300.out 0).trans rfl; have hcz35_1 : w34.cell? ⟨gb300, 1, none⟩ = some (.int .i64 a0_1) := (blk_cell BK300.out 1).trans rfl; have hcz35_2 : w34.cell? ⟨gb300, 2, none⟩ = some (.int .i64 a0_2) := (blk_cell BK300.out 2).trans rfl; have hcz35_3 : w34.cell? ⟨gb300, 3, none⟩ = some (.int .i64 a0_3) := (blk_cell BK300.out 3).trans rfl; have hcz35_4 : w34.cell? ⟨gb300, 4, none⟩ = some (.slice A0_4 l0_4.length c0_4) := (blk_cell BK300.out 4).trans rfl; have hcz35_5 : w34.cell? ⟨gb300, 5, none⟩ = some (.slice A0_5 l0_5.length c0_5) := (blk_cell BK300.out 5).trans rfl; have hfz35_0 := blk_frozen BK300.out 0; have hfz35_1 := blk_frozen BK300.out 1; have hfz35_2 := blk_frozen BK300.out 2; have hfz35_3 := blk_frozen BK300.out 3; have hfz35_4 := blk_frozen BK300.out 4; have hfz35_5 := blk_frozen BK300.out 5) | (go_at_call 8; (with_reducible refine (greenwoodref09_Small.calls k a0_0 a0_1 a0_2 a0_3 _ _ l0_4 _ _ l0_5 false _ ?side1 ?side2 ?side3 ?side4 A7.out).mono ?_); (case side1 => repeat (first | exact (Kd.V_reads' HO0_4.out).2.2 | (with_reducible refine Kd.C_alloc ?_ _) | (with_reducible refine Kd.C_drewN ?_ _) | (with_reducible refine Kd.C_drew ?_))); (case side2 => exact (Kd.V_reads' HO0_4.out).2.1); (case side3 => repeat (first | exact (Kd.V_reads' HO0_5.out).2.2 | (with_reducible refine Kd.C_alloc ?_ _) | (with_reducible refine Kd.C_drewN ?_ _) | (with_reducible refine Kd.C_drew ?_))); (case side4 => exact (Kd.V_reads' HO0_5.out).2.1); rintro e w36 ⟨rfl, hb⟩; have n0_ := Aside0.mk (Kd.V_below (by (with_reducible repeat (first | apply Kd.V_alloc | apply Kd.V_drewN | apply Kd.V_drew)); exact HO0_4.out) hb); have n1_ := Aside0.mk (Kd.V_below (by (with_reducible repeat (first | apply Kd.V_alloc | apply Kd.V_drewN | apply Kd.V_drew)); exact HO0_5.out) hb); have n2_ := Aside0.mk (Kd.V_below (by (with_reducible repeat (first | apply Kd.V_alloc | apply Kd.V_drewN | apply Kd.V_drew)); exact HO1.out) hb); have n3_ := Aside0.mk (blk_below (g := gb300) (o := .cells #[.int .i64 a0_0, .int .i64 a0_1, .int .i64 a0_2, .int .i64 a0_3, .slice A0_4 l0_4.length c0_4, .slice A0_5 l0_5.length c0_5] 25 (0, 0)) (by (with_reducible repeat (first | refine blk_drewN ?_ _ | refine blk_drew ?_ | refine blk_alloc ?_ _)); exact BK300.out) hb); have n4_ := Aside0.mk (below_step (by repeat (first | (with_reducible first | exact HB.out | apply below_alloc | apply pw_below_drewN | apply below_drew1 | refine below_set ?_ GE300.out) | exact HB.out)) hb); clear HO0_4; clear HO0_5; clear HO1; clear BK300; clear HB; have HO0_4 := n0_; have HO0_5 := n1_; have HO1 := n2_; have BK300 := n3_; have HB := n4_; clear n0_ n1_ n2_ n3_ n4_; (try clear hb); (try clear hb2); (try clear hk); (try clear hi)))
    go_meet
    case rel => exact ⟨_, (true), (by first | rfl | (simp; done) | (simp [*]; done)), H', ⟨by first | omega | exact Nat.le_refl _⟩, ⟨by (with_reducible repeat (first | apply Kd.V_alloc | apply Kd.V_drewN | apply Kd.V_drew)); exact HO1.out⟩, ⟨by (with_reducible repeat (first | apply Kd.V_alloc | apply Kd.V_drewN | apply Kd.V_drew)); exact HO0_4.out⟩, ⟨by (with_reducible repeat (first | apply Kd.V_alloc | apply Kd.V_drewN | apply Kd.V_drew)); exact HO0_5.out⟩, ⟨by (with_reducible repeat (first | refine blk_drewN ?_ _ | refine blk_drew ?_ | refine blk_alloc ?_ _)); exact BK300.out⟩, ⟨by repeat (first | (with_reducible first | exact HB.out | apply below_alloc | apply pw_below_drewN | apply below_drew1 | refine below_set ?_ GE300.out) | exact HB.out)⟩⟩
  ·replace c6 := Bool.eq_false_iff.mpr c6
   subst c6
   have H1 : (greenwoodlaw09_MatroidParts.j0 k l1 true a0_0 a0_1 a0_2 a0_3 l0_4 l0_5) = some r := by rw [if_neg (show ¬ (false = true) by decide)] at H; exact H
   clear H
   have H := H1
   clear H1
   have H' := Aside0.mk H
   clear H
   go_wp2_with (first | ((with_reducible refine gate_callee (f := 9) rfl ?_); refine goesL_ (some 16) rfl rfl Tryd.func9 (by kernel_rfl) rfl #[] rfl (by (try simp only [List.map_toArray, List.map_cons, List.map_nil]); first | done | rfl | (simp only [List.length_drop, List.length_take]; rfl)) ?_; (with_reducible refine (greenwoodlaw09_fixed.calls  false _ ?side1 A5.out).mono ?_); (case side1 => exact EV.below HEV.out (by repeat (first | (with_reducible first | exact HB.out | apply below_alloc | apply pw_below_drewN | apply below_drew1 | refine below_set ?_ GE300.out) | exact HB.out)) (EV.pos HEV.out)); rintro e w37 ⟨rfl, hb⟩; refine ⟨_, rfl, ?_⟩; have n0_ := Aside0.mk (Kd.V_below (by (with_reducible repeat (first | apply Kd.V_alloc | apply Kd.V_drewN | apply Kd.V_drew)); exact HO0_4.out) hb); have n1_ := Aside0.mk (Kd.V_below (by (with_reducible repeat (first | apply Kd.V_alloc | apply Kd.V_drewN | apply Kd.V_drew)); exact HO0_5.out) hb); have n2_ := Aside0.mk (Kd.V_below (by (with_reducible repeat (first | apply Kd.V_alloc | apply Kd.V_drewN | apply Kd.V_drew)); exact HO1.out) hb); have n3_ := Aside0.mk (blk_below (g := gb300) (o := .cells #[.int .i64 a0_0, .int .i64 a0_1, .int .i64 a0_2, .int .i64 a0_3, .slice A0_4 l0_4.length c0_4, .slice A0_5 l0_5.length c0_5] 25 (0, 0)) (by (with_reducible repeat (first | refine blk_drewN ?_ _ | refine blk_drew ?_ | refine blk_alloc ?_ _)); exact BK300.out) hb); have n4_ := Aside0.mk (below_step (by repeat (first | (with_reducible first | exact HB.out | apply below_alloc | apply pw_below_drewN | apply below_drew1 | refine below_set ?_ GE300.out) | exact HB.out)) hb); clear HO0_4; clear HO0_5; clear HO1; clear BK300; clear HB; have HO0_4 := n0_; have HO0_5 := n1_; have HO1 := n2_; have BK300 := n3_; have HB := n4_; clear n0_ n1_ n2_ n3_ n4_; (try clear hb); (try clear hb2); (try clear hk); (try clear hi)))
   go_meet
   case rel => exact ⟨_, (true), (by first | rfl | (simp; done) | (simp [*]; done)), H', ⟨by first | omega | exact Nat.le_refl _⟩, ⟨by (with_reducible repeat (first | apply Kd.V_alloc | apply Kd.V_drewN | apply Kd.V_drew)); exact HO1.out⟩, ⟨by (with_reducible repeat (first | apply Kd.V_alloc | apply Kd.V_drewN | apply Kd.V_drew)); exact HO0_4.out⟩, ⟨by (with_reducible repeat (first | apply Kd.V_alloc | apply Kd.V_drewN | apply Kd.V_drew)); exact HO0_5.out⟩, ⟨by (with_reducible repeat (first | refine blk_drewN ?_ _ | refine blk_drew ?_ | refine blk_alloc ?_ _)); exact BK300.out⟩, ⟨by repeat (first | (with_reducible first | exact HB.out | apply below_alloc | apply pw_below_drewN | apply below_drew1 | refine below_set ?_ GE300.out) | exact HB.out)⟩⟩
 case rest =>
  clear HC3
  try clear c1
  try clear p2
  try clear c6
  try clear c8
  try clear c9
  try clear c10
  try clear c10b0
  try clear c10b1
  try clear c12
  try clear c12b0
  try clear hcz14_0
  try clear hcz14_1
  try clear hcz14_2
  try clear hcz14_3
  try clear hcz14_4
  try clear hcz14_5
  try clear hcz16_0
  try clear hcz16_1
  try clear hcz16_2
  try clear hcz16_3
  try clear hcz16_4
  try clear hcz16_5
  try clear hcz18_0
  try clear hcz18_1
  try clear hcz18_2
  try clear hcz18_3
  try clear hcz18_4
  try clear hcz18_5
  try clear hcz22_0
  try clear hcz22_1
  try clear hcz22_2
  try clear hcz22_3
  try clear hcz22_4
  try clear hcz22_5
  try clear hcz24_0
  try clear hcz24_1
  try clear hcz24_2
  try clear hcz24_3
  try clear hcz24_4
  try clear hcz24_5
  try clear hcz26_0
  try clear hcz26_1
  try clear hcz26_2
  try clear hcz26_3
  try clear hcz26_4
  try clear hcz26_5
  try clear hcz28_0
  try clear hcz28_1
  try clear hcz28_2
  try clear hcz28_3
  try clear hcz28_4
  try clear hcz28_5
  try clear hcz30_0
  try clear hcz30_1
  try clear hcz30_2
  try clear hcz30_3
  try clear hcz30_4
  try clear hcz30_5
  try clear hcz32_0
  try clear hcz32_1
  try clear hcz32_2
  try clear hcz32_3
  try clear hcz32_4
  try clear hcz32_5
  try clear hcz35_0
  try clear hcz35_1
  try clear hcz35_2
  try clear hcz35_3
  try clear hcz35_4
  try clear hcz35_5
  try clear hfz14_0
  try clear hfz14_1
  try clear hfz14_2
  try clear hfz14_3
  try clear hfz14_4
  try clear hfz14_5
  try clear hfz16_0
  try clear hfz16_1
  try clear hfz16_2
  try clear hfz16_3
  try clear hfz16_4
  try clear hfz16_5
  try clear hfz18_0
  try clear hfz18_1
  try clear hfz18_2
  try clear hfz18_3
  try clear hfz18_4
  try clear hfz18_5
  try clear hfz22_0
  try clear hfz22_1
  try clear hfz22_2
  try clear hfz22_3
  try clear hfz22_4
  try clear hfz22_5
  try clear hfz24_0
  try clear hfz24_1
  try clear hfz24_2
  try clear hfz24_3
  try clear hfz24_4
  try clear hfz24_5
  try clear hfz26_0
  try clear hfz26_1
  try clear hfz26_2
  try clear hfz26_3
  try clear hfz26_4
  try clear hfz26_5
  try clear hfz28_0
  try clear hfz28_1
  try clear hfz28_2
  try clear hfz28_3
  try clear hfz28_4
  try clear hfz28_5
  try clear hfz30_0
  try clear hfz30_1
  try clear hfz30_2
  try clear hfz30_3
  try clear hfz30_4
  try clear hfz30_5
  try clear hfz32_0
  try clear hfz32_1
  try clear hfz32_2
  try clear hfz32_3
  try clear hfz32_4
  try clear hfz32_5
  try clear hfz35_0
  try clear hfz35_1
  try clear hfz35_2
  try clear hfz35_3
  try clear hfz35_4
  try clear hfz35_5
  obtain ⟨kq, x39_2, rfl, HA, HJ2, HO_1, HO_301004, HO_301005, BK300, HB⟩ := hcut
  cases kq with
  | zero => exact absurd HA.out (by simp [greenwoodlaw09_MatroidParts.j0])
  | succ kj2 =>
   have H := HA.out
   clear HA
   simp only [greenwoodlaw09_MatroidParts.j0] at H
   by_cases c38 : x39_2 = true
   ·subst c38
    have H1 : ((greenwoodlaw09_fixed.f).bind fun t306 => (some t306)) = some r := by rw [if_pos rfl] at H; exact H
    clear H
    have H := H1
    clear H1
    replace H := Option.bind_eq_some_iff.mp H
    obtain ⟨t306, A390, H⟩ := H
    replace H : (some t306) = some r := H
    have A39 := Aside0.mk A390
    clear A390
    obtain rfl := Option.some.inj H
    go_wp2_with (first | ((with_reducible refine gate_callee (f := 9) rfl ?_); refine goesL_ (some 40) rfl rfl Tryd.func9 (by kernel_rfl) rfl #[] rfl (by (try simp only [List.map_toArray, List.map_cons, List.map_nil]); first | done | rfl | (simp only [List.length_drop, List.length_take]; rfl)) ?_; (with_reducible refine (greenwoodlaw09_fixed.calls  t306 _ ?side1 A39.out).mono ?_); (case side1 => exact EV.below HEV.out (by repeat (first | (with_reducible first | exact HB.out | apply below_alloc | apply pw_below_drewN | apply below_drew1 | refine below_set ?_ GE300.out) | exact HB.out)) (EV.pos HEV.out)); rintro e w40 ⟨rfl, hb⟩; refine ⟨_, rfl, ?_⟩; have n0_ := Aside0.mk (Kd.V_below (by (with_reducible repeat (first | apply Kd.V_alloc | apply Kd.V_drewN | apply Kd.V_drew)); exact HO_1.out) hb); have n1_ := Aside0.mk (Kd.V_below (by (with_reducible repeat (first | apply Kd.V_alloc | apply Kd.V_drewN | apply Kd.V_drew)); exact HO_301004.out) hb); have n2_ := Aside0.mk (Kd.V_below (by (with_reducible repeat (first | apply Kd.V_alloc | apply Kd.V_drewN | apply Kd.V_drew)); exact HO_301005.out) hb); have n3_ := Aside0.mk (blk_below (g := gb300) (o := .cells #[.int .i64 a0_0, .int .i64 a0_1, .int .i64 a0_2, .int .i64 a0_3, .slice A0_4 l0_4.length c0_4, .slice A0_5 l0_5.length c0_5] 25 (0, 0)) (by (with_reducible repeat (first | refine blk_drewN ?_ _ | refine blk_drew ?_ | refine blk_alloc ?_ _)); exact BK300.out) hb); have n4_ := Aside0.mk (below_step (by repeat (first | (with_reducible first | exact HB.out | apply below_alloc | apply pw_below_drewN | apply below_drew1 | refine below_set ?_ GE300.out) | exact HB.out)) hb); clear HO_1; clear HO_301004; clear HO_301005; clear BK300; clear HB; have HO_1 := n0_; have HO_301004 := n1_; have HO_301005 := n2_; have BK300 := n3_; have HB := n4_; clear n0_ n1_ n2_ n3_ n4_; (try clear hb); (try clear hb2); (try clear hk); (try clear hi)))
    go_ret
    exact ⟨by first | rfl | (simp [errW_none, errW_some] <;> rfl) | (simp [*, errW_none, errW_some] <;> rfl), by repeat (first | (with_reducible first | exact HB.out | apply below_alloc | apply pw_below_drewN | apply below_drew1 | refine below_set ?_ GE300.out) | exact HB.out)⟩
   ·replace c38 := Bool.eq_false_iff.mpr c38
    subst c38
    have H1 : (greenwoodlaw09_MatroidParts.l0 kj2 l1 (([] : List Int)) (([] : List Int)) (([] : List Int)) 0 a0_0 a0_1 a0_2 a0_3 l0_4 l0_5) = some r := by rw [if_neg (show ¬ (false = true) by decide)] at H; exact H
    clear H
    have H := H1
    clear H1
    obtain ⟨y307, hy307⟩ : ∃ y_ : List Int, y_ = (([] : List Int)) := ⟨_, rfl⟩
    replace H : (greenwoodlaw09_MatroidParts.l0 kj2 l1 y307 (([] : List Int)) (([] : List Int)) 0 a0_0 a0_1 a0_2 a0_3 l0_4 l0_5) = some r := by first | (rw [hy307]; with_reducible exact H) | (have H2_ := (Option.bind_some _ _).symm.trans H; rw [hy307]; with_reducible exact H2_) | (have H2_ := (Option.bind_some _ _).symm.trans H; with_reducible exact H2_) | with_reducible exact H | (rw [hy307]; exact H) | exact H
    have Ny307 := Aside0.mk hy307
    clear hy307
    obtain ⟨y310, hy310⟩ : ∃ y_ : List Int, y_ = (([] : List Int)) := ⟨_, rfl⟩
    replace H : (greenwoodlaw09_MatroidParts.l0 kj2 l1 y307 y310 (([] : List Int)) 0 a0_0 a0_1 a0_2 a0_3 l0_4 l0_5) = some r := by first | (rw [hy310]; with_reducible exact H) | (have H2_ := (Option.bind_some _ _).symm.trans H; rw [hy310]; with_reducible exact H2_) | (have H2_ := (Option.bind_some _ _).symm.trans H; with_reducible exact H2_) | with_reducible exact H | (rw [hy310]; exact H) | exact H
    have Ny310 := Aside0.mk hy310
    clear hy310
    obtain ⟨y313, hy313⟩ : ∃ y_ : List Int, y_ = (([] : List Int)) := ⟨_, rfl⟩
    replace H : (greenwoodlaw09_MatroidParts.l0 kj2 l1 y307 y310 y313 0 a0_0 a0_1 a0_2 a0_3 l0_4 l0_5) = some r := by first | (rw [hy313]; with_reducible exact H) | (have H2_ := (Option.bind_some _ _).symm.trans H; rw [hy313]; with_reducible exact H2_) | (have H2_ := (Option.bind_some _ _).symm.trans H; with_reducible exact H2_) | with_reducible exact H | (rw [hy313]; exact H) | exact H
    have Ny313 := Aside0.mk hy313
    clear hy313
    have H' := Aside0.mk H
    clear H
    go_wp2_with (first | ((with_reducible refine gate_dst (N := 41) rfl ?_); refine Kd.R_lit (Kd.int .i64) _ 3 ?hg (N := 41) ?hd (xs := ([] : List Int)) (inner := []) (ok := fun _ => True) (okp := fun _ => True) ?hr ?hp (fun _ hk => hk) trivial (Below.refl _ _) (Nat.le_refl _) (by simp) ?_; (case hd => rfl); (case hg => rfl); (case hr => first | (go_simp; done) | (go_simp; rfl)); (case hp => exact (Reps.none _ _)); intro v308 w41 ho42 hb hg_ hnew_; clear hg_ hnew_; (first | rw [← Ny307.out] at ho42 | (simp only [Int.reduceToNat] at ho42; rw [← Ny307.out] at ho42)); have n0_ := Aside0.mk (Kd.V_elder' (by (with_reducible repeat (first | apply Kd.V_alloc | apply Kd.V_drewN | apply Kd.V_drew)); exact HO_1.out) (Kd.R_base ho42) hb); have n1_ := Aside0.mk (Kd.V_elder' (by (with_reducible repeat (first | apply Kd.V_alloc | apply Kd.V_drewN | apply Kd.V_drew)); exact HO_301004.out) (Kd.R_base ho42) hb); have n2_ := Aside0.mk (Kd.V_elder' (by (with_reducible repeat (first | apply Kd.V_alloc | apply Kd.V_drewN | apply Kd.V_drew)); exact HO_301005.out) (Kd.R_base ho42) hb); have n3_ := Aside0.mk (Kd.R_lower (Kd.R_newM (M := fun k_ => (w.heap.size ≤ k_)) ho42 (below_size (by repeat (first | (with_reducible first | exact HB.out | apply below_alloc | apply pw_below_drewN | apply below_drew1 | refine below_set ?_ GE300.out) | exact HB.out))) (fun k_ h_ => h_)) (below_size (by repeat (first | (with_reducible first | exact HB.out | apply below_alloc | apply pw_below_drewN | apply below_drew1 | refine below_set ?_ GE300.out) | exact HB.out)))); have n4_ := Aside0.mk (blk_below (g := gb300) (o := .cells #[.int .i64 a0_0, .int .i64 a0_1, .int .i64 a0_2, .int .i64 a0_3, .slice A0_4 l0_4.length c0_4, .slice A0_5 l0_5.length c0_5] 25 (0, 0)) (by (with_reducible repeat (first | refine blk_drewN ?_ _ | refine blk_drew ?_ | refine blk_alloc ?_ _)); exact BK300.out) hb); have n5_ := Aside0.mk (below_step (by repeat (first | (with_reducible first | exact HB.out | apply below_alloc | apply pw_below_drewN | apply below_drew1 | refine below_set ?_ GE300.out) | exact HB.out)) hb); clear HO_1; clear HO_301004; clear HO_301005; clear BK300; clear HB; have HO_1 := n0_; have HO_301004 := n1_; have HO_301005 := n2_; have HO309 := n3_; have BK300 := n4_; have HB := n5_; clear n0_ n1_ n2_ n3_ n4_ n5_; clear hb ho42) | ((with_reducible refine gate_dst (N := 42) rfl ?_); refine Kd.R_lit (Kd.int .i64) _ 3 ?hg (N := 42) ?hd (xs := ([] : List Int)) (inner := []) (ok := fun _ => True) (okp := fun _ => True) ?hr ?hp (fun _ hk => hk) trivial (Below.refl _ _) (Nat.le_refl _) (by simp) ?_; (case hd => rfl); (case hg => rfl); (case hr => first | (go_simp; done) | (go_simp; rfl)); (case hp => exact (Reps.none _ _)); intro v311 w43 ho44 hb hg_ hnew_; clear hg_ hnew_; (first | rw [← Ny310.out] at ho44 | (simp only [Int.reduceToNat] at ho44; rw [← Ny310.out] at ho44)); have n0_ := Aside0.mk (Kd.V_elder' (by (with_reducible repeat (first | apply Kd.V_alloc | apply Kd.V_drewN | apply Kd.V_drew)); exact HO_1.out) (Kd.R_base ho44) hb); have n1_ := Aside0.mk (Kd.V_elder' (by (with_reducible repeat (first | apply Kd.V_alloc | apply Kd.V_drewN | apply Kd.V_drew)); exact HO_301004.out) (Kd.R_base ho44) hb); have n2_ := Aside0.mk (Kd.V_elder' (by (with_reducible repeat (first | apply Kd.V_alloc | apply Kd.V_drewN | apply Kd.V_drew)); exact HO_301005.out) (Kd.R_base ho44) hb); have n3_ := Aside0.mk (Kd.R_elder' (by (with_reducible repeat (first | apply Kd.R_alloc | apply Kd.R_drewN | apply Kd.R_drew)); exact HO309.out) (Kd.R_base ho44) hb); have n4_ := Aside0.mk (Kd.R_lower (Kd.R_new' (Kd.R_newM (M := fun k_ => (w.heap.size ≤ k_)) ho44 (below_size (by repeat (first | (with_reducible first | exact HB.out | apply below_alloc | apply pw_below_drewN | apply below_drew1 | refine below_set ?_ GE300.out) | exact HB.out))) (fun k_ h_ => h_)) (Kd.R_lt (by (with_reducible repeat (first | apply Kd.R_alloc | apply Kd.R_drewN | apply Kd.R_drew)); exact HO309.out))) (below_size (by repeat (first | (with_reducible first | exact HB.out | apply below_alloc | apply pw_below_drewN | apply below_drew1 | refine below_set ?_ GE300.out) | exact HB.out)))); have n5_ := Aside0.mk (blk_below (g := gb300) (o := .cells #[.int .i64 a0_0, .int .i64 a0_1, .int .i64 a0_2, .int .i64 a0_3, .slice A0_4 l0_4.length c0_4, .slice A0_5 l0_5.length c0_5] 25 (0, 0)) (by (with_reducible repeat (first | refine blk_drewN ?_ _ | refine blk_drew ?_ | refine blk_alloc ?_ _)); exact BK300.out) hb); have n6_ := Aside0.mk (below_step (by repeat (first | (with_reducible first | exact HB.out | apply below_alloc | apply pw_below_drewN | apply below_drew1 | refine below_set ?_ GE300.out) | exact HB.out)) hb); clear HO_1; clear HO_301004; clear HO_301005; clear HO309; clear BK300; clear HB; have HO_1 := n0_; have HO_301004 := n1_; have HO_301005 := n2_; have HO309 := n3_; have HO312 := n4_; have BK300 := n5_; have HB := n6_; clear n0_ n1_ n2_ n3_ n4_ n5_ n6_; clear hb ho44) | ((with_reducible refine gate_dst (N := 43) rfl ?_); refine Kd.R_lit (Kd.int .i64) _ 3 ?hg (N := 43) ?hd (xs := ([] : List Int)) (inner := []) (ok := fun _ => True) (okp := fun _ => True) ?hr ?hp (fun _ hk => hk) trivial (Below.refl _ _) (Nat.le_refl _) (by simp) ?_; (case hd => rfl); (case hg => rfl); (case hr => first | (go_simp; done) | (go_simp; rfl)); (case hp => exact (Reps.none _ _)); intro v314 w45 ho46 hb hg_ hnew_; clear hg_ hnew_; (first | rw [← Ny313.out] at ho46 | (simp only [Int.reduceToNat] at ho46; rw [← Ny313.out] at ho46)); have n0_ := Aside0.mk (Kd.V_elder' (by (with_reducible repeat (first | apply Kd.V_alloc | apply Kd.V_drewN | apply Kd.V_drew)); exact HO_1.out) (Kd.R_base ho46) hb); have n1_ := Aside0.mk (Kd.V_elder' (by (with_reducible repeat (first | apply Kd.V_alloc | apply Kd.V_drewN | apply Kd.V_drew)); exact HO_301004.out) (Kd.R_base ho46) hb); have n2_ := Aside0.mk (Kd.V_elder' (by (with_reducible repeat (first | apply Kd.V_alloc | apply Kd.V_drewN | apply Kd.V_drew)); exact HO_301005.out) (Kd.R_base ho46) hb); have n3_ := Aside0.mk (Kd.R_elder' (by (with_reducible repeat (first | apply Kd.R_alloc | apply Kd.R_drewN | apply Kd.R_drew)); exact HO309.out) (Kd.R_base ho46) hb); have n4_ := Aside0.mk (Kd.R_elder' (by (with_reducible repeat (first | apply Kd.R_alloc | apply Kd.R_drewN | apply Kd.R_drew)); exact HO312.out) (Kd.R_base ho46) hb); have n5_ := Aside0.mk (Kd.R_lower (Kd.R_new' (Kd.R_new' (Kd.R_newM (M := fun k_ => (w.heap.size ≤ k_)) ho46 (below_size (by repeat (first | (with_reducible first | exact HB.out | apply below_alloc | apply pw_below_drewN | apply below_drew1 | refine below_set ?_ GE300.out) | exact HB.out))) (fun k_ h_ => h_)) (Kd.R_lt (by (with_reducible repeat (first | apply Kd.R_alloc | apply Kd.R_drewN | apply Kd.R_drew)); exact HO309.out))) (Kd.R_lt (by (with_reducible repeat (first | apply Kd.R_alloc | apply Kd.R_drewN | apply Kd.R_drew)); exact HO312.out))) (below_size (by repeat (first | (with_reducible first | exact HB.out | apply below_alloc | apply pw_below_drewN | apply below_drew1 | refine below_set ?_ GE300.out) | exact HB.out)))); have n6_ := Aside0.mk (blk_below (g := gb300) (o := .cells #[.int .i64 a0_0, .int .i64 a0_1, .int .i64 a0_2, .int .i64 a0_3, .slice A0_4 l0_4.length c0_4, .slice A0_5 l0_5.length c0_5] 25 (0, 0)) (by (with_reducible repeat (first | refine blk_drewN ?_ _ | refine blk_drew ?_ | refine blk_alloc ?_ _)); exact BK300.out) hb); have n7_ := Aside0.mk (below_step (by repeat (first | (with_reducible first | exact HB.out | apply below_alloc | apply pw_below_drewN | apply below_drew1 | refine below_set ?_ GE300.out) | exact HB.out)) hb); clear HO_1; clear HO_301004; clear HO_301005; clear HO309; clear HO312; clear BK300; clear HB; have HO_1 := n0_; have HO_301004 := n1_; have HO_301005 := n2_; have HO309 := n3_; have HO312 := n4_; have HO315 := n5_; have BK300 := n6_; have HB := n7_; clear n0_ n1_ n2_ n3_ n4_ n5_ n6_ n7_; clear hb ho46))
    go_loopg [5, 6, 8] kj2 (fun kq v5 v6 v8 w' => ∃ (x5_2 : List Int) (x6_2 : List Int) (x8_2 : Int), v8 = .int .i64 x8_2 ∧ Aside0 (greenwoodlaw09_MatroidParts.l0 kq l1 x5_2 x6_2 y313 x8_2 a0_0 a0_1 a0_2 a0_3 l0_4 l0_5 = some r) ∧ Aside0 (kq ≤ kj2) ∧ Aside0 (Kd.V (Kd.int .i64) 3 w' w.heap.size (fun k_ => ((P0_4_ k_ ∨ P0_5_ k_ ∨ P1_ k_) ∨ w.heap.size ≤ k_) ∧ some k_ ≠ (v5 : Value).ownBlock ∧ some k_ ≠ (v6 : Value).ownBlock ∧ some k_ ≠ (v314 : Value).ownBlock ∧ k_ ≠ gb300) (.slice A1 l1.length c1) l1) ∧ Aside0 (Kd.R (Kd.int .i64) 3 w' w.heap.size (fun k_ => (w.heap.size ≤ k_) ∧ some k_ ≠ (v6 : Value).ownBlock ∧ some k_ ≠ (v314 : Value).ownBlock) v5 x5_2) ∧ Aside0 (Kd.R (Kd.int .i64) 3 w' w.heap.size (fun k_ => (w.heap.size ≤ k_) ∧ some k_ ≠ (v5 : Value).ownBlock ∧ some k_ ≠ (v314 : Value).ownBlock) v6 x6_2) ∧ Aside0 (Kd.R (Kd.int .i64) 3 w' w.heap.size (fun k_ => (w.heap.size ≤ k_) ∧ some k_ ≠ (v5 : Value).ownBlock ∧ some k_ ≠ (v6 : Value).ownBlock) v314 y313) ∧ Aside0 (Kd.V (Kd.slice 3 (Kd.int .i64)) 26 w' w.heap.size (fun k_ => ((P0_4_ k_ ∨ P0_5_ k_ ∨ P1_ k_) ∨ w.heap.size ≤ k_) ∧ some k_ ≠ (v5 : Value).ownBlock ∧ some k_ ≠ (v6 : Value).ownBlock ∧ some k_ ≠ (v314 : Value).ownBlock ∧ k_ ≠ gb300) (.slice A0_4 l0_4.length c0_4) l0_4) ∧ Aside0 (Kd.V k25 25 w' w.heap.size (fun k_ => ((P0_4_ k_ ∨ P0_5_ k_ ∨ P1_ k_) ∨ w.heap.size ≤ k_) ∧ some k_ ≠ (v5 : Value).ownBlock ∧ some k_ ≠ (v6 : Value).ownBlock ∧ some k_ ≠ (v314 : Value).ownBlock ∧ k_ ≠ gb300) (.slice A0_5 l0_5.length c0_5) l0_5) ∧ Aside0 (w'.heap[gb300]? = some (.cells #[.int .i64 a0_0, .int .i64 a0_1, .int .i64 a0_2, .int .i64 a0_3, (.slice A0_4 l0_4.length c0_4), (.slice A0_5 l0_5.length c0_5)] 25 (0, 0))) ∧ Aside0 (Below w.heap.size w w'))
    case atStart => exact ⟨(y307), (y310), (0), (by first | rfl | (simp; done) | (simp [*]; done)), H', ⟨Nat.le_refl _⟩, ⟨by (with_reducible repeat (first | apply Kd.V_alloc | apply Kd.V_drewN | apply Kd.V_drew)); exact Kd.V_mono HO_1.out (fun _ hk => ⟨hk.1.1.1.1, ⟨hk.1.1.2, ⟨hk.1.2, ⟨hk.2, hk.1.1.1.2⟩⟩⟩⟩)⟩, ⟨by (with_reducible repeat (first | apply Kd.R_alloc | apply Kd.R_drewN | apply Kd.R_drew)); exact Kd.R_mono HO309.out (fun _ hk => ⟨hk.1.1.1, ⟨hk.1.2, hk.2⟩⟩)⟩, ⟨by (with_reducible repeat (first | apply Kd.R_alloc | apply Kd.R_drewN | apply Kd.R_drew)); exact Kd.R_mono HO312.out (fun _ hk => ⟨hk.1.1.1, ⟨hk.1.2, hk.2⟩⟩)⟩, ⟨by (with_reducible repeat (first | apply Kd.R_alloc | apply Kd.R_drewN | apply Kd.R_drew)); exact Kd.R_mono HO315.out (fun _ hk => ⟨hk.1.1.1, ⟨hk.1.2, hk.2⟩⟩)⟩, ⟨by (with_reducible repeat (first | apply Kd.V_alloc | apply Kd.V_drewN | apply Kd.V_drew)); exact Kd.V_mono HO_301004.out (fun _ hk => ⟨hk.1.1.1.1, ⟨hk.1.1.2, ⟨hk.1.2, ⟨hk.2, hk.1.1.1.2⟩⟩⟩⟩)⟩, ⟨by (with_reducible repeat (first | apply Kd.V_alloc | apply Kd.V_drewN | apply Kd.V_drew)); exact Kd.V_mono HO_301005.out (fun _ hk => ⟨hk.1.1.1.1, ⟨hk.1.1.2, ⟨hk.1.2, ⟨hk.2, hk.1.1.1.2⟩⟩⟩⟩)⟩, ⟨by (with_reducible repeat (first | refine blk_drewN ?_ _ | refine blk_drew ?_ | refine blk_alloc ?_ _)); exact BK300.out⟩, ⟨by repeat (first | (with_reducible first | exact HB.out | apply below_alloc | apply pw_below_drewN | apply below_drew1 | refine below_set ?_ GE300.out) | exact HB.out)⟩⟩
    case round =>
     clear H'
     try clear c1
     try clear p2
     try clear c3
     try clear c6
     try clear c8
     try clear c9
     try clear c10
     try clear c10b0
     try clear c10b1
     try clear c12
     try clear c12b0
     try clear c38
     try clear hcz14_0
     try clear hcz14_1
     try clear hcz14_2
     try clear hcz14_3
     try clear hcz14_4
     try clear hcz14_5
     try clear hcz16_0
     try clear hcz16_1
     try clear hcz16_2
     try clear hcz16_3
     try clear hcz16_4
     try clear hcz16_5
     try clear hcz18_0
     try clear hcz18_1
     try clear hcz18_2
     try clear hcz18_3
     try clear hcz18_4
     try clear hcz18_5
     try clear hcz22_0
     try clear hcz22_1
     try clear hcz22_2
     try clear hcz22_3
     try clear hcz22_4
     try clear hcz22_5
     try clear hcz24_0
     try clear hcz24_1
     try clear hcz24_2
     try clear hcz24_3
     try clear hcz24_4
     try clear hcz24_5
     try clear hcz26_0
     try clear hcz26_1
     try clear hcz26_2
     try clear hcz26_3
     try clear hcz26_4
     try clear hcz26_5
     try clear hcz28_0
     try clear hcz28_1
     try clear hcz28_2
     try clear hcz28_3
     try clear hcz28_4
     try clear hcz28_5
     try clear hcz30_0
     try clear hcz30_1
     try clear hcz30_2
     try clear hcz30_3
     try clear hcz30_4
     try clear hcz30_5
     try clear hcz32_0
     try clear hcz32_1
     try clear hcz32_2
     try clear hcz32_3
     try clear hcz32_4
     try clear hcz32_5
     try clear hcz35_0
     try clear hcz35_1
     try clear hcz35_2
     try clear hcz35_3
     try clear hcz35_4
     try clear hcz35_5
     try clear hfz14_0
     try clear hfz14_1
     try clear hfz14_2
     try clear hfz14_3
     try clear hfz14_4
     try clear hfz14_5
     try clear hfz16_0
     try clear hfz16_1
     try clear hfz16_2
     try clear hfz16_3
     try clear hfz16_4
     try clear hfz16_5
     try clear hfz18_0
     try clear hfz18_1
     try clear hfz18_2
     try clear hfz18_3
     try clear hfz18_4
     try clear hfz18_5
     try clear hfz22_0
     try clear hfz22_1
     try clear hfz22_2
     try clear hfz22_3
     try clear hfz22_4
     try clear hfz22_5
     try clear hfz24_0
     try clear hfz24_1
     try clear hfz24_2
     try clear hfz24_3
     try clear hfz24_4
     try clear hfz24_5
     try clear hfz26_0
     try clear hfz26_1
     try clear hfz26_2
     try clear hfz26_3
     try clear hfz26_4
     try clear hfz26_5
     try clear hfz28_0
     try clear hfz28_1
     try clear hfz28_2
     try clear hfz28_3
     try clear hfz28_4
     try clear hfz28_5
     try clear hfz30_0
     try clear hfz30_1
     try clear hfz30_2
     try clear hfz30_3
     try clear hfz30_4
     try clear hfz30_5
     try clear hfz32_0
     try clear hfz32_1
     try clear hfz32_2
     try clear hfz32_3
     try clear hfz32_4
     try clear hfz32_5
     try clear hfz35_0
     try clear hfz35_1
     try clear hfz35_2
     try clear hfz35_3
     try clear hfz35_4
     try clear hfz35_5
     try clear p2
     obtain ⟨x5_2, x6_2, x8_2, rfl, HA, HK2, HO_1, HO_5, HO_6, HO_7, HO_301004, HO_301005, BK300, HB⟩ := hrel
     cases gk with
     | zero => exact absurd HA.out (by simp [greenwoodlaw09_MatroidParts.l0])
     | succ k2 =>
      have H := HA.out
      clear HA
      simp only [greenwoodlaw09_MatroidParts.l0] at H
      by_cases c47 : x8_2 < a0_1
      ·rw [if_pos c47] at H
       have c47b0 : decide (x8_2 < a0_1) = true := decide_eq_true c47
       clear c47
       replace H := Option.bind_eq_some_iff.mp H
       obtain ⟨t316, A480, H⟩ := H
       replace H : (if t316 = true then (greenwoodlaw09_MatroidParts.l0 k2 l1 x5_2 x6_2 y313 (wrap64 (x8_2 + 1)) a0_0 a0_1 a0_2 a0_3 l0_4 l0_5) else (if x5_2.length < 17592186044416 then (if x6_2.length < 17592186044416 then (greenwoodlaw09_MatroidParts.l0 k2 l1 (x5_2 ++ [x8_2]) (x6_2 ++ [(x6_2.length : Int)]) y313 (wrap64 (x8_2 + 1)) a0_0 a0_1 a0_2 a0_3 l0_4 l0_5) else (none)) else (none))) = some r := H
       have A48 := Aside0.mk A480
       clear A480
       by_cases c49 : t316 = true
       ·subst c49
        have H1 : (greenwoodlaw09_MatroidParts.l0 k2 l1 x5_2 x6_2 y313 (wrap64 (x8_2 + 1)) a0_0 a0_1 a0_2 a0_3 l0_4 l0_5) = some r := by rw [if_pos rfl] at H; exact H
        clear H
        have H := H1
        clear H1
        have H' := Aside0.mk H
        clear H
        have hcz50_0 : wr.cell? ⟨gb300, 0, none⟩ = some (.int .i64 a0_0) := (blk_cell BK300.out 0).trans rfl
        have hcz50_1 : wr.cell? ⟨gb300, 1, none⟩ = some (.int .i64 a0_1) := (blk_cell BK300.out 1).trans rfl
        have hcz50_2 : wr.cell? ⟨gb300, 2, none⟩ = some (.int .i64 a0_2) := (blk_cell BK300.out 2).trans rfl
        have hcz50_3 : wr.cell? ⟨gb300, 3, none⟩ = some (.int .i64 a0_3) := (blk_cell BK300.out 3).trans rfl
        have hcz50_4 : wr.cell? ⟨gb300, 4, none⟩ = some (.slice A0_4 l0_4.length c0_4) := (blk_cell BK300.out 4).trans rfl
        have hcz50_5 : wr.cell? ⟨gb300, 5, none⟩ = some (.slice A0_5 l0_5.length c0_5) := (blk_cell BK300.out 5).trans rfl
        have hfz50_0 := blk_frozen BK300.out 0
        have hfz50_1 := blk_frozen BK300.out 1
        have hfz50_2 := blk_frozen BK300.out 2
        have hfz50_3 := blk_frozen BK300.out 3
        have hfz50_4 := blk_frozen BK300.out 4
        have hfz50_5 := blk_frozen BK300.out 5
        go_wp2_with (first | ((with_reducible refine gate_callee (f := 18) rfl ?_); refine goesL_ (some 52) rfl rfl Tryd.func18 (by kernel_rfl) rfl #[.slice A1 l1.length c1, .int .i64 x8_2] rfl (by (try simp only [List.map_toArray, List.map_cons, List.map_nil]); first | done | rfl | (simp only [List.length_drop, List.length_take]; rfl)) ?_; (with_reducible refine (greenwoodlaw09_in.calls k2 _ _ l1 x8_2 true _ ?side1 ?side2 A48.out).mono ?_); (case side1 => repeat (first | exact (Kd.V_reads' HO_1.out).2.2 | (with_reducible refine Kd.C_alloc ?_ _) | (with_reducible refine Kd.C_drewN ?_ _) | (with_reducible refine Kd.C_drew ?_))); (case side2 => exact (Kd.V_reads' HO_1.out).2.1); rintro e w' ⟨rfl, ⟨nd, rfl⟩⟩; refine ⟨_, rfl, ?_⟩))
        go_roundg k2
        case measure => have := HJ2.out; have := HK2.out; omega
        case rel => exact ⟨(x5_2), (x6_2), (wrap64 (x8_2 + 1)), (by first | rfl | (simp; done) | (simp [*]; done)), H', ⟨by have := HJ2.out; have := HK2.out; omega⟩, ⟨by (with_reducible repeat (first | apply Kd.V_alloc | apply Kd.V_drewN | apply Kd.V_drew)); exact HO_1.out⟩, ⟨by (with_reducible repeat (first | apply Kd.R_alloc | apply Kd.R_drewN | apply Kd.R_drew)); exact HO_5.out⟩, ⟨by (with_reducible repeat (first | apply Kd.R_alloc | apply Kd.R_drewN | apply Kd.R_drew)); exact HO_6.out⟩, ⟨by (with_reducible repeat (first | apply Kd.R_alloc | apply Kd.R_drewN | apply Kd.R_drew)); exact HO_7.out⟩, ⟨by (with_reducible repeat (first | apply Kd.V_alloc | apply Kd.V_drewN | apply Kd.V_drew)); exact HO_301004.out⟩, ⟨by (with_reducible repeat (first | apply Kd.V_alloc | apply Kd.V_drewN | apply Kd.V_drew)); exact HO_301005.out⟩, ⟨by (with_reducible repeat (first | refine blk_drewN ?_ _ | refine blk_drew ?_ | refine blk_alloc ?_ _)); exact BK300.out⟩, ⟨by repeat (first | (with_reducible first | exact HB.out | apply below_alloc | apply pw_below_drewN | apply below_drew1 | refine below_set ?_ GE300.out) | exact HB.out)⟩⟩
       ·replace c49 := Bool.eq_false_iff.mpr c49
        subst c49
        have H1 : (if x5_2.length < 17592186044416 then (if x6_2.length < 17592186044416 then (greenwoodlaw09_MatroidParts.l0 k2 l1 (x5_2 ++ [x8_2]) (x6_2 ++ [(x6_2.length : Int)]) y313 (wrap64 (x8_2 + 1)) a0_0 a0_1 a0_2 a0_3 l0_4 l0_5) else (none)) else (none)) = some r := by rw [if_neg (show ¬ (false = true) by decide)] at H; exact H
        clear H
        have H := H1
        clear H1
        by_cases c51 : x5_2.length < 17592186044416
        ·rw [if_pos c51] at H
         have LMc51 := Aside0.mk c51
         clear c51
         obtain ⟨y317, hy317⟩ : ∃ y_ : List Int, y_ = (x5_2 ++ [x8_2]) := ⟨_, rfl⟩
         replace H : (if x6_2.length < 17592186044416 then (greenwoodlaw09_MatroidParts.l0 k2 l1 y317 (x6_2 ++ [(x6_2.length : Int)]) y313 (wrap64 (x8_2 + 1)) a0_0 a0_1 a0_2 a0_3 l0_4 l0_5) else (none)) = some r := by first | (rw [hy317]; with_reducible exact H) | (have H2_ := (Option.bind_some _ _).symm.trans H; rw [hy317]; with_reducible exact H2_) | (have H2_ := (Option.bind_some _ _).symm.trans H; with_reducible exact H2_) | with_reducible exact H | (rw [hy317]; exact H) | exact H
         have Ny317 := Aside0.mk hy317
         clear hy317
         by_cases c52 : x6_2.length < 17592186044416
         ·rw [if_pos c52] at H
          have LMc52 := Aside0.mk c52
          clear c52
          obtain ⟨y320, hy320⟩ : ∃ y_ : List Int, y_ = (x6_2 ++ [(x6_2.length : Int)]) := ⟨_, rfl⟩
          replace H : (greenwoodlaw09_MatroidParts.l0 k2 l1 y317 y320 y313 (wrap64 (x8_2 + 1)) a0_0 a0_1 a0_2 a0_3 l0_4 l0_5) = some r := by first | (rw [hy320]; with_reducible exact H) | (have H2_ := (Option.bind_some _ _).symm.trans H; rw [hy320]; with_reducible exact H2_) | (have H2_ := (Option.bind_some _ _).symm.trans H; with_reducible exact H2_) | with_reducible exact H | (rw [hy320]; exact H) | exact H
          have Ny320 := Aside0.mk hy320
          clear hy320
          have H' := Aside0.mk H
          clear H
          have hcz53_0 : wr.cell? ⟨gb300, 0, none⟩ = some (.int .i64 a0_0) := (blk_cell BK300.out 0).trans rfl
          have hcz53_1 : wr.cell? ⟨gb300, 1, none⟩ = some (.int .i64 a0_1) := (blk_cell BK300.out 1).trans rfl
          have hcz53_2 : wr.cell? ⟨gb300, 2, none⟩ = some (.int .i64 a0_2) := (blk_cell BK300.out 2).trans rfl
          have hcz53_3 : wr.cell? ⟨gb300, 3, none⟩ = some (.int .i64 a0_3) := (blk_cell BK300.out 3).trans rfl
          have hcz53_4 : wr.cell? ⟨gb300, 4, none⟩ = some (.slice A0_4 l0_4.length c0_4) := (blk_cell BK300.out 4).trans rfl
          have hcz53_5 : wr.cell? ⟨gb300, 5, none⟩ = some (.slice A0_5 l0_5.length c0_5) := (blk_cell BK300.out 5).trans rfl
          have hfz53_0 := blk_frozen BK300.out 0
          have hfz53_1 := blk_frozen BK300.out 1
          have hfz53_2 := blk_frozen BK300.out 2
          have hfz53_3 := blk_frozen BK300.out 3
          have hfz53_4 := blk_frozen BK300.out 4
          have hfz53_5 := blk_frozen BK300.out 5
          go_wp2_with (first | ((with_reducible refine gate_callee (f := 18) rfl ?_); refine goesL_ (some 52) rfl rfl Tryd.func18 (by kernel_rfl) rfl #[.slice A1 l1.length c1, .int .i64 x8_2] rfl (by (try simp only [List.map_toArray, List.map_cons, List.map_nil]); first | done | rfl | (simp only [List.length_drop, List.length_take]; rfl)) ?_; (with_reducible refine (greenwoodlaw09_in.calls k2 _ _ l1 x8_2 false _ ?side1 ?side2 A48.out).mono ?_); (case side1 => repeat (first | exact (Kd.V_reads' HO_1.out).2.2 | (with_reducible refine Kd.C_alloc ?_ _) | (with_reducible refine Kd.C_drewN ?_ _) | (with_reducible refine Kd.C_drew ?_))); (case side2 => exact (Kd.V_reads' HO_1.out).2.1); rintro e w' ⟨rfl, ⟨nd, rfl⟩⟩; refine ⟨_, rfl, ?_⟩) | ((with_reducible refine gate_builtin (b := .append) (xs := #[.tmp 54, .tmp 56]) rfl ?_); at_builtin; refine Kd.R_append (Kd.int .i64) (w0 := w) w.heap.size rfl (.tmp 54) (.tmp 56) 26 3 (.int .i64 0) 8 rfl Tryd.underlying26 info3 rfl (by decide) (by omega) u5 x5_2 x8_2 [.int .i64 x8_2] (fun k_ => (w.heap.size ≤ k_) ∧ some k_ ≠ (u6 : Value).ownBlock ∧ some k_ ≠ (v314 : Value).ownBlock) (fun _ => False) rfl rfl ?aP (fun _ hk => hk.elim) ?aF ?aO ?aB ?aS ?aL ?_; (case aP => exact rfl); (case aB => exact (by repeat (first | (with_reducible first | exact HB.out | apply below_alloc | apply pw_below_drewN | apply below_drew1 | refine below_set ?_ GE300.out) | exact HB.out))); (case aF => exact (fun k_ hk => ⟨(Nat.le_trans (below_size (by repeat (first | (with_reducible first | exact HB.out | apply below_alloc | apply pw_below_drewN | apply below_drew1 | refine below_set ?_ GE300.out) | exact HB.out))) hk), Kd.fresh' (Kd.R_lt (by (with_reducible repeat (first | apply Kd.R_alloc | apply Kd.R_drewN | apply Kd.R_drew)); exact HO_6.out)) k_ hk, Kd.fresh' (Kd.R_lt (by (with_reducible repeat (first | apply Kd.R_alloc | apply Kd.R_drewN | apply Kd.R_drew)); exact HO_7.out)) k_ hk⟩)); (case aO => exact (by (with_reducible repeat (first | apply Kd.R_alloc | apply Kd.R_drewN | apply Kd.R_drew)); exact HO_5.out)); (case aS => exact (below_size (by repeat (first | (with_reducible first | exact HB.out | apply below_alloc | apply pw_below_drewN | apply below_drew1 | refine below_set ?_ GE300.out) | exact HB.out)))); (case aL => have := LMc51.out; omega); intro v318 w54 ho hb hg hat; rw [← Ny317.out] at ho; have n0_ := Aside0.mk (Kd.V_afterv (ok := (fun k_ => ((P0_4_ k_ ∨ P0_5_ k_ ∨ P1_ k_) ∨ w.heap.size ≤ k_) ∧ some k_ ≠ (u6 : Value).ownBlock ∧ some k_ ≠ (v314 : Value).ownBlock ∧ k_ ≠ gb300)) (by (with_reducible repeat (first | apply Kd.V_alloc | apply Kd.V_drewN | apply Kd.V_drew)); exact Kd.V_mono HO_1.out (fun _ hk => ⟨⟨hk.1, ⟨hk.2.2.1, ⟨hk.2.2.2.1, hk.2.2.2.2⟩⟩⟩, hk.2.1⟩)) hg hat); have n1_ := Aside0.mk (Kd.R_after (ok := (fun k_ => (w.heap.size ≤ k_) ∧ some k_ ≠ (v314 : Value).ownBlock)) (by (with_reducible repeat (first | apply Kd.R_alloc | apply Kd.R_drewN | apply Kd.R_drew)); exact Kd.R_mono HO_6.out (fun _ hk => ⟨⟨hk.1, hk.2.2⟩, hk.2.1⟩)) hg hat); have n2_ := Aside0.mk (Kd.R_after (ok := (fun k_ => (w.heap.size ≤ k_) ∧ some k_ ≠ (u6 : Value).ownBlock)) (by (with_reducible repeat (first | apply Kd.R_alloc | apply Kd.R_drewN | apply Kd.R_drew)); exact Kd.R_mono HO_7.out (fun _ hk => ⟨⟨hk.1, hk.2.2⟩, hk.2.1⟩)) hg hat); have n3_ := Aside0.mk (Kd.V_afterv (ok := (fun k_ => ((P0_4_ k_ ∨ P0_5_ k_ ∨ P1_ k_) ∨ w.heap.size ≤ k_) ∧ some k_ ≠ (u6 : Value).ownBlock ∧ some k_ ≠ (v314 : Value).ownBlock ∧ k_ ≠ gb300)) (by (with_reducible repeat (first | apply Kd.V_alloc | apply Kd.V_drewN | apply Kd.V_drew)); exact Kd.V_mono HO_301004.out (fun _ hk => ⟨⟨hk.1, ⟨hk.2.2.1, ⟨hk.2.2.2.1, hk.2.2.2.2⟩⟩⟩, hk.2.1⟩)) hg hat); have n4_ := Aside0.mk (Kd.V_afterv (ok := (fun k_ => ((P0_4_ k_ ∨ P0_5_ k_ ∨ P1_ k_) ∨ w.heap.size ≤ k_) ∧ some k_ ≠ (u6 : Value).ownBlock ∧ some k_ ≠ (v314 : Value).ownBlock ∧ k_ ≠ gb300)) (by (with_reducible repeat (first | apply Kd.V_alloc | apply Kd.V_drewN | apply Kd.V_drew)); exact Kd.V_mono HO_301005.out (fun _ hk => ⟨⟨hk.1, ⟨hk.2.2.1, ⟨hk.2.2.2.1, hk.2.2.2.2⟩⟩⟩, hk.2.1⟩)) hg hat); have n5_ := Aside0.mk (blk_grown (g := gb300) (o := .cells #[.int .i64 a0_0, .int .i64 a0_1, .int .i64 a0_2, .int .i64 a0_3, .slice A0_4 l0_4.length c0_4, .slice A0_5 l0_5.length c0_5] 25 (0, 0)) (by (with_reducible repeat (first | refine blk_drewN ?_ _ | refine blk_drew ?_ | refine blk_alloc ?_ _)); exact BK300.out) hg (Kd.R_ne HO_5.out BK300.out (by decide))); have n6_ := Aside0.mk (hb); have n7_ := Aside0.mk (ho); clear HO_1; clear HO_6; clear HO_7; clear HO_301004; clear HO_301005; clear BK300; clear HB; clear HO_5; have HO_1 := n0_; have HO_6 := n1_; have HO_7 := n2_; have HO_301004 := n3_; have HO_301005 := n4_; have BK300 := n5_; have HB := n6_; have HO319 := n7_; clear n0_ n1_ n2_ n3_ n4_ n5_ n6_ n7_; clear ho hb hg hat; obtain ⟨Ao55, co55, eo55⟩ := Kd.R_slice HO_6.out; subst eo55) | ((with_reducible refine gate_builtin (b := .append) (xs := #[.tmp 58, .tmp 61]) rfl ?_); at_builtin; refine Kd.R_append (Kd.int .i64) (w0 := w) w.heap.size rfl (.tmp 58) (.tmp 61) 26 3 (.int .i64 0) 8 rfl Tryd.underlying26 info3 rfl (by decide) (by omega) (.slice Ao55 x6_2.length co55) x6_2 (x6_2.length : Int) [.int .i64 (x6_2.length : Int)] (fun k_ => (w.heap.size ≤ k_) ∧ some k_ ≠ (v314 : Value).ownBlock ∧ some k_ ≠ (v318 : Value).ownBlock) (fun _ => False) rfl rfl ?aP (fun _ hk => hk.elim) ?aF ?aO ?aB ?aS ?aL ?_; (case aP => exact rfl); (case aB => exact (by repeat (first | (with_reducible first | exact HB.out | apply below_alloc | apply pw_below_drewN | apply below_drew1 | refine below_set ?_ GE300.out) | exact HB.out))); (case aF => exact (fun k_ hk => ⟨(Nat.le_trans (below_size (by repeat (first | (with_reducible first | exact HB.out | apply below_alloc | apply pw_below_drewN | apply below_drew1 | refine below_set ?_ GE300.out) | exact HB.out))) hk), Kd.fresh' (Kd.R_lt (by (with_reducible repeat (first | apply Kd.R_alloc | apply Kd.R_drewN | apply Kd.R_drew)); exact HO_7.out)) k_ hk, Kd.fresh' (Kd.R_lt (by (with_reducible repeat (first | apply Kd.R_alloc | apply Kd.R_drewN | apply Kd.R_drew)); exact HO319.out)) k_ hk⟩)); (case aO => exact (by (with_reducible repeat (first | apply Kd.R_alloc | apply Kd.R_drewN | apply Kd.R_drew)); exact Kd.R_mono HO_6.out (fun _ hk => ⟨hk.1.1, ⟨hk.1.2, hk.2⟩⟩))); (case aS => exact (below_size (by repeat (first | (with_reducible first | exact HB.out | apply below_alloc | apply pw_below_drewN | apply below_drew1 | refine below_set ?_ GE300.out) | exact HB.out)))); (case aL => have := LMc52.out; omega); intro v321 w56 ho hb hg hat; rw [← Ny320.out] at ho; have n0_ := Aside0.mk (Kd.V_afterv (ok := (fun k_ => ((P0_4_ k_ ∨ P0_5_ k_ ∨ P1_ k_) ∨ w.heap.size ≤ k_) ∧ some k_ ≠ (v314 : Value).ownBlock ∧ some k_ ≠ (v318 : Value).ownBlock ∧ k_ ≠ gb300)) (by (with_reducible repeat (first | apply Kd.V_alloc | apply Kd.V_drewN | apply Kd.V_drew)); exact Kd.V_mono HO_1.out (fun _ hk => ⟨⟨hk.1.1, ⟨hk.1.2.2.1, ⟨hk.2, hk.1.2.2.2⟩⟩⟩, hk.1.2.1⟩)) hg hat); have n1_ := Aside0.mk (Kd.R_after (ok := (fun k_ => (w.heap.size ≤ k_) ∧ some k_ ≠ (v318 : Value).ownBlock)) (by (with_reducible repeat (first | apply Kd.R_alloc | apply Kd.R_drewN | apply Kd.R_drew)); exact Kd.R_mono HO_7.out (fun _ hk => ⟨⟨hk.1.1, hk.2⟩, hk.1.2⟩)) hg hat); have n2_ := Aside0.mk (Kd.V_afterv (ok := (fun k_ => ((P0_4_ k_ ∨ P0_5_ k_ ∨ P1_ k_) ∨ w.heap.size ≤ k_) ∧ some k_ ≠ (v314 : Value).ownBlock ∧ some k_ ≠ (v318 : Value).ownBlock ∧ k_ ≠ gb300)) (by (with_reducible repeat (first | apply Kd.V_alloc | apply Kd.V_drewN | apply Kd.V_drew)); exact Kd.V_mono HO_301004.out (fun _ hk => ⟨⟨hk.1.1, ⟨hk.1.2.2.1, ⟨hk.2, hk.1.2.2.2⟩⟩⟩, hk.1.2.1⟩)) hg hat); have n3_ := Aside0.mk (Kd.V_afterv (ok := (fun k_ => ((P0_4_ k_ ∨ P0_5_ k_ ∨ P1_ k_) ∨ w.heap.size ≤ k_) ∧ some k_ ≠ (v314 : Value).ownBlock ∧ some k_ ≠ (v318 : Value).ownBlock ∧ k_ ≠ gb300)) (by (with_reducible repeat (first | apply Kd.V_alloc | apply Kd.V_drewN | apply Kd.V_drew)); exact Kd.V_mono HO_301005.out (fun _ hk => ⟨⟨hk.1.1, ⟨hk.1.2.2.1, ⟨hk.2, hk.1.2.2.2⟩⟩⟩, hk.1.2.1⟩)) hg hat); have n4_ := Aside0.mk (blk_grown (g := gb300) (o := .cells #[.int .i64 a0_0, .int .i64 a0_1, .int .i64 a0_2, .int .i64 a0_3, .slice A0_4 l0_4.length c0_4, .slice A0_5 l0_5.length c0_5] 25 (0, 0)) (by (with_reducible repeat (first | refine blk_drewN ?_ _ | refine blk_drew ?_ | refine blk_alloc ?_ _)); exact BK300.out) hg (Kd.R_ne HO_6.out BK300.out (by decide))); have n5_ := Aside0.mk (Kd.R_after (ok := (fun k_ => (w.heap.size ≤ k_) ∧ some k_ ≠ (v314 : Value).ownBlock)) (by (with_reducible repeat (first | apply Kd.R_alloc | apply Kd.R_drewN | apply Kd.R_drew)); exact Kd.R_mono HO319.out (fun _ hk => ⟨⟨hk.1, hk.2.2⟩, hk.2.1⟩)) hg hat); have n6_ := Aside0.mk (hb); have n7_ := Aside0.mk (ho); clear HO_1; clear HO_7; clear HO_301004; clear HO_301005; clear BK300; clear HO319; clear HB; clear HO_6; have HO_1 := n0_; have HO_7 := n1_; have HO_301004 := n2_; have HO_301005 := n3_; have BK300 := n4_; have HO319 := n5_; have HB := n6_; have HO322 := n7_; clear n0_ n1_ n2_ n3_ n4_ n5_ n6_ n7_; clear ho hb hg hat))
          go_roundg k2
          case measure => have := HJ2.out; have := HK2.out; omega
          case rel => exact ⟨(y317), (y320), (wrap64 (x8_2 + 1)), (by first | rfl | (simp; done) | (simp [*]; done)), H', ⟨by have := HJ2.out; have := HK2.out; omega⟩, ⟨by (with_reducible repeat (first | apply Kd.V_alloc | apply Kd.V_drewN | apply Kd.V_drew)); exact Kd.V_mono HO_1.out (fun _ hk => ⟨hk.1.1, ⟨hk.1.2.2.1, ⟨hk.2, ⟨hk.1.2.1, hk.1.2.2.2⟩⟩⟩⟩)⟩, ⟨by (with_reducible repeat (first | apply Kd.R_alloc | apply Kd.R_drewN | apply Kd.R_drew)); exact Kd.R_mono HO319.out (fun _ hk => ⟨hk.1.1, ⟨hk.2, hk.1.2⟩⟩)⟩, ⟨by (with_reducible repeat (first | apply Kd.R_alloc | apply Kd.R_drewN | apply Kd.R_drew)); exact Kd.R_mono HO322.out (fun _ hk => ⟨hk.1, ⟨hk.2.2, hk.2.1⟩⟩)⟩, ⟨by (with_reducible repeat (first | apply Kd.R_alloc | apply Kd.R_drewN | apply Kd.R_drew)); exact Kd.R_mono HO_7.out (fun _ hk => ⟨hk.1.1, ⟨hk.1.2, hk.2⟩⟩)⟩, ⟨by (with_reducible repeat (first | apply Kd.V_alloc | apply Kd.V_drewN | apply Kd.V_drew)); exact Kd.V_mono HO_301004.out (fun _ hk => ⟨hk.1.1, ⟨hk.1.2.2.1, ⟨hk.2, ⟨hk.1.2.1, hk.1.2.2.2⟩⟩⟩⟩)⟩, ⟨by (with_reducible repeat (first | apply Kd.V_alloc | apply Kd.V_drewN | apply Kd.V_drew)); exact Kd.V_mono HO_301005.out (fun _ hk => ⟨hk.1.1, ⟨hk.1.2.2.1, ⟨hk.2, ⟨hk.1.2.1, hk.1.2.2.2⟩⟩⟩⟩)⟩, ⟨by (with_reducible repeat (first | refine blk_drewN ?_ _ | refine blk_drew ?_ | refine blk_alloc ?_ _)); exact BK300.out⟩, ⟨by repeat (first | (with_reducible first | exact HB.out | apply below_alloc | apply pw_below_drewN | apply below_drew1 | refine below_set ?_ GE300.out) | exact HB.out)⟩⟩
         ·rw [if_neg c52] at H
          exact absurd H (by simp)
        ·rw [if_neg c51] at H
         exact absurd H (by simp)
      ·rw [if_neg c47] at H
       have c47b0 : decide (x8_2 < a0_1) = false := decide_eq_false c47
       clear c47
       have H' := Aside0.mk H
       clear H
       have hcz57_0 : wr.cell? ⟨gb300, 0, none⟩ = some (.int .i64 a0_0) := (blk_cell BK300.out 0).trans rfl
       have hcz57_1 : wr.cell? ⟨gb300, 1, none⟩ = some (.int .i64 a0_1) := (blk_cell BK300.out 1).trans rfl
       have hcz57_2 : wr.cell? ⟨gb300, 2, none⟩ = some (.int .i64 a0_2) := (blk_cell BK300.out 2).trans rfl
       have hcz57_3 : wr.cell? ⟨gb300, 3, none⟩ = some (.int .i64 a0_3) := (blk_cell BK300.out 3).trans rfl
       have hcz57_4 : wr.cell? ⟨gb300, 4, none⟩ = some (.slice A0_4 l0_4.length c0_4) := (blk_cell BK300.out 4).trans rfl
       have hcz57_5 : wr.cell? ⟨gb300, 5, none⟩ = some (.slice A0_5 l0_5.length c0_5) := (blk_cell BK300.out 5).trans rfl
       have hfz57_0 := blk_frozen BK300.out 0
       have hfz57_1 := blk_frozen BK300.out 1
       have hfz57_2 := blk_frozen BK300.out 2
       have hfz57_3 := blk_frozen BK300.out 3
       have hfz57_4 := blk_frozen BK300.out 4
       have hfz57_5 := blk_frozen BK300.out 5
       go_wp2
       go_loopg [7, 9] k2 (fun kq v7 v9 w' => ∃ (x7_3 : List Int) (x9_3 : Int), v9 = .int .i64 x9_3 ∧ Aside0 (greenwoodlaw09_MatroidParts.l1 kq l1 x5_2 x6_2 x7_3 x9_3 a0_0 a0_1 a0_2 a0_3 l0_4 l0_5 = some r) ∧ Aside0 (kq ≤ k2) ∧ Aside0 (Kd.V (Kd.int .i64) 3 w' w.heap.size (fun k_ => ((P0_4_ k_ ∨ P0_5_ k_ ∨ P1_ k_) ∨ w.heap.size ≤ k_) ∧ some k_ ≠ (u5 : Value).ownBlock ∧ some k_ ≠ (u6 : Value).ownBlock ∧ some k_ ≠ (v7 : Value).ownBlock ∧ k_ ≠ gb300) (.slice A1 l1.length c1) l1) ∧ Aside0 (Kd.R (Kd.int .i64) 3 w' w.heap.size (fun k_ => (w.heap.size ≤ k_) ∧ some k_ ≠ (u6 : Value).ownBlock ∧ some k_ ≠ (v7 : Value).ownBlock) u5 x5_2) ∧ Aside0 (Kd.R (Kd.int .i64) 3 w' w.heap.size (fun k_ => (w.heap.size ≤ k_) ∧ some k_ ≠ (u5 : Value).ownBlock ∧ some k_ ≠ (v7 : Value).ownBlock) u6 x6_2) ∧ Aside0 (Kd.R (Kd.int .i64) 3 w' w.heap.size (fun k_ => (w.heap.size ≤ k_) ∧ some k_ ≠ (u5 : Value).ownBlock ∧ some k_ ≠ (u6 : Value).ownBlock) v7 x7_3) ∧ Aside0 (Kd.V (Kd.slice 3 (Kd.int .i64)) 26 w' w.heap.size (fun k_ => ((P0_4_ k_ ∨ P0_5_ k_ ∨ P1_ k_) ∨ w.heap.size ≤ k_) ∧ some k_ ≠ (u5 : Value).ownBlock ∧ some k_ ≠ (u6 : Value).ownBlock ∧ some k_ ≠ (v7 : Value).ownBlock ∧ k_ ≠ gb300) (.slice A0_4 l0_4.length c0_4) l0_4) ∧ Aside0 (Kd.V k25 25 w' w.heap.size (fun k_ => ((P0_4_ k_ ∨ P0_5_ k_ ∨ P1_ k_) ∨ w.heap.size ≤ k_) ∧ some k_ ≠ (u5 : Value).ownBlock ∧ some k_ ≠ (u6 : Value).ownBlock ∧ some k_ ≠ (v7 : Value).ownBlock ∧ k_ ≠ gb300) (.slice A0_5 l0_5.length c0_5) l0_5) ∧ Aside0 (w'.heap[gb300]? = some (.cells #[.int .i64 a0_0, .int .i64 a0_1, .int .i64 a0_2, .int .i64 a0_3, (.slice A0_4 l0_4.length c0_4), (.slice A0_5 l0_5.length c0_5)] 25 (0, 0))) ∧ Aside0 (Below w.heap.size w w'))
       case atStart => exact ⟨(y313), (0), (by first | rfl | (simp; done) | (simp [*]; done)), H', ⟨Nat.le_refl _⟩, ⟨by (with_reducible repeat (first | apply Kd.V_alloc | apply Kd.V_drewN | apply Kd.V_drew)); exact HO_1.out⟩, ⟨by (with_reducible repeat (first | apply Kd.R_alloc | apply Kd.R_drewN | apply Kd.R_drew)); exact HO_5.out⟩, ⟨by (with_reducible repeat (first | apply Kd.R_alloc | apply Kd.R_drewN | apply Kd.R_drew)); exact HO_6.out⟩, ⟨by (with_reducible repeat (first | apply Kd.R_alloc | apply Kd.R_drewN | apply Kd.R_drew)); exact HO_7.out⟩, ⟨by (with_reducible repeat (first | apply Kd.V_alloc | apply Kd.V_drewN | apply Kd.V_drew)); exact HO_301004.out⟩, ⟨by (with_reducible repeat (first | apply Kd.V_alloc | apply Kd.V_drewN | apply Kd.V_drew)); exact HO_301005.out⟩, ⟨by (with_reducible repeat (first | refine blk_drewN ?_ _ | refine blk_drew ?_ | refine blk_alloc ?_ _)); exact BK300.out⟩, ⟨by repeat (first | (with_reducible first | exact HB.out | apply below_alloc | apply pw_below_drewN | apply below_drew1 | refine below_set ?_ GE300.out) | exact HB.out)⟩⟩
       case round =>
        clear H'
        try clear c1
        try clear p2
        try clear c3
        try clear c4
        try clear c5
        try clear c6
        try clear p6
        try clear c8
        try clear c9
        try clear c10
        try clear c10b0
        try clear c10b1
        try clear c12
        try clear c12b0
        try clear c18
        try clear c38
        try clear c47
        try clear c47b0
        try clear c49
        try clear c51
        try clear c52
        try clear hcz14_0
        try clear hcz14_1
        try clear hcz14_2
        try clear hcz14_3
        try clear hcz14_4
        try clear hcz14_5
        try clear hcz16_0
        try clear hcz16_1
        try clear hcz16_2
        try clear hcz16_3
        try clear hcz16_4
        try clear hcz16_5
        try clear hcz18_0
        try clear hcz18_1
        try clear hcz18_2
        try clear hcz18_3
        try clear hcz18_4
        try clear hcz18_5
        try clear hcz22_0
        try clear hcz22_1
        try clear hcz22_2
        try clear hcz22_3
        try clear hcz22_4
        try clear hcz22_5
        try clear hcz24_0
        try clear hcz24_1
        try clear hcz24_2
        try clear hcz24_3
        try clear hcz24_4
        try clear hcz24_5
        try clear hcz26_0
        try clear hcz26_1
        try clear hcz26_2
        try clear hcz26_3
        try clear hcz26_4
        try clear hcz26_5
        try clear hcz28_0
        try clear hcz28_1
        try clear hcz28_2
        try clear hcz28_3
        try clear hcz28_4
        try clear hcz28_5
        try clear hcz30_0
        try clear hcz30_1
        try clear hcz30_2
        try clear hcz30_3
        try clear hcz30_4
        try clear hcz30_5
        try clear hcz32_0
        try clear hcz32_1
        try clear hcz32_2
        try clear hcz32_3
        try clear hcz32_4
        try clear hcz32_5
        try clear hcz35_0
        try clear hcz35_1
        try clear hcz35_2
        try clear hcz35_3
        try clear hcz35_4
        try clear hcz35_5
        try clear hcz50_0
        try clear hcz50_1
        try clear hcz50_2
        try clear hcz50_3
        try clear hcz50_4
        try clear hcz50_5
        try clear hcz53_0
        try clear hcz53_1
        try clear hcz53_2
        try clear hcz53_3
        try clear hcz53_4
        try clear hcz53_5
        try clear hcz57_0
        try clear hcz57_1
        try clear hcz57_2
        try clear hcz57_3
        try clear hcz57_4
        try clear hcz57_5
        try clear hfz14_0
        try clear hfz14_1
        try clear hfz14_2
        try clear hfz14_3
        try clear hfz14_4
        try clear hfz14_5
        try clear hfz16_0
        try clear hfz16_1
        try clear hfz16_2
        try clear hfz16_3
        try clear hfz16_4
        try clear hfz16_5
        try clear hfz18_0
        try clear hfz18_1
        try clear hfz18_2
        try clear hfz18_3
        try clear hfz18_4
        try clear hfz18_5
        try clear hfz22_0
        try clear hfz22_1
        try clear hfz22_2
        try clear hfz22_3
        try clear hfz22_4
        try clear hfz22_5
        try clear hfz24_0
        try clear hfz24_1
        try clear hfz24_2
        try clear hfz24_3
        try clear hfz24_4
        try clear hfz24_5
        try clear hfz26_0
        try clear hfz26_1
        try clear hfz26_2
        try clear hfz26_3
        try clear hfz26_4
        try clear hfz26_5
        try clear hfz28_0
        try clear hfz28_1
        try clear hfz28_2
        try clear hfz28_3
        try clear hfz28_4
        try clear hfz28_5
        try clear hfz30_0
        try clear hfz30_1
        try clear hfz30_2
        try clear hfz30_3
        try clear hfz30_4
        try clear hfz30_5
        try clear hfz32_0
        try clear hfz32_1
        try clear hfz32_2
        try clear hfz32_3
        try clear hfz32_4
        try clear hfz32_5
        try clear hfz35_0
        try clear hfz35_1
        try clear hfz35_2
        try clear hfz35_3
        try clear hfz35_4
        try clear hfz35_5
        try clear hfz50_0
        try clear hfz50_1
        try clear hfz50_2
        try clear hfz50_3
        try clear hfz50_4
        try clear hfz50_5
        try clear hfz53_0
        try clear hfz53_1
        try clear hfz53_2
        try clear hfz53_3
        try clear hfz53_4
        try clear hfz53_5
        try clear hfz57_0
        try clear hfz57_1
        try clear hfz57_2
        try clear hfz57_3
        try clear hfz57_4
        try clear hfz57_5
        try clear p2
        obtain ⟨x7_3, x9_3, rfl, HA, HK3, HO_1, HO_5, HO_6, HO_7, HO_301004, HO_301005, BK300, HB⟩ := hrel
        cases gk with
        | zero => exact absurd HA.out (by simp [greenwoodlaw09_MatroidParts.l1])
        | succ k3 =>
         have H := HA.out
         clear HA
         simp only [greenwoodlaw09_MatroidParts.l1] at H
         by_cases c58 : x9_3 < (l1.length : Int)
         ·rw [if_pos c58] at H
          have c58b0 : decide (x9_3 < (l1.length : Int)) = true := decide_eq_true c58
          clear c58
          by_cases c59 : x7_3.length < 17592186044416
          ·rw [if_pos c59] at H
           have LMc59 := Aside0.mk c59
           clear c59
           obtain ⟨y323, hy323⟩ : ∃ y_ : List Int, y_ = (x7_3 ++ [x9_3]) := ⟨_, rfl⟩
           replace H : (greenwoodlaw09_MatroidParts.l1 k3 l1 x5_2 x6_2 y323 (wrap64 (x9_3 + 1)) a0_0 a0_1 a0_2 a0_3 l0_4 l0_5) = some r := by first | (rw [hy323]; with_reducible exact H) | (have H2_ := (Option.bind_some _ _).symm.trans H; rw [hy323]; with_reducible exact H2_) | (have H2_ := (Option.bind_some _ _).symm.trans H; with_reducible exact H2_) | with_reducible exact H | (rw [hy323]; exact H) | exact H
           have Ny323 := Aside0.mk hy323
           clear hy323
           have H' := Aside0.mk H
           clear H
           go_wp2_with (first | ((with_reducible refine gate_builtin (b := .append) (xs := #[.tmp 69, .tmp 71]) rfl ?_); at_builtin; refine Kd.R_append (Kd.int .i64) (w0 := w) w.heap.size rfl (.tmp 69) (.tmp 71) 26 3 (.int .i64 0) 8 rfl Tryd.underlying26 info3 rfl (by decide) (by omega) u7 x7_3 x9_3 [.int .i64 x9_3] (fun k_ => (w.heap.size ≤ k_) ∧ some k_ ≠ (u5 : Value).ownBlock ∧ some k_ ≠ (u6 : Value).ownBlock) (fun _ => False) rfl rfl ?aP (fun _ hk => hk.elim) ?aF ?aO ?aB ?aS ?aL ?_; (case aP => exact rfl); (case aB => exact (by repeat (first | (with_reducible first | exact HB.out | apply below_alloc | apply pw_below_drewN | apply below_drew1 | refine below_set ?_ GE300.out) | exact HB.out))); (case aF => exact (fun k_ hk => ⟨(Nat.le_trans (below_size (by repeat (first | (with_reducible first | exact HB.out | apply below_alloc | apply pw_below_drewN | apply below_drew1 | refine below_set ?_ GE300.out) | exact HB.out))) hk), Kd.fresh' (Kd.R_lt (by (with_reducible repeat (first | apply Kd.R_alloc | apply Kd.R_drewN | apply Kd.R_drew)); exact HO_5.out)) k_ hk, Kd.fresh' (Kd.R_lt (by (with_reducible repeat (first | apply Kd.R_alloc | apply Kd.R_drewN | apply Kd.R_drew)); exact HO_6.out)) k_ hk⟩)); (case aO => exact (by (with_reducible repeat (first | apply Kd.R_alloc | apply Kd.R_drewN | apply Kd.R_drew)); exact HO_7.out)); (case aS => exact (below_size (by repeat (first | (with_reducible first | exact HB.out | apply below_alloc | apply pw_below_drewN | apply below_drew1 | refine below_set ?_ GE300.out) | exact HB.out)))); (case aL => have := LMc59.out; omega); intro v324 w60 ho hb hg hat; rw [← Ny323.out] at ho; have n0_ := Aside0.mk (Kd.V_afterv (ok := (fun k_ => ((P0_4_ k_ ∨ P0_5_ k_ ∨ P1_ k_) ∨ w.heap.size ≤ k_) ∧ some k_ ≠ (u5 : Value).ownBlock ∧ some k_ ≠ (u6 : Value).ownBlock ∧ k_ ≠ gb300)) (by (with_reducible repeat (first | apply Kd.V_alloc | apply Kd.V_drewN | apply Kd.V_drew)); exact Kd.V_mono HO_1.out (fun _ hk => ⟨⟨hk.1, ⟨hk.2.1, ⟨hk.2.2.1, hk.2.2.2.2⟩⟩⟩, hk.2.2.2.1⟩)) hg hat); have n1_ := Aside0.mk (Kd.R_after (ok := (fun k_ => (w.heap.size ≤ k_) ∧ some k_ ≠ (u6 : Value).ownBlock)) (by (with_reducible repeat (first | apply Kd.R_alloc | apply Kd.R_drewN | apply Kd.R_drew)); exact Kd.R_mono HO_5.out (fun _ hk => ⟨⟨hk.1, hk.2.1⟩, hk.2.2⟩)) hg hat); have n2_ := Aside0.mk (Kd.R_after (ok := (fun k_ => (w.heap.size ≤ k_) ∧ some k_ ≠ (u5 : Value).ownBlock)) (by (with_reducible repeat (first | apply Kd.R_alloc | apply Kd.R_drewN | apply Kd.R_drew)); exact Kd.R_mono HO_6.out (fun _ hk => ⟨⟨hk.1, hk.2.1⟩, hk.2.2⟩)) hg hat); have n3_ := Aside0.mk (Kd.V_afterv (ok := (fun k_ => ((P0_4_ k_ ∨ P0_5_ k_ ∨ P1_ k_) ∨ w.heap.size ≤ k_) ∧ some k_ ≠ (u5 : Value).ownBlock ∧ some k_ ≠ (u6 : Value).ownBlock ∧ k_ ≠ gb300)) (by (with_reducible repeat (first | apply Kd.V_alloc | apply Kd.V_drewN | apply Kd.V_drew)); exact Kd.V_mono HO_301004.out (fun _ hk => ⟨⟨hk.1, ⟨hk.2.1, ⟨hk.2.2.1, hk.2.2.2.2⟩⟩⟩, hk.2.2.2.1⟩)) hg hat); have n4_ := Aside0.mk (Kd.V_afterv (ok := (fun k_ => ((P0_4_ k_ ∨ P0_5_ k_ ∨ P1_ k_) ∨ w.heap.size ≤ k_) ∧ some k_ ≠ (u5 : Value).ownBlock ∧ some k_ ≠ (u6 : Value).ownBlock ∧ k_ ≠ gb300)) (by (with_reducible repeat (first | apply Kd.V_alloc | apply Kd.V_drewN | apply Kd.V_drew)); exact Kd.V_mono HO_301005.out (fun _ hk => ⟨⟨hk.1, ⟨hk.2.1, ⟨hk.2.2.1, hk.2.2.2.2⟩⟩⟩, hk.2.2.2.1⟩)) hg hat); have n5_ := Aside0.mk (blk_grown (g := gb300) (o := .cells #[.int .i64 a0_0, .int .i64 a0_1, .int .i64 a0_2, .int .i64 a0_3, .slice A0_4 l0_4.length c0_4, .slice A0_5 l0_5.length c0_5] 25 (0, 0)) (by (with_reducible repeat (first | refine blk_drewN ?_ _ | refine blk_drew ?_ | refine blk_alloc ?_ _)); exact BK300.out) hg (Kd.R_ne HO_7.out BK300.out (by decide))); have n6_ := Aside0.mk (hb); have n7_ := Aside0.mk (ho); clear HO_1; clear HO_5; clear HO_6; clear HO_301004; clear HO_301005; clear BK300; clear HB; clear HO_7; have HO_1 := n0_; have HO_5 := n1_; have HO_6 := n2_; have HO_301004 := n3_; have HO_301005 := n4_; have BK300 := n5_; have HB := n6_; have HO325 := n7_; clear n0_ n1_ n2_ n3_ n4_ n5_ n6_ n7_; clear ho hb hg hat))
           go_roundg k3
           case measure => have := HJ2.out; have := HK2.out; have := HK3.out; omega
           case rel => exact ⟨(y323), (wrap64 (x9_3 + 1)), (by first | rfl | (simp; done) | (simp [*]; done)), H', ⟨by have := HJ2.out; have := HK2.out; have := HK3.out; omega⟩, ⟨by (with_reducible repeat (first | apply Kd.V_alloc | apply Kd.V_drewN | apply Kd.V_drew)); exact Kd.V_mono HO_1.out (fun _ hk => ⟨hk.1.1, ⟨hk.1.2.1, ⟨hk.1.2.2.1, ⟨hk.2, hk.1.2.2.2⟩⟩⟩⟩)⟩, ⟨by (with_reducible repeat (first | apply Kd.R_alloc | apply Kd.R_drewN | apply Kd.R_drew)); exact Kd.R_mono HO_5.out (fun _ hk => ⟨hk.1.1, ⟨hk.1.2, hk.2⟩⟩)⟩, ⟨by (with_reducible repeat (first | apply Kd.R_alloc | apply Kd.R_drewN | apply Kd.R_drew)); exact Kd.R_mono HO_6.out (fun _ hk => ⟨hk.1.1, ⟨hk.1.2, hk.2⟩⟩)⟩, ⟨by (with_reducible repeat (first | apply Kd.R_alloc | apply Kd.R_drewN | apply Kd.R_drew)); exact HO325.out⟩, ⟨by (with_reducible repeat (first | apply Kd.V_alloc | apply Kd.V_drewN | apply Kd.V_drew)); exact Kd.V_mono HO_301004.out (fun _ hk => ⟨hk.1.1, ⟨hk.1.2.1, ⟨hk.1.2.2.1, ⟨hk.2, hk.1.2.2.2⟩⟩⟩⟩)⟩, ⟨by (with_reducible repeat (first | apply Kd.V_alloc | apply Kd.V_drewN | apply Kd.V_drew)); exact Kd.V_mono HO_301005.out (fun _ hk => ⟨hk.1.1, ⟨hk.1.2.1, ⟨hk.1.2.2.1, ⟨hk.2, hk.1.2.2.2⟩⟩⟩⟩)⟩, ⟨by (with_reducible repeat (first | refine blk_drewN ?_ _ | refine blk_drew ?_ | refine blk_alloc ?_ _)); exact BK300.out⟩, ⟨by repeat (first | (with_reducible first | exact HB.out | apply below_alloc | apply pw_below_drewN | apply below_drew1 | refine below_set ?_ GE300.out) | exact HB.out)⟩⟩
          ·rw [if_neg c59] at H
           exact absurd H (by simp)
         ·rw [if_neg c58] at H
          have c58b0 : decide (x9_3 < (l1.length : Int)) = false := decide_eq_false c58
          clear c58
          obtain ⟨y326, hy326⟩ : ∃ y_ : List (List Int), y_ = (([l1] : List (List Int))) := ⟨_, rfl⟩
          replace H : ((some (([(⟨a0_0, a0_1, a0_2, a0_3, l0_4, l0_5⟩ : S25)] : List (S25)) : List (S25))).bind fun y329 => ((some (([l1] : List (List Int)) : List (List Int))).bind fun y333 => ((some (([(⟨a0_0, a0_1, a0_2, a0_3, l0_4, l0_5⟩ : S25)] : List (S25)) : List (S25))).bind fun y336 => ((matroid_Image.f k3 5 (l1.length : Int) 0 0 y326 y329 x7_3).bind fun bt340 => ((matroid_Image.f k3 6 (x5_2.length : Int) 0 0 y333 y336 x6_2).bind fun bt344 => ((matroid_Check.f 5 (l1.length : Int) 0 0 y326 y329).bind fun t348 => (if t348 = 0 then (if bt340.2 = true then ((greenwoodref01_Same.f k3 bt340.1 l1).bind fun t349 => (if t349 = true then (if bt344.2 = true then ((greenwoodref01_Same.f k3 bt344.1 x5_2).bind fun t350 => (if t350 = true then ((matroid_Check.f 6 (wrap64 ((x5_2.length : Int) + 1)) 0 0 y333 y336).bind fun t351 => (some (t351 == 90))) else (some false))) else (some false)) else (some false))) else (some false)) else (some false)))))))) = some r := by first | (rw [hy326]; with_reducible exact H) | (have H2_ := (Option.bind_some _ _).symm.trans H; rw [hy326]; with_reducible exact H2_) | (have H2_ := (Option.bind_some _ _).symm.trans H; with_reducible exact H2_) | with_reducible exact H | (rw [hy326]; exact H) | exact H
          have Ny326 := Aside0.mk hy326
          clear hy326
          obtain ⟨y329, hy329⟩ : ∃ y_ : List (S25), y_ = (([(⟨a0_0, a0_1, a0_2, a0_3, l0_4, l0_5⟩ : S25)] : List (S25))) := ⟨_, rfl⟩
          replace H : ((some (([l1] : List (List Int)) : List (List Int))).bind fun y333 => ((some (([(⟨a0_0, a0_1, a0_2, a0_3, l0_4, l0_5⟩ : S25)] : List (S25)) : List (S25))).bind fun y336 => ((matroid_Image.f k3 5 (l1.length : Int) 0 0 y326 y329 x7_3).bind fun bt340 => ((matroid_Image.f k3 6 (x5_2.length : Int) 0 0 y333 y336 x6_2).bind fun bt344 => ((matroid_Check.f 5 (l1.length : Int) 0 0 y326 y329).bind fun t348 => (if t348 = 0 then (if bt340.2 = true then ((greenwoodref01_Same.f k3 bt340.1 l1).bind fun t349 => (if t349 = true then (if bt344.2 = true then ((greenwoodref01_Same.f k3 bt344.1 x5_2).bind fun t350 => (if t350 = true then ((matroid_Check.f 6 (wrap64 ((x5_2.length : Int) + 1)) 0 0 y333 y336).bind fun t351 => (some (t351 == 90))) else (some false))) else (some false)) else (some false))) else (some false)) else (some false))))))) = some r := by first | (rw [hy329]; with_reducible exact H) | (have H2_ := (Option.bind_some _ _).symm.trans H; rw [hy329]; with_reducible exact H2_) | (have H2_ := (Option.bind_some _ _).symm.trans H; with_reducible exact H2_) | with_reducible exact H | (rw [hy329]; exact H) | exact H
          have Ny329 := Aside0.mk hy329
          clear hy329
          obtain ⟨y333, hy333⟩ : ∃ y_ : List (List Int), y_ = (([l1] : List (List Int))) := ⟨_, rfl⟩
          replace H : ((some (([(⟨a0_0, a0_1, a0_2, a0_3, l0_4, l0_5⟩ : S25)] : List (S25)) : List (S25))).bind fun y336 => ((matroid_Image.f k3 5 (l1.length : Int) 0 0 y326 y329 x7_3).bind fun bt340 => ((matroid_Image.f k3 6 (x5_2.length : Int) 0 0 y333 y336 x6_2).bind fun bt344 => ((matroid_Check.f 5 (l1.length : Int) 0 0 y326 y329).bind fun t348 => (if t348 = 0 then (if bt340.2 = true then ((greenwoodref01_Same.f k3 bt340.1 l1).bind fun t349 => (if t349 = true then (if bt344.2 = true then ((greenwoodref01_Same.f k3 bt344.1 x5_2).bind fun t350 => (if t350 = true then ((matroid_Check.f 6 (wrap64 ((x5_2.length : Int) + 1)) 0 0 y333 y336).bind fun t351 => (some (t351 == 90))) else (some false))) else (some false)) else (some false))) else (some false)) else (some false)))))) = some r := by first | (rw [hy333]; with_reducible exact H) | (have H2_ := (Option.bind_some _ _).symm.trans H; rw [hy333]; with_reducible exact H2_) | (have H2_ := (Option.bind_some _ _).symm.trans H; with_reducible exact H2_) | with_reducible exact H | (rw [hy333]; exact H) | exact H
          have Ny333 := Aside0.mk hy333
          clear hy333
          obtain ⟨y336, hy336⟩ : ∃ y_ : List (S25), y_ = (([(⟨a0_0, a0_1, a0_2, a0_3, l0_4, l0_5⟩ : S25)] : List (S25))) := ⟨_, rfl⟩
          replace H : ((matroid_Image.f k3 5 (l1.length : Int) 0 0 y326 y329 x7_3).bind fun bt340 => ((matroid_Image.f k3 6 (x5_2.length : Int) 0 0 y333 y336 x6_2).bind fun bt344 => ((matroid_Check.f 5 (l1.length : Int) 0 0 y326 y329).bind fun t348 => (if t348 = 0 then (if bt340.2 = true then ((greenwoodref01_Same.f k3 bt340.1 l1).bind fun t349 => (if t349 = true then (if bt344.2 = true then ((greenwoodref01_Same.f k3 bt344.1 x5_2).bind fun t350 => (if t350 = true then ((matroid_Check.f 6 (wrap64 ((x5_2.length : Int) + 1)) 0 0 y333 y336).bind fun t351 => (some (t351 == 90))) else (some false))) else (some false)) else (some false))) else (some false)) else (some false))))) = some r := by first | (rw [hy336]; with_reducible exact H) | (have H2_ := (Option.bind_some _ _).symm.trans H; rw [hy336]; with_reducible exact H2_) | (have H2_ := (Option.bind_some _ _).symm.trans H; with_reducible exact H2_) | with_reducible exact H | (rw [hy336]; exact H) | exact H
          have Ny336 := Aside0.mk hy336
          clear hy336
          replace H := Option.bind_eq_some_iff.mp H
          obtain ⟨⟨t340, t343⟩, A610, H⟩ := H
          replace H : ((matroid_Image.f k3 6 (x5_2.length : Int) 0 0 y333 y336 x6_2).bind fun bt344 => ((matroid_Check.f 5 (l1.length : Int) 0 0 y326 y329).bind fun t348 => (if t348 = 0 then (if t343 = true then ((greenwoodref01_Same.f k3 t340 l1).bind fun t349 => (if t349 = true then (if bt344.2 = true then ((greenwoodref01_Same.f k3 bt344.1 x5_2).bind fun t350 => (if t350 = true then ((matroid_Check.f 6 (wrap64 ((x5_2.length : Int) + 1)) 0 0 y333 y336).bind fun t351 => (some (t351 == 90))) else (some false))) else (some false)) else (some false))) else (some false)) else (some false)))) = some r := H
          have A61 := Aside0.mk A610
          clear A610
          replace H := Option.bind_eq_some_iff.mp H
          obtain ⟨⟨t344, t347⟩, A620, H⟩ := H
          replace H : ((matroid_Check.f 5 (l1.length : Int) 0 0 y326 y329).bind fun t348 => (if t348 = 0 then (if t343 = true then ((greenwoodref01_Same.f k3 t340 l1).bind fun t349 => (if t349 = true then (if t347 = true then ((greenwoodref01_Same.f k3 t344 x5_2).bind fun t350 => (if t350 = true then ((matroid_Check.f 6 (wrap64 ((x5_2.length : Int) + 1)) 0 0 y333 y336).bind fun t351 => (some (t351 == 90))) else (some false))) else (some false)) else (some false))) else (some false)) else (some false))) = some r := H
          have A62 := Aside0.mk A620
          clear A620
          replace H := Option.bind_eq_some_iff.mp H
          obtain ⟨t348, A630, H⟩ := H
          replace H : (if t348 = 0 then (if t343 = true then ((greenwoodref01_Same.f k3 t340 l1).bind fun t349 => (if t349 = true then (if t347 = true then ((greenwoodref01_Same.f k3 t344 x5_2).bind fun t350 => (if t350 = true then ((matroid_Check.f 6 (wrap64 ((x5_2.length : Int) + 1)) 0 0 y333 y336).bind fun t351 => (some (t351 == 90))) else (some false))) else (some false)) else (some false))) else (some false)) else (some false)) = some r := H
          have A63 := Aside0.mk A630
          clear A630
          by_cases c64 : t348 = 0
          ·rw [if_pos c64] at H
           have c64b0 : (t348 == 0) = true := beq_iff_eq.mpr c64
           have c64b1 : (t348 != 0) = false := bne_eq_false_iff_eq.mpr c64
           clear c64
           by_cases c65 : t343 = true
           ·subst c65
            have H1 : ((greenwoodref01_Same.f k3 t340 l1).bind fun t349 => (if t349 = true then (if t347 = true then ((greenwoodref01_Same.f k3 t344 x5_2).bind fun t350 => (if t350 = true then ((matroid_Check.f 6 (wrap64 ((x5_2.length : Int) + 1)) 0 0 y333 y336).bind fun t351 => (some (t351 == 90))) else (some false))) else (some false)) else (some false))) = some r := by rw [if_pos rfl] at H; exact H
            clear H
            have H := H1
            clear H1
            replace H := Option.bind_eq_some_iff.mp H
            obtain ⟨t349, A660, H⟩ := H
            replace H : (if t349 = true then (if t347 = true then ((greenwoodref01_Same.f k3 t344 x5_2).bind fun t350 => (if t350 = true then ((matroid_Check.f 6 (wrap64 ((x5_2.length : Int) + 1)) 0 0 y333 y336).bind fun t351 => (some (t351 == 90))) else (some false))) else (some false)) else (some false)) = some r := H
            have A66 := Aside0.mk A660
            clear A660
            by_cases c67 : t349 = true
            ·subst c67
             have H1 : (if t347 = true then ((greenwoodref01_Same.f k3 t344 x5_2).bind fun t350 => (if t350 = true then ((matroid_Check.f 6 (wrap64 ((x5_2.length : Int) + 1)) 0 0 y333 y336).bind fun t351 => (some (t351 == 90))) else (some false))) else (some false)) = some r := by rw [if_pos rfl] at H; exact H
             clear H
             have H := H1
             clear H1
             by_cases c68 : t347 = true
             ·subst c68
              have H1 : ((greenwoodref01_Same.f k3 t344 x5_2).bind fun t350 => (if t350 = true then ((matroid_Check.f 6 (wrap64 ((x5_2.length : Int) + 1)) 0 0 y333 y336).bind fun t351 => (some (t351 == 90))) else (some false))) = some r := by rw [if_pos rfl] at H; exact H
              clear H
              have H := H1
              clear H1
              replace H := Option.bind_eq_some_iff.mp H
              obtain ⟨t350, A690, H⟩ := H
              replace H : (if t350 = true then ((matroid_Check.f 6 (wrap64 ((x5_2.length : Int) + 1)) 0 0 y333 y336).bind fun t351 => (some (t351 == 90))) else (some false)) = some r := H
              have A69 := Aside0.mk A690
              clear A690
              by_cases c70 : t350 = true
              ·subst c70
               have H1 : ((matroid_Check.f 6 (wrap64 ((x5_2.length : Int) + 1)) 0 0 y333 y336).bind fun t351 => (some (t351 == 90))) = some r := by rw [if_pos rfl] at H; exact H
               clear H
               have H := H1
               clear H1
               replace H := Option.bind_eq_some_iff.mp H
               obtain ⟨t351, A710, H⟩ := H
               replace H : (some (t351 == 90)) = some r := H
               have A71 := Aside0.mk A710
               clear A710
               obtain rfl := Option.some.inj H
               go_wp2_with (first | ((with_reducible refine gate_dst (N := 76) rfl ?_); refine Kd.N_lit (Kd.slice 3 (Kd.int .i64)) _ 26 ?hg (N' := 76) ?hd (xs := ([l1] : List (List Int))) (inner := [.slice A1 l1.length c1]) (ok := (fun k_ => ((P0_4_ k_ ∨ P0_5_ k_ ∨ P1_ k_) ∨ w.heap.size ≤ k_) ∧ some k_ ≠ (u5 : Value).ownBlock ∧ some k_ ≠ (u6 : Value).ownBlock ∧ some k_ ≠ (u7 : Value).ownBlock ∧ k_ ≠ gb300)) (okp := (fun k_ => ((P0_4_ k_ ∨ P0_5_ k_ ∨ P1_ k_) ∨ w.heap.size ≤ k_) ∧ some k_ ≠ (u5 : Value).ownBlock ∧ some k_ ≠ (u6 : Value).ownBlock ∧ some k_ ≠ (u7 : Value).ownBlock ∧ k_ ≠ gb300)) ?hr ?hp (fun _ hk => hk) ((show ∀ k_, wr.heap.size ≤ k_ → (fun k_ => ((P0_4_ k_ ∨ P0_5_ k_ ∨ P1_ k_) ∨ w.heap.size ≤ k_) ∧ some k_ ≠ (u5 : Value).ownBlock ∧ some k_ ≠ (u6 : Value).ownBlock ∧ some k_ ≠ (u7 : Value).ownBlock ∧ k_ ≠ gb300) k_ from fun k_ hk => ⟨(.inr (Nat.le_trans (below_size (by repeat (first | (with_reducible first | exact HB.out | apply below_alloc | apply pw_below_drewN | apply below_drew1 | refine below_set ?_ GE300.out) | exact HB.out))) hk)), Kd.fresh' (Kd.R_lt (by (with_reducible repeat (first | apply Kd.R_alloc | apply Kd.R_drewN | apply Kd.R_drew)); exact HO_5.out)) k_ hk, Kd.fresh' (Kd.R_lt (by (with_reducible repeat (first | apply Kd.R_alloc | apply Kd.R_drewN | apply Kd.R_drew)); exact HO_6.out)) k_ hk, Kd.fresh' (Kd.R_lt (by (with_reducible repeat (first | apply Kd.R_alloc | apply Kd.R_drewN | apply Kd.R_drew)); exact HO_7.out)) k_ hk, Kd.freshB (g := gb300) (o := .cells #[.int .i64 a0_0, .int .i64 a0_1, .int .i64 a0_2, .int .i64 a0_3, .slice A0_4 l0_4.length c0_4, .slice A0_5 l0_5.length c0_5] 25 (0, 0)) (by (with_reducible repeat (first | refine blk_drewN ?_ _ | refine blk_drew ?_ | refine blk_alloc ?_ _)); exact BK300.out) k_ hk⟩) _ (Nat.le_refl _)) (Below.refl _ _) (Nat.le_refl _) (by simp) ?_; (case hd => rfl); (case hg => rfl); (case hr => first | (go_simp; done) | (go_simp; rfl)); (case hp => exact (Reps.one (show Kd.FK (Kd.slice 3 (Kd.int .i64)) _ _ l1 [.slice A1 l1.length c1] from (Kd.FK_slice_mk (Kd.V_reads' (Kd.V_mono (ok' := (fun k_ => ((P0_4_ k_ ∨ P0_5_ k_ ∨ P1_ k_) ∨ w.heap.size ≤ k_) ∧ some k_ ≠ (u5 : Value).ownBlock ∧ some k_ ≠ (u6 : Value).ownBlock ∧ some k_ ≠ (u7 : Value).ownBlock ∧ k_ ≠ gb300)) (HO_1.out) (fun k_ hk => ⟨hk.1, ⟨hk.2.1, ⟨hk.2.2.1, ⟨hk.2.2.2.1, hk.2.2.2.2⟩⟩⟩⟩))).2.1 (Kd.V_F (Kd.V_mono (ok' := (fun k_ => ((P0_4_ k_ ∨ P0_5_ k_ ∨ P1_ k_) ∨ w.heap.size ≤ k_) ∧ some k_ ≠ (u5 : Value).ownBlock ∧ some k_ ≠ (u6 : Value).ownBlock ∧ some k_ ≠ (u7 : Value).ownBlock ∧ k_ ≠ gb300)) (HO_1.out) (fun k_ hk => ⟨hk.1, ⟨hk.2.1, ⟨hk.2.2.1, ⟨hk.2.2.2.1, hk.2.2.2.2⟩⟩⟩⟩))))) (Reps.none _ _))); intro v327 w72 ho73 hb hg_ hnew_; clear hg_ hnew_; (first | rw [← Ny326.out] at ho73 | (simp only [Int.reduceToNat] at ho73; rw [← Ny326.out] at ho73)); have n0_ := Aside0.mk (Kd.V_elder' (by (with_reducible repeat (first | apply Kd.V_alloc | apply Kd.V_drewN | apply Kd.V_drew)); exact HO_1.out) (Kd.N_base ho73) hb); have n1_ := Aside0.mk (Kd.R_below (by (with_reducible repeat (first | apply Kd.R_alloc | apply Kd.R_drewN | apply Kd.R_drew)); exact HO_5.out) hb); have n2_ := Aside0.mk (Kd.R_below (by (with_reducible repeat (first | apply Kd.R_alloc | apply Kd.R_drewN | apply Kd.R_drew)); exact HO_6.out) hb); have n3_ := Aside0.mk (Kd.R_below (by (with_reducible repeat (first | apply Kd.R_alloc | apply Kd.R_drewN | apply Kd.R_drew)); exact HO_7.out) hb); have n4_ := Aside0.mk (Kd.V_elder' (by (with_reducible repeat (first | apply Kd.V_alloc | apply Kd.V_drewN | apply Kd.V_drew)); exact HO_301004.out) (Kd.N_base ho73) hb); have n5_ := Aside0.mk (Kd.V_elder' (by (with_reducible repeat (first | apply Kd.V_alloc | apply Kd.V_drewN | apply Kd.V_drew)); exact HO_301005.out) (Kd.N_base ho73) hb); have n6_ := Aside0.mk (Kd.N_lower ho73 (below_size (by repeat (first | (with_reducible first | exact HB.out | apply below_alloc | apply pw_below_drewN | apply below_drew1 | refine below_set ?_ GE300.out) | exact HB.out)))); have n7_ := Aside0.mk (blk_below (g := gb300) (o := .cells #[.int .i64 a0_0, .int .i64 a0_1, .int .i64 a0_2, .int .i64 a0_3, .slice A0_4 l0_4.length c0_4, .slice A0_5 l0_5.length c0_5] 25 (0, 0)) (by (with_reducible repeat (first | refine blk_drewN ?_ _ | refine blk_drew ?_ | refine blk_alloc ?_ _)); exact BK300.out) hb); have n8_ := Aside0.mk (below_step (by repeat (first | (with_reducible first | exact HB.out | apply below_alloc | apply pw_below_drewN | apply below_drew1 | refine below_set ?_ GE300.out) | exact HB.out)) hb); clear HO_1; clear HO_5; clear HO_6; clear HO_7; clear HO_301004; clear HO_301005; clear BK300; clear HB; have HO_1 := n0_; have HO_5 := n1_; have HO_6 := n2_; have HO_7 := n3_; have HO_301004 := n4_; have HO_301005 := n5_; have HO328 := n6_; have BK300 := n7_; have HB := n8_; clear n0_ n1_ n2_ n3_ n4_ n5_ n6_ n7_ n8_; clear hb ho73; have hcz74_0 : w72.cell? ⟨gb300, 0, none⟩ = some (.int .i64 a0_0) := (blk_cell BK300.out 0).trans rfl; have hcz74_1 : w72.cell? ⟨gb300, 1, none⟩ = some (.int .i64 a0_1) := (blk_cell BK300.out 1).trans rfl; have hcz74_2 : w72.cell? ⟨gb300, 2, none⟩ = some (.int .i64 a0_2) := (blk_cell BK300.out 2).trans rfl; have hcz74_3 : w72.cell? ⟨gb300, 3, none⟩ = some (.int .i64 a0_3) := (blk_cell BK300.out 3).trans rfl; have hcz74_4 : w72.cell? ⟨gb300, 4, none⟩ = some (.slice A0_4 l0_4.length c0_4) := (blk_cell BK300.out 4).trans rfl; have hcz74_5 : w72.cell? ⟨gb300, 5, none⟩ = some (.slice A0_5 l0_5.length c0_5) := (blk_cell BK300.out 5).trans rfl; have hfz74_0 := blk_frozen BK300.out 0; have hfz74_1 := blk_frozen BK300.out 1; have hfz74_2 := blk_frozen BK300.out 2; have hfz74_3 := blk_frozen BK300.out 3; have hfz74_4 := blk_frozen BK300.out 4; have hfz74_5 := blk_frozen BK300.out 5) | ((with_reducible refine gate_dst (N := 78) rfl ?_); refine Kd.N_lit k25 _ 25 ?hg (N' := 78) ?hd (xs := ([(⟨a0_0, a0_1, a0_2, a0_3, l0_4, l0_5⟩ : S25)] : List (S25))) (inner := [.int .i64 a0_0, .int .i64 a0_1, .int .i64 a0_2, .int .i64 a0_3, .slice A0_4 l0_4.length c0_4, .slice A0_5 l0_5.length c0_5]) (ok := (fun k_ => ((P0_4_ k_ ∨ P0_5_ k_ ∨ P1_ k_) ∨ w.heap.size ≤ k_) ∧ some k_ ≠ (u5 : Value).ownBlock ∧ some k_ ≠ (u6 : Value).ownBlock ∧ some k_ ≠ (u7 : Value).ownBlock ∧ some k_ ≠ (v327 : Value).ownBlock ∧ k_ ≠ gb300)) (okp := (fun k_ => ((P0_4_ k_ ∨ P0_5_ k_ ∨ P1_ k_) ∨ w.heap.size ≤ k_) ∧ some k_ ≠ (u5 : Value).ownBlock ∧ some k_ ≠ (u6 : Value).ownBlock ∧ some k_ ≠ (u7 : Value).ownBlock ∧ some k_ ≠ (v327 : Value).ownBlock ∧ k_ ≠ gb300)) ?hr ?hp (fun _ hk => hk) ((show ∀ k_, w72.heap.size ≤ k_ → (fun k_ => ((P0_4_ k_ ∨ P0_5_ k_ ∨ P1_ k_) ∨ w.heap.size ≤ k_) ∧ some k_ ≠ (u5 : Value).ownBlock ∧ some k_ ≠ (u6 : Value).ownBlock ∧ some k_ ≠ (u7 : Value).ownBlock ∧ some k_ ≠ (v327 : Value).ownBlock ∧ k_ ≠ gb300) k_ from fun k_ hk => ⟨(.inr (Nat.le_trans (below_size (by repeat (first | (with_reducible first | exact HB.out | apply below_alloc | apply pw_below_drewN | apply below_drew1 | refine below_set ?_ GE300.out) | exact HB.out))) hk)), Kd.fresh' (Kd.R_lt (by (with_reducible repeat (first | apply Kd.R_alloc | apply Kd.R_drewN | apply Kd.R_drew)); exact HO_5.out)) k_ hk, Kd.fresh' (Kd.R_lt (by (with_reducible repeat (first | apply Kd.R_alloc | apply Kd.R_drewN | apply Kd.R_drew)); exact HO_6.out)) k_ hk, Kd.fresh' (Kd.R_lt (by (with_reducible repeat (first | apply Kd.R_alloc | apply Kd.R_drewN | apply Kd.R_drew)); exact HO_7.out)) k_ hk, Kd.fresh' (Kd.N_lt (by (with_reducible repeat (first | apply Kd.N_alloc | apply Kd.N_drewN | apply Kd.N_drew)); exact HO328.out)) k_ hk, Kd.freshB (g := gb300) (o := .cells #[.int .i64 a0_0, .int .i64 a0_1, .int .i64 a0_2, .int .i64 a0_3, .slice A0_4 l0_4.length c0_4, .slice A0_5 l0_5.length c0_5] 25 (0, 0)) (by (with_reducible repeat (first | refine blk_drewN ?_ _ | refine blk_drew ?_ | refine blk_alloc ?_ _)); exact BK300.out) k_ hk⟩) _ (Nat.le_refl _)) (Below.refl _ _) (Nat.le_refl _) (by simp) ?_; (case hd => rfl); (case hg => rfl); (case hr => first | (go_simp; done) | (go_simp; rfl)); (case hp => exact (Reps.c6 (show Kd.FK k25 _ _ (⟨a0_0, a0_1, a0_2, a0_3, l0_4, l0_5⟩ : S25) [.int .i64 a0_0, .int .i64 a0_1, .int .i64 a0_2, .int .i64 a0_3, .slice A0_4 l0_4.length c0_4, .slice A0_5 l0_5.length c0_5] from (k25_mkF _ _ (⟨a0_0, a0_1, a0_2, a0_3, l0_4, l0_5⟩ : S25) (Kd.V_reads' (Kd.V_mono (ok' := (fun k_ => ((P0_4_ k_ ∨ P0_5_ k_ ∨ P1_ k_) ∨ w.heap.size ≤ k_) ∧ some k_ ≠ (u5 : Value).ownBlock ∧ some k_ ≠ (u6 : Value).ownBlock ∧ some k_ ≠ (u7 : Value).ownBlock ∧ some k_ ≠ (v327 : Value).ownBlock ∧ k_ ≠ gb300)) (HO_301004.out) (fun k_ hk => ⟨hk.1.1, ⟨hk.1.2.1, ⟨hk.1.2.2.1, ⟨hk.1.2.2.2.1, ⟨hk.2, hk.1.2.2.2.2⟩⟩⟩⟩⟩))).2.1 (Kd.V_F (Kd.V_mono (ok' := (fun k_ => ((P0_4_ k_ ∨ P0_5_ k_ ∨ P1_ k_) ∨ w.heap.size ≤ k_) ∧ some k_ ≠ (u5 : Value).ownBlock ∧ some k_ ≠ (u6 : Value).ownBlock ∧ some k_ ≠ (u7 : Value).ownBlock ∧ some k_ ≠ (v327 : Value).ownBlock ∧ k_ ≠ gb300)) (HO_301004.out) (fun k_ hk => ⟨hk.1.1, ⟨hk.1.2.1, ⟨hk.1.2.2.1, ⟨hk.1.2.2.2.1, ⟨hk.2, hk.1.2.2.2.2⟩⟩⟩⟩⟩))) (Kd.V_reads' (Kd.V_mono (ok' := (fun k_ => ((P0_4_ k_ ∨ P0_5_ k_ ∨ P1_ k_) ∨ w.heap.size ≤ k_) ∧ some k_ ≠ (u5 : Value).ownBlock ∧ some k_ ≠ (u6 : Value).ownBlock ∧ some k_ ≠ (u7 : Value).ownBlock ∧ some k_ ≠ (v327 : Value).ownBlock ∧ k_ ≠ gb300)) (HO_301005.out) (fun k_ hk => ⟨hk.1.1, ⟨hk.1.2.1, ⟨hk.1.2.2.1, ⟨hk.1.2.2.2.1, ⟨hk.2, hk.1.2.2.2.2⟩⟩⟩⟩⟩))).2.1 (Kd.V_F (Kd.V_mono (ok' := (fun k_ => ((P0_4_ k_ ∨ P0_5_ k_ ∨ P1_ k_) ∨ w.heap.size ≤ k_) ∧ some k_ ≠ (u5 : Value).ownBlock ∧ some k_ ≠ (u6 : Value).ownBlock ∧ some k_ ≠ (u7 : Value).ownBlock ∧ some k_ ≠ (v327 : Value).ownBlock ∧ k_ ≠ gb300)) (HO_301005.out) (fun k_ hk => ⟨hk.1.1, ⟨hk.1.2.1, ⟨hk.1.2.2.1, ⟨hk.1.2.2.2.1, ⟨hk.2, hk.1.2.2.2.2⟩⟩⟩⟩⟩))))) (Reps.none _ _))); intro v330 w75 ho76 hb hg_ hnew_; clear hg_ hnew_; (first | rw [← Ny329.out] at ho76 | (simp only [Int.reduceToNat] at ho76; rw [← Ny329.out] at ho76)); have n0_ := Aside0.mk (Kd.V_elder' (by (with_reducible repeat (first | apply Kd.V_alloc | apply Kd.V_drewN | apply Kd.V_drew)); exact HO_1.out) (Kd.N_base ho76) hb); have n1_ := Aside0.mk (Kd.R_below (by (with_reducible repeat (first | apply Kd.R_alloc | apply Kd.R_drewN | apply Kd.R_drew)); exact HO_5.out) hb); have n2_ := Aside0.mk (Kd.R_below (by (with_reducible repeat (first | apply Kd.R_alloc | apply Kd.R_drewN | apply Kd.R_drew)); exact HO_6.out) hb); have n3_ := Aside0.mk (Kd.R_below (by (with_reducible repeat (first | apply Kd.R_alloc | apply Kd.R_drewN | apply Kd.R_drew)); exact HO_7.out) hb); have n4_ := Aside0.mk (Kd.V_elder' (by (with_reducible repeat (first | apply Kd.V_alloc | apply Kd.V_drewN | apply Kd.V_drew)); exact HO_301004.out) (Kd.N_base ho76) hb); have n5_ := Aside0.mk (Kd.V_elder' (by (with_reducible repeat (first | apply Kd.V_alloc | apply Kd.V_drewN | apply Kd.V_drew)); exact HO_301005.out) (Kd.N_base ho76) hb); have n6_ := Aside0.mk (Kd.N_elder' (by (with_reducible repeat (first | apply Kd.N_alloc | apply Kd.N_drewN | apply Kd.N_drew)); exact HO328.out) (Kd.N_base ho76) hb); have n7_ := Aside0.mk (Kd.N_lower ho76 (below_size (by repeat (first | (with_reducible first | exact HB.out | apply below_alloc | apply pw_below_drewN | apply below_drew1 | refine below_set ?_ GE300.out) | exact HB.out)))); have n8_ := Aside0.mk (blk_below (g := gb300) (o := .cells #[.int .i64 a0_0, .int .i64 a0_1, .int .i64 a0_2, .int .i64 a0_3, .slice A0_4 l0_4.length c0_4, .slice A0_5 l0_5.length c0_5] 25 (0, 0)) (by (with_reducible repeat (first | refine blk_drewN ?_ _ | refine blk_drew ?_ | refine blk_alloc ?_ _)); exact BK300.out) hb); have n9_ := Aside0.mk (below_step (by repeat (first | (with_reducible first | exact HB.out | apply below_alloc | apply pw_below_drewN | apply below_drew1 | refine below_set ?_ GE300.out) | exact HB.out)) hb); clear HO_1; clear HO_5; clear HO_6; clear HO_7; clear HO_301004; clear HO_301005; clear HO328; clear BK300; clear HB; have HO_1 := n0_; have HO_5 := n1_; have HO_6 := n2_; have HO_7 := n3_; have HO_301004 := n4_; have HO_301005 := n5_; have HO328 := n6_; have HO331 := n7_; have BK300 := n8_; have HB := n9_; clear n0_ n1_ n2_ n3_ n4_ n5_ n6_ n7_ n8_ n9_; clear hb ho76; obtain ⟨Ao77, co77, eo77⟩ := Kd.N_slice HO331.out; subst eo77; obtain ⟨Ao78, co78, eo78⟩ := Kd.N_slice HO328.out; subst eo78) | ((with_reducible refine gate_dst (N := 10) rfl ?_); refine box_event ?hg (N := 10) ?hd (cs := #[.int .i64 0, .int .i64 0, .int .i64 0, .int .i64 0, .slice none 0 0, .slice none 0 0]) (t := 25) ?hr ?_; (case hd => rfl); (case hg => rfl); (case hr => first | (go_simp; done) | (go_simp; rfl)); intro gb332 hg w79 hbox hb; have n0_ := Aside0.mk (Kd.V_below (Kd.V_elderB (by (with_reducible repeat (first | apply Kd.V_alloc | apply Kd.V_drewN | apply Kd.V_drew)); exact HO_1.out) gb332 (Nat.le_of_eq hg.symm)) hb); have n1_ := Aside0.mk (Kd.R_below (by (with_reducible repeat (first | apply Kd.R_alloc | apply Kd.R_drewN | apply Kd.R_drew)); exact HO_5.out) hb); have n2_ := Aside0.mk (Kd.R_below (by (with_reducible repeat (first | apply Kd.R_alloc | apply Kd.R_drewN | apply Kd.R_drew)); exact HO_6.out) hb); have n3_ := Aside0.mk (Kd.R_below (by (with_reducible repeat (first | apply Kd.R_alloc | apply Kd.R_drewN | apply Kd.R_drew)); exact HO_7.out) hb); have n4_ := Aside0.mk (Kd.V_below (Kd.V_elderB (by (with_reducible repeat (first | apply Kd.V_alloc | apply Kd.V_drewN | apply Kd.V_drew)); exact HO_301004.out) gb332 (Nat.le_of_eq hg.symm)) hb); have n5_ := Aside0.mk (Kd.V_below (Kd.V_elderB (by (with_reducible repeat (first | apply Kd.V_alloc | apply Kd.V_drewN | apply Kd.V_drew)); exact HO_301005.out) gb332 (Nat.le_of_eq hg.symm)) hb); have n6_ := Aside0.mk (Kd.N_below (Kd.N_elderB (by (with_reducible repeat (first | apply Kd.N_alloc | apply Kd.N_drewN | apply Kd.N_drew)); exact HO328.out) gb332 (Nat.le_of_eq hg.symm)) hb); have n7_ := Aside0.mk (Kd.N_below (Kd.N_elderB (by (with_reducible repeat (first | apply Kd.N_alloc | apply Kd.N_drewN | apply Kd.N_drew)); exact HO331.out) gb332 (Nat.le_of_eq hg.symm)) hb); have n8_ := Aside0.mk (blk_below (g := gb300) (o := .cells #[.int .i64 a0_0, .int .i64 a0_1, .int .i64 a0_2, .int .i64 a0_3, .slice A0_4 l0_4.length c0_4, .slice A0_5 l0_5.length c0_5] 25 (0, 0)) (by (with_reducible repeat (first | refine blk_drewN ?_ _ | refine blk_drew ?_ | refine blk_alloc ?_ _)); exact BK300.out) hb); have n9_ := Aside0.mk (below_step (by repeat (first | (with_reducible first | exact HB.out | apply below_alloc | apply pw_below_drewN | apply below_drew1 | refine below_set ?_ GE300.out) | exact HB.out)) hb); have n10_ := Aside0.mk (hbox); have n11_ := Aside0.mk ((by rw [hg]; exact (below_size (by repeat (first | (with_reducible first | exact HB.out | apply below_alloc | apply pw_below_drewN | apply below_drew1 | refine below_set ?_ GE300.out) | exact HB.out))) : w.heap.size ≤ gb332)); have n12_ := Aside0.mk ((by rw [hg]; exact (below_size (by repeat (first | (with_reducible first | exact HB.out | apply below_alloc | apply pw_below_drewN | apply below_drew1 | refine below_set ?_ GE300.out) | exact HB.out))) : w.heap.size ≤ gb332)); have n13_ := Aside0.mk ((by rw [hg]; exact Nat.ne_of_lt (blk_lt (g := gb300) (o := .cells #[.int .i64 a0_0, .int .i64 a0_1, .int .i64 a0_2, .int .i64 a0_3, .slice A0_4 l0_4.length c0_4, .slice A0_5 l0_5.length c0_5] 25 (0, 0)) (by (with_reducible repeat (first | refine blk_drewN ?_ _ | refine blk_drew ?_ | refine blk_alloc ?_ _)); exact BK300.out)) : gb300 ≠ gb332)); have n14_ := Aside0.mk ((by rw [hg]; exact Nat.ne_of_gt (blk_lt (g := gb300) (o := .cells #[.int .i64 a0_0, .int .i64 a0_1, .int .i64 a0_2, .int .i64 a0_3, .slice A0_4 l0_4.length c0_4, .slice A0_5 l0_5.length c0_5] 25 (0, 0)) (by (with_reducible repeat (first | refine blk_drewN ?_ _ | refine blk_drew ?_ | refine blk_alloc ?_ _)); exact BK300.out)) : gb332 ≠ gb300)); clear HO_1; clear HO_5; clear HO_6; clear HO_7; clear HO_301004; clear HO_301005; clear HO328; clear HO331; clear BK300; clear HB; have HO_1 := n0_; have HO_5 := n1_; have HO_6 := n2_; have HO_7 := n3_; have HO_301004 := n4_; have HO_301005 := n5_; have HO328 := n6_; have HO331 := n7_; have BK300 := n8_; have HB := n9_; have BK332 := n10_; have GW332 := n11_; have GE332 := n12_; have NB300_332 := n13_; have NB332_300 := n14_; clear n0_ n1_ n2_ n3_ n4_ n5_ n6_ n7_ n8_ n9_ n10_ n11_ n12_ n13_ n14_; clear hb hbox hg; have hnb80 := NB332_300.out; have hnc80 := NB300_332.out; have hcz81_0 : w79.cell? ⟨gb332, 0, none⟩ = some (.int .i64 0) := (blk_cell BK332.out 0).trans rfl; have hcz81_1 : w79.cell? ⟨gb332, 1, none⟩ = some (.int .i64 0) := (blk_cell BK332.out 1).trans rfl; have hcz81_2 : w79.cell? ⟨gb332, 2, none⟩ = some (.int .i64 0) := (blk_cell BK332.out 2).trans rfl; have hcz81_3 : w79.cell? ⟨gb332, 3, none⟩ = some (.int .i64 0) := (blk_cell BK332.out 3).trans rfl; have hcz81_4 : w79.cell? ⟨gb332, 4, none⟩ = some (.slice none 0 0) := (blk_cell BK332.out 4).trans rfl; have hcz81_5 : w79.cell? ⟨gb332, 5, none⟩ = some (.slice none 0 0) := (blk_cell BK332.out 5).trans rfl; have hfz81_0 := blk_frozen BK332.out 0; have hfz81_1 := blk_frozen BK332.out 1; have hfz81_2 := blk_frozen BK332.out 2; have hfz81_3 := blk_frozen BK332.out 3; have hfz81_4 := blk_frozen BK332.out 4; have hfz81_5 := blk_frozen BK332.out 5) | ((with_reducible refine gate_store (t := 25) (p := 10) rfl ?_); refine store_event (t := 25) (p := 10) (v := ?vo_w82) (w1 := ((((((w79.setCell ⟨gb332, 0, none⟩ (.int .i64 5)).setCell ⟨gb332, 1, none⟩ (.int .i64 (l1.length : Int))).setCell ⟨gb332, 2, none⟩ (.int .i64 0)).setCell ⟨gb332, 3, none⟩ (.int .i64 0)).setCell ⟨gb332, 4, none⟩ (.slice Ao78 y326.length co78)).setCell ⟨gb332, 5, none⟩ (.slice Ao77 y329.length co77))) ?hg ?ho ?hn ?hr ?_; (case ho => rfl); (case hg => rfl); (case hn => rfl); (case hr => first | (go_simp; done) | (go_simp; rfl)); intro w82 hw; have n0_ : Aside0 (Kd.V (Kd.int .i64) 3 w82 w.heap.size (fun k_ => ((P0_4_ k_ ∨ P0_5_ k_ ∨ P1_ k_) ∨ w.heap.size ≤ k_) ∧ some k_ ≠ (u5 : Value).ownBlock ∧ some k_ ≠ (u6 : Value).ownBlock ∧ some k_ ≠ (u7 : Value).ownBlock ∧ some k_ ≠ (.slice Ao78 y326.length co78 : Value).ownBlock ∧ some k_ ≠ (.slice Ao77 y329.length co77 : Value).ownBlock ∧ k_ ≠ gb300 ∧ k_ ≠ gb332) (.slice A1 l1.length c1) l1) := ⟨(by rw [hw]; exact (by (with_reducible repeat (first | apply Kd.V_alloc | apply Kd.V_drewN | apply Kd.V_drew)); exact Kd.V_mono (Kd.V_far (p := ⟨gb332, 5, none⟩) (Kd.V_far (p := ⟨gb332, 4, none⟩) (Kd.V_far (p := ⟨gb332, 3, none⟩) (Kd.V_far (p := ⟨gb332, 2, none⟩) (Kd.V_far (p := ⟨gb332, 1, none⟩) (Kd.V_far (p := ⟨gb332, 0, none⟩) (Kd.V_mono HO_1.out (fun k_ hk => (⟨hk, hk.2⟩ : _ ∧ k_ ≠ gb332))) (fun _ hk => hk.2) (.int .i64 5)) (fun _ hk => hk.2) (.int .i64 (l1.length : Int))) (fun _ hk => hk.2) (.int .i64 0)) (fun _ hk => hk.2) (.int .i64 0)) (fun _ hk => hk.2) (.slice Ao78 y326.length co78)) (fun _ hk => hk.2) (.slice Ao77 y329.length co77)) (fun _ hk => ⟨hk.1.1.1.1.1, ⟨hk.1.1.1.1.2.1, ⟨hk.1.1.1.1.2.2.1, ⟨hk.1.1.1.1.2.2.2.1, ⟨hk.1.1.1.2, ⟨hk.1.1.2, ⟨hk.1.1.1.1.2.2.2.2, hk.1.2⟩⟩⟩⟩⟩⟩⟩)))⟩; have n1_ : Aside0 (Kd.R (Kd.int .i64) 3 w82 w.heap.size (fun k_ => (w.heap.size ≤ k_) ∧ some k_ ≠ (u6 : Value).ownBlock ∧ some k_ ≠ (u7 : Value).ownBlock) u5 x5_2) := ⟨(by rw [hw]; exact (by (with_reducible repeat (first | apply Kd.R_alloc | apply Kd.R_drewN | apply Kd.R_drew)); exact Kd.R_mono (Kd.R_far (p := ⟨gb332, 5, none⟩) (Kd.R_far (p := ⟨gb332, 4, none⟩) (Kd.R_far (p := ⟨gb332, 3, none⟩) (Kd.R_far (p := ⟨gb332, 2, none⟩) (Kd.R_far (p := ⟨gb332, 1, none⟩) (Kd.R_far (p := ⟨gb332, 0, none⟩) (Kd.R_types HO_5.out BK332.out (by decide)) (fun _ hk => hk.2) (.int .i64 5)) (fun _ hk => hk.2) (.int .i64 (l1.length : Int))) (fun _ hk => hk.2) (.int .i64 0)) (fun _ hk => hk.2) (.int .i64 0)) (fun _ hk => hk.2) (.slice Ao78 y326.length co78)) (fun _ hk => hk.2) (.slice Ao77 y329.length co77)) (fun _ hk => ⟨hk.1.1, ⟨hk.1.2.1, hk.1.2.2⟩⟩)))⟩; have n2_ : Aside0 (Kd.R (Kd.int .i64) 3 w82 w.heap.size (fun k_ => (w.heap.size ≤ k_) ∧ some k_ ≠ (u5 : Value).ownBlock ∧ some k_ ≠ (u7 : Value).ownBlock) u6 x6_2) := ⟨(by rw [hw]; exact (by (with_reducible repeat (first | apply Kd.R_alloc | apply Kd.R_drewN | apply Kd.R_drew)); exact Kd.R_mono (Kd.R_far (p := ⟨gb332, 5, none⟩) (Kd.R_far (p := ⟨gb332, 4, none⟩) (Kd.R_far (p := ⟨gb332, 3, none⟩) (Kd.R_far (p := ⟨gb332, 2, none⟩) (Kd.R_far (p := ⟨gb332, 1, none⟩) (Kd.R_far (p := ⟨gb332, 0, none⟩) (Kd.R_types HO_6.out BK332.out (by decide)) (fun _ hk => hk.2) (.int .i64 5)) (fun _ hk => hk.2) (.int .i64 (l1.length : Int))) (fun _ hk => hk.2) (.int .i64 0)) (fun _ hk => hk.2) (.int .i64 0)) (fun _ hk => hk.2) (.slice Ao78 y326.length co78)) (fun _ hk => hk.2) (.slice Ao77 y329.length co77)) (fun _ hk => ⟨hk.1.1, ⟨hk.1.2.1, hk.1.2.2⟩⟩)))⟩; have n3_ : Aside0 (Kd.R (Kd.int .i64) 3 w82 w.heap.size (fun k_ => (w.heap.size ≤ k_) ∧ some k_ ≠ (u5 : Value).ownBlock ∧ some k_ ≠ (u6 : Value).ownBlock) u7 x7_3) := ⟨(by rw [hw]; exact (by (with_reducible repeat (first | apply Kd.R_alloc | apply Kd.R_drewN | apply Kd.R_drew)); exact Kd.R_mono (Kd.R_far (p := ⟨gb332, 5, none⟩) (Kd.R_far (p := ⟨gb332, 4, none⟩) (Kd.R_far (p := ⟨gb332, 3, none⟩) (Kd.R_far (p := ⟨gb332, 2, none⟩) (Kd.R_far (p := ⟨gb332, 1, none⟩) (Kd.R_far (p := ⟨gb332, 0, none⟩) (Kd.R_types HO_7.out BK332.out (by decide)) (fun _ hk => hk.2) (.int .i64 5)) (fun _ hk => hk.2) (.int .i64 (l1.length : Int))) (fun _ hk => hk.2) (.int .i64 0)) (fun _ hk => hk.2) (.int .i64 0)) (fun _ hk => hk.2) (.slice Ao78 y326.length co78)) (fun _ hk => hk.2) (.slice Ao77 y329.length co77)) (fun _ hk => ⟨hk.1.1, ⟨hk.1.2.1, hk.1.2.2⟩⟩)))⟩; have n4_ : Aside0 (Kd.V (Kd.slice 3 (Kd.int .i64)) 26 w82 w.heap.size (fun k_ => ((P0_4_ k_ ∨ P0_5_ k_ ∨ P1_ k_) ∨ w.heap.size ≤ k_) ∧ some k_ ≠ (u5 : Value).ownBlock ∧ some k_ ≠ (u6 : Value).ownBlock ∧ some k_ ≠ (u7 : Value).ownBlock ∧ some k_ ≠ (.slice Ao78 y326.length co78 : Value).ownBlock ∧ some k_ ≠ (.slice Ao77 y329.length co77 : Value).ownBlock ∧ k_ ≠ gb300 ∧ k_ ≠ gb332) (.slice A0_4 l0_4.length c0_4) l0_4) := ⟨(by rw [hw]; exact (by (with_reducible repeat (first | apply Kd.V_alloc | apply Kd.V_drewN | apply Kd.V_drew)); exact Kd.V_mono (Kd.V_far (p := ⟨gb332, 5, none⟩) (Kd.V_far (p := ⟨gb332, 4, none⟩) (Kd.V_far (p := ⟨gb332, 3, none⟩) (Kd.V_far (p := ⟨gb332, 2, none⟩) (Kd.V_far (p := ⟨gb332, 1, none⟩) (Kd.V_far (p := ⟨gb332, 0, none⟩) (Kd.V_mono HO_301004.out (fun k_ hk => (⟨hk, hk.2⟩ : _ ∧ k_ ≠ gb332))) (fun _ hk => hk.2) (.int .i64 5)) (fun _ hk => hk.2) (.int .i64 (l1.length : Int))) (fun _ hk => hk.2) (.int .i64 0)) (fun _ hk => hk.2) (.int .i64 0)) (fun _ hk => hk.2) (.slice Ao78 y326.length co78)) (fun _ hk => hk.2) (.slice Ao77 y329.length co77)) (fun _ hk => ⟨hk.1.1.1.1.1, ⟨hk.1.1.1.1.2.1, ⟨hk.1.1.1.1.2.2.1, ⟨hk.1.1.1.1.2.2.2.1, ⟨hk.1.1.1.2, ⟨hk.1.1.2, ⟨hk.1.1.1.1.2.2.2.2, hk.1.2⟩⟩⟩⟩⟩⟩⟩)))⟩; have n5_ : Aside0 (Kd.V k25 25 w82 w.heap.size (fun k_ => ((P0_4_ k_ ∨ P0_5_ k_ ∨ P1_ k_) ∨ w.heap.size ≤ k_) ∧ some k_ ≠ (u5 : Value).ownBlock ∧ some k_ ≠ (u6 : Value).ownBlock ∧ some k_ ≠ (u7 : Value).ownBlock ∧ some k_ ≠ (.slice Ao78 y326.length co78 : Value).ownBlock ∧ some k_ ≠ (.slice Ao77 y329.length co77 : Value).ownBlock ∧ k_ ≠ gb300 ∧ k_ ≠ gb332) (.slice A0_5 l0_5.length c0_5) l0_5) := ⟨(by rw [hw]; exact (by (with_reducible repeat (first | apply Kd.V_alloc | apply Kd.V_drewN | apply Kd.V_drew)); exact Kd.V_mono (Kd.V_far (p := ⟨gb332, 5, none⟩) (Kd.V_far (p := ⟨gb332, 4, none⟩) (Kd.V_far (p := ⟨gb332, 3, none⟩) (Kd.V_far (p := ⟨gb332, 2, none⟩) (Kd.V_far (p := ⟨gb332, 1, none⟩) (Kd.V_far (p := ⟨gb332, 0, none⟩) (Kd.V_mono HO_301005.out (fun k_ hk => (⟨hk, hk.2⟩ : _ ∧ k_ ≠ gb332))) (fun _ hk => hk.2) (.int .i64 5)) (fun _ hk => hk.2) (.int .i64 (l1.length : Int))) (fun _ hk => hk.2) (.int .i64 0)) (fun _ hk => hk.2) (.int .i64 0)) (fun _ hk => hk.2) (.slice Ao78 y326.length co78)) (fun _ hk => hk.2) (.slice Ao77 y329.length co77)) (fun _ hk => ⟨hk.1.1.1.1.1, ⟨hk.1.1.1.1.2.1, ⟨hk.1.1.1.1.2.2.1, ⟨hk.1.1.1.1.2.2.2.1, ⟨hk.1.1.1.2, ⟨hk.1.1.2, ⟨hk.1.1.1.1.2.2.2.2, hk.1.2⟩⟩⟩⟩⟩⟩⟩)))⟩; have n6_ : Aside0 (Kd.N (Kd.slice 3 (Kd.int .i64)) 26 w82 w.heap.size (fun k_ => ((P0_4_ k_ ∨ P0_5_ k_ ∨ P1_ k_) ∨ w.heap.size ≤ k_) ∧ some k_ ≠ (u5 : Value).ownBlock ∧ some k_ ≠ (u6 : Value).ownBlock ∧ some k_ ≠ (u7 : Value).ownBlock ∧ some k_ ≠ (.slice Ao77 y329.length co77 : Value).ownBlock ∧ k_ ≠ gb300 ∧ k_ ≠ gb332) (.slice Ao78 y326.length co78) y326) := ⟨(by rw [hw]; exact (by (with_reducible repeat (first | apply Kd.N_alloc | apply Kd.N_drewN | apply Kd.N_drew)); exact Kd.N_mono (Kd.N_far (p := ⟨gb332, 5, none⟩) (Kd.N_far (p := ⟨gb332, 4, none⟩) (Kd.N_far (p := ⟨gb332, 3, none⟩) (Kd.N_far (p := ⟨gb332, 2, none⟩) (Kd.N_far (p := ⟨gb332, 1, none⟩) (Kd.N_far (p := ⟨gb332, 0, none⟩) (Kd.N_mono HO328.out (fun k_ hk => (⟨hk, hk.2⟩ : _ ∧ k_ ≠ gb332))) (fun _ hk => hk.2) (.int .i64 5)) (fun _ hk => hk.2) (.int .i64 (l1.length : Int))) (fun _ hk => hk.2) (.int .i64 0)) (fun _ hk => hk.2) (.int .i64 0)) (fun _ hk => hk.2) (.slice Ao78 y326.length co78)) (fun _ hk => hk.2) (.slice Ao77 y329.length co77)) (fun _ hk => ⟨hk.1.1.1.1, ⟨hk.1.1.1.2.1, ⟨hk.1.1.1.2.2.1, ⟨hk.1.1.1.2.2.2.1, ⟨hk.1.1.2, ⟨hk.1.1.1.2.2.2.2, hk.1.2⟩⟩⟩⟩⟩⟩)))⟩; have n7_ : Aside0 (Kd.N k25 25 w82 w.heap.size (fun k_ => ((P0_4_ k_ ∨ P0_5_ k_ ∨ P1_ k_) ∨ w.heap.size ≤ k_) ∧ some k_ ≠ (u5 : Value).ownBlock ∧ some k_ ≠ (u6 : Value).ownBlock ∧ some k_ ≠ (u7 : Value).ownBlock ∧ some k_ ≠ (.slice Ao78 y326.length co78 : Value).ownBlock ∧ k_ ≠ gb300 ∧ k_ ≠ gb332) (.slice Ao77 y329.length co77) y329) := ⟨(by rw [hw]; exact (by (with_reducible repeat (first | apply Kd.N_alloc | apply Kd.N_drewN | apply Kd.N_drew)); exact Kd.N_mono (Kd.N_far (p := ⟨gb332, 5, none⟩) (Kd.N_far (p := ⟨gb332, 4, none⟩) (Kd.N_far (p := ⟨gb332, 3, none⟩) (Kd.N_far (p := ⟨gb332, 2, none⟩) (Kd.N_far (p := ⟨gb332, 1, none⟩) (Kd.N_far (p := ⟨gb332, 0, none⟩) (Kd.N_mono HO331.out (fun k_ hk => (⟨hk, hk.2⟩ : _ ∧ k_ ≠ gb332))) (fun _ hk => hk.2) (.int .i64 5)) (fun _ hk => hk.2) (.int .i64 (l1.length : Int))) (fun _ hk => hk.2) (.int .i64 0)) (fun _ hk => hk.2) (.int .i64 0)) (fun _ hk => hk.2) (.slice Ao78 y326.length co78)) (fun _ hk => hk.2) (.slice Ao77 y329.length co77)) (fun _ hk => ⟨hk.1.1.1, ⟨hk.1.1.2.1, ⟨hk.1.1.2.2.1, ⟨hk.1.1.2.2.2.1, ⟨hk.1.1.2.2.2.2.1, ⟨hk.1.1.2.2.2.2.2, hk.1.2⟩⟩⟩⟩⟩⟩)))⟩; have n8_ : Aside0 (w82.heap[gb300]? = some (.cells #[.int .i64 a0_0, .int .i64 a0_1, .int .i64 a0_2, .int .i64 a0_3, .slice A0_4 l0_4.length c0_4, .slice A0_5 l0_5.length c0_5] 25 (0, 0))) := ⟨(by rw [hw]; exact (by (with_reducible repeat (first | refine blk_drewN ?_ _ | refine blk_drew ?_ | refine blk_alloc ?_ _)); refine blk_far ?_ NB300_332.out _; (with_reducible repeat (first | refine blk_drewN ?_ _ | refine blk_drew ?_ | refine blk_alloc ?_ _)); refine blk_far ?_ NB300_332.out _; (with_reducible repeat (first | refine blk_drewN ?_ _ | refine blk_drew ?_ | refine blk_alloc ?_ _)); refine blk_far ?_ NB300_332.out _; (with_reducible repeat (first | refine blk_drewN ?_ _ | refine blk_drew ?_ | refine blk_alloc ?_ _)); refine blk_far ?_ NB300_332.out _; (with_reducible repeat (first | refine blk_drewN ?_ _ | refine blk_drew ?_ | refine blk_alloc ?_ _)); refine blk_far ?_ NB300_332.out _; (with_reducible repeat (first | refine blk_drewN ?_ _ | refine blk_drew ?_ | refine blk_alloc ?_ _)); refine blk_far ?_ NB300_332.out _; (with_reducible repeat (first | refine blk_drewN ?_ _ | refine blk_drew ?_ | refine blk_alloc ?_ _)); exact BK300.out))⟩; have n9_ : Aside0 (w82.heap[gb332]? = some (.cells #[.int .i64 5, .int .i64 (l1.length : Int), .int .i64 0, .int .i64 0, .slice Ao78 y326.length co78, .slice Ao77 y329.length co77] 25 (0, 0))) := ⟨(by rw [hw]; exact (by (with_reducible repeat (first | refine blk_drewN ?_ _ | refine blk_drew ?_ | refine blk_alloc ?_ _)); refine blk_put (cs := #[.int .i64 5, .int .i64 (l1.length : Int), .int .i64 0, .int .i64 0, .slice Ao78 y326.length co78, .slice none 0 0]) ?_ 5 _ rfl; (with_reducible repeat (first | refine blk_drewN ?_ _ | refine blk_drew ?_ | refine blk_alloc ?_ _)); refine blk_put (cs := #[.int .i64 5, .int .i64 (l1.length : Int), .int .i64 0, .int .i64 0, .slice none 0 0, .slice none 0 0]) ?_ 4 _ rfl; (with_reducible repeat (first | refine blk_drewN ?_ _ | refine blk_drew ?_ | refine blk_alloc ?_ _)); refine blk_put (cs := #[.int .i64 5, .int .i64 (l1.length : Int), .int .i64 0, .int .i64 0, .slice none 0 0, .slice none 0 0]) ?_ 3 _ rfl; (with_reducible repeat (first | refine blk_drewN ?_ _ | refine blk_drew ?_ | refine blk_alloc ?_ _)); refine blk_put (cs := #[.int .i64 5, .int .i64 (l1.length : Int), .int .i64 0, .int .i64 0, .slice none 0 0, .slice none 0 0]) ?_ 2 _ rfl; (with_reducible repeat (first | refine blk_drewN ?_ _ | refine blk_drew ?_ | refine blk_alloc ?_ _)); refine blk_put (cs := #[.int .i64 5, .int .i64 0, .int .i64 0, .int .i64 0, .slice none 0 0, .slice none 0 0]) ?_ 1 _ rfl; (with_reducible repeat (first | refine blk_drewN ?_ _ | refine blk_drew ?_ | refine blk_alloc ?_ _)); refine blk_put (cs := #[.int .i64 0, .int .i64 0, .int .i64 0, .int .i64 0, .slice none 0 0, .slice none 0 0]) ?_ 0 _ rfl; (with_reducible repeat (first | refine blk_drewN ?_ _ | refine blk_drew ?_ | refine blk_alloc ?_ _)); exact BK332.out))⟩; have n10_ : Aside0 (Below w.heap.size w w82) := ⟨(by rw [hw]; exact (by repeat (first | (with_reducible first | exact HB.out | apply below_alloc | apply pw_below_drewN | apply below_drew1 | refine below_set ?_ GE300.out | refine below_set ?_ GE332.out) | exact HB.out)))⟩; clear hw; clear HO_1; clear HO_5; clear HO_6; clear HO_7; clear HO_301004; clear HO_301005; clear HO328; clear HO331; clear BK300; clear BK332; clear HB; have HO_1 := n0_; have HO_5 := n1_; have HO_6 := n2_; have HO_7 := n3_; have HO_301004 := n4_; have HO_301005 := n5_; have HO328 := n6_; have HO331 := n7_; have BK300 := n8_; have BK332 := n9_; have HB := n10_; clear n0_ n1_ n2_ n3_ n4_ n5_ n6_ n7_ n8_ n9_ n10_; obtain ⟨Ao83, co83, eo83⟩ := Kd.R_slice HO_5.out; subst eo83) | ((with_reducible refine gate_dst (N := 83) rfl ?_); refine Kd.N_lit (Kd.slice 3 (Kd.int .i64)) _ 26 ?hg (N' := 83) ?hd (xs := ([l1] : List (List Int))) (inner := [.slice A1 l1.length c1]) (ok := (fun k_ => ((P0_4_ k_ ∨ P0_5_ k_ ∨ P1_ k_) ∨ w.heap.size ≤ k_) ∧ some k_ ≠ (.slice Ao83 x5_2.length co83 : Value).ownBlock ∧ some k_ ≠ (u6 : Value).ownBlock ∧ some k_ ≠ (u7 : Value).ownBlock ∧ some k_ ≠ (.slice Ao78 y326.length co78 : Value).ownBlock ∧ some k_ ≠ (.slice Ao77 y329.length co77 : Value).ownBlock ∧ k_ ≠ gb300 ∧ k_ ≠ gb332)) (okp := (fun k_ => ((P0_4_ k_ ∨ P0_5_ k_ ∨ P1_ k_) ∨ w.heap.size ≤ k_) ∧ some k_ ≠ (.slice Ao83 x5_2.length co83 : Value).ownBlock ∧ some k_ ≠ (u6 : Value).ownBlock ∧ some k_ ≠ (u7 : Value).ownBlock ∧ some k_ ≠ (.slice Ao78 y326.length co78 : Value).ownBlock ∧ some k_ ≠ (.slice Ao77 y329.length co77 : Value).ownBlock ∧ k_ ≠ gb300 ∧ k_ ≠ gb332)) ?hr ?hp (fun _ hk => hk) ((show ∀ k_, w82.heap.size ≤ k_ → (fun k_ => ((P0_4_ k_ ∨ P0_5_ k_ ∨ P1_ k_) ∨ w.heap.size ≤ k_) ∧ some k_ ≠ (.slice Ao83 x5_2.length co83 : Value).ownBlock ∧ some k_ ≠ (u6 : Value).ownBlock ∧ some k_ ≠ (u7 : Value).ownBlock ∧ some k_ ≠ (.slice Ao78 y326.length co78 : Value).ownBlock ∧ some k_ ≠ (.slice Ao77 y329.length co77 : Value).ownBlock ∧ k_ ≠ gb300 ∧ k_ ≠ gb332) k_ from fun k_ hk => ⟨(.inr (Nat.le_trans (below_size (by repeat (first | (with_reducible first | exact HB.out | apply below_alloc | apply pw_below_drewN | apply below_drew1 | refine below_set ?_ GE300.out | refine below_set ?_ GE332.out) | exact HB.out))) hk)), Kd.fresh' (Kd.R_lt (by (with_reducible repeat (first | apply Kd.R_alloc | apply Kd.R_drewN | apply Kd.R_drew)); exact HO_5.out)) k_ hk, Kd.fresh' (Kd.R_lt (by (with_reducible repeat (first | apply Kd.R_alloc | apply Kd.R_drewN | apply Kd.R_drew)); exact HO_6.out)) k_ hk, Kd.fresh' (Kd.R_lt (by (with_reducible repeat (first | apply Kd.R_alloc | apply Kd.R_drewN | apply Kd.R_drew)); exact HO_7.out)) k_ hk, Kd.fresh' (Kd.N_lt (by (with_reducible repeat (first | apply Kd.N_alloc | apply Kd.N_drewN | apply Kd.N_drew)); exact HO328.out)) k_ hk, Kd.fresh' (Kd.N_lt (by (with_reducible repeat (first | apply Kd.N_alloc | apply Kd.N_drewN | apply Kd.N_drew)); exact HO331.out)) k_ hk, Kd.freshB (g := gb300) (o := .cells #[.int .i64 a0_0, .int .i64 a0_1, .int .i64 a0_2, .int .i64 a0_3, .slice A0_4 l0_4.length c0_4, .slice A0_5 l0_5.length c0_5] 25 (0, 0)) (by (with_reducible repeat (first | refine blk_drewN ?_ _ | refine blk_drew ?_ | refine blk_alloc ?_ _)); exact BK300.out) k_ hk, Kd.freshB (g := gb332) (o := .cells #[.int .i64 5, .int .i64 (l1.length : Int), .int .i64 0, .int .i64 0, .slice Ao78 y326.length co78, .slice Ao77 y329.length co77] 25 (0, 0)) (by (with_reducible repeat (first | refine blk_drewN ?_ _ | refine blk_drew ?_ | refine blk_alloc ?_ _)); exact BK332.out) k_ hk⟩) _ (Nat.le_refl _)) (Below.refl _ _) (Nat.le_refl _) (by simp) ?_; (case hd => rfl); (case hg => rfl); (case hr => first | (go_simp; done) | (go_simp; rfl)); (case hp => exact (Reps.one (show Kd.FK (Kd.slice 3 (Kd.int .i64)) _ _ l1 [.slice A1 l1.length c1] from (Kd.FK_slice_mk (Kd.V_reads' (Kd.V_mono (ok' := (fun k_ => ((P0_4_ k_ ∨ P0_5_ k_ ∨ P1_ k_) ∨ w.heap.size ≤ k_) ∧ some k_ ≠ (.slice Ao83 x5_2.length co83 : Value).ownBlock ∧ some k_ ≠ (u6 : Value).ownBlock ∧ some k_ ≠ (u7 : Value).ownBlock ∧ some k_ ≠ (.slice Ao78 y326.length co78 : Value).ownBlock ∧ some k_ ≠ (.slice Ao77 y329.length co77 : Value).ownBlock ∧ k_ ≠ gb300 ∧ k_ ≠ gb332)) (HO_1.out) (fun k_ hk => ⟨hk.1, ⟨hk.2.1, ⟨hk.2.2.1, ⟨hk.2.2.2.1, ⟨hk.2.2.2.2.1, ⟨hk.2.2.2.2.2.1, ⟨hk.2.2.2.2.2.2.1, hk.2.2.2.2.2.2.2⟩⟩⟩⟩⟩⟩⟩))).2.1 (Kd.V_F (Kd.V_mono (ok' := (fun k_ => ((P0_4_ k_ ∨ P0_5_ k_ ∨ P1_ k_) ∨ w.heap.size ≤ k_) ∧ some k_ ≠ (.slice Ao83 x5_2.length co83 : Value).ownBlock ∧ some k_ ≠ (u6 : Value).ownBlock ∧ some k_ ≠ (u7 : Value).ownBlock ∧ some k_ ≠ (.slice Ao78 y326.length co78 : Value).ownBlock ∧ some k_ ≠ (.slice Ao77 y329.length co77 : Value).ownBlock ∧ k_ ≠ gb300 ∧ k_ ≠ gb332)) (HO_1.out) (fun k_ hk => ⟨hk.1, ⟨hk.2.1, ⟨hk.2.2.1, ⟨hk.2.2.2.1, ⟨hk.2.2.2.2.1, ⟨hk.2.2.2.2.2.1, ⟨hk.2.2.2.2.2.2.1, hk.2.2.2.2.2.2.2⟩⟩⟩⟩⟩⟩⟩))))) (Reps.none _ _))); intro v334 w84 ho85 hb hg_ hnew_; clear hg_ hnew_; (first | rw [← Ny333.out] at ho85 | (simp only [Int.reduceToNat] at ho85; rw [← Ny333.out] at ho85)); have n0_ := Aside0.mk (Kd.V_elder' (by (with_reducible repeat (first | apply Kd.V_alloc | apply Kd.V_drewN | apply Kd.V_drew)); exact HO_1.out) (Kd.N_base ho85) hb); have n1_ := Aside0.mk (Kd.R_below (by (with_reducible repeat (first | apply Kd.R_alloc | apply Kd.R_drewN | apply Kd.R_drew)); exact HO_5.out) hb); have n2_ := Aside0.mk (Kd.R_below (by (with_reducible repeat (first | apply Kd.R_alloc | apply Kd.R_drewN | apply Kd.R_drew)); exact HO_6.out) hb); have n3_ := Aside0.mk (Kd.R_below (by (with_reducible repeat (first | apply Kd.R_alloc | apply Kd.R_drewN | apply Kd.R_drew)); exact HO_7.out) hb); have n4_ := Aside0.mk (Kd.V_elder' (by (with_reducible repeat (first | apply Kd.V_alloc | apply Kd.V_drewN | apply Kd.V_drew)); exact HO_301004.out) (Kd.N_base ho85) hb); have n5_ := Aside0.mk (Kd.V_elder' (by (with_reducible repeat (first | apply Kd.V_alloc | apply Kd.V_drewN | apply Kd.V_drew)); exact HO_301005.out) (Kd.N_base ho85) hb); have n6_ := Aside0.mk (Kd.N_elder' (by (with_reducible repeat (first | apply Kd.N_alloc | apply Kd.N_drewN | apply Kd.N_drew)); exact HO328.out) (Kd.N_base ho85) hb); have n7_ := Aside0.mk (Kd.N_elder' (by (with_reducible repeat (first | apply Kd.N_alloc | apply Kd.N_drewN | apply Kd.N_drew)); exact HO331.out) (Kd.N_base ho85) hb); have n8_ := Aside0.mk (Kd.N_lower ho85 (below_size (by repeat (first | (with_reducible first | exact HB.out | apply below_alloc | apply pw_below_drewN | apply below_drew1 | refine below_set ?_ GE300.out | refine below_set ?_ GE332.out) | exact HB.out)))); have n9_ := Aside0.mk (blk_below (g := gb300) (o := .cells #[.int .i64 a0_0, .int .i64 a0_1, .int .i64 a0_2, .int .i64 a0_3, .slice A0_4 l0_4.length c0_4, .slice A0_5 l0_5.length c0_5] 25 (0, 0)) (by (with_reducible repeat (first | refine blk_drewN ?_ _ | refine blk_drew ?_ | refine blk_alloc ?_ _)); exact BK300.out) hb); have n10_ := Aside0.mk (blk_below (g := gb332) (o := .cells #[.int .i64 5, .int .i64 (l1.length : Int), .int .i64 0, .int .i64 0, .slice Ao78 y326.length co78, .slice Ao77 y329.length co77] 25 (0, 0)) (by (with_reducible repeat (first | refine blk_drewN ?_ _ | refine blk_drew ?_ | refine blk_alloc ?_ _)); exact BK332.out) hb); have n11_ := Aside0.mk (below_step (by repeat (first | (with_reducible first | exact HB.out | apply below_alloc | apply pw_below_drewN | apply below_drew1 | refine below_set ?_ GE300.out | refine below_set ?_ GE332.out) | exact HB.out)) hb); clear HO_1; clear HO_5; clear HO_6; clear HO_7; clear HO_301004; clear HO_301005; clear HO328; clear HO331; clear BK300; clear BK332; clear HB; have HO_1 := n0_; have HO_5 := n1_; have HO_6 := n2_; have HO_7 := n3_; have HO_301004 := n4_; have HO_301005 := n5_; have HO328 := n6_; have HO331 := n7_; have HO335 := n8_; have BK300 := n9_; have BK332 := n10_; have HB := n11_; clear n0_ n1_ n2_ n3_ n4_ n5_ n6_ n7_ n8_ n9_ n10_ n11_; clear hb ho85; have hcz86_0 : w84.cell? ⟨gb300, 0, none⟩ = some (.int .i64 a0_0) := (blk_cell BK300.out 0).trans rfl; have hcz86_1 : w84.cell? ⟨gb300, 1, none⟩ = some (.int .i64 a0_1) := (blk_cell BK300.out 1).trans rfl; have hcz86_2 : w84.cell? ⟨gb300, 2, none⟩ = some (.int .i64 a0_2) := (blk_cell BK300.out 2).trans rfl; have hcz86_3 : w84.cell? ⟨gb300, 3, none⟩ = some (.int .i64 a0_3) := (blk_cell BK300.out 3).trans rfl; have hcz86_4 : w84.cell? ⟨gb300, 4, none⟩ = some (.slice A0_4 l0_4.length c0_4) := (blk_cell BK300.out 4).trans rfl; have hcz86_5 : w84.cell? ⟨gb300, 5, none⟩ = some (.slice A0_5 l0_5.length c0_5) := (blk_cell BK300.out 5).trans rfl; have hfz86_0 := blk_frozen BK300.out 0; have hfz86_1 := blk_frozen BK300.out 1; have hfz86_2 := blk_frozen BK300.out 2; have hfz86_3 := blk_frozen BK300.out 3; have hfz86_4 := blk_frozen BK300.out 4; have hfz86_5 := blk_frozen BK300.out 5) | ((with_reducible refine gate_dst (N := 85) rfl ?_); refine Kd.N_lit k25 _ 25 ?hg (N' := 85) ?hd (xs := ([(⟨a0_0, a0_1, a0_2, a0_3, l0_4, l0_5⟩ : S25)] : List (S25))) (inner := [.int .i64 a0_0, .int .i64 a0_1, .int .i64 a0_2, .int .i64 a0_3, .slice A0_4 l0_4.length c0_4, .slice A0_5 l0_5.length c0_5]) (ok := (fun k_ => ((P0_4_ k_ ∨ P0_5_ k_ ∨ P1_ k_) ∨ w.heap.size ≤ k_) ∧ some k_ ≠ (.slice Ao83 x5_2.length co83 : Value).ownBlock ∧ some k_ ≠ (u6 : Value).ownBlock ∧ some k_ ≠ (u7 : Value).ownBlock ∧ some k_ ≠ (.slice Ao78 y326.length co78 : Value).ownBlock ∧ some k_ ≠ (.slice Ao77 y329.length co77 : Value).ownBlock ∧ some k_ ≠ (v334 : Value).ownBlock ∧ k_ ≠ gb300 ∧ k_ ≠ gb332)) (okp := (fun k_ => ((P0_4_ k_ ∨ P0_5_ k_ ∨ P1_ k_) ∨ w.heap.size ≤ k_) ∧ some k_ ≠ (.slice Ao83 x5_2.length co83 : Value).ownBlock ∧ some k_ ≠ (u6 : Value).ownBlock ∧ some k_ ≠ (u7 : Value).ownBlock ∧ some k_ ≠ (.slice Ao78 y326.length co78 : Value).ownBlock ∧ some k_ ≠ (.slice Ao77 y329.length co77 : Value).ownBlock ∧ some k_ ≠ (v334 : Value).ownBlock ∧ k_ ≠ gb300 ∧ k_ ≠ gb332)) ?hr ?hp (fun _ hk => hk) ((show ∀ k_, w84.heap.size ≤ k_ → (fun k_ => ((P0_4_ k_ ∨ P0_5_ k_ ∨ P1_ k_) ∨ w.heap.size ≤ k_) ∧ some k_ ≠ (.slice Ao83 x5_2.length co83 : Value).ownBlock ∧ some k_ ≠ (u6 : Value).ownBlock ∧ some k_ ≠ (u7 : Value).ownBlock ∧ some k_ ≠ (.slice Ao78 y326.length co78 : Value).ownBlock ∧ some k_ ≠ (.slice Ao77 y329.length co77 : Value).ownBlock ∧ some k_ ≠ (v334 : Value).ownBlock ∧ k_ ≠ gb300 ∧ k_ ≠ gb332) k_ from fun k_ hk => ⟨(.inr (Nat.le_trans (below_size (by repeat (first | (with_reducible first | exact HB.out | apply below_alloc | apply pw_below_drewN | apply below_drew1 | refine below_set ?_ GE300.out | refine below_set ?_ GE332.out) | exact HB.out))) hk)), Kd.fresh' (Kd.R_lt (by (with_reducible repeat (first | apply Kd.R_alloc | apply Kd.R_drewN | apply Kd.R_drew)); exact HO_5.out)) k_ hk, Kd.fresh' (Kd.R_lt (by (with_reducible repeat (first | apply Kd.R_alloc | apply Kd.R_drewN | apply Kd.R_drew)); exact HO_6.out)) k_ hk, Kd.fresh' (Kd.R_lt (by (with_reducible repeat (first | apply Kd.R_alloc | apply Kd.R_drewN | apply Kd.R_drew)); exact HO_7.out)) k_ hk, Kd.fresh' (Kd.N_lt (by (with_reducible repeat (first | apply Kd.N_alloc | apply Kd.N_drewN | apply Kd.N_drew)); exact HO328.out)) k_ hk, Kd.fresh' (Kd.N_lt (by (with_reducible repeat (first | apply Kd.N_alloc | apply Kd.N_drewN | apply Kd.N_drew)); exact HO331.out)) k_ hk, Kd.fresh' (Kd.N_lt (by (with_reducible repeat (first | apply Kd.N_alloc | apply Kd.N_drewN | apply Kd.N_drew)); exact HO335.out)) k_ hk, Kd.freshB (g := gb300) (o := .cells #[.int .i64 a0_0, .int .i64 a0_1, .int .i64 a0_2, .int .i64 a0_3, .slice A0_4 l0_4.length c0_4, .slice A0_5 l0_5.length c0_5] 25 (0, 0)) (by (with_reducible repeat (first | refine blk_drewN ?_ _ | refine blk_drew ?_ | refine blk_alloc ?_ _)); exact BK300.out) k_ hk, Kd.freshB (g := gb332) (o := .cells #[.int .i64 5, .int .i64 (l1.length : Int), .int .i64 0, .int .i64 0, .slice Ao78 y326.length co78, .slice Ao77 y329.length co77] 25 (0, 0)) (by (with_reducible repeat (first | refine blk_drewN ?_ _ | refine blk_drew ?_ | refine blk_alloc ?_ _)); exact BK332.out) k_ hk⟩) _ (Nat.le_refl _)) (Below.refl _ _) (Nat.le_refl _) (by simp) ?_; (case hd => rfl); (case hg => rfl); (case hr => first | (go_simp; done) | (go_simp; rfl)); (case hp => exact (Reps.c6 (show Kd.FK k25 _ _ (⟨a0_0, a0_1, a0_2, a0_3, l0_4, l0_5⟩ : S25) [.int .i64 a0_0, .int .i64 a0_1, .int .i64 a0_2, .int .i64 a0_3, .slice A0_4 l0_4.length c0_4, .slice A0_5 l0_5.length c0_5] from (k25_mkF _ _ (⟨a0_0, a0_1, a0_2, a0_3, l0_4, l0_5⟩ : S25) (Kd.V_reads' (Kd.V_mono (ok' := (fun k_ => ((P0_4_ k_ ∨ P0_5_ k_ ∨ P1_ k_) ∨ w.heap.size ≤ k_) ∧ some k_ ≠ (.slice Ao83 x5_2.length co83 : Value).ownBlock ∧ some k_ ≠ (u6 : Value).ownBlock ∧ some k_ ≠ (u7 : Value).ownBlock ∧ some k_ ≠ (.slice Ao78 y326.length co78 : Value).ownBlock ∧ some k_ ≠ (.slice Ao77 y329.length co77 : Value).ownBlock ∧ some k_ ≠ (v334 : Value).ownBlock ∧ k_ ≠ gb300 ∧ k_ ≠ gb332)) (HO_301004.out) (fun k_ hk => ⟨hk.1.1, ⟨hk.1.2.1, ⟨hk.1.2.2.1, ⟨hk.1.2.2.2.1, ⟨hk.1.2.2.2.2.1, ⟨hk.1.2.2.2.2.2.1, ⟨hk.2, ⟨hk.1.2.2.2.2.2.2.1, hk.1.2.2.2.2.2.2.2⟩⟩⟩⟩⟩⟩⟩⟩))).2.1 (Kd.V_F (Kd.V_mono (ok' := (fun k_ => ((P0_4_ k_ ∨ P0_5_ k_ ∨ P1_ k_) ∨ w.heap.size ≤ k_) ∧ some k_ ≠ (.slice Ao83 x5_2.length co83 : Value).ownBlock ∧ some k_ ≠ (u6 : Value).ownBlock ∧ some k_ ≠ (u7 : Value).ownBlock ∧ some k_ ≠ (.slice Ao78 y326.length co78 : Value).ownBlock ∧ some k_ ≠ (.slice Ao77 y329.length co77 : Value).ownBlock ∧ some k_ ≠ (v334 : Value).ownBlock ∧ k_ ≠ gb300 ∧ k_ ≠ gb332)) (HO_301004.out) (fun k_ hk => ⟨hk.1.1, ⟨hk.1.2.1, ⟨hk.1.2.2.1, ⟨hk.1.2.2.2.1, ⟨hk.1.2.2.2.2.1, ⟨hk.1.2.2.2.2.2.1, ⟨hk.2, ⟨hk.1.2.2.2.2.2.2.1, hk.1.2.2.2.2.2.2.2⟩⟩⟩⟩⟩⟩⟩⟩))) (Kd.V_reads' (Kd.V_mono (ok' := (fun k_ => ((P0_4_ k_ ∨ P0_5_ k_ ∨ P1_ k_) ∨ w.heap.size ≤ k_) ∧ some k_ ≠ (.slice Ao83 x5_2.length co83 : Value).ownBlock ∧ some k_ ≠ (u6 : Value).ownBlock ∧ some k_ ≠ (u7 : Value).ownBlock ∧ some k_ ≠ (.slice Ao78 y326.length co78 : Value).ownBlock ∧ some k_ ≠ (.slice Ao77 y329.length co77 : Value).ownBlock ∧ some k_ ≠ (v334 : Value).ownBlock ∧ k_ ≠ gb300 ∧ k_ ≠ gb332)) (HO_301005.out) (fun k_ hk => ⟨hk.1.1, ⟨hk.1.2.1, ⟨hk.1.2.2.1, ⟨hk.1.2.2.2.1, ⟨hk.1.2.2.2.2.1, ⟨hk.1.2.2.2.2.2.1, ⟨hk.2, ⟨hk.1.2.2.2.2.2.2.1, hk.1.2.2.2.2.2.2.2⟩⟩⟩⟩⟩⟩⟩⟩))).2.1 (Kd.V_F (Kd.V_mono (ok' := (fun k_ => ((P0_4_ k_ ∨ P0_5_ k_ ∨ P1_ k_) ∨ w.heap.size ≤ k_) ∧ some k_ ≠ (.slice Ao83 x5_2.length co83 : Value).ownBlock ∧ some k_ ≠ (u6 : Value).ownBlock ∧ some k_ ≠ (u7 : Value).ownBlock ∧ some k_ ≠ (.slice Ao78 y326.length co78 : Value).ownBlock ∧ some k_ ≠ (.slice Ao77 y329.length co77 : Value).ownBlock ∧ some k_ ≠ (v334 : Value).ownBlock ∧ k_ ≠ gb300 ∧ k_ ≠ gb332)) (HO_301005.out) (fun k_ hk => ⟨hk.1.1, ⟨hk.1.2.1, ⟨hk.1.2.2.1, ⟨hk.1.2.2.2.1, ⟨hk.1.2.2.2.2.1, ⟨hk.1.2.2.2.2.2.1, ⟨hk.2, ⟨hk.1.2.2.2.2.2.2.1, hk.1.2.2.2.2.2.2.2⟩⟩⟩⟩⟩⟩⟩⟩))))) (Reps.none _ _))); intro v337 w87 ho88 hb hg_ hnew_; clear hg_ hnew_; (first | rw [← Ny336.out] at ho88 | (simp only [Int.reduceToNat] at ho88; rw [← Ny336.out] at ho88)); have n0_ := Aside0.mk (Kd.V_elder' (by (with_reducible repeat (first | apply Kd.V_alloc | apply Kd.V_drewN | apply Kd.V_drew)); exact HO_1.out) (Kd.N_base ho88) hb); have n1_ := Aside0.mk (Kd.R_below (by (with_reducible repeat (first | apply Kd.R_alloc | apply Kd.R_drewN | apply Kd.R_drew)); exact HO_5.out) hb); have n2_ := Aside0.mk (Kd.R_below (by (with_reducible repeat (first | apply Kd.R_alloc | apply Kd.R_drewN | apply Kd.R_drew)); exact HO_6.out) hb); have n3_ := Aside0.mk (Kd.R_below (by (with_reducible repeat (first | apply Kd.R_alloc | apply Kd.R_drewN | apply Kd.R_drew)); exact HO_7.out) hb); have n4_ := Aside0.mk (Kd.V_elder' (by (with_reducible repeat (first | apply Kd.V_alloc | apply Kd.V_drewN | apply Kd.V_drew)); exact HO_301004.out) (Kd.N_base ho88) hb); have n5_ := Aside0.mk (Kd.V_elder' (by (with_reducible repeat (first | apply Kd.V_alloc | apply Kd.V_drewN | apply Kd.V_drew)); exact HO_301005.out) (Kd.N_base ho88) hb); have n6_ := Aside0.mk (Kd.N_elder' (by (with_reducible repeat (first | apply Kd.N_alloc | apply Kd.N_drewN | apply Kd.N_drew)); exact HO328.out) (Kd.N_base ho88) hb); have n7_ := Aside0.mk (Kd.N_elder' (by (with_reducible repeat (first | apply Kd.N_alloc | apply Kd.N_drewN | apply Kd.N_drew)); exact HO331.out) (Kd.N_base ho88) hb); have n8_ := Aside0.mk (Kd.N_elder' (by (with_reducible repeat (first | apply Kd.N_alloc | apply Kd.N_drewN | apply Kd.N_drew)); exact HO335.out) (Kd.N_base ho88) hb); have n9_ := Aside0.mk (Kd.N_lower ho88 (below_size (by repeat (first | (with_reducible first | exact HB.out | apply below_alloc | apply pw_below_drewN | apply below_drew1 | refine below_set ?_ GE300.out | refine below_set ?_ GE332.out) | exact HB.out)))); have n10_ := Aside0.mk (blk_below (g := gb300) (o := .cells #[.int .i64 a0_0, .int .i64 a0_1, .int .i64 a0_2, .int .i64 a0_3, .slice A0_4 l0_4.length c0_4, .slice A0_5 l0_5.length c0_5] 25 (0, 0)) (by (with_reducible repeat (first | refine blk_drewN ?_ _ | refine blk_drew ?_ | refine blk_alloc ?_ _)); exact BK300.out) hb); have n11_ := Aside0.mk (blk_below (g := gb332) (o := .cells #[.int .i64 5, .int .i64 (l1.length : Int), .int .i64 0, .int .i64 0, .slice Ao78 y326.length co78, .slice Ao77 y329.length co77] 25 (0, 0)) (by (with_reducible repeat (first | refine blk_drewN ?_ _ | refine blk_drew ?_ | refine blk_alloc ?_ _)); exact BK332.out) hb); have n12_ := Aside0.mk (below_step (by repeat (first | (with_reducible first | exact HB.out | apply below_alloc | apply pw_below_drewN | apply below_drew1 | refine below_set ?_ GE300.out | refine below_set ?_ GE332.out) | exact HB.out)) hb); clear HO_1; clear HO_5; clear HO_6; clear HO_7; clear HO_301004; clear HO_301005; clear HO328; clear HO331; clear HO335; clear BK300; clear BK332; clear HB; have HO_1 := n0_; have HO_5 := n1_; have HO_6 := n2_; have HO_7 := n3_; have HO_301004 := n4_; have HO_301005 := n5_; have HO328 := n6_; have HO331 := n7_; have HO335 := n8_; have HO338 := n9_; have BK300 := n10_; have BK332 := n11_; have HB := n12_; clear n0_ n1_ n2_ n3_ n4_ n5_ n6_ n7_ n8_ n9_ n10_ n11_ n12_; clear hb ho88; obtain ⟨Ao89, co89, eo89⟩ := Kd.N_slice HO338.out; subst eo89; obtain ⟨Ao90, co90, eo90⟩ := Kd.N_slice HO335.out; subst eo90) | ((with_reducible refine gate_dst (N := 11) rfl ?_); refine box_event ?hg (N := 11) ?hd (cs := #[.int .i64 0, .int .i64 0, .int .i64 0, .int .i64 0, .slice none 0 0, .slice none 0 0]) (t := 25) ?hr ?_; (case hd => rfl); (case hg => rfl); (case hr => first | (go_simp; done) | (go_simp; rfl)); intro gb339 hg w91 hbox hb; have n0_ := Aside0.mk (Kd.V_below (Kd.V_elderB (by (with_reducible repeat (first | apply Kd.V_alloc | apply Kd.V_drewN | apply Kd.V_drew)); exact HO_1.out) gb339 (Nat.le_of_eq hg.symm)) hb); have n1_ := Aside0.mk (Kd.R_below (by (with_reducible repeat (first | apply Kd.R_alloc | apply Kd.R_drewN | apply Kd.R_drew)); exact HO_5.out) hb); have n2_ := Aside0.mk (Kd.R_below (by (with_reducible repeat (first | apply Kd.R_alloc | apply Kd.R_drewN | apply Kd.R_drew)); exact HO_6.out) hb); have n3_ := Aside0.mk (Kd.R_below (by (with_reducible repeat (first | apply Kd.R_alloc | apply Kd.R_drewN | apply Kd.R_drew)); exact HO_7.out) hb); have n4_ := Aside0.mk (Kd.V_below (Kd.V_elderB (by (with_reducible repeat (first | apply Kd.V_alloc | apply Kd.V_drewN | apply Kd.V_drew)); exact HO_301004.out) gb339 (Nat.le_of_eq hg.symm)) hb); have n5_ := Aside0.mk (Kd.V_below (Kd.V_elderB (by (with_reducible repeat (first | apply Kd.V_alloc | apply Kd.V_drewN | apply Kd.V_drew)); exact HO_301005.out) gb339 (Nat.le_of_eq hg.symm)) hb); have n6_ := Aside0.mk (Kd.N_below (Kd.N_elderB (by (with_reducible repeat (first | apply Kd.N_alloc | apply Kd.N_drewN | apply Kd.N_drew)); exact HO328.out) gb339 (Nat.le_of_eq hg.symm)) hb); have n7_ := Aside0.mk (Kd.N_below (Kd.N_elderB (by (with_reducible repeat (first | apply Kd.N_alloc | apply Kd.N_drewN | apply Kd.N_drew)); exact HO331.out) gb339 (Nat.le_of_eq hg.symm)) hb); have n8_ := Aside0.mk (Kd.N_below (Kd.N_elderB (by (with_reducible repeat (first | apply Kd.N_alloc | apply Kd.N_drewN | apply Kd.N_drew)); exact HO335.out) gb339 (Nat.le_of_eq hg.symm)) hb); have n9_ := Aside0.mk (Kd.N_below (Kd.N_elderB (by (with_reducible repeat (first | apply Kd.N_alloc | apply Kd.N_drewN | apply Kd.N_drew)); exact HO338.out) gb339 (Nat.le_of_eq hg.symm)) hb); have n10_ := Aside0.mk (blk_below (g := gb300) (o := .cells #[.int .i64 a0_0, .int .i64 a0_1, .int .i64 a0_2, .int .i64 a0_3, .slice A0_4 l0_4.length c0_4, .slice A0_5 l0_5.length c0_5] 25 (0, 0)) (by (with_reducible repeat (first | refine blk_drewN ?_ _ | refine blk_drew ?_ | refine blk_alloc ?_ _)); exact BK300.out) hb); have n11_ := Aside0.mk (blk_below (g := gb332) (o := .cells #[.int .i64 5, .int .i64 (l1.length : Int), .int .i64 0, .int .i64 0, .slice Ao78 y326.length co78, .slice Ao77 y329.length co77] 25 (0, 0)) (by (with_reducible repeat (first | refine blk_drewN ?_ _ | refine blk_drew ?_ | refine blk_alloc ?_ _)); exact BK332.out) hb); have n12_ := Aside0.mk (below_step (by repeat (first | (with_reducible first | exact HB.out | apply below_alloc | apply pw_below_drewN | apply below_drew1 | refine below_set ?_ GE300.out | refine below_set ?_ GE332.out) | exact HB.out)) hb); have n13_ := Aside0.mk (hbox); have n14_ := Aside0.mk ((by rw [hg]; exact (below_size (by repeat (first | (with_reducible first | exact HB.out | apply below_alloc | apply pw_below_drewN | apply below_drew1 | refine below_set ?_ GE300.out | refine below_set ?_ GE332.out) | exact HB.out))) : w.heap.size ≤ gb339)); have n15_ := Aside0.mk ((by rw [hg]; exact (below_size (by repeat (first | (with_reducible first | exact HB.out | apply below_alloc | apply pw_below_drewN | apply below_drew1 | refine below_set ?_ GE300.out | refine below_set ?_ GE332.out) | exact HB.out))) : w.heap.size ≤ gb339)); have n16_ := Aside0.mk ((by rw [hg]; exact Nat.ne_of_lt (blk_lt (g := gb300) (o := .cells #[.int .i64 a0_0, .int .i64 a0_1, .int .i64 a0_2, .int .i64 a0_3, .slice A0_4 l0_4.length c0_4, .slice A0_5 l0_5.length c0_5] 25 (0, 0)) (by (with_reducible repeat (first | refine blk_drewN ?_ _ | refine blk_drew ?_ | refine blk_alloc ?_ _)); exact BK300.out)) : gb300 ≠ gb339)); have n17_ := Aside0.mk ((by rw [hg]; exact Nat.ne_of_gt (blk_lt (g := gb300) (o := .cells #[.int .i64 a0_0, .int .i64 a0_1, .int .i64 a0_2, .int .i64 a0_3, .slice A0_4 l0_4.length c0_4, .slice A0_5 l0_5.length c0_5] 25 (0, 0)) (by (with_reducible repeat (first | refine blk_drewN ?_ _ | refine blk_drew ?_ | refine blk_alloc ?_ _)); exact BK300.out)) : gb339 ≠ gb300)); have n18_ := Aside0.mk ((by rw [hg]; exact Nat.ne_of_lt (blk_lt (g := gb332) (o := .cells #[.int .i64 5, .int .i64 (l1.length : Int), .int .i64 0, .int .i64 0, .slice Ao78 y326.length co78, .slice Ao77 y329.length co77] 25 (0, 0)) (by (with_reducible repeat (first | refine blk_drewN ?_ _ | refine blk_drew ?_ | refine blk_alloc ?_ _)); exact BK332.out)) : gb332 ≠ gb339)); have n19_ := Aside0.mk ((by rw [hg]; exact Nat.ne_of_gt (blk_lt (g := gb332) (o := .cells #[.int .i64 5, .int .i64 (l1.length : Int), .int .i64 0, .int .i64 0, .slice Ao78 y326.length co78, .slice Ao77 y329.length co77] 25 (0, 0)) (by (with_reducible repeat (first | refine blk_drewN ?_ _ | refine blk_drew ?_ | refine blk_alloc ?_ _)); exact BK332.out)) : gb339 ≠ gb332)); clear HO_1; clear HO_5; clear HO_6; clear HO_7; clear HO_301004; clear HO_301005; clear HO328; clear HO331; clear HO335; clear HO338; clear BK300; clear BK332; clear HB; have HO_1 := n0_; have HO_5 := n1_; have HO_6 := n2_; have HO_7 := n3_; have HO_301004 := n4_; have HO_301005 := n5_; have HO328 := n6_; have HO331 := n7_; have HO335 := n8_; have HO338 := n9_; have BK300 := n10_; have BK332 := n11_; have HB := n12_; have BK339 := n13_; have GW339 := n14_; have GE339 := n15_; have NB300_339 := n16_; have NB339_300 := n17_; have NB332_339 := n18_; have NB339_332 := n19_; clear n0_ n1_ n2_ n3_ n4_ n5_ n6_ n7_ n8_ n9_ n10_ n11_ n12_ n13_ n14_ n15_ n16_ n17_ n18_ n19_; clear hb hbox hg; have hnb92 := NB339_300.out; have hnc92 := NB300_339.out; have hnb93 := NB339_332.out; have hnc93 := NB332_339.out; have hcz94_0 : w91.cell? ⟨gb339, 0, none⟩ = some (.int .i64 0) := (blk_cell BK339.out 0).trans rfl; have hcz94_1 : w91.cell? ⟨gb339, 1, none⟩ = some (.int .i64 0) := (blk_cell BK339.out 1).trans rfl; have hcz94_2 : w91.cell? ⟨gb339, 2, none⟩ = some (.int .i64 0) := (blk_cell BK339.out 2).trans rfl; have hcz94_3 : w91.cell? ⟨gb339, 3, none⟩ = some (.int .i64 0) := (blk_cell BK339.out 3).trans rfl; have hcz94_4 : w91.cell? ⟨gb339, 4, none⟩ = some (.slice none 0 0) := (blk_cell BK339.out 4).trans rfl; have hcz94_5 : w91.cell? ⟨gb339, 5, none⟩ = some (.slice none 0 0) := (blk_cell BK339.out 5).trans rfl; have hfz94_0 := blk_frozen BK339.out 0; have hfz94_1 := blk_frozen BK339.out 1; have hfz94_2 := blk_frozen BK339.out 2; have hfz94_3 := blk_frozen BK339.out 3; have hfz94_4 := blk_frozen BK339.out 4; have hfz94_5 := blk_frozen BK339.out 5; have hcz95_0 : w91.cell? ⟨gb332, 0, none⟩ = some (.int .i64 5) := (blk_cell BK332.out 0).trans rfl; have hcz95_1 : w91.cell? ⟨gb332, 1, none⟩ = some (.int .i64 (l1.length : Int)) := (blk_cell BK332.out 1).trans rfl; have hcz95_2 : w91.cell? ⟨gb332, 2, none⟩ = some (.int .i64 0) := (blk_cell BK332.out 2).trans rfl; have hcz95_3 : w91.cell? ⟨gb332, 3, none⟩ = some (.int .i64 0) := (blk_cell BK332.out 3).trans rfl; have hcz95_4 : w91.cell? ⟨gb332, 4, none⟩ = some (.slice Ao78 y326.length co78) := (blk_cell BK332.out 4).trans rfl; have hcz95_5 : w91.cell? ⟨gb332, 5, none⟩ = some (.slice Ao77 y329.length co77) := (blk_cell BK332.out 5).trans rfl; have hfz95_0 := blk_frozen BK332.out 0; have hfz95_1 := blk_frozen BK332.out 1; have hfz95_2 := blk_frozen BK332.out 2; have hfz95_3 := blk_frozen BK332.out 3; have hfz95_4 := blk_frozen BK332.out 4; have hfz95_5 := blk_frozen BK332.out 5; obtain ⟨Ao96, co96, eo96⟩ := Kd.R_slice HO_7.out; subst eo96) | ((with_reducible refine gate_callee (f := 10) rfl ?_); refine goesL_ (some 90) rfl rfl Tryd.func10 (by kernel_rfl) rfl #[.agg #[.int .i64 5, .int .i64 (l1.length : Int), .int .i64 0, .int .i64 0, .slice Ao78 y326.length co78, .slice Ao77 y329.length co77], .slice Ao96 x7_3.length co96] rfl (by (try simp only [List.map_toArray, List.map_cons, List.map_nil]); first | done | rfl | (simp only [List.length_drop, List.length_take]; rfl)) ?_; (with_reducible refine (matroid_Image.calls k3 5 (l1.length : Int) 0 0 _ _ y326 _ _ y329 _ _ x7_3 t340 true _ ?side7 ?side1 ?side2 ?side3 ?side4 ?side5 ?side6 A61.out).mono ?_); (case side1 => refine (Kd.N_reads' (e := 26) (base := w.heap.size) (ok := fun k_ => ((((((P0_4_ k_ ∨ P0_5_ k_ ∨ P1_ k_) ∨ w.heap.size ≤ k_) ∧ (some k_ ≠ (.slice Ao83 x5_2.length co83 : Value).ownBlock ∧ (some k_ ≠ (u6 : Value).ownBlock ∧ (some k_ ≠ (.slice Ao96 x7_3.length co96 : Value).ownBlock ∧ (some k_ ≠ (.slice Ao77 y329.length co77 : Value).ownBlock ∧ (k_ ≠ gb300 ∧ k_ ≠ gb332)))))) ∧ some k_ ≠ (.slice Ao90 y333.length co90 : Value).ownBlock) ∧ some k_ ≠ (.slice Ao89 y336.length co89 : Value).ownBlock) ∧ k_ ≠ gb339)) (n := y326.length) (c := co78) ?_).2.2; exact (by (with_reducible repeat (first | apply Kd.N_alloc | apply Kd.N_drewN | apply Kd.N_drew)); exact (Kd.N_mono (Kd.N_far (p := ⟨gb339, 5, none⟩) (Kd.N_far (p := ⟨gb339, 4, none⟩) (Kd.N_far (p := ⟨gb339, 3, none⟩) (Kd.N_far (p := ⟨gb339, 2, none⟩) (Kd.N_far (p := ⟨gb339, 1, none⟩) (Kd.N_far (p := ⟨gb339, 0, none⟩) (Kd.N_mono HO328.out (fun k_ hk => (⟨hk, hk.2⟩ : _ ∧ k_ ≠ gb339))) (fun _ hk => hk.2) (.int .i64 6)) (fun _ hk => hk.2) (.int .i64 (x5_2.length : Int))) (fun _ hk => hk.2) (.int .i64 0)) (fun _ hk => hk.2) (.int .i64 0)) (fun _ hk => hk.2) (.slice Ao90 y333.length co90)) (fun _ hk => hk.2) (.slice Ao89 y336.length co89)) (fun _ h_ => h_.1)))); (case side2 => exact (Kd.N_reads' HO328.out).2.1); (case side3 => refine (Kd.N_reads' (e := 25) (base := w.heap.size) (ok := fun k_ => ((((((P0_4_ k_ ∨ P0_5_ k_ ∨ P1_ k_) ∨ w.heap.size ≤ k_) ∧ (some k_ ≠ (.slice Ao83 x5_2.length co83 : Value).ownBlock ∧ (some k_ ≠ (u6 : Value).ownBlock ∧ (some k_ ≠ (.slice Ao96 x7_3.length co96 : Value).ownBlock ∧ (some k_ ≠ (.slice Ao78 y326.length co78 : Value).ownBlock ∧ (k_ ≠ gb300 ∧ k_ ≠ gb332)))))) ∧ some k_ ≠ (.slice Ao90 y333.length co90 : Value).ownBlock) ∧ some k_ ≠ (.slice Ao89 y336.length co89 : Value).ownBlock) ∧ k_ ≠ gb339)) (n := y329.length) (c := co77) ?_).2.2; exact (by (with_reducible repeat (first | apply Kd.N_alloc | apply Kd.N_drewN | apply Kd.N_drew)); exact (Kd.N_mono (Kd.N_far (p := ⟨gb339, 5, none⟩) (Kd.N_far (p := ⟨gb339, 4, none⟩) (Kd.N_far (p := ⟨gb339, 3, none⟩) (Kd.N_far (p := ⟨gb339, 2, none⟩) (Kd.N_far (p := ⟨gb339, 1, none⟩) (Kd.N_far (p := ⟨gb339, 0, none⟩) (Kd.N_mono HO331.out (fun k_ hk => (⟨hk, hk.2⟩ : _ ∧ k_ ≠ gb339))) (fun _ hk => hk.2) (.int .i64 6)) (fun _ hk => hk.2) (.int .i64 (x5_2.length : Int))) (fun _ hk => hk.2) (.int .i64 0)) (fun _ hk => hk.2) (.int .i64 0)) (fun _ hk => hk.2) (.slice Ao90 y333.length co90)) (fun _ hk => hk.2) (.slice Ao89 y336.length co89)) (fun _ h_ => h_.1)))); (case side4 => exact (Kd.N_reads' HO331.out).2.1); (case side5 => refine (Kd.R_reads' (e := 3) (base := w.heap.size) (ok := fun k_ => ((w.heap.size ≤ k_) ∧ (some k_ ≠ (.slice Ao83 x5_2.length co83 : Value).ownBlock ∧ some k_ ≠ (u6 : Value).ownBlock))) (n := x7_3.length) (c := co96) ?_).2.2; exact (by (with_reducible repeat (first | apply Kd.R_alloc | apply Kd.R_drewN | apply Kd.R_drew)); exact (Kd.R_mono (Kd.R_far (p := ⟨gb339, 5, none⟩) (Kd.R_far (p := ⟨gb339, 4, none⟩) (Kd.R_far (p := ⟨gb339, 3, none⟩) (Kd.R_far (p := ⟨gb339, 2, none⟩) (Kd.R_far (p := ⟨gb339, 1, none⟩) (Kd.R_far (p := ⟨gb339, 0, none⟩) (Kd.R_types HO_7.out BK339.out (by decide)) (fun _ hk => hk.2) (.int .i64 6)) (fun _ hk => hk.2) (.int .i64 (x5_2.length : Int))) (fun _ hk => hk.2) (.int .i64 0)) (fun _ hk => hk.2) (.int .i64 0)) (fun _ hk => hk.2) (.slice Ao90 y333.length co90)) (fun _ hk => hk.2) (.slice Ao89 y336.length co89)) (fun _ h_ => h_.1)))); (case side6 => exact (Kd.R_reads' HO_7.out).2.1); (case side7 => exact EV.below HEV.out (by repeat (first | (with_reducible first | exact HB.out | apply below_alloc | apply pw_below_drewN | apply below_drew1 | refine below_set ?_ GE300.out | refine below_set ?_ GE332.out | refine below_set ?_ GE339.out) | exact HB.out)) (EV.pos HEV.out)); rintro e w97 ⟨v341, rfl, ho0, hb⟩; refine ⟨_, rfl, ?_⟩; have n0_ := Aside0.mk (Kd.V_elder' (by (with_reducible repeat (first | apply Kd.V_alloc | apply Kd.V_drewN | apply Kd.V_drew)); exact (Kd.V_mono (Kd.V_far (p := ⟨gb339, 5, none⟩) (Kd.V_far (p := ⟨gb339, 4, none⟩) (Kd.V_far (p := ⟨gb339, 3, none⟩) (Kd.V_far (p := ⟨gb339, 2, none⟩) (Kd.V_far (p := ⟨gb339, 1, none⟩) (Kd.V_far (p := ⟨gb339, 0, none⟩) (Kd.V_mono HO_1.out (fun k_ hk => (⟨hk, hk.2⟩ : _ ∧ k_ ≠ gb339))) (fun _ hk => hk.2) (.int .i64 6)) (fun _ hk => hk.2) (.int .i64 (x5_2.length : Int))) (fun _ hk => hk.2) (.int .i64 0)) (fun _ hk => hk.2) (.int .i64 0)) (fun _ hk => hk.2) (.slice Ao90 y333.length co90)) (fun _ hk => hk.2) (.slice Ao89 y336.length co89)) (fun _ h_ => h_.1))) (Kd.R_base ho0) hb); have n1_ := Aside0.mk (Kd.R_elder' (by (with_reducible repeat (first | apply Kd.R_alloc | apply Kd.R_drewN | apply Kd.R_drew)); exact (Kd.R_mono (Kd.R_far (p := ⟨gb339, 5, none⟩) (Kd.R_far (p := ⟨gb339, 4, none⟩) (Kd.R_far (p := ⟨gb339, 3, none⟩) (Kd.R_far (p := ⟨gb339, 2, none⟩) (Kd.R_far (p := ⟨gb339, 1, none⟩) (Kd.R_far (p := ⟨gb339, 0, none⟩) (Kd.R_types HO_5.out BK339.out (by decide)) (fun _ hk => hk.2) (.int .i64 6)) (fun _ hk => hk.2) (.int .i64 (x5_2.length : Int))) (fun _ hk => hk.2) (.int .i64 0)) (fun _ hk => hk.2) (.int .i64 0)) (fun _ hk => hk.2) (.slice Ao90 y333.length co90)) (fun _ hk => hk.2) (.slice Ao89 y336.length co89)) (fun _ h_ => h_.1))) (Kd.R_base ho0) hb); have n2_ := Aside0.mk (Kd.R_elder' (by (with_reducible repeat (first | apply Kd.R_alloc | apply Kd.R_drewN | apply Kd.R_drew)); exact (Kd.R_mono (Kd.R_far (p := ⟨gb339, 5, none⟩) (Kd.R_far (p := ⟨gb339, 4, none⟩) (Kd.R_far (p := ⟨gb339, 3, none⟩) (Kd.R_far (p := ⟨gb339, 2, none⟩) (Kd.R_far (p := ⟨gb339, 1, none⟩) (Kd.R_far (p := ⟨gb339, 0, none⟩) (Kd.R_types HO_6.out BK339.out (by decide)) (fun _ hk => hk.2) (.int .i64 6)) (fun _ hk => hk.2) (.int .i64 (x5_2.length : Int))) (fun _ hk => hk.2) (.int .i64 0)) (fun _ hk => hk.2) (.int .i64 0)) (fun _ hk => hk.2) (.slice Ao90 y333.length co90)) (fun _ hk => hk.2) (.slice Ao89 y336.length co89)) (fun _ h_ => h_.1))) (Kd.R_base ho0) hb); have n3_ := Aside0.mk (Kd.R_elder' (by (with_reducible repeat (first | apply Kd.R_alloc | apply Kd.R_drewN | apply Kd.R_drew)); exact (Kd.R_mono (Kd.R_far (p := ⟨gb339, 5, none⟩) (Kd.R_far (p := ⟨gb339, 4, none⟩) (Kd.R_far (p := ⟨gb339, 3, none⟩) (Kd.R_far (p := ⟨gb339, 2, none⟩) (Kd.R_far (p := ⟨gb339, 1, none⟩) (Kd.R_far (p := ⟨gb339, 0, none⟩) (Kd.R_types HO_7.out BK339.out (by decide)) (fun _ hk => hk.2) (.int .i64 6)) (fun _ hk => hk.2) (.int .i64 (x5_2.length : Int))) (fun _ hk => hk.2) (.int .i64 0)) (fun _ hk => hk.2) (.int .i64 0)) (fun _ hk => hk.2) (.slice Ao90 y333.length co90)) (fun _ hk => hk.2) (.slice Ao89 y336.length co89)) (fun _ h_ => h_.1))) (Kd.R_base ho0) hb); have n4_ := Aside0.mk (Kd.V_elder' (by (with_reducible repeat (first | apply Kd.V_alloc | apply Kd.V_drewN | apply Kd.V_drew)); exact (Kd.V_mono (Kd.V_far (p := ⟨gb339, 5, none⟩) (Kd.V_far (p := ⟨gb339, 4, none⟩) (Kd.V_far (p := ⟨gb339, 3, none⟩) (Kd.V_far (p := ⟨gb339, 2, none⟩) (Kd.V_far (p := ⟨gb339, 1, none⟩) (Kd.V_far (p := ⟨gb339, 0, none⟩) (Kd.V_mono HO_301004.out (fun k_ hk => (⟨hk, hk.2⟩ : _ ∧ k_ ≠ gb339))) (fun _ hk => hk.2) (.int .i64 6)) (fun _ hk => hk.2) (.int .i64 (x5_2.length : Int))) (fun _ hk => hk.2) (.int .i64 0)) (fun _ hk => hk.2) (.int .i64 0)) (fun _ hk => hk.2) (.slice Ao90 y333.length co90)) (fun _ hk => hk.2) (.slice Ao89 y336.length co89)) (fun _ h_ => h_.1))) (Kd.R_base ho0) hb); have n5_ := Aside0.mk (Kd.V_elder' (by (with_reducible repeat (first | apply Kd.V_alloc | apply Kd.V_drewN | apply Kd.V_drew)); exact (Kd.V_mono (Kd.V_far (p := ⟨gb339, 5, none⟩) (Kd.V_far (p := ⟨gb339, 4, none⟩) (Kd.V_far (p := ⟨gb339, 3, none⟩) (Kd.V_far (p := ⟨gb339, 2, none⟩) (Kd.V_far (p := ⟨gb339, 1, none⟩) (Kd.V_far (p := ⟨gb339, 0, none⟩) (Kd.V_mono HO_301005.out (fun k_ hk => (⟨hk, hk.2⟩ : _ ∧ k_ ≠ gb339))) (fun _ hk => hk.2) (.int .i64 6)) (fun _ hk => hk.2) (.int .i64 (x5_2.length : Int))) (fun _ hk => hk.2) (.int .i64 0)) (fun _ hk => hk.2) (.int .i64 0)) (fun _ hk => hk.2) (.slice Ao90 y333.length co90)) (fun _ hk => hk.2) (.slice Ao89 y336.length co89)) (fun _ h_ => h_.1))) (Kd.R_base ho0) hb); have n6_ := Aside0.mk (Kd.N_elder' (by (with_reducible repeat (first | apply Kd.N_alloc | apply Kd.N_drewN | apply Kd.N_drew)); exact (Kd.N_mono (Kd.N_far (p := ⟨gb339, 5, none⟩) (Kd.N_far (p := ⟨gb339, 4, none⟩) (Kd.N_far (p := ⟨gb339, 3, none⟩) (Kd.N_far (p := ⟨gb339, 2, none⟩) (Kd.N_far (p := ⟨gb339, 1, none⟩) (Kd.N_far (p := ⟨gb339, 0, none⟩) (Kd.N_mono HO328.out (fun k_ hk => (⟨hk, hk.2⟩ : _ ∧ k_ ≠ gb339))) (fun _ hk => hk.2) (.int .i64 6)) (fun _ hk => hk.2) (.int .i64 (x5_2.length : Int))) (fun _ hk => hk.2) (.int .i64 0)) (fun _ hk => hk.2) (.int .i64 0)) (fun _ hk => hk.2) (.slice Ao90 y333.length co90)) (fun _ hk => hk.2) (.slice Ao89 y336.length co89)) (fun _ h_ => h_.1))) (Kd.R_base ho0) hb); have n7_ := Aside0.mk (Kd.N_elder' (by (with_reducible repeat (first | apply Kd.N_alloc | apply Kd.N_drewN | apply Kd.N_drew)); exact (Kd.N_mono (Kd.N_far (p := ⟨gb339, 5, none⟩) (Kd.N_far (p := ⟨gb339, 4, none⟩) (Kd.N_far (p := ⟨gb339, 3, none⟩) (Kd.N_far (p := ⟨gb339, 2, none⟩) (Kd.N_far (p := ⟨gb339, 1, none⟩) (Kd.N_far (p := ⟨gb339, 0, none⟩) (Kd.N_mono HO331.out (fun k_ hk => (⟨hk, hk.2⟩ : _ ∧ k_ ≠ gb339))) (fun _ hk => hk.2) (.int .i64 6)) (fun _ hk => hk.2) (.int .i64 (x5_2.length : Int))) (fun _ hk => hk.2) (.int .i64 0)) (fun _ hk => hk.2) (.int .i64 0)) (fun _ hk => hk.2) (.slice Ao90 y333.length co90)) (fun _ hk => hk.2) (.slice Ao89 y336.length co89)) (fun _ h_ => h_.1))) (Kd.R_base ho0) hb); have n8_ := Aside0.mk (Kd.N_elder' (by (with_reducible repeat (first | apply Kd.N_alloc | apply Kd.N_drewN | apply Kd.N_drew)); exact (Kd.N_mono (Kd.N_far (p := ⟨gb339, 5, none⟩) (Kd.N_far (p := ⟨gb339, 4, none⟩) (Kd.N_far (p := ⟨gb339, 3, none⟩) (Kd.N_far (p := ⟨gb339, 2, none⟩) (Kd.N_far (p := ⟨gb339, 1, none⟩) (Kd.N_far (p := ⟨gb339, 0, none⟩) (Kd.N_mono HO335.out (fun k_ hk => (⟨hk, hk.2⟩ : _ ∧ k_ ≠ gb339))) (fun _ hk => hk.2) (.int .i64 6)) (fun _ hk => hk.2) (.int .i64 (x5_2.length : Int))) (fun _ hk => hk.2) (.int .i64 0)) (fun _ hk => hk.2) (.int .i64 0)) (fun _ hk => hk.2) (.slice Ao90 y333.length co90)) (fun _ hk => hk.2) (.slice Ao89 y336.length co89)) (fun _ h_ => h_.1))) (Kd.R_base ho0) hb); have n9_ := Aside0.mk (Kd.N_elder' (by (with_reducible repeat (first | apply Kd.N_alloc | apply Kd.N_drewN | apply Kd.N_drew)); exact (Kd.N_mono (Kd.N_far (p := ⟨gb339, 5, none⟩) (Kd.N_far (p := ⟨gb339, 4, none⟩) (Kd.N_far (p := ⟨gb339, 3, none⟩) (Kd.N_far (p := ⟨gb339, 2, none⟩) (Kd.N_far (p := ⟨gb339, 1, none⟩) (Kd.N_far (p := ⟨gb339, 0, none⟩) (Kd.N_mono HO338.out (fun k_ hk => (⟨hk, hk.2⟩ : _ ∧ k_ ≠ gb339))) (fun _ hk => hk.2) (.int .i64 6)) (fun _ hk => hk.2) (.int .i64 (x5_2.length : Int))) (fun _ hk => hk.2) (.int .i64 0)) (fun _ hk => hk.2) (.int .i64 0)) (fun _ hk => hk.2) (.slice Ao90 y333.length co90)) (fun _ hk => hk.2) (.slice Ao89 y336.length co89)) (fun _ h_ => h_.1))) (Kd.R_base ho0) hb); have n10_ := Aside0.mk (Kd.R_lower (Kd.R_new' (Kd.R_new' (Kd.R_new' (Kd.R_newM (M := fun k_ => (w.heap.size ≤ k_)) ho0 (below_size (by repeat (first | (with_reducible first | exact HB.out | apply below_alloc | apply pw_below_drewN | apply below_drew1 | refine below_set ?_ GE300.out | refine below_set ?_ GE332.out | refine below_set ?_ GE339.out) | exact HB.out))) (fun k_ h_ => h_)) (Kd.R_lt (by (with_reducible repeat (first | apply Kd.R_alloc | apply Kd.R_drewN | apply Kd.R_drew)); exact (Kd.R_mono (Kd.R_far (p := ⟨gb339, 5, none⟩) (Kd.R_far (p := ⟨gb339, 4, none⟩) (Kd.R_far (p := ⟨gb339, 3, none⟩) (Kd.R_far (p := ⟨gb339, 2, none⟩) (Kd.R_far (p := ⟨gb339, 1, none⟩) (Kd.R_far (p := ⟨gb339, 0, none⟩) (Kd.R_types HO_5.out BK339.out (by decide)) (fun _ hk => hk.2) (.int .i64 6)) (fun _ hk => hk.2) (.int .i64 (x5_2.length : Int))) (fun _ hk => hk.2) (.int .i64 0)) (fun _ hk => hk.2) (.int .i64 0)) (fun _ hk => hk.2) (.slice Ao90 y333.length co90)) (fun _ hk => hk.2) (.slice Ao89 y336.length co89)) (fun _ h_ => h_.1))))) (Kd.R_lt (by (with_reducible repeat (first | apply Kd.R_alloc | apply Kd.R_drewN | apply Kd.R_drew)); exact (Kd.R_mono (Kd.R_far (p := ⟨gb339, 5, none⟩) (Kd.R_far (p := ⟨gb339, 4, none⟩) (Kd.R_far (p := ⟨gb339, 3, none⟩) (Kd.R_far (p := ⟨gb339, 2, none⟩) (Kd.R_far (p := ⟨gb339, 1, none⟩) (Kd.R_far (p := ⟨gb339, 0, none⟩) (Kd.R_types HO_6.out BK339.out (by decide)) (fun _ hk => hk.2) (.int .i64 6)) (fun _ hk => hk.2) (.int .i64 (x5_2.length : Int))) (fun _ hk => hk.2) (.int .i64 0)) (fun _ hk => hk.2) (.int .i64 0)) (fun _ hk => hk.2) (.slice Ao90 y333.length co90)) (fun _ hk => hk.2) (.slice Ao89 y336.length co89)) (fun _ h_ => h_.1))))) (Kd.R_lt (by (with_reducible repeat (first | apply Kd.R_alloc | apply Kd.R_drewN | apply Kd.R_drew)); exact (Kd.R_mono (Kd.R_far (p := ⟨gb339, 5, none⟩) (Kd.R_far (p := ⟨gb339, 4, none⟩) (Kd.R_far (p := ⟨gb339, 3, none⟩) (Kd.R_far (p := ⟨gb339, 2, none⟩) (Kd.R_far (p := ⟨gb339, 1, none⟩) (Kd.R_far (p := ⟨gb339, 0, none⟩) (Kd.R_types HO_7.out BK339.out (by decide)) (fun _ hk => hk.2) (.int .i64 6)) (fun _ hk => hk.2) (.int .i64 (x5_2.length : Int))) (fun _ hk => hk.2) (.int .i64 0)) (fun _ hk => hk.2) (.int .i64 0)) (fun _ hk => hk.2) (.slice Ao90 y333.length co90)) (fun _ hk => hk.2) (.slice Ao89 y336.length co89)) (fun _ h_ => h_.1))))) (below_size (by repeat (first | (with_reducible first | exact HB.out | apply below_alloc | apply pw_below_drewN | apply below_drew1 | refine below_set ?_ GE300.out | refine below_set ?_ GE332.out | refine below_set ?_ GE339.out) | exact HB.out)))); have n11_ := Aside0.mk (blk_below (g := gb300) (o := .cells #[.int .i64 a0_0, .int .i64 a0_1, .int .i64 a0_2, .int .i64 a0_3, .slice A0_4 l0_4.length c0_4, .slice A0_5 l0_5.length c0_5] 25 (0, 0)) (by (with_reducible repeat (first | refine blk_drewN ?_ _ | refine blk_drew ?_ | refine blk_alloc ?_ _)); refine blk_far ?_ NB300_339.out _; (with_reducible repeat (first | refine blk_drewN ?_ _ | refine blk_drew ?_ | refine blk_alloc ?_ _)); refine blk_far ?_ NB300_339.out _; (with_reducible repeat (first | refine blk_drewN ?_ _ | refine blk_drew ?_ | refine blk_alloc ?_ _)); refine blk_far ?_ NB300_339.out _; (with_reducible repeat (first | refine blk_drewN ?_ _ | refine blk_drew ?_ | refine blk_alloc ?_ _)); refine blk_far ?_ NB300_339.out _; (with_reducible repeat (first | refine blk_drewN ?_ _ | refine blk_drew ?_ | refine blk_alloc ?_ _)); refine blk_far ?_ NB300_339.out _; (with_reducible repeat (first | refine blk_drewN ?_ _ | refine blk_drew ?_ | refine blk_alloc ?_ _)); refine blk_far ?_ NB300_339.out _; (with_reducible repeat (first | refine blk_drewN ?_ _ | refine blk_drew ?_ | refine blk_alloc ?_ _)); exact BK300.out) hb); have n12_ := Aside0.mk (blk_below (g := gb332) (o := .cells #[.int .i64 5, .int .i64 (l1.length : Int), .int .i64 0, .int .i64 0, .slice Ao78 y326.length co78, .slice Ao77 y329.length co77] 25 (0, 0)) (by (with_reducible repeat (first | refine blk_drewN ?_ _ | refine blk_drew ?_ | refine blk_alloc ?_ _)); refine blk_far ?_ NB332_339.out _; (with_reducible repeat (first | refine blk_drewN ?_ _ | refine blk_drew ?_ | refine blk_alloc ?_ _)); refine blk_far ?_ NB332_339.out _; (with_reducible repeat (first | refine blk_drewN ?_ _ | refine blk_drew ?_ | refine blk_alloc ?_ _)); refine blk_far ?_ NB332_339.out _; (with_reducible repeat (first | refine blk_drewN ?_ _ | refine blk_drew ?_ | refine blk_alloc ?_ _)); refine blk_far ?_ NB332_339.out _; (with_reducible repeat (first | refine blk_drewN ?_ _ | refine blk_drew ?_ | refine blk_alloc ?_ _)); refine blk_far ?_ NB332_339.out _; (with_reducible repeat (first | refine blk_drewN ?_ _ | refine blk_drew ?_ | refine blk_alloc ?_ _)); refine blk_far ?_ NB332_339.out _; (with_reducible repeat (first | refine blk_drewN ?_ _ | refine blk_drew ?_ | refine blk_alloc ?_ _)); exact BK332.out) hb); have n13_ := Aside0.mk (blk_below (g := gb339) (o := .cells #[.int .i64 6, .int .i64 (x5_2.length : Int), .int .i64 0, .int .i64 0, .slice Ao90 y333.length co90, .slice Ao89 y336.length co89] 25 (0, 0)) (by (with_reducible repeat (first | refine blk_drewN ?_ _ | refine blk_drew ?_ | refine blk_alloc ?_ _)); refine blk_put (cs := #[.int .i64 6, .int .i64 (x5_2.length : Int), .int .i64 0, .int .i64 0, .slice Ao90 y333.length co90, .slice none 0 0]) ?_ 5 _ rfl; (with_reducible repeat (first | refine blk_drewN ?_ _ | refine blk_drew ?_ | refine blk_alloc ?_ _)); refine blk_put (cs := #[.int .i64 6, .int .i64 (x5_2.length : Int), .int .i64 0, .int .i64 0, .slice none 0 0, .slice none 0 0]) ?_ 4 _ rfl; (with_reducible repeat (first | refine blk_drewN ?_ _ | refine blk_drew ?_ | refine blk_alloc ?_ _)); refine blk_put (cs := #[.int .i64 6, .int .i64 (x5_2.length : Int), .int .i64 0, .int .i64 0, .slice none 0 0, .slice none 0 0]) ?_ 3 _ rfl; (with_reducible repeat (first | refine blk_drewN ?_ _ | refine blk_drew ?_ | refine blk_alloc ?_ _)); refine blk_put (cs := #[.int .i64 6, .int .i64 (x5_2.length : Int), .int .i64 0, .int .i64 0, .slice none 0 0, .slice none 0 0]) ?_ 2 _ rfl; (with_reducible repeat (first | refine blk_drewN ?_ _ | refine blk_drew ?_ | refine blk_alloc ?_ _)); refine blk_put (cs := #[.int .i64 6, .int .i64 0, .int .i64 0, .int .i64 0, .slice none 0 0, .slice none 0 0]) ?_ 1 _ rfl; (with_reducible repeat (first | refine blk_drewN ?_ _ | refine blk_drew ?_ | refine blk_alloc ?_ _)); refine blk_put (cs := #[.int .i64 0, .int .i64 0, .int .i64 0, .int .i64 0, .slice none 0 0, .slice none 0 0]) ?_ 0 _ rfl; (with_reducible repeat (first | refine blk_drewN ?_ _ | refine blk_drew ?_ | refine blk_alloc ?_ _)); exact BK339.out) hb); have n14_ := Aside0.mk (below_step (by repeat (first | (with_reducible first | exact HB.out | apply below_alloc | apply pw_below_drewN | apply below_drew1 | refine below_set ?_ GE300.out | refine below_set ?_ GE332.out | refine below_set ?_ GE339.out) | exact HB.out)) hb); clear HO_1; clear HO_5; clear HO_6; clear HO_7; clear HO_301004; clear HO_301005; clear HO328; clear HO331; clear HO335; clear HO338; clear BK300; clear BK332; clear BK339; clear HB; have HO_1 := n0_; have HO_5 := n1_; have HO_6 := n2_; have HO_7 := n3_; have HO_301004 := n4_; have HO_301005 := n5_; have HO328 := n6_; have HO331 := n7_; have HO335 := n8_; have HO338 := n9_; have HO342 := n10_; have BK300 := n11_; have BK332 := n12_; have BK339 := n13_; have HB := n14_; clear n0_ n1_ n2_ n3_ n4_ n5_ n6_ n7_ n8_ n9_ n10_ n11_ n12_ n13_ n14_; (try clear hb); (try clear hb2); (try clear hk); (try clear hi); (try clear ho0); have hcz98_0 : w97.cell? ⟨gb339, 0, none⟩ = some (.int .i64 6) := (blk_cell BK339.out 0).trans rfl; have hcz98_1 : w97.cell? ⟨gb339, 1, none⟩ = some (.int .i64 (x5_2.length : Int)) := (blk_cell BK339.out 1).trans rfl; have hcz98_2 : w97.cell? ⟨gb339, 2, none⟩ = some (.int .i64 0) := (blk_cell BK339.out 2).trans rfl; have hcz98_3 : w97.cell? ⟨gb339, 3, none⟩ = some (.int .i64 0) := (blk_cell BK339.out 3).trans rfl; have hcz98_4 : w97.cell? ⟨gb339, 4, none⟩ = some (.slice Ao90 y333.length co90) := (blk_cell BK339.out 4).trans rfl; have hcz98_5 : w97.cell? ⟨gb339, 5, none⟩ = some (.slice Ao89 y336.length co89) := (blk_cell BK339.out 5).trans rfl; have hfz98_0 := blk_frozen BK339.out 0; have hfz98_1 := blk_frozen BK339.out 1; have hfz98_2 := blk_frozen BK339.out 2; have hfz98_3 := blk_frozen BK339.out 3; have hfz98_4 := blk_frozen BK339.out 4; have hfz98_5 := blk_frozen BK339.out 5; obtain ⟨Ao99, co99, eo99⟩ := Kd.R_slice HO_6.out; subst eo99) | ((with_reducible refine gate_callee (f := 10) rfl ?_); refine goesL_ (some 96) rfl rfl Tryd.func10 (by kernel_rfl) rfl #[.agg #[.int .i64 6, .int .i64 (x5_2.length : Int), .int .i64 0, .int .i64 0, .slice Ao90 y333.length co90, .slice Ao89 y336.length co89], .slice Ao99 x6_2.length co99] rfl (by (try simp only [List.map_toArray, List.map_cons, List.map_nil]); first | done | rfl | (simp only [List.length_drop, List.length_take]; rfl)) ?_; (with_reducible refine (matroid_Image.calls k3 6 (x5_2.length : Int) 0 0 _ _ y333 _ _ y336 _ _ x6_2 t344 true _ ?side7 ?side1 ?side2 ?side3 ?side4 ?side5 ?side6 A62.out).mono ?_); (case side1 => repeat (first | exact (Kd.N_reads' HO335.out).2.2 | (with_reducible refine Kd.C_alloc ?_ _) | (with_reducible refine Kd.C_drewN ?_ _) | (with_reducible refine Kd.C_drew ?_))); (case side2 => exact (Kd.N_reads' HO335.out).2.1); (case side3 => repeat (first | exact (Kd.N_reads' HO338.out).2.2 | (with_reducible refine Kd.C_alloc ?_ _) | (with_reducible refine Kd.C_drewN ?_ _) | (with_reducible refine Kd.C_drew ?_))); (case side4 => exact (Kd.N_reads' HO338.out).2.1); (case side5 => repeat (first | exact (Kd.R_reads' HO_6.out).2.2 | (with_reducible refine Kd.C_alloc ?_ _) | (with_reducible refine Kd.C_drewN ?_ _) | (with_reducible refine Kd.C_drew ?_))); (case side6 => exact (Kd.R_reads' HO_6.out).2.1); (case side7 => exact EV.below HEV.out (by repeat (first | (with_reducible first | exact HB.out | apply below_alloc | apply pw_below_drewN | apply below_drew1 | refine below_set ?_ GE300.out | refine below_set ?_ GE332.out | refine below_set ?_ GE339.out) | exact HB.out)) (EV.pos HEV.out)); rintro e w100 ⟨v345, rfl, ho0, hb⟩; refine ⟨_, rfl, ?_⟩; have n0_ := Aside0.mk (Kd.V_elder' (by (with_reducible repeat (first | apply Kd.V_alloc | apply Kd.V_drewN | apply Kd.V_drew)); exact HO_1.out) (Kd.R_base ho0) hb); have n1_ := Aside0.mk (Kd.R_elder' (by (with_reducible repeat (first | apply Kd.R_alloc | apply Kd.R_drewN | apply Kd.R_drew)); exact HO_5.out) (Kd.R_base ho0) hb); have n2_ := Aside0.mk (Kd.R_elder' (by (with_reducible repeat (first | apply Kd.R_alloc | apply Kd.R_drewN | apply Kd.R_drew)); exact HO_6.out) (Kd.R_base ho0) hb); have n3_ := Aside0.mk (Kd.R_elder' (by (with_reducible repeat (first | apply Kd.R_alloc | apply Kd.R_drewN | apply Kd.R_drew)); exact HO_7.out) (Kd.R_base ho0) hb); have n4_ := Aside0.mk (Kd.V_elder' (by (with_reducible repeat (first | apply Kd.V_alloc | apply Kd.V_drewN | apply Kd.V_drew)); exact HO_301004.out) (Kd.R_base ho0) hb); have n5_ := Aside0.mk (Kd.V_elder' (by (with_reducible repeat (first | apply Kd.V_alloc | apply Kd.V_drewN | apply Kd.V_drew)); exact HO_301005.out) (Kd.R_base ho0) hb); have n6_ := Aside0.mk (Kd.N_elder' (by (with_reducible repeat (first | apply Kd.N_alloc | apply Kd.N_drewN | apply Kd.N_drew)); exact HO328.out) (Kd.R_base ho0) hb); have n7_ := Aside0.mk (Kd.N_elder' (by (with_reducible repeat (first | apply Kd.N_alloc | apply Kd.N_drewN | apply Kd.N_drew)); exact HO331.out) (Kd.R_base ho0) hb); have n8_ := Aside0.mk (Kd.N_elder' (by (with_reducible repeat (first | apply Kd.N_alloc | apply Kd.N_drewN | apply Kd.N_drew)); exact HO335.out) (Kd.R_base ho0) hb); have n9_ := Aside0.mk (Kd.N_elder' (by (with_reducible repeat (first | apply Kd.N_alloc | apply Kd.N_drewN | apply Kd.N_drew)); exact HO338.out) (Kd.R_base ho0) hb); have n10_ := Aside0.mk (Kd.R_elder' (by (with_reducible repeat (first | apply Kd.R_alloc | apply Kd.R_drewN | apply Kd.R_drew)); exact HO342.out) (Kd.R_base ho0) hb); have n11_ := Aside0.mk (Kd.R_lower (Kd.R_new' (Kd.R_new' (Kd.R_new' (Kd.R_new' (Kd.R_newM (M := fun k_ => (w.heap.size ≤ k_)) ho0 (below_size (by repeat (first | (with_reducible first | exact HB.out | apply below_alloc | apply pw_below_drewN | apply below_drew1 | refine below_set ?_ GE300.out | refine below_set ?_ GE332.out | refine below_set ?_ GE339.out) | exact HB.out))) (fun k_ h_ => h_)) (Kd.R_lt (by (with_reducible repeat (first | apply Kd.R_alloc | apply Kd.R_drewN | apply Kd.R_drew)); exact HO_5.out))) (Kd.R_lt (by (with_reducible repeat (first | apply Kd.R_alloc | apply Kd.R_drewN | apply Kd.R_drew)); exact HO_6.out))) (Kd.R_lt (by (with_reducible repeat (first | apply Kd.R_alloc | apply Kd.R_drewN | apply Kd.R_drew)); exact HO_7.out))) (Kd.R_lt (by (with_reducible repeat (first | apply Kd.R_alloc | apply Kd.R_drewN | apply Kd.R_drew)); exact HO342.out))) (below_size (by repeat (first | (with_reducible first | exact HB.out | apply below_alloc | apply pw_below_drewN | apply below_drew1 | refine below_set ?_ GE300.out | refine below_set ?_ GE332.out | refine below_set ?_ GE339.out) | exact HB.out)))); have n12_ := Aside0.mk (blk_below (g := gb300) (o := .cells #[.int .i64 a0_0, .int .i64 a0_1, .int .i64 a0_2, .int .i64 a0_3, .slice A0_4 l0_4.length c0_4, .slice A0_5 l0_5.length c0_5] 25 (0, 0)) (by (with_reducible repeat (first | refine blk_drewN ?_ _ | refine blk_drew ?_ | refine blk_alloc ?_ _)); exact BK300.out) hb); have n13_ := Aside0.mk (blk_below (g := gb332) (o := .cells #[.int .i64 5, .int .i64 (l1.length : Int), .int .i64 0, .int .i64 0, .slice Ao78 y326.length co78, .slice Ao77 y329.length co77] 25 (0, 0)) (by (with_reducible repeat (first | refine blk_drewN ?_ _ | refine blk_drew ?_ | refine blk_alloc ?_ _)); exact BK332.out) hb); have n14_ := Aside0.mk (blk_below (g := gb339) (o := .cells #[.int .i64 6, .int .i64 (x5_2.length : Int), .int .i64 0, .int .i64 0, .slice Ao90 y333.length co90, .slice Ao89 y336.length co89] 25 (0, 0)) (by (with_reducible repeat (first | refine blk_drewN ?_ _ | refine blk_drew ?_ | refine blk_alloc ?_ _)); exact BK339.out) hb); have n15_ := Aside0.mk (below_step (by repeat (first | (with_reducible first | exact HB.out | apply below_alloc | apply pw_below_drewN | apply below_drew1 | refine below_set ?_ GE300.out | refine below_set ?_ GE332.out | refine below_set ?_ GE339.out) | exact HB.out)) hb); clear HO_1; clear HO_5; clear HO_6; clear HO_7; clear HO_301004; clear HO_301005; clear HO328; clear HO331; clear HO335; clear HO338; clear HO342; clear BK300; clear BK332; clear BK339; clear HB; have HO_1 := n0_; have HO_5 := n1_; have HO_6 := n2_; have HO_7 := n3_; have HO_301004 := n4_; have HO_301005 := n5_; have HO328 := n6_; have HO331 := n7_; have HO335 := n8_; have HO338 := n9_; have HO342 := n10_; have HO346 := n11_; have BK300 := n12_; have BK332 := n13_; have BK339 := n14_; have HB := n15_; clear n0_ n1_ n2_ n3_ n4_ n5_ n6_ n7_ n8_ n9_ n10_ n11_ n12_ n13_ n14_ n15_; (try clear hb); (try clear hb2); (try clear hk); (try clear hi); (try clear ho0); have hcz101_0 : w100.cell? ⟨gb339, 0, none⟩ = some (.int .i64 6) := (blk_cell BK339.out 0).trans rfl; have hcz101_1 : w100.cell? ⟨gb339, 1, none⟩ = some (.int .i64 (x5_2.length : Int)) := (blk_cell BK339.out 1).trans rfl; have hcz101_2 : w100.cell? ⟨gb339, 2, none⟩ = some (.int .i64 0) := (blk_cell BK339.out 2).trans rfl; have hcz101_3 : w100.cell? ⟨gb339, 3, none⟩ = some (.int .i64 0) := (blk_cell BK339.out 3).trans rfl; have hcz101_4 : w100.cell? ⟨gb339, 4, none⟩ = some (.slice Ao90 y333.length co90) := (blk_cell BK339.out 4).trans rfl; have hcz101_5 : w100.cell? ⟨gb339, 5, none⟩ = some (.slice Ao89 y336.length co89) := (blk_cell BK339.out 5).trans rfl; have hfz101_0 := blk_frozen BK339.out 0; have hfz101_1 := blk_frozen BK339.out 1; have hfz101_2 := blk_frozen BK339.out 2; have hfz101_3 := blk_frozen BK339.out 3; have hfz101_4 := blk_frozen BK339.out 4; have hfz101_5 := blk_frozen BK339.out 5; have hcz102_0 : w100.cell? ⟨gb332, 0, none⟩ = some (.int .i64 5) := (blk_cell BK332.out 0).trans rfl; have hcz102_1 : w100.cell? ⟨gb332, 1, none⟩ = some (.int .i64 (l1.length : Int)) := (blk_cell BK332.out 1).trans rfl; have hcz102_2 : w100.cell? ⟨gb332, 2, none⟩ = some (.int .i64 0) := (blk_cell BK332.out 2).trans rfl; have hcz102_3 : w100.cell? ⟨gb332, 3, none⟩ = some (.int .i64 0) := (blk_cell BK332.out 3).trans rfl; have hcz102_4 : w100.cell? ⟨gb332, 4, none⟩ = some (.slice Ao78 y326.length co78) := (blk_cell BK332.out 4).trans rfl; have hcz102_5 : w100.cell? ⟨gb332, 5, none⟩ = some (.slice Ao77 y329.length co77) := (blk_cell BK332.out 5).trans rfl; have hfz102_0 := blk_frozen BK332.out 0; have hfz102_1 := blk_frozen BK332.out 1; have hfz102_2 := blk_frozen BK332.out 2; have hfz102_3 := blk_frozen BK332.out 3; have hfz102_4 := blk_frozen BK332.out 4; have hfz102_5 := blk_frozen BK332.out 5) | ((with_reducible refine gate_callee (f := 12) rfl ?_); refine goesL_ (some 104) rfl rfl Tryd.func12 (by kernel_rfl) rfl #[.agg #[.int .i64 5, .int .i64 (l1.length : Int), .int .i64 0, .int .i64 0, .slice Ao78 y326.length co78, .slice Ao77 y329.length co77]] rfl (by (try simp only [List.map_toArray, List.map_cons, List.map_nil]); first | done | rfl | (simp only [List.length_drop, List.length_take]; rfl)) ?_; (with_reducible refine (matroid_Check.calls 5 (l1.length : Int) 0 0 _ _ y326 _ _ y329 t348 _ ?side5 ?side1 ?side2 ?side3 ?side4 A63.out).mono ?_); (case side1 => refine (Kd.N_reads' (e := 26) (base := w.heap.size) (ok := fun k_ => ((((((((P0_4_ k_ ∨ P0_5_ k_ ∨ P1_ k_) ∨ w.heap.size ≤ k_) ∧ (some k_ ≠ (.slice Ao83 x5_2.length co83 : Value).ownBlock ∧ (some k_ ≠ (.slice Ao99 x6_2.length co99 : Value).ownBlock ∧ (some k_ ≠ (.slice Ao96 x7_3.length co96 : Value).ownBlock ∧ (some k_ ≠ (.slice Ao77 y329.length co77 : Value).ownBlock ∧ (k_ ≠ gb300 ∧ k_ ≠ gb332)))))) ∧ some k_ ≠ (.slice Ao90 y333.length co90 : Value).ownBlock) ∧ some k_ ≠ (.slice Ao89 y336.length co89 : Value).ownBlock) ∧ k_ ≠ gb339) ∧ some k_ ≠ (v341 : Value).ownBlock) ∧ some k_ ≠ (v345 : Value).ownBlock)) (n := y326.length) (c := co78) ?_).2.2; exact (by (with_reducible repeat (first | apply Kd.N_alloc | apply Kd.N_drewN | apply Kd.N_drew)); exact (Kd.N_mono (Kd.N_far (p := ⟨gb339, 1, none⟩) (Kd.N_mono HO328.out (fun k_ hk => (⟨hk, hk.1.1.2⟩ : _ ∧ k_ ≠ gb339))) (fun _ hk => hk.2) (.int .i64 (wrap64 ((x5_2.length : Int) + 1)))) (fun _ h_ => h_.1)))); (case side2 => exact (Kd.N_reads' HO328.out).2.1); (case side3 => refine (Kd.N_reads' (e := 25) (base := w.heap.size) (ok := fun k_ => ((((((((P0_4_ k_ ∨ P0_5_ k_ ∨ P1_ k_) ∨ w.heap.size ≤ k_) ∧ (some k_ ≠ (.slice Ao83 x5_2.length co83 : Value).ownBlock ∧ (some k_ ≠ (.slice Ao99 x6_2.length co99 : Value).ownBlock ∧ (some k_ ≠ (.slice Ao96 x7_3.length co96 : Value).ownBlock ∧ (some k_ ≠ (.slice Ao78 y326.length co78 : Value).ownBlock ∧ (k_ ≠ gb300 ∧ k_ ≠ gb332)))))) ∧ some k_ ≠ (.slice Ao90 y333.length co90 : Value).ownBlock) ∧ some k_ ≠ (.slice Ao89 y336.length co89 : Value).ownBlock) ∧ k_ ≠ gb339) ∧ some k_ ≠ (v341 : Value).ownBlock) ∧ some k_ ≠ (v345 : Value).ownBlock)) (n := y329.length) (c := co77) ?_).2.2; exact (by (with_reducible repeat (first | apply Kd.N_alloc | apply Kd.N_drewN | apply Kd.N_drew)); exact (Kd.N_mono (Kd.N_far (p := ⟨gb339, 1, none⟩) (Kd.N_mono HO331.out (fun k_ hk => (⟨hk, hk.1.1.2⟩ : _ ∧ k_ ≠ gb339))) (fun _ hk => hk.2) (.int .i64 (wrap64 ((x5_2.length : Int) + 1)))) (fun _ h_ => h_.1)))); (case side4 => exact (Kd.N_reads' HO331.out).2.1); (case side5 => exact EV.below HEV.out (by repeat (first | (with_reducible first | exact HB.out | apply below_alloc | apply pw_below_drewN | apply below_drew1 | refine below_set ?_ GE300.out | refine below_set ?_ GE332.out | refine below_set ?_ GE339.out) | exact HB.out)) (EV.pos HEV.out)); rintro e w103 ⟨rfl, hb⟩; refine ⟨_, rfl, ?_⟩; have n0_ := Aside0.mk (Kd.V_below (by (with_reducible repeat (first | apply Kd.V_alloc | apply Kd.V_drewN | apply Kd.V_drew)); exact (Kd.V_mono (Kd.V_far (p := ⟨gb339, 1, none⟩) (Kd.V_mono HO_1.out (fun k_ hk => (⟨hk, hk.1.1.2⟩ : _ ∧ k_ ≠ gb339))) (fun _ hk => hk.2) (.int .i64 (wrap64 ((x5_2.length : Int) + 1)))) (fun _ h_ => h_.1))) hb); have n1_ := Aside0.mk (Kd.R_below (by (with_reducible repeat (first | apply Kd.R_alloc | apply Kd.R_drewN | apply Kd.R_drew)); exact (Kd.R_mono (Kd.R_far (p := ⟨gb339, 1, none⟩) (Kd.R_types HO_5.out BK339.out (by decide)) (fun _ hk => hk.2) (.int .i64 (wrap64 ((x5_2.length : Int) + 1)))) (fun _ h_ => h_.1))) hb); have n2_ := Aside0.mk (Kd.R_below (by (with_reducible repeat (first | apply Kd.R_alloc | apply Kd.R_drewN | apply Kd.R_drew)); exact (Kd.R_mono (Kd.R_far (p := ⟨gb339, 1, none⟩) (Kd.R_types HO_6.out BK339.out (by decide)) (fun _ hk => hk.2) (.int .i64 (wrap64 ((x5_2.length : Int) + 1)))) (fun _ h_ => h_.1))) hb); have n3_ := Aside0.mk (Kd.R_below (by (with_reducible repeat (first | apply Kd.R_alloc | apply Kd.R_drewN | apply Kd.R_drew)); exact (Kd.R_mono (Kd.R_far (p := ⟨gb339, 1, none⟩) (Kd.R_types HO_7.out BK339.out (by decide)) (fun _ hk => hk.2) (.int .i64 (wrap64 ((x5_2.length : Int) + 1)))) (fun _ h_ => h_.1))) hb); have n4_ := Aside0.mk (Kd.V_below (by (with_reducible repeat (first | apply Kd.V_alloc | apply Kd.V_drewN | apply Kd.V_drew)); exact (Kd.V_mono (Kd.V_far (p := ⟨gb339, 1, none⟩) (Kd.V_mono HO_301004.out (fun k_ hk => (⟨hk, hk.1.1.2⟩ : _ ∧ k_ ≠ gb339))) (fun _ hk => hk.2) (.int .i64 (wrap64 ((x5_2.length : Int) + 1)))) (fun _ h_ => h_.1))) hb); have n5_ := Aside0.mk (Kd.V_below (by (with_reducible repeat (first | apply Kd.V_alloc | apply Kd.V_drewN | apply Kd.V_drew)); exact (Kd.V_mono (Kd.V_far (p := ⟨gb339, 1, none⟩) (Kd.V_mono HO_301005.out (fun k_ hk => (⟨hk, hk.1.1.2⟩ : _ ∧ k_ ≠ gb339))) (fun _ hk => hk.2) (.int .i64 (wrap64 ((x5_2.length : Int) + 1)))) (fun _ h_ => h_.1))) hb); have n6_ := Aside0.mk (Kd.N_below (by (with_reducible repeat (first | apply Kd.N_alloc | apply Kd.N_drewN | apply Kd.N_drew)); exact (Kd.N_mono (Kd.N_far (p := ⟨gb339, 1, none⟩) (Kd.N_mono HO328.out (fun k_ hk => (⟨hk, hk.1.1.2⟩ : _ ∧ k_ ≠ gb339))) (fun _ hk => hk.2) (.int .i64 (wrap64 ((x5_2.length : Int) + 1)))) (fun _ h_ => h_.1))) hb); have n7_ := Aside0.mk (Kd.N_below (by (with_reducible repeat (first | apply Kd.N_alloc | apply Kd.N_drewN | apply Kd.N_drew)); exact (Kd.N_mono (Kd.N_far (p := ⟨gb339, 1, none⟩) (Kd.N_mono HO331.out (fun k_ hk => (⟨hk, hk.1.1.2⟩ : _ ∧ k_ ≠ gb339))) (fun _ hk => hk.2) (.int .i64 (wrap64 ((x5_2.length : Int) + 1)))) (fun _ h_ => h_.1))) hb); have n8_ := Aside0.mk (Kd.N_below (by (with_reducible repeat (first | apply Kd.N_alloc | apply Kd.N_drewN | apply Kd.N_drew)); exact (Kd.N_mono (Kd.N_far (p := ⟨gb339, 1, none⟩) (Kd.N_mono HO335.out (fun k_ hk => (⟨hk, hk.1.1.2⟩ : _ ∧ k_ ≠ gb339))) (fun _ hk => hk.2) (.int .i64 (wrap64 ((x5_2.length : Int) + 1)))) (fun _ h_ => h_.1))) hb); have n9_ := Aside0.mk (Kd.N_below (by (with_reducible repeat (first | apply Kd.N_alloc | apply Kd.N_drewN | apply Kd.N_drew)); exact (Kd.N_mono (Kd.N_far (p := ⟨gb339, 1, none⟩) (Kd.N_mono HO338.out (fun k_ hk => (⟨hk, hk.1.1.2⟩ : _ ∧ k_ ≠ gb339))) (fun _ hk => hk.2) (.int .i64 (wrap64 ((x5_2.length : Int) + 1)))) (fun _ h_ => h_.1))) hb); have n10_ := Aside0.mk (Kd.R_below (by (with_reducible repeat (first | apply Kd.R_alloc | apply Kd.R_drewN | apply Kd.R_drew)); exact (Kd.R_mono (Kd.R_far (p := ⟨gb339, 1, none⟩) (Kd.R_types HO342.out BK339.out (by decide)) (fun _ hk => hk.2) (.int .i64 (wrap64 ((x5_2.length : Int) + 1)))) (fun _ h_ => h_.1))) hb); have n11_ := Aside0.mk (Kd.R_below (by (with_reducible repeat (first | apply Kd.R_alloc | apply Kd.R_drewN | apply Kd.R_drew)); exact (Kd.R_mono (Kd.R_far (p := ⟨gb339, 1, none⟩) (Kd.R_types HO346.out BK339.out (by decide)) (fun _ hk => hk.2) (.int .i64 (wrap64 ((x5_2.length : Int) + 1)))) (fun _ h_ => h_.1))) hb); have n12_ := Aside0.mk (blk_below (g := gb300) (o := .cells #[.int .i64 a0_0, .int .i64 a0_1, .int .i64 a0_2, .int .i64 a0_3, .slice A0_4 l0_4.length c0_4, .slice A0_5 l0_5.length c0_5] 25 (0, 0)) (by (with_reducible repeat (first | refine blk_drewN ?_ _ | refine blk_drew ?_ | refine blk_alloc ?_ _)); refine blk_far ?_ NB300_339.out _; (with_reducible repeat (first | refine blk_drewN ?_ _ | refine blk_drew ?_ | refine blk_alloc ?_ _)); exact BK300.out) hb); have n13_ := Aside0.mk (blk_below (g := gb332) (o := .cells #[.int .i64 5, .int .i64 (l1.length : Int), .int .i64 0, .int .i64 0, .slice Ao78 y326.length co78, .slice Ao77 y329.length co77] 25 (0, 0)) (by (with_reducible repeat (first | refine blk_drewN ?_ _ | refine blk_drew ?_ | refine blk_alloc ?_ _)); refine blk_far ?_ NB332_339.out _; (with_reducible repeat (first | refine blk_drewN ?_ _ | refine blk_drew ?_ | refine blk_alloc ?_ _)); exact BK332.out) hb); have n14_ := Aside0.mk (blk_below (g := gb339) (o := .cells #[.int .i64 6, .int .i64 (wrap64 ((x5_2.length : Int) + 1)), .int .i64 0, .int .i64 0, .slice Ao90 y333.length co90, .slice Ao89 y336.length co89] 25 (0, 0)) (by (with_reducible repeat (first | refine blk_drewN ?_ _ | refine blk_drew ?_ | refine blk_alloc ?_ _)); refine blk_put (cs := #[.int .i64 6, .int .i64 (x5_2.length : Int), .int .i64 0, .int .i64 0, .slice Ao90 y333.length co90, .slice Ao89 y336.length co89]) ?_ 1 _ rfl; (with_reducible repeat (first | refine blk_drewN ?_ _ | refine blk_drew ?_ | refine blk_alloc ?_ _)); exact BK339.out) hb); have n15_ := Aside0.mk (below_step (by repeat (first | (with_reducible first | exact HB.out | apply below_alloc | apply pw_below_drewN | apply below_drew1 | refine below_set ?_ GE300.out | refine below_set ?_ GE332.out | refine below_set ?_ GE339.out) | exact HB.out)) hb); clear HO_1; clear HO_5; clear HO_6; clear HO_7; clear HO_301004; clear HO_301005; clear HO328; clear HO331; clear HO335; clear HO338; clear HO342; clear HO346; clear BK300; clear BK332; clear BK339; clear HB; have HO_1 := n0_; have HO_5 := n1_; have HO_6 := n2_; have HO_7 := n3_; have HO_301004 := n4_; have HO_301005 := n5_; have HO328 := n6_; have HO331 := n7_; have HO335 := n8_; have HO338 := n9_; have HO342 := n10_; have HO346 := n11_; have BK300 := n12_; have BK332 := n13_; have BK339 := n14_; have HB := n15_; clear n0_ n1_ n2_ n3_ n4_ n5_ n6_ n7_ n8_ n9_ n10_ n11_ n12_ n13_ n14_ n15_; (try clear hb); (try clear hb2); (try clear hk); (try clear hi); obtain ⟨Ao104, co104, eo104⟩ := Kd.R_slice HO342.out; subst eo104) | (go_at_call 16; (with_reducible refine (greenwoodref01_Same.calls k3 _ _ t340 _ _ l1 true _ ?side1 ?side2 ?side3 ?side4 A66.out).mono ?_); (case side1 => repeat (first | exact (Kd.R_reads' HO342.out).2.2 | (with_reducible refine Kd.C_alloc ?_ _) | (with_reducible refine Kd.C_drewN ?_ _) | (with_reducible refine Kd.C_drew ?_))); (case side2 => exact (Kd.R_reads' HO342.out).2.1); (case side3 => repeat (first | exact (Kd.V_reads' HO_1.out).2.2 | (with_reducible refine Kd.C_alloc ?_ _) | (with_reducible refine Kd.C_drewN ?_ _) | (with_reducible refine Kd.C_drew ?_))); (case side4 => exact (Kd.V_reads' HO_1.out).2.1); rintro e w' ⟨rfl, ⟨nd, rfl⟩⟩; obtain ⟨Ao105, co105, eo105⟩ := Kd.R_slice HO346.out; subst eo105) | (go_at_call 16; (with_reducible refine (greenwoodref01_Same.calls k3 _ _ t344 _ _ x5_2 true _ ?side1 ?side2 ?side3 ?side4 A69.out).mono ?_); (case side1 => repeat (first | exact (Kd.R_reads' HO346.out).2.2 | (with_reducible refine Kd.C_alloc ?_ _) | (with_reducible refine Kd.C_drewN ?_ _) | (with_reducible refine Kd.C_drew ?_))); (case side2 => exact (Kd.R_reads' HO346.out).2.1); (case side3 => repeat (first | exact (Kd.R_reads' HO_5.out).2.2 | (with_reducible refine Kd.C_alloc ?_ _) | (with_reducible refine Kd.C_drewN ?_ _) | (with_reducible refine Kd.C_drew ?_))); (case side4 => exact (Kd.R_reads' HO_5.out).2.1); rintro e w' ⟨rfl, ⟨nd, rfl⟩⟩; have hcz106_0 : w103.cell? ⟨gb339, 0, none⟩ = some (.int .i64 6) := (blk_cell BK339.out 0).trans rfl; have hcz106_1 : w103.cell? ⟨gb339, 1, none⟩ = some (.int .i64 (wrap64 ((x5_2.length : Int) + 1))) := (blk_cell BK339.out 1).trans rfl; have hcz106_2 : w103.cell? ⟨gb339, 2, none⟩ = some (.int .i64 0) := (blk_cell BK339.out 2).trans rfl; have hcz106_3 : w103.cell? ⟨gb339, 3, none⟩ = some (.int .i64 0) := (blk_cell BK339.out 3).trans rfl; have hcz106_4 : w103.cell? ⟨gb339, 4, none⟩ = some (.slice Ao90 y333.length co90) := (blk_cell BK339.out 4).trans rfl; have hcz106_5 : w103.cell? ⟨gb339, 5, none⟩ = some (.slice Ao89 y336.length co89) := (blk_cell BK339.out 5).trans rfl; have hfz106_0 := blk_frozen BK339.out 0; have hfz106_1 := blk_frozen BK339.out 1; have hfz106_2 := blk_frozen BK339.out 2; have hfz106_3 := blk_frozen BK339.out 3; have hfz106_4 := blk_frozen BK339.out 4; have hfz106_5 := blk_frozen BK339.out 5) | (go_at_call 12; (with_reducible refine (matroid_Check.calls 6 (wrap64 ((x5_2.length : Int) + 1)) 0 0 _ _ y333 _ _ y336 t351 _ ?side5 ?side1 ?side2 ?side3 ?side4 A71.out).mono ?_); (case side1 => repeat (first | exact (Kd.N_reads' HO335.out).2.2 | (with_reducible refine Kd.C_alloc ?_ _) | (with_reducible refine Kd.C_drewN ?_ _) | (with_reducible refine Kd.C_drew ?_))); (case side2 => exact (Kd.N_reads' HO335.out).2.1); (case side3 => repeat (first | exact (Kd.N_reads' HO338.out).2.2 | (with_reducible refine Kd.C_alloc ?_ _) | (with_reducible refine Kd.C_drewN ?_ _) | (with_reducible refine Kd.C_drew ?_))); (case side4 => exact (Kd.N_reads' HO338.out).2.1); (case side5 => exact EV.below HEV.out (by repeat (first | (with_reducible first | exact HB.out | apply below_alloc | apply pw_below_drewN | apply below_drew1 | refine below_set ?_ GE300.out | refine below_set ?_ GE332.out | refine below_set ?_ GE339.out) | exact HB.out)) (EV.pos HEV.out)); rintro e w107 ⟨rfl, hb⟩; have n0_ := Aside0.mk (Kd.V_below (by (with_reducible repeat (first | apply Kd.V_alloc | apply Kd.V_drewN | apply Kd.V_drew)); exact HO_1.out) hb); have n1_ := Aside0.mk (Kd.R_below (by (with_reducible repeat (first | apply Kd.R_alloc | apply Kd.R_drewN | apply Kd.R_drew)); exact HO_5.out) hb); have n2_ := Aside0.mk (Kd.R_below (by (with_reducible repeat (first | apply Kd.R_alloc | apply Kd.R_drewN | apply Kd.R_drew)); exact HO_6.out) hb); have n3_ := Aside0.mk (Kd.R_below (by (with_reducible repeat (first | apply Kd.R_alloc | apply Kd.R_drewN | apply Kd.R_drew)); exact HO_7.out) hb); have n4_ := Aside0.mk (Kd.V_below (by (with_reducible repeat (first | apply Kd.V_alloc | apply Kd.V_drewN | apply Kd.V_drew)); exact HO_301004.out) hb); have n5_ := Aside0.mk (Kd.V_below (by (with_reducible repeat (first | apply Kd.V_alloc | apply Kd.V_drewN | apply Kd.V_drew)); exact HO_301005.out) hb); have n6_ := Aside0.mk (Kd.N_below (by (with_reducible repeat (first | apply Kd.N_alloc | apply Kd.N_drewN | apply Kd.N_drew)); exact HO328.out) hb); have n7_ := Aside0.mk (Kd.N_below (by (with_reducible repeat (first | apply Kd.N_alloc | apply Kd.N_drewN | apply Kd.N_drew)); exact HO331.out) hb); have n8_ := Aside0.mk (Kd.N_below (by (with_reducible repeat (first | apply Kd.N_alloc | apply Kd.N_drewN | apply Kd.N_drew)); exact HO335.out) hb); have n9_ := Aside0.mk (Kd.N_below (by (with_reducible repeat (first | apply Kd.N_alloc | apply Kd.N_drewN | apply Kd.N_drew)); exact HO338.out) hb); have n10_ := Aside0.mk (Kd.R_below (by (with_reducible repeat (first | apply Kd.R_alloc | apply Kd.R_drewN | apply Kd.R_drew)); exact HO342.out) hb); have n11_ := Aside0.mk (Kd.R_below (by (with_reducible repeat (first | apply Kd.R_alloc | apply Kd.R_drewN | apply Kd.R_drew)); exact HO346.out) hb); have n12_ := Aside0.mk (blk_below (g := gb300) (o := .cells #[.int .i64 a0_0, .int .i64 a0_1, .int .i64 a0_2, .int .i64 a0_3, .slice A0_4 l0_4.length c0_4, .slice A0_5 l0_5.length c0_5] 25 (0, 0)) (by (with_reducible repeat (first | refine blk_drewN ?_ _ | refine blk_drew ?_ | refine blk_alloc ?_ _)); exact BK300.out) hb); have n13_ := Aside0.mk (blk_below (g := gb332) (o := .cells #[.int .i64 5, .int .i64 (l1.length : Int), .int .i64 0, .int .i64 0, .slice Ao78 y326.length co78, .slice Ao77 y329.length co77] 25 (0, 0)) (by (with_reducible repeat (first | refine blk_drewN ?_ _ | refine blk_drew ?_ | refine blk_alloc ?_ _)); exact BK332.out) hb); have n14_ := Aside0.mk (blk_below (g := gb339) (o := .cells #[.int .i64 6, .int .i64 (wrap64 ((x5_2.length : Int) + 1)), .int .i64 0, .int .i64 0, .slice Ao90 y333.length co90, .slice Ao89 y336.length co89] 25 (0, 0)) (by (with_reducible repeat (first | refine blk_drewN ?_ _ | refine blk_drew ?_ | refine blk_alloc ?_ _)); exact BK339.out) hb); have n15_ := Aside0.mk (below_step (by repeat (first | (with_reducible first | exact HB.out | apply below_alloc | apply pw_below_drewN | apply below_drew1 | refine below_set ?_ GE300.out | refine below_set ?_ GE332.out | refine below_set ?_ GE339.out) | exact HB.out)) hb); clear HO_1; clear HO_5; clear HO_6; clear HO_7; clear HO_301004; clear HO_301005; clear HO328; clear HO331; clear HO335; clear HO338; clear HO342; clear HO346; clear BK300; clear BK332; clear BK339; clear HB; have HO_1 := n0_; have HO_5 := n1_; have HO_6 := n2_; have HO_7 := n3_; have HO_301004 := n4_; have HO_301005 := n5_; have HO328 := n6_; have HO331 := n7_; have HO335 := n8_; have HO338 := n9_; have HO342 := n10_; have HO346 := n11_; have BK300 := n12_; have BK332 := n13_; have BK339 := n14_; have HB := n15_; clear n0_ n1_ n2_ n3_ n4_ n5_ n6_ n7_ n8_ n9_ n10_ n11_ n12_ n13_ n14_ n15_; (try clear hb); (try clear hb2); (try clear hk); (try clear hi)))
               go_ret
               exact ⟨by first | rfl | (simp [errW_none, errW_some] <;> rfl) | (simp [*, errW_none, errW_some] <;> rfl), by repeat (first | (with_reducible first | exact HB.out | apply below_alloc | apply pw_below_drewN | apply below_drew1 | refine below_set ?_ GE300.out | refine below_set ?_ GE332.out | refine below_set ?_ GE339.out) | exact HB.out)⟩
              ·replace c70 := Bool.eq_false_iff.mpr c70
               subst c70
               have H1 : (some false) = some r := by rw [if_neg (show ¬ (false = true) by decide)] at H; exact H
               clear H
               have H := H1
               clear H1
               exact absurd ((Option.some.inj H).trans hrT) (by decide)
             ·replace c68 := Bool.eq_false_iff.mpr c68
              subst c68
              have H1 : (some false) = some r := by rw [if_neg (show ¬ (false = true) by decide)] at H; exact H
              clear H
              have H := H1
              clear H1
              exact absurd ((Option.some.inj H).trans hrT) (by decide)
            ·replace c67 := Bool.eq_false_iff.mpr c67
             subst c67
             have H1 : (some false) = some r := by rw [if_neg (show ¬ (false = true) by decide)] at H; exact H
             clear H
             have H := H1
             clear H1
             exact absurd ((Option.some.inj H).trans hrT) (by decide)
           ·replace c65 := Bool.eq_false_iff.mpr c65
            subst c65
            have H1 : (some false) = some r := by rw [if_neg (show ¬ (false = true) by decide)] at H; exact H
            clear H
            have H := H1
            clear H1
            exact absurd ((Option.some.inj H).trans hrT) (by decide)
          ·rw [if_neg c64] at H
           have c64b0 : (t348 == 0) = false := beq_eq_false_iff_ne.mpr c64
           have c64b1 : (t348 != 0) = true := bne_iff_ne.mpr c64
           exact absurd ((Option.some.inj H).trans hrT) (by decide)

end Go.Proofs.YtgbmlkmkfigolaaDoor.P
/- The law MatroidParts, with no program in sight. -/
namespace Go.Proofs.YtgbmlkmkfigolaaDoor.P
open Go.RowKit Go.Proofs.YtgbmlkmkfigolaaDoorW.PrintWords Go.Proofs.YtgbmlkmkfigolaaDoorW.PrintLast Go.Proofs.YtgbmlkmkfigolaaDoorW.PrintMore NumTh
set_option linter.unusedVariables false
set_option linter.unusedSimpArgs false

theorem lin_ev (l : List Int) (x : Int) (hn : l.length ≤ 9223372036854775807) : Ev (fun k => greenwoodlaw09_in.f k l x) (l.contains x) := by
 unfold greenwoodlaw09_in.f
 have key : ∀ (d i : Nat), l.length - i = d → i ≤ l.length → Ev (fun k => greenwoodlaw09_in.l0 k l x (i : Int)) ((l.drop i).contains x) := by
  intro d
  induction d with
  | zero =>
   intro i h1 h2
   refine Ev.step (fun k => by rw [greenwoodlaw09_in.l0]) ?_
   refine Ev.ifn (by omega) (Ev.val ?_)
   rw [List.drop_of_length_le (by omega)]; rfl
  | succ d ih =>
   intro i h1 h2
   have hi : i < l.length := by omega
   refine Ev.step (fun k => by rw [greenwoodlaw09_in.l0]) ?_
   refine Ev.ifp (by omega) (Ev.ifp (by omega) ?_)
   rw [rd_at hi, List.drop_eq_getElem_cons hi, List.contains_cons, w1b hi hn]
   by_cases e : l[i] = x
   ·refine Ev.ifp e (Ev.val ?_)
    simp [e]
   ·refine Ev.ifn e ?_
    have e' : (x == l[i]) = false := by simp; omega
    rw [e', Bool.false_or]
    exact ih (i + 1) (by omega) (by omega)
 exact key l.length 0 (by omega) (by omega)
/-- what is restricted, and what is contracted -/
def resM (m : Mtr) (l : List Int) : Mtr := ⟨5, (l.length : Int), 0, 0, [l], [m]⟩
def conM (m : Mtr) (l : List Int) (n : Int) : Mtr := ⟨6, n, 0, 0, [l], [m]⟩
theorem res_chk {m : Mtr} {l : List Int} (h : chkN m = 0) (hd : deepV 4 m ≤ 3) (hs : setB l m.f1 = true) : chkN (resM m l) = 0 := by
 have hn := chkN_n h
 have hl := part_len hn.1 (by omega) hs
 refine (chkN_nest (m := resM m l) (show nestsB (5 : Int) = true by decide)).2 ⟨?_, fun x hx => ?_⟩
 ·rw [lclB_n (m := resM m l) (show 0 ≤ (l.length : Int) ∧ (l.length : Int) ≤ 64 by omega) (show (0 : Int) ≤ 0 ∧ (0 : Int) ≤ 64 by omega), if_pos (show nestsB (resM m l).f0 = true from rfl)]
  rw [outer_56 (m := resM m l) (.inl rfl) rfl rfl rfl, if_pos (show (resM m l).f0 = 5 from rfl)]
  show (decide (1 = 1) && setB l m.f1 && decide ((l.length : Int) = (l.length : Int))) = true
  rw [hs]; simp
 ·have e : x = m := List.mem_singleton.1 hx
  subst e; exact ⟨h, hd⟩
theorem con_lcl {m : Mtr} {l : List Int} {n : Int} (hn0 : 0 ≤ n ∧ n ≤ 64) (hs : setB l m.f1 = true) : lclB (conM m l n) = decide (n = wrap64 (m.f1 - (l.length : Int))) := by
 rw [lclB_n (m := conM m l n) hn0 (show (0 : Int) ≤ 0 ∧ (0 : Int) ≤ 64 by omega), if_pos (show nestsB (conM m l n).f0 = true from rfl)]
 rw [outer_56 (m := conM m l n) (.inr rfl) rfl rfl rfl, if_neg (show ¬ (conM m l n).f0 = 5 from (by decide : ¬ (6 : Int) = 5))]
 show (decide (1 = 1) && setB l m.f1 && decide (n = wrap64 (m.f1 - (l.length : Int)))) = _
 rw [hs]; simp
theorem con_chk {m : Mtr} {l : List Int} (h : chkN m = 0) (hd : deepV 4 m ≤ 3) (hs : setB l m.f1 = true) (n : Int) : chkN (conM m l n) = (if n = m.f1 - (l.length : Int) then 0 else 90) := by
 have hn := chkN_n h
 have hl := part_len hn.1 (by omega) hs
 have hw : wrap64 (m.f1 - (l.length : Int)) = m.f1 - (l.length : Int) := by unfold wrap64; omega
 have hdd : ¬ 4 < deepV 4 (conM m l n) := by
  rw [deepV_nests (j := 3) (m := conM m l n) (show nestsB (6 : Int) = true by decide)]
  show ¬ 4 < max 0 (deepV 3 m) + 1
  have h3 : deepV 3 m ≤ deepV 4 m := deepV_mono 3 m
  omega
 by_cases e : n = m.f1 - (l.length : Int)
 ·rw [if_pos e]
  refine (chkN_nest (m := conM m l n) (show nestsB (6 : Int) = true by decide)).2 ⟨?_, fun x hx => ?_⟩
  ·rw [con_lcl (by omega) hs, hw]
   exact decide_eq_true e
  ·have e : x = m := List.mem_singleton.1 hx
   subst e; exact ⟨h, hd⟩
 ·rw [if_neg e]
  unfold chkN
  rw [if_neg hdd]
  have : chkV 4 (conM m l n) = false := by
   cases hc : chkV 4 (conM m l n) with
   | false => rfl
   | true =>
    have h1 := (chkV_iff.1 hc).1
    have h2 : 0 ≤ n ∧ n ≤ 64 := chk_n hc
    rw [con_lcl h2 hs, hw] at h1
    exact absurd (of_decide_eq_true h1) e
  rw [this, if_neg (by decide)]
theorem map_rd : ∀ (l : List Int), (allV (l.length : Int)).map (rd l) = l := by
 intro l
 apply List.ext_getElem?
 intro i
 unfold allV
 rw [show ((l.length : Int)).toNat = l.length from rfl, List.map_map, List.getElem?_map]
 by_cases h : i < l.length
 ·rw [List.getElem?_range h, List.getElem?_eq_getElem h]
  show some (rd l (i : Int)) = _
  rw [rd_at h]
 ·rw [List.getElem?_eq_none (by rw [List.length_range]; omega), List.getElem?_eq_none (by omega)]; rfl
theorem set_all (n : Int) (h : n ≤ 1099511627776) : setB (allV n) n = true := (setB_iff _ _ h).2 ⟨fun x hx => allV_mem.1 hx, allV_pw n⟩
theorem img_res {m : Mtr} {l : List Int} (h : chkN m = 0) (hd : deepV 4 m ≤ 3) (hs : setB l m.f1 = true) : imgV (resM m l) (allV (l.length : Int)) = (l, true) := by
 have hn := chkN_n h
 have hl := part_len hn.1 (by omega) hs
 unfold imgV
 rw [if_neg (by rw [res_chk h hd hs]; simp [resM]), if_neg (by rw [show (resM m l).f1 = (l.length : Int) from rfl, set_all _ (by omega)]; decide)]
 have e : rowV (resM m l) = l := by
  unfold rowV
  rw [if_neg (show ¬ (resM m l).f0 = 6 from (by decide : ¬ (5 : Int) = 6))]; rfl
 rw [e, map_rd]
theorem img_con {m : Mtr} {l : List Int} (h : chkN m = 0) (hd : deepV 4 m ≤ 3) (hs : setB l m.f1 = true) : imgV (conM m l ((minusV (allV m.f1) l).length : Int)) (allV ((minusV (allV m.f1) l).length : Int)) = (minusV (allV m.f1) l, true) := by
 have hn := chkN_n h
 have hl := part_len hn.1 (by omega) hs
 unfold imgV
 rw [if_neg (by rw [con_chk h hd hs, if_pos hl.1]; simp [conM]), if_neg (by rw [show ∀ n, (conM m l n).f1 = n from fun _ => rfl, set_all _ (by omega)]; decide)]
 have e : ∀ n, rowV (conM m l n) = minusV (allV m.f1) l := fun n => by
  unfold rowV
  rw [if_pos (show (conM m l n).f0 = 6 from rfl)]; rfl
 rw [e, map_rd]
theorem minus_snoc (l : List Int) (i : Nat) : minusV (allV ((i + 1 : Nat) : Int)) l = if l.contains (i : Int) = true then minusV (allV (i : Int)) l else minusV (allV (i : Int)) l ++ [(i : Int)] := by
 have e : allV ((i + 1 : Nat) : Int) = allV (i : Int) ++ [(i : Int)] := by
  unfold allV
  rw [show (((i + 1 : Nat) : Int)).toNat = i + 1 from rfl, show ((i : Int)).toNat = i from rfl, List.range_succ, List.map_append]; rfl
 unfold minusV
 rw [e, List.filter_append]
 cases hc : l.contains (i : Int) with
 | true => rw [if_pos rfl, List.filter_cons_of_neg (by rw [hc]; decide)]; simp
 | false => rw [if_neg (by decide), List.filter_cons_of_pos (by rw [hc]; decide)]; rfl
theorem all_snoc (n : Nat) : allV (n : Int) ++ [(n : Int)] = allV ((n + 1 : Nat) : Int) := by
 unfold allV
 rw [show (((n + 1 : Nat) : Int)).toNat = n + 1 from rfl, show ((n : Int)).toNat = n from rfl, List.range_succ, List.map_append]; rfl
theorem parts_end (m : Mtr) (l : List Int) (ho : OkS m) (h : chkN m = 0) (hd : deepV 4 m ≤ 3) (hs : setB l m.f1 = true) : ∀ (d i : Nat), l.length - i = d → i ≤ l.length →
 Ev (fun k => greenwoodlaw09_MatroidParts.l1 k l (minusV (allV m.f1) l) (allV ((minusV (allV m.f1) l).length : Int)) (allV (i : Int)) (i : Int) m.f0 m.f1 m.f2 m.f3 m.f4 m.f5) true := by
 obtain ⟨a0, a1, a2, a3, l4, l5⟩ := m
 have hn : 0 ≤ a1 ∧ a1 ≤ 64 := chkN_n h
 have hl : ((minusV (allV a1) l).length : Int) = a1 - (l.length : Int) ∧ (l.length : Int) ≤ a1 := part_len hn.1 (by omega) hs
 replace hs : setB l a1 = true := hs
 intro d
 induction d with
 | zero =>
  intro i h1 h2
  have hi : i = l.length := by omega
  subst hi
  show Ev (fun k => greenwoodlaw09_MatroidParts.l1 k l (minusV (allV a1) l) (allV ((minusV (allV a1) l).length : Int)) (allV (l.length : Int)) (l.length : Int) a0 a1 a2 a3 l4 l5) true
  refine Ev.step (fun k => by rw [greenwoodlaw09_MatroidParts.l1]) ?_
  refine Ev.ifn (by omega) ?_
  refine Ev.bnd ?_
  refine Ev.bnd ?_
  refine Ev.bnd ?_
  refine Ev.bnd ?_
  have okl : ∀ q ∈ [l], q.length ≤ 9223372036854775807 := fun q hq => by
   rw [List.mem_singleton.1 hq]; omega
  have okm : ∀ q ∈ [(⟨a0, a1, a2, a3, l4, l5⟩ : Mtr)], OkS q := fun q hq => by
   rw [List.mem_singleton.1 hq]; exact ho
  have o1 : OkS (resM ⟨a0, a1, a2, a3, l4, l5⟩ l) := .mk (by simp [resM]) okl (by simp [resM]) okm
  have o2 : ∀ n, OkS (conM ⟨a0, a1, a2, a3, l4, l5⟩ l n) := fun n => .mk (by simp [conM]) okl (by simp [conM]) okm
  have i1 := img_ev (resM ⟨a0, a1, a2, a3, l4, l5⟩ l) (allV (l.length : Int)) o1 (by rw [allV_len]; omega)
  rw [img_res h hd hs] at i1
  have i2 := img_ev (conM ⟨a0, a1, a2, a3, l4, l5⟩ l ((minusV (allV a1) l).length : Int)) (allV ((minusV (allV a1) l).length : Int)) (o2 _) (by rw [allV_len]; omega)
  rw [img_con h hd hs] at i2
  refine Ev.bind i1 ?_
  refine Ev.bind i2 ?_
  refine Ev.bnd ?_
  have e0 : chkN ⟨5, (l.length : Int), 0, 0, [l], [⟨a0, a1, a2, a3, l4, l5⟩]⟩ = 0 := res_chk h hd hs
  refine Ev.ifp e0 ?_
  refine Ev.ifp rfl ?_
  refine Ev.bind (same_ev _ _ (by show l.length ≤ _; omega)) ?_
  refine Ev.ifp (decide_eq_true rfl) ?_
  refine Ev.ifp rfl ?_
  refine Ev.bind (same_ev _ _ (by show (minusV (allV a1) l).length ≤ _; omega)) ?_
  refine Ev.ifp (decide_eq_true rfl) ?_
  refine Ev.bnd ?_
  refine Ev.val ?_
  have e : chkN (conM ⟨a0, a1, a2, a3, l4, l5⟩ l (wrap64 (((minusV (allV a1) l).length : Int) + 1))) = 90 := by
   rw [con_chk h hd hs, if_neg]
   have hw : wrap64 (((minusV (allV a1) l).length : Int) + 1) = ((minusV (allV a1) l).length : Int) + 1 := by unfold wrap64; omega
   show ¬ wrap64 (((minusV (allV a1) l).length : Int) + 1) = a1 - (l.length : Int)
   rw [hw]; omega
  exact beq_iff_eq.2 e
 | succ d ih =>
  intro i h1 h2
  show Ev (fun k => greenwoodlaw09_MatroidParts.l1 k l (minusV (allV a1) l) (allV ((minusV (allV a1) l).length : Int)) (allV (i : Int)) (i : Int) a0 a1 a2 a3 l4 l5) true
  refine Ev.step (fun k => by rw [greenwoodlaw09_MatroidParts.l1]) ?_
  refine Ev.ifp (by omega) ?_
  refine Ev.ifp (by rw [allV_len]; omega) ?_
  rw [all_snoc, w1b (show i < l.length by omega) (by omega)]
  exact ih (i + 1) (by omega) (by omega)
theorem parts_l0 (m : Mtr) (l : List Int) (ho : OkS m) (h : chkN m = 0) (hd : deepV 4 m ≤ 3) (hs : setB l m.f1 = true) : ∀ (d i : Nat), m.f1.toNat - i = d → i ≤ m.f1.toNat →
 Ev (fun k => greenwoodlaw09_MatroidParts.l0 k l (minusV (allV (i : Int)) l) (allV ((minusV (allV (i : Int)) l).length : Int)) [] (i : Int) m.f0 m.f1 m.f2 m.f3 m.f4 m.f5) true := by
 have hn := chkN_n h
 have hl := part_len hn.1 (by omega) hs
 intro d
 induction d with
 | zero =>
  intro i h1 h2
  have e : (i : Int) = m.f1 := by omega
  refine Ev.step (fun k => by rw [greenwoodlaw09_MatroidParts.l0]) ?_
  refine Ev.ifn (by omega) ?_
  rw [e]
  exact parts_end m l ho h hd hs l.length 0 rfl (Nat.zero_le _)
 | succ d ih =>
  intro i h1 h2
  have q1 : m.f1.toNat - (i + 1) = d := by omega
  have q2 : i + 1 ≤ m.f1.toNat := by omega
  have q3 : (i : Int) < m.f1 := by omega
  have q4 : l.length ≤ 9223372036854775807 := by omega
  have q5 : i ≤ 64 := by omega
  have hw := w1b (show i < m.f1.toNat by omega) (show m.f1.toNat ≤ 9223372036854775807 by omega)
  have hnext := ih (i + 1) q1 q2
  clear ih h1 h2 hl hn q1 q2
  refine Ev.step (fun k => by rw [greenwoodlaw09_MatroidParts.l0]) ?_
  refine Ev.ifp q3 ?_
  refine Ev.bind (lin_ev l (i : Int) q4) ?_
  have hm : (minusV (allV (i : Int)) l).length ≤ i := by
   have : (minusV (allV (i : Int)) l).length ≤ (allV (i : Int)).length := List.length_filter_le ..
   rw [allV_len] at this; omega
  rw [minus_snoc] at hnext
  cases hc : l.contains (i : Int) with
  | true =>
   rw [hc, if_pos rfl] at hnext
   refine Ev.ifp rfl ?_
   rw [hw]
   exact hnext
  | false =>
   rw [hc, if_neg (by decide)] at hnext
   refine Ev.ifn (by decide) ?_
   refine Ev.ifp (by omega) ?_
   refine Ev.ifp (by rw [allV_len]; omega) ?_
   have e1 : ((allV ((minusV (allV (i : Int)) l).length : Int)).length : Int) = ((minusV (allV (i : Int)) l).length : Int) := by rw [allV_len]; omega
   have e2 : ((minusV (allV (i : Int)) l ++ [(i : Int)]).length) = (minusV (allV (i : Int)) l).length + 1 := by rw [List.length_append]; rfl
   rw [e1, all_snoc, hw]
   rw [e2] at hnext
   exact hnext
theorem MatroidParts_ev (m : Mtr) (l : List Int) (ho : OkS m) (hl : l.length ≤ 9223372036854775807) : Ev (fun k => greenwoodlaw09_MatroidParts.f k m.f0 m.f1 m.f2 m.f3 m.f4 m.f5 l) true := by
 unfold greenwoodlaw09_MatroidParts.f
 refine Ev.bnd ?_
 refine Ev.ifp rfl ?_
 obtain ⟨b, hb⟩ := small_ev m ho
 refine Ev.bind hb ?_
 have hyes : ∀ q, q = true → Ev (fun k => greenwoodlaw09_MatroidParts.j0 k l q m.f0 m.f1 m.f2 m.f3 m.f4 m.f5) true := fun q hq => by
  subst hq
  refine Ev.step (fun k => by rw [greenwoodlaw09_MatroidParts.j0]) ?_
  refine Ev.ifp rfl ?_
  exact Ev.bnd (Ev.val rfl)
 cases b with
 | false => exact Ev.ifn (by decide) (hyes _ rfl)
 | true =>
  refine Ev.ifp rfl ?_
  refine Ev.bnd ?_
  by_cases h : chkN m = 0
  ·refine Ev.ifp h ?_
   refine Ev.bind (Deep_ev m ho) ?_
   by_cases hd : deepV 4 m > 3
   ·exact Ev.ifp hd (hyes _ rfl)
   ·refine Ev.ifn hd ?_
    refine Ev.bind (rSet_ev l m.f1 hl) ?_
    cases hs : setB l m.f1 with
    | false => exact hyes _ rfl
    | true =>
     refine Ev.step (fun k => by rw [greenwoodlaw09_MatroidParts.j0]) ?_
     refine Ev.ifn (by decide) ?_
     exact parts_l0 m l ho h (by omega) hs m.f1.toNat 0 rfl (Nat.zero_le _)
  ·exact Ev.ifn h (hyes _ rfl)
end Go.Proofs.YtgbmlkmkfigolaaDoor.P
/- What came in, opened kind by kind: an argument's reading tells a list (of lists ..) that its cells hold. -/
namespace Go.Proofs.YtgbmlkmkfigolaaDoor.P
open Go.RowKit Go.Proofs.YtgbmlkmkfigolaaDoorW.PrintWords Go.Proofs.YtgbmlkmkfigolaaDoorW.PrintLast Go.Proofs.YtgbmlkmkfigolaaDoorW.PrintMore
set_option linter.unusedVariables false
set_option linter.unusedSimpArgs false

structure Opens (P : Program) (t : TypeId) {α : Type} (d : Kd α) (q : α → Prop) : Prop where
 sz : P.cellsOf t = d.sz
 op : ∀ {H : Type} {enc : TypeId × Value → H} {w : World} {base fuel : Nat} {held : Bool} {cs : List Value} {x : DataW H × List MemPlace}, DataW.trod enc P w base (fun _ => true) held fuel t cs = some x → ∃ a : α, d.K w a cs ∧ q a
section
variable {P : Program} {α : Type} {d : Kd α} {q : α → Prop}
theorem opens_int {t : TypeId} {k : IntKind} (ht : P.underlying t = some (.int k)) (hs : P.cellsOf t = 1) : Opens P t (Kd.int k) (fun n => (Lit.int k n).wf = true) :=
 ⟨hs, fun h => by
  obtain ⟨n, rfl, _, hw⟩ := DataW.trod_int ht h
  exact ⟨n, rfl, hw⟩⟩
theorem Opens.mono {t : TypeId} {q' : α → Prop} (h : Opens P t d q) (hq : ∀ a, q a → q' a) : Opens P t d q' :=
 ⟨h.sz, fun ht => by obtain ⟨a, hk, ha⟩ := h.op ht; exact ⟨a, hk, hq a ha⟩⟩
theorem opens_slice {t e : TypeId} (e' : Nat) (ht : P.underlying t = some (.slice e)) (hs : P.cellsOf t = 1) (h : Opens P e d q) : Opens P t (Kd.slice e' d) (fun l => l.length ≤ maxLen ∧ ∀ x ∈ l, q x) :=
 ⟨hs, fun {H enc w base fuel held cs x} htr => by
  rcases Deep.open_slice ht htr with ⟨rfl, _⟩ | ⟨a, len, cap, m, n, D, Pl, rfl, hb, hl, hm, hmm, _, hx⟩
  ·exact ⟨[], ⟨none, 0, rfl, Nat.le_refl _, Kd.C_nil d w⟩, Nat.zero_le _, fun x hx => by cases hx⟩
  ·simp only [if_true] at hmm
   have each : ∀ i, i < len → ∃ y : α, (∃ cs', w.cells? base (a.add (i * P.cellsOf e)) (P.cellsOf e) = some cs' ∧ d.K w y cs') ∧ q y := by
    intro i hi
    obtain ⟨cs', h1, h2⟩ := hx i (by omega)
    obtain ⟨y, hy, hqy⟩ := h.op h2
    exact ⟨y, ⟨cs', h1, hy⟩, hqy⟩
   by_cases h0 : len = 0
   ·subst h0
    refine ⟨[], ⟨some a, cap, rfl, Nat.zero_le _, rfl, by simp, fun h => absurd h (Nat.lt_irrefl 0)⟩, Nat.zero_le _, fun x hx => by cases hx⟩
   ·obtain ⟨y0, _, _⟩ := each 0 (by omega)
    have : Inhabited α := ⟨y0⟩
    obtain ⟨f, hf⟩ := Deep.choose_lt each
    have hlen : ((List.range len).map f).length = len := by simp
    refine ⟨(List.range len).map f, ⟨some a, cap, by rw [hlen], by rw [hlen]; exact hl, ⟨rfl, by rw [hlen]; unfold maxLen at hm; omega, fun _ => ⟨a, rfl, fun j p hj => ?_⟩⟩⟩, by rw [hlen]; omega, fun x hx => ?_⟩
    ·have hjl := (List.getElem?_eq_some_iff.1 hj).1
     rw [hlen] at hjl
     rw [List.getElem?_map, List.getElem?_range hjl] at hj
     have hj' : f j = p := by simpa using hj
     subst hj'
     obtain ⟨⟨cs', h1, h2⟩, _⟩ := hf j hjl
     obtain ⟨_, hcl, hcell⟩ := World.cells?_some h1
     refine ⟨cs', by rw [hcl, h.sz], h2, fun i u hu => ?_⟩
     have hil := (List.getElem?_eq_some_iff.1 hu).1
     have := hcell i (by omega)
     rw [Deep.add_add, hu, h.sz] at this
     exact this
    ·obtain ⟨i, hi, rfl⟩ := List.mem_map.1 hx
     exact (hf i (List.mem_range.1 hi)).2⟩
/-- an argument that is a slice -/
theorem Opens.arg {t : TypeId} {e' : Nat} (h : Opens P t (Kd.slice e' d) (fun l => l.length ≤ maxLen ∧ ∀ x ∈ l, q x)) {H : Type} {enc : TypeId × Value → H} {w : World} {base : Nat} {held : Bool} {v : Value} {dd : DataW H} {ps : List MemPlace} {a : Option Addr} {len cap : Nat} (hv : v = .slice a len cap)
 (ht : DataW.Trod enc P w base (fun _ => true) held t v dd ps) : ∃ l : List α, len = l.length ∧ l.length ≤ cap ∧ d.C w a l.length l ∧ l.length ≤ maxLen ∧ ∀ x ∈ l, q x := by
 obtain ⟨fuel, hf⟩ := ht
 obtain ⟨l, ⟨A, c, hcs, hl, hC⟩, hq1, hq2⟩ := h.op hf
 subst hv
 simp only [Value.cells] at hcs
 have hcs' : Value.slice a len cap = Value.slice A l.length c := by simpa using hcs
 injection hcs' with e1 e2 e3
 subst e1 e2 e3
 exact ⟨l, rfl, hl, hC, hq1, hq2⟩
end
/-- what came in is only read: it may be shared -/
theorem V_of_C {α : Type} {d : Kd α} (hd : Kd.Heap d) {e base c : Nat} {w : World} {A : Option Addr} {xs : List α} (h : d.C w A xs.length xs) (hc : xs.length ≤ c) : Kd.V d e w base (fun _ => True) (.slice A xs.length c) xs :=
 Kd.V_mk hc (fun W' hW => hd.C (fun k hk => hW k trivial hk) h)
end Go.Proofs.YtgbmlkmkfigolaaDoor.P
/- What a tied row's premise gives a walk: the one variable of the library's, laid; a world that meets it. (Turned from a worked proof of the kit.) -/
namespace Go.Proofs.YtgbmlkmkfigolaaDoor.P
open Go.ChangeShapes Go.WideShapes Go.RowKit
set_option linter.unusedVariables false
set_option linter.unusedSimpArgs false

theorem td_et : Tryd.prog.globalNamed "errors.errorType" = some 0 := by kernel_rfl
theorem td_rt : (Tryd.prog.cutTypes.find? (·.1 == "internal/reflectlite.rtype")).map (·.2) = some 76 := by kernel_rfl
theorem td_oneRow : ((List.range 129).filter fun t => Tryd.prog.rowNamed t [101, 114, 114, 111, 114]) = [45] := by kernel_rfl
theorem td_size : Tryd.prog.types.size = 129 := by kernel_rfl
def laidE {H : Type} : List (String × DataW H) := [("errors.errorType", Rows.laid_errors_errorType)]
theorem ev_of_laid {W : World} (h : laidMetH Tryd.prog laidE W) : EV W := by
 have h' : laidMet Tryd.prog [] W ∧ handlesMet Tryd.prog laidE W := h
 obtain ⟨name, u, ty, e1, e2, e3, e4, e5⟩ := h'.2 _ (List.mem_singleton.2 rfl)
 have en : name = [101, 114, 114, 111, 114] := (Option.some.inj e1).symm
 subst en
 obtain rfl := Option.some.inj (td_rt.symm.trans e2)
 have hm : ty ∈ (List.range 129).filter fun t => Tryd.prog.rowNamed t [101, 114, 114, 111, 114] := List.mem_filter.2 ⟨List.mem_range.2 (by rw [← td_size]; exact e3), e4⟩
 rw [td_oneRow] at hm
 obtain rfl := List.mem_singleton.1 hm
 have hh : typeHandle Tryd.prog 45 = .pointer (some ⟨1, 45, none⟩) := by kernel_rfl
 rw [hh] at e5
 have := World.var?_cell td_et e5 0
 unfold EV
 simpa using this
noncomputable def laidWorld (os : Os) : World :=
 let w0 := World.holding Tryd.prog os ⟨#[], #[], []⟩
 { w0 with heap := w0.heap.modify 0 fun
  | .cells _ t frozen => .cells #[.iface 76 (.agg #[.pointer (some ⟨1, 45, none⟩)])] t frozen
  | o => o }
theorem laidWorld_met (os : Os) (args : Array Value) : laidMetH Tryd.prog laidE ((laidWorld os).forCall (fun _ _ => 0) ⟨#[], args, []⟩).memory :=
 laidMetH_of_parts (laidMet_nil _ _) (by kernel_rfl)
end Go.Proofs.YtgbmlkmkfigolaaDoor.P
/- What came in, opened: a matroid, and what lies within it. -/
namespace Go.Proofs.YtgbmlkmkfigolaaDoor.P
open Go.RowKit Go.WideShapes Go.Proofs.YtgbmlkmkfigolaaDoorW.PrintWords Go.Proofs.YtgbmlkmkfigolaaDoorW.PrintLast Go.Proofs.YtgbmlkmkfigolaaDoorW.PrintMore
set_option linter.unusedVariables false
set_option linter.unusedSimpArgs false

section
variable {P : Program} {α : Type} {d : Kd α} {q : α → Prop}
/-- a slice opened, its elements known to open with so much fuel -/
theorem slice_at {t e : TypeId} {H : Type} {enc : TypeId × Value → H} {w : World} {base n : Nat} {held : Bool} {cs : List Value} {x : DataW H × List MemPlace} (ht : P.underlying t = some (.slice e)) (hsz : P.cellsOf e = d.sz)
 (op : ∀ m, m < n → ∀ cs' x', DataW.trod enc P w base (fun _ => true) held m e cs' = some x' → ∃ y : α, d.K w y cs' ∧ q y) (h : DataW.trod enc P w base (fun _ => true) held n t cs = some x) :
 ∃ (l : List α) (A : Option Addr) (c : Nat), cs = [.slice A l.length c] ∧ l.length ≤ c ∧ d.C w A l.length l ∧ l.length ≤ maxLen ∧ ∀ x ∈ l, q x := by
 rcases DataW.trod_slice ht h with ⟨rfl, _⟩ | ⟨a, len, cap, elems, rest, m, hn, rfl, _, hb, hl, hm, hlen, hel, _, _⟩
 ·exact ⟨[], none, 0, rfl, Nat.le_refl _, Kd.C_nil d w, Nat.zero_le _, fun x hx => by cases hx⟩
 ·have each : ∀ i, i < len → ∃ y : α, (∃ cs', w.cells? base (a.add (i * P.cellsOf e)) (P.cellsOf e) = some cs' ∧ d.K w y cs') ∧ q y := by
   intro i hi
   have h1 := hel i hi
   rw [List.getElem?_eq_getElem (by omega)] at h1
   obtain ⟨cs', h2, h3⟩ := Option.bind_eq_some_iff.mp h1
   obtain ⟨y, hy, hqy⟩ := op m (by omega) cs' _ h3
   exact ⟨y, ⟨cs', h2, hy⟩, hqy⟩
  by_cases h0 : len = 0
  ·subst h0
   exact ⟨[], some a, cap, rfl, Nat.zero_le _, ⟨rfl, by simp, fun h => absurd h (Nat.lt_irrefl 0)⟩, Nat.zero_le _, fun x hx => by cases hx⟩
  ·obtain ⟨y0, _, _⟩ := each 0 (by omega)
   have : Inhabited α := ⟨y0⟩
   obtain ⟨f, hf⟩ := Deep.choose_lt each
   have hlen' : ((List.range len).map f).length = len := by simp
   refine ⟨(List.range len).map f, some a, cap, by rw [hlen'], by rw [hlen']; exact hl, ⟨rfl, by rw [hlen']; unfold maxLen at hm; omega, fun _ => ⟨a, rfl, fun j p hj => ?_⟩⟩, by rw [hlen']; omega, fun x hx => ?_⟩
   ·have hjl := (List.getElem?_eq_some_iff.1 hj).1
    rw [hlen'] at hjl
    rw [List.getElem?_map, List.getElem?_range hjl] at hj
    have hj' : f j = p := by simpa using hj
    subst hj'
    obtain ⟨⟨cs', h1, h2⟩, _⟩ := hf j hjl
    obtain ⟨_, hcl, hcell⟩ := World.cells?_some h1
    refine ⟨cs', by rw [hcl, hsz], h2, fun i u hu => ?_⟩
    have hil := (List.getElem?_eq_some_iff.1 hu).1
    have := hcell i (by omega)
    rw [Deep.add_add, hu, hsz] at this
    exact this
   ·obtain ⟨i, hi, rfl⟩ := List.mem_map.1 hx
    exact (hf i (List.mem_range.1 hi)).2
end
theorem cells_mat : Tryd.prog.cellsOf 25 = 6 := by kernel_rfl
theorem opens_rows : Opens Tryd.prog 22 (Kd.slice 26 (Kd.slice 3 (Kd.int .i64))) (fun _ => True) :=
 (opens_slice 26 Tryd.underlying22 (by kernel_rfl) (opens_slice 3 Tryd.underlying26 (by kernel_rfl) (opens_int Tryd.underlying3 (by kernel_rfl)))).mono (fun _ _ => trivial)
set_option maxRecDepth 100000 in
theorem trod_mat {H : Type} {enc : TypeId × Value → H} {w : World} {base : Nat} {held : Bool} : ∀ (fuel : Nat) (cs : List Value) (x : DataW H × List MemPlace), DataW.trod enc Tryd.prog w base (fun _ => true) held fuel 25 cs = some x →
 ∃ (a0 a1 a2 a3 : Int) (A4 : Option Addr) (c4 : Nat) (l4 : List (List Int)) (A5 : Option Addr) (c5 : Nat) (l5 : List Mtr), cs = [.int .i64 a0, .int .i64 a1, .int .i64 a2, .int .i64 a3, .slice A4 l4.length c4, .slice A5 l5.length c5] ∧ (∀ a ∈ [a0, a1, a2, a3], (Lit.int .i64 a).wf = true) ∧ Kd.C (Kd.slice 3 (Kd.int .i64)) w A4 l4.length l4 ∧ l4.length ≤ c4 ∧ Kd.C k25 w A5 l5.length l5 ∧ l5.length ≤ c5 := by
 intro fuel
 induction fuel using Nat.strongRecOn with
 | _ fuel ih =>
  intro cs x h
  obtain ⟨xs, n, rfl, _, hl, hlen, hf⟩ := DataW.trod_struct Tryd.underlying25 h
  rw [cells_mat] at hl
  match cs, hl with
  | [v0, v1, v2, v3, v4, v5], _ =>
   match xs, hlen with
   | [y0, y1, y2, y3, y4, y5], _ =>
    have g0 : DataW.trod enc Tryd.prog w base (fun _ => true) held n 3 [v0] = some y0 := hf 0 _ rfl
    have g1 : DataW.trod enc Tryd.prog w base (fun _ => true) held n 3 [v1] = some y1 := hf 1 _ rfl
    have g2 : DataW.trod enc Tryd.prog w base (fun _ => true) held n 3 [v2] = some y2 := hf 2 _ rfl
    have g3 : DataW.trod enc Tryd.prog w base (fun _ => true) held n 3 [v3] = some y3 := hf 3 _ rfl
    have g4 : DataW.trod enc Tryd.prog w base (fun _ => true) held n 22 [v4] = some y4 := hf 4 _ rfl
    have g5 : DataW.trod enc Tryd.prog w base (fun _ => true) held n 23 [v5] = some y5 := hf 5 _ rfl
    obtain ⟨a0, e0, _, w0⟩ := DataW.trod_int Tryd.underlying3 g0
    obtain ⟨a1, e1, _, w1⟩ := DataW.trod_int Tryd.underlying3 g1
    obtain ⟨a2, e2, _, w2⟩ := DataW.trod_int Tryd.underlying3 g2
    obtain ⟨a3, e3, _, w3⟩ := DataW.trod_int Tryd.underlying3 g3
    obtain ⟨l4, ⟨A4, c4, e4, hc4, hr4⟩, _⟩ := opens_rows.op g4
    obtain ⟨l5, A5, c5, e5, hc5, hr5, _, _⟩ := slice_at (d := k25) (q := fun _ => True) Tryd.underlying23 (by rw [cells_mat]; rfl) (fun m hm cs' x' ht => by
     obtain ⟨b0, b1, b2, b3, B4, d4, k4, B5, d5, k5, rfl, _, q4, p4, q5, p5⟩ := ih m (by omega) cs' x' ht
     exact ⟨⟨b0, b1, b2, b3, k4, k5⟩, k25_mk w ⟨b0, b1, b2, b3, k4, k5⟩ p4 q4 p5 q5, trivial⟩) g5
    have e0 := List.head_eq_of_cons_eq e0
    have e1 := List.head_eq_of_cons_eq e1
    have e2 := List.head_eq_of_cons_eq e2
    have e3 := List.head_eq_of_cons_eq e3
    have e4 := List.head_eq_of_cons_eq e4
    have e5 := List.head_eq_of_cons_eq e5
    subst e0 e1 e2 e3 e4 e5
    refine ⟨a0, a1, a2, a3, A4, c4, l4, A5, c5, l5, rfl, fun a ha => ?_, hr4, hc4, hr5, hc5⟩
    simp only [List.mem_cons, List.not_mem_nil, or_false] at ha
    rcases ha with rfl | rfl | rfl | rfl <;> assumption
set_option maxRecDepth 100000 in
theorem mat_arg {r : Reach} {H : Type} {enc : TypeId × Value → H} {w W0 : World} {base b0 : Nat} {held : Bool} {v : Value} {dd : DataW H} {ps : List MemPlace} (hv : Value.okWide Tryd.prog W0 r b0 25 v)
 (ht : DataW.Trod enc Tryd.prog w base (fun _ => true) held 25 v dd ps) :
 ∃ (a0 a1 a2 a3 : Int) (A4 : Option Addr) (c4 : Nat) (l4 : List (List Int)) (A5 : Option Addr) (c5 : Nat) (l5 : List Mtr), v = .agg #[.int .i64 a0, .int .i64 a1, .int .i64 a2, .int .i64 a3, .slice A4 l4.length c4, .slice A5 l5.length c5] ∧ Kd.C (Kd.slice 3 (Kd.int .i64)) w A4 l4.length l4 ∧ l4.length ≤ c4 ∧ Kd.C k25 w A5 l5.length l5 ∧ l5.length ≤ c5 ∧ OkS ⟨a0, a1, a2, a3, l4, l5⟩ ∧ ∀ a ∈ [a0, a1, a2, a3], (Lit.int .i64 a).wf = true := by
 obtain ⟨cs, rfl, _⟩ := okWide_struct Tryd.underlying25 hv
 obtain ⟨fuel, hf⟩ := ht
 obtain ⟨a0, a1, a2, a3, A4, c4, l4, A5, c5, l5, e, hw, h4, p4, h5, p5⟩ := trod_mat fuel _ _ hf
 have e' : cs = #[.int .i64 a0, .int .i64 a1, .int .i64 a2, .int .i64 a3, .slice A4 l4.length c4, .slice A5 l5.length c5] := by
  apply Array.ext'
  exact e
 subst e'
 exact ⟨a0, a1, a2, a3, A4, c4, l4, A5, c5, l5, rfl, h4, p4, h5, p5, OkS_of (k25_mk w ⟨a0, a1, a2, a3, l4, l5⟩ p4 h4 p5 h5), hw⟩
end Go.Proofs.YtgbmlkmkfigolaaDoor.P
