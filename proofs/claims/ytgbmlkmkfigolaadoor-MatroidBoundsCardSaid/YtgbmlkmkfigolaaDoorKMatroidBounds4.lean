/- Texts of this claim's own repository, merged by wip/tool/pack.py: Px12, MatBd, Opn, TiedC, MatOpn. -/
import Derived.Deep.Slices
import Derived.ChangeArms
import Derived.ProofKit
import Derived.Test.YtgbmlkmkfigolaaDoorRows
import Derived.ChangeSame
import Derived.ChangeVars
import Derived.JoinedOf
import Derived.RowKit
import Derived.RowKitTokens
import Derived.LaidLaws
import Derived.LaidHandle
import Derived.Stop.Joined
import Derived.WideShapes
import Derived.Test.YtgbmlkmkfigolaaDoorKMatroidBounds3
set_option linter.unusedVariables false
set_option linter.unusedSimpArgs false
namespace Go.Proofs.YtgbmlkmkfigolaaDoor.P
open Go.RowKit Go.Proofs.YtgbmlkmkfigolaaDoorW.PrintWords Go.Proofs.YtgbmlkmkfigolaaDoorW.PrintLast Go.Proofs.YtgbmlkmkfigolaaDoorW.PrintMore
attribute [local go_sem] max2_int min2_int max_two min_two max_three min_three max_four min_four   -- for this text's walks alone
set_option linter.unusedVariables false
set_option linter.unusedSimpArgs false

/-! ### greenwoodlaw09_MatroidBounds: function 4 -/
mutual
def greenwoodlaw09_MatroidBounds.j0 : Nat → Bool → Int → Int → Int → Int → List (List Int) → List (S25) → Option (Bool)
 | 0, _, _, _, _, _, _, _ => none
 | k + 1, x14, x266000, x266001, x266002, x266003, x266004, x266005 => if x14 = true then ((greenwoodlaw09_fixed.f).bind fun t268 => (some t268)) else ((some (([(⟨x266000, x266001, x266002, x266003, x266004, x266005⟩ : S25)] : List (S25)) : List (S25))).bind fun y269 => ((matroid_Check.f x266000 x266001 x266002 x266003 x266004 x266005).bind fun t273 => ((matroid_Check.f 8 x266001 0 0 ([] : List (List Int)) y269).bind fun t274 => (if t273 = 0 then (greenwoodlaw09_MatroidBounds.l0 k t274 0 x266000 x266001 x266002 x266003 x266004 x266005 8 x266001 0 0 y269) else (some (t274 != 0))))))
def greenwoodlaw09_MatroidBounds.l0 : Nat → Int → Int → Int → Int → Int → Int → List (List Int) → List (S25) → Int → Int → Int → Int → List (S25) → Option (Bool)
 | 0, _, _, _, _, _, _, _, _, _, _, _, _, _ => none
 | k + 1, x5, x6, x266000, x266001, x266002, x266003, x266004, x266005, x273000, x273001, x273002, x273003, x273005 => if x6 < (x266005.length : Int) then (if 0 ≤ x6 then ((matroid_Check.f ((rd_T25 x266005 x6).f0) ((rd_T25 x266005 x6).f1) ((rd_T25 x266005 x6).f2) ((rd_T25 x266005 x6).f3) ((rd_T25 x266005 x6).f4) ((rd_T25 x266005 x6).f5)).bind fun t276 => (if t276 = 0 then ((matroid_Deep.f k ((rd_T25 x266005 x6).f0) ((rd_T25 x266005 x6).f1) ((rd_T25 x266005 x6).f2) ((rd_T25 x266005 x6).f3) ((rd_T25 x266005 x6).f4) ((rd_T25 x266005 x6).f5)).bind fun t278 => ((matroid_Deep.f k x266000 x266001 x266002 x266003 x266004 x266005).bind fun t279 => (if t278 ≥ t279 then (some false) else (greenwoodlaw09_MatroidBounds.l0 k x5 (wrap64 (x6 + 1)) x266000 x266001 x266002 x266003 x266004 x266005 x273000 x273001 x273002 x273003 x273005)))) else (some false))) else (none)) else ((matroid_Deep.f k x266000 x266001 x266002 x266003 x266004 x266005).bind fun t280 => (if x266001 < 0 then (some false) else (if x266001 > 64 then (some false) else (if t280 < 1 then (some false) else (if t280 > 4 then (some false) else ((matroid_Deep.f k x273000 x273001 x273002 x273003 ([] : List (List Int)) x273005).bind fun t281 => (if t281 = (wrap64 (t280 + 1)) then (if t280 = 4 then (if x5 = 91 then (some true) else (if t280 < 4 then (some (x5 == 0)) else (some false))) else (if t280 < 4 then (some (x5 == 0)) else (some false))) else (some false))))))))
end
def greenwoodlaw09_MatroidBounds.f (k : Nat) (a0_0 : Int) (a0_1 : Int) (a0_2 : Int) (a0_3 : Int) (l0_4 : List (List Int)) (l0_5 : List (S25)) : Option (Bool) := (greenwoodlaw09_fixed.f).bind fun t266 => (if t266 = true then ((greenwoodref09_Small.f k a0_0 a0_1 a0_2 a0_3 l0_4 l0_5).bind fun t267 => (greenwoodlaw09_MatroidBounds.j0 k (!t267) a0_0 a0_1 a0_2 a0_3 l0_4 l0_5)) else (greenwoodlaw09_MatroidBounds.j0 k true a0_0 a0_1 a0_2 a0_3 l0_4 l0_5))
def greenwoodlaw09_MatroidBounds.T10 : Bool × List (List Nat × List Nat) := (true, [([], []), ([0], [0]), ([], []), ([1, 2], [1, 2]), ([3], [3]), ([4], [4]), ([5], [5]), ([6, 5], [6]), ([7], [7]), ([8, 7], [7, 8]), ([7], [7]), ([9, 10, 7], [7, 9, 10]), ([11, 7], [7, 11]), ([12, 7, 7], [7, 12]), ([7], [7]), ([14, 13, 7], [7, 14]), ([13, 15, 7], [7, 13, 15]), ([7, 16], [7, 16])])
def greenwoodlaw09_MatroidBounds.B10 : List Nat := [0, 1, 0, 7, 15, 31, 63, 127, 255, 511, 255, 2047, 4095, 8191, 255, 32767, 65535, 131071]
theorem greenwoodlaw09_MatroidBounds.tab10 : rtab .any (opsOf Tryd.f4 10) = greenwoodlaw09_MatroidBounds.T10 := by kernel_rfl
theorem greenwoodlaw09_MatroidBounds.bits10 : waitsOk greenwoodlaw09_MatroidBounds.T10.2 greenwoodlaw09_MatroidBounds.B10 = true := by kernel_rfl
set_option maxHeartbeats 8000000 in
set_option maxRecDepth 100000 in
theorem greenwoodlaw09_MatroidBounds.callsT (k : Nat) (a0_0 : Int) (a0_1 : Int) (a0_2 : Int) (a0_3 : Int) (P0_4_ : Nat → Prop) (A0_4 : Option Addr) (c0_4 : Nat) (l0_4 : List (List Int)) (P0_5_ : Nat → Prop) (A0_5 : Option Addr) (c0_5 : Nat) (l0_5 : List (S25)) (r : Bool) (w : World) (hEV : EV w) (hs0_4 : Kd.V (Kd.slice 3 (Kd.int .i64)) 26 w w.heap.size (fun k_ => P0_4_ k_) (.slice A0_4 l0_4.length c0_4) l0_4) (hs0_5 : Kd.V k25 25 w w.heap.size (fun k_ => P0_5_ k_) (.slice A0_5 l0_5.length c0_5) l0_5) (hrT : r = true) (h : greenwoodlaw09_MatroidBounds.f k a0_0 a0_1 a0_2 a0_3 l0_4 l0_5 = some r) :
 Calls Tryd.prog 4 #[.agg #[.int .i64 a0_0, .int .i64 a0_1, .int .i64 a0_2, .int .i64 a0_3, .slice A0_4 l0_4.length c0_4, .slice A0_5 l0_5.length c0_5]] w fun e w' => e = .returned (.bool r) ∧ Below w.heap.size w w' := by
 have HEV := Aside0.mk hEV
 clear hEV
 have hu25 := Tryd.underlying25
 have HO0_4 := Aside0.mk (show Kd.V (Kd.slice 3 (Kd.int .i64)) 26 w w.heap.size (fun k_ => ((P0_4_ k_ ∨ P0_5_ k_) ∨ w.heap.size ≤ k_)) (.slice A0_4 l0_4.length c0_4) l0_4 from Kd.V_mono hs0_4 (fun k_ hk => .inl (.inl hk)))
 have HO0_5 := Aside0.mk (show Kd.V k25 25 w w.heap.size (fun k_ => ((P0_4_ k_ ∨ P0_5_ k_) ∨ w.heap.size ≤ k_)) (.slice A0_5 l0_5.length c0_5) l0_5 from Kd.V_mono hs0_5 (fun k_ hk => .inl (.inr hk)))
 have HB := Aside0.mk (Below.refl w.heap.size w)
 have H : ((greenwoodlaw09_fixed.f).bind fun t266 => (if t266 = true then ((greenwoodref09_Small.f k a0_0 a0_1 a0_2 a0_3 l0_4 l0_5).bind fun t267 => (greenwoodlaw09_MatroidBounds.j0 k (!t267) a0_0 a0_1 a0_2 a0_3 l0_4 l0_5)) else (greenwoodlaw09_MatroidBounds.j0 k true a0_0 a0_1 a0_2 a0_3 l0_4 l0_5))) = some r := h
 clear h
 have HC2 := Aside0.mk H
 clear H
 go_enter Tryd.func4, Tryd.ntmps4
 go_upto_region 1 with (first | ((with_reducible refine gate_dst (N := 1) rfl ?_); refine box_event ?hg (N := 1) ?hd (cs := #[.int .i64 a0_0, .int .i64 a0_1, .int .i64 a0_2, .int .i64 a0_3, .slice A0_4 l0_4.length c0_4, .slice A0_5 l0_5.length c0_5]) (t := 25) ?hr ?_; (case hd => rfl); (case hg => rfl); (case hr => first | (go_simp; done) | (go_simp; rfl)); intro gb265 hg w3 hbox hb; have n0_ := Aside0.mk (Kd.V_below (Kd.V_elderB (by (with_reducible repeat (first | apply Kd.V_alloc | apply Kd.V_drewN | apply Kd.V_drew)); exact HO0_4.out) gb265 (Nat.le_of_eq hg.symm)) hb); have n1_ := Aside0.mk (Kd.V_below (Kd.V_elderB (by (with_reducible repeat (first | apply Kd.V_alloc | apply Kd.V_drewN | apply Kd.V_drew)); exact HO0_5.out) gb265 (Nat.le_of_eq hg.symm)) hb); have n2_ := Aside0.mk (below_step (by repeat (first | (with_reducible first | exact HB.out | apply below_alloc | apply pw_below_drewN | apply below_drew1) | exact HB.out)) hb); have n3_ := Aside0.mk (hbox); have n4_ := Aside0.mk ((by rw [hg]; exact (below_size (by repeat (first | (with_reducible first | exact HB.out | apply below_alloc | apply pw_below_drewN | apply below_drew1) | exact HB.out))) : w.heap.size ≤ gb265)); have n5_ := Aside0.mk ((by rw [hg]; exact (below_size (by repeat (first | (with_reducible first | exact HB.out | apply below_alloc | apply pw_below_drewN | apply below_drew1) | exact HB.out))) : w.heap.size ≤ gb265)); clear HO0_4; clear HO0_5; clear HB; have HO0_4 := n0_; have HO0_5 := n1_; have HB := n2_; have BK265 := n3_; have GW265 := n4_; have GE265 := n5_; clear n0_ n1_ n2_ n3_ n4_ n5_; clear hb hbox hg))
 (try simp only [Act.put, List.setIfInBounds_toArray, List.set_cons_zero, List.set_cons_succ])
 go_cut [14] (fun v14 wc => ∃ (kq : Nat) (x14_1 : Bool), v14 = .bool x14_1 ∧ Aside0 (greenwoodlaw09_MatroidBounds.j0 kq x14_1 a0_0 a0_1 a0_2 a0_3 l0_4 l0_5 = some r) ∧ Aside0 (kq ≤ k) ∧ Aside0 (Kd.V (Kd.slice 3 (Kd.int .i64)) 26 wc w.heap.size (fun k_ => ((P0_4_ k_ ∨ P0_5_ k_) ∨ w.heap.size ≤ k_) ∧ k_ ≠ gb265) (.slice A0_4 l0_4.length c0_4) l0_4) ∧ Aside0 (Kd.V k25 25 wc w.heap.size (fun k_ => ((P0_4_ k_ ∨ P0_5_ k_) ∨ w.heap.size ≤ k_) ∧ k_ ≠ gb265) (.slice A0_5 l0_5.length c0_5) l0_5) ∧ Aside0 (wc.heap[gb265]? = some (.cells #[.int .i64 a0_0, .int .i64 a0_1, .int .i64 a0_2, .int .i64 a0_3, (.slice A0_4 l0_4.length c0_4), (.slice A0_5 l0_5.length c0_5)] 25 (0, 0))) ∧ Aside0 (Below w.heap.size w wc))
 case first =>
  have H := HC2.out
  clear HC2
  replace H := Option.bind_eq_some_iff.mp H
  obtain ⟨t266, A40, H⟩ := H
  replace H : (if t266 = true then ((greenwoodref09_Small.f k a0_0 a0_1 a0_2 a0_3 l0_4 l0_5).bind fun t267 => (greenwoodlaw09_MatroidBounds.j0 k (!t267) a0_0 a0_1 a0_2 a0_3 l0_4 l0_5)) else (greenwoodlaw09_MatroidBounds.j0 k true a0_0 a0_1 a0_2 a0_3 l0_4 l0_5)) = some r := H
  have A4 := Aside0.mk A40
  clear A40
  by_cases c5 : t266 = true
  ·subst c5
   have H1 : ((greenwoodref09_Small.f k a0_0 a0_1 a0_2 a0_3 l0_4 l0_5).bind fun t267 => (greenwoodlaw09_MatroidBounds.j0 k (!t267) a0_0 a0_1 a0_2 a0_3 l0_4 l0_5)) = some r := by rw [if_pos rfl] at H; exact H
   clear H
   have H := H1
   clear H1
   replace H := Option.bind_eq_some_iff.mp H
   obtain ⟨t267, A60, H⟩ := H
   replace H : (greenwoodlaw09_MatroidBounds.j0 k (!t267) a0_0 a0_1 a0_2 a0_3 l0_4 l0_5) = some r := H
   have A6 := Aside0.mk A60
   clear A60
   have H' := Aside0.mk H
   clear H
   go_wp2_with (first | ((with_reducible refine gate_callee (f := 9) rfl ?_); refine goesL_ (some 8) rfl rfl Tryd.func9 (by kernel_rfl) rfl #[] rfl (by (try simp only [List.map_toArray, List.map_cons, List.map_nil]); first | done | rfl | (simp only [List.length_drop, List.length_take]; rfl)) ?_; (with_reducible refine (greenwoodlaw09_fixed.calls  true _ ?side1 A4.out).mono ?_); (case side1 => exact EV.below HEV.out (by repeat (first | (with_reducible first | exact HB.out | apply below_alloc | apply pw_below_drewN | apply below_drew1 | refine below_set ?_ GE265.out) | exact HB.out)) (EV.pos HEV.out)); rintro e w7 ⟨rfl, hb⟩; refine ⟨_, rfl, ?_⟩; have n0_ := Aside0.mk (Kd.V_below (by (with_reducible repeat (first | apply Kd.V_alloc | apply Kd.V_drewN | apply Kd.V_drew)); exact HO0_4.out) hb); have n1_ := Aside0.mk (Kd.V_below (by (with_reducible repeat (first | apply Kd.V_alloc | apply Kd.V_drewN | apply Kd.V_drew)); exact HO0_5.out) hb); have n2_ := Aside0.mk (blk_below (g := gb265) (o := .cells #[.int .i64 a0_0, .int .i64 a0_1, .int .i64 a0_2, .int .i64 a0_3, .slice A0_4 l0_4.length c0_4, .slice A0_5 l0_5.length c0_5] 25 (0, 0)) (by (with_reducible repeat (first | refine blk_drewN ?_ _ | refine blk_drew ?_ | refine blk_alloc ?_ _)); exact BK265.out) hb); have n3_ := Aside0.mk (below_step (by repeat (first | (with_reducible first | exact HB.out | apply below_alloc | apply pw_below_drewN | apply below_drew1 | refine below_set ?_ GE265.out) | exact HB.out)) hb); clear HO0_4; clear HO0_5; clear BK265; clear HB; have HO0_4 := n0_; have HO0_5 := n1_; have BK265 := n2_; have HB := n3_; clear n0_ n1_ n2_ n3_; (try clear hb); (try clear hb2); (try clear hk); (try clear hi); have hcz8_0 : w7.cell? ⟨gb265, 0, none⟩ = some (.int .i64 a0_0) := (blk_cell BK265.out 0).trans rfl; have hcz8_1 : w7.cell? ⟨gb265, 1, none⟩ = some (.int .i64 a0_1) := (blk_cell BK265.out 1).trans rfl; have hcz8_2 : w7.cell? ⟨gb265, 2, none⟩ = some (.int .i64 a0_2) := (blk_cell BK265.out 2).trans rfl; have hcz8_3 : w7.cell? ⟨gb265, 3, none⟩ = some (.int .i64 a0_3) := (blk_cell BK265.out 3).trans rfl; have hcz8_4 : w7.cell? ⟨gb265, 4, none⟩ = some (.slice A0_4 l0_4.length c0_4) := (blk_cell BK265.out 4).trans rfl; have hcz8_5 : w7.cell? ⟨gb265, 5, none⟩ = some (.slice A0_5 l0_5.length c0_5) := (blk_cell BK265.out 5).trans rfl; have hfz8_0 := blk_frozen BK265.out 0; have hfz8_1 := blk_frozen BK265.out 1; have hfz8_2 := blk_frozen BK265.out 2; have hfz8_3 := blk_frozen BK265.out 3; have hfz8_4 := blk_frozen BK265.out 4; have hfz8_5 := blk_frozen BK265.out 5) | (go_at_call 8; (with_reducible refine (greenwoodref09_Small.calls k a0_0 a0_1 a0_2 a0_3 _ _ l0_4 _ _ l0_5 t267 _ ?side1 ?side2 ?side3 ?side4 A6.out).mono ?_); (case side1 => repeat (first | exact (Kd.V_reads' HO0_4.out).2.2 | (with_reducible refine Kd.C_alloc ?_ _) | (with_reducible refine Kd.C_drewN ?_ _) | (with_reducible refine Kd.C_drew ?_))); (case side2 => exact (Kd.V_reads' HO0_4.out).2.1); (case side3 => repeat (first | exact (Kd.V_reads' HO0_5.out).2.2 | (with_reducible refine Kd.C_alloc ?_ _) | (with_reducible refine Kd.C_drewN ?_ _) | (with_reducible refine Kd.C_drew ?_))); (case side4 => exact (Kd.V_reads' HO0_5.out).2.1); rintro e w9 ⟨rfl, hb⟩; have n0_ := Aside0.mk (Kd.V_below (by (with_reducible repeat (first | apply Kd.V_alloc | apply Kd.V_drewN | apply Kd.V_drew)); exact HO0_4.out) hb); have n1_ := Aside0.mk (Kd.V_below (by (with_reducible repeat (first | apply Kd.V_alloc | apply Kd.V_drewN | apply Kd.V_drew)); exact HO0_5.out) hb); have n2_ := Aside0.mk (blk_below (g := gb265) (o := .cells #[.int .i64 a0_0, .int .i64 a0_1, .int .i64 a0_2, .int .i64 a0_3, .slice A0_4 l0_4.length c0_4, .slice A0_5 l0_5.length c0_5] 25 (0, 0)) (by (with_reducible repeat (first | refine blk_drewN ?_ _ | refine blk_drew ?_ | refine blk_alloc ?_ _)); exact BK265.out) hb); have n3_ := Aside0.mk (below_step (by repeat (first | (with_reducible first | exact HB.out | apply below_alloc | apply pw_below_drewN | apply below_drew1 | refine below_set ?_ GE265.out) | exact HB.out)) hb); clear HO0_4; clear HO0_5; clear BK265; clear HB; have HO0_4 := n0_; have HO0_5 := n1_; have BK265 := n2_; have HB := n3_; clear n0_ n1_ n2_ n3_; (try clear hb); (try clear hb2); (try clear hk); (try clear hi)))
   go_meet
   case rel => exact ⟨_, (!t267), (by first | rfl | (simp; done) | (simp [*]; done)), H', ⟨by first | omega | exact Nat.le_refl _⟩, ⟨by (with_reducible repeat (first | apply Kd.V_alloc | apply Kd.V_drewN | apply Kd.V_drew)); exact HO0_4.out⟩, ⟨by (with_reducible repeat (first | apply Kd.V_alloc | apply Kd.V_drewN | apply Kd.V_drew)); exact HO0_5.out⟩, ⟨by (with_reducible repeat (first | refine blk_drewN ?_ _ | refine blk_drew ?_ | refine blk_alloc ?_ _)); exact BK265.out⟩, ⟨by repeat (first | (with_reducible first | exact HB.out | apply below_alloc | apply pw_below_drewN | apply below_drew1 | refine below_set ?_ GE265.out) | exact HB.out)⟩⟩
  ·replace c5 := Bool.eq_false_iff.mpr c5
   subst c5
   have H1 : (greenwoodlaw09_MatroidBounds.j0 k true a0_0 a0_1 a0_2 a0_3 l0_4 l0_5) = some r := by rw [if_neg (show ¬ (false = true) by decide)] at H; exact H
   clear H
   have H := H1
   clear H1
   have H' := Aside0.mk H
   clear H
   go_wp2_with (first | ((with_reducible refine gate_callee (f := 9) rfl ?_); refine goesL_ (some 8) rfl rfl Tryd.func9 (by kernel_rfl) rfl #[] rfl (by (try simp only [List.map_toArray, List.map_cons, List.map_nil]); first | done | rfl | (simp only [List.length_drop, List.length_take]; rfl)) ?_; (with_reducible refine (greenwoodlaw09_fixed.calls  false _ ?side1 A4.out).mono ?_); (case side1 => exact EV.below HEV.out (by repeat (first | (with_reducible first | exact HB.out | apply below_alloc | apply pw_below_drewN | apply below_drew1 | refine below_set ?_ GE265.out) | exact HB.out)) (EV.pos HEV.out)); rintro e w10 ⟨rfl, hb⟩; refine ⟨_, rfl, ?_⟩; have n0_ := Aside0.mk (Kd.V_below (by (with_reducible repeat (first | apply Kd.V_alloc | apply Kd.V_drewN | apply Kd.V_drew)); exact HO0_4.out) hb); have n1_ := Aside0.mk (Kd.V_below (by (with_reducible repeat (first | apply Kd.V_alloc | apply Kd.V_drewN | apply Kd.V_drew)); exact HO0_5.out) hb); have n2_ := Aside0.mk (blk_below (g := gb265) (o := .cells #[.int .i64 a0_0, .int .i64 a0_1, .int .i64 a0_2, .int .i64 a0_3, .slice A0_4 l0_4.length c0_4, .slice A0_5 l0_5.length c0_5] 25 (0, 0)) (by (with_reducible repeat (first | refine blk_drewN ?_ _ | refine blk_drew ?_ | refine blk_alloc ?_ _)); exact BK265.out) hb); have n3_ := Aside0.mk (below_step (by repeat (first | (with_reducible first | exact HB.out | apply below_alloc | apply pw_below_drewN | apply below_drew1 | refine below_set ?_ GE265.out) | exact HB.out)) hb); clear HO0_4; clear HO0_5; clear BK265; clear HB; have HO0_4 := n0_; have HO0_5 := n1_; have BK265 := n2_; have HB := n3_; clear n0_ n1_ n2_ n3_; (try clear hb); (try clear hb2); (try clear hk); (try clear hi)))
   go_meet
   case rel => exact ⟨_, (true), (by first | rfl | (simp; done) | (simp [*]; done)), H', ⟨by first | omega | exact Nat.le_refl _⟩, ⟨by (with_reducible repeat (first | apply Kd.V_alloc | apply Kd.V_drewN | apply Kd.V_drew)); exact HO0_4.out⟩, ⟨by (with_reducible repeat (first | apply Kd.V_alloc | apply Kd.V_drewN | apply Kd.V_drew)); exact HO0_5.out⟩, ⟨by (with_reducible repeat (first | refine blk_drewN ?_ _ | refine blk_drew ?_ | refine blk_alloc ?_ _)); exact BK265.out⟩, ⟨by repeat (first | (with_reducible first | exact HB.out | apply below_alloc | apply pw_below_drewN | apply below_drew1 | refine below_set ?_ GE265.out) | exact HB.out)⟩⟩
 case rest =>
  clear HC2
  try clear p2
  try clear c4
  try clear c5
  try clear c9
  try clear hcz8_0
  try clear hcz8_1
  try clear hcz8_2
  try clear hcz8_3
  try clear hcz8_4
  try clear hcz8_5
  try clear hfz8_0
  try clear hfz8_1
  try clear hfz8_2
  try clear hfz8_3
  try clear hfz8_4
  try clear hfz8_5
  obtain ⟨kq, x14_1, rfl, HA, HJ1, HO_266004, HO_266005, BK265, HB⟩ := hcut
  cases kq with
  | zero => exact absurd HA.out (by simp [greenwoodlaw09_MatroidBounds.j0])
  | succ kj1 =>
   have H := HA.out
   clear HA
   simp only [greenwoodlaw09_MatroidBounds.j0] at H
   by_cases c11 : x14_1 = true
   ·subst c11
    have H1 : ((greenwoodlaw09_fixed.f).bind fun t268 => (some t268)) = some r := by rw [if_pos rfl] at H; exact H
    clear H
    have H := H1
    clear H1
    replace H := Option.bind_eq_some_iff.mp H
    obtain ⟨t268, A120, H⟩ := H
    replace H : (some t268) = some r := H
    have A12 := Aside0.mk A120
    clear A120
    obtain rfl := Option.some.inj H
    go_wp2_with (first | ((with_reducible refine gate_callee (f := 9) rfl ?_); refine goesL_ (some 15) rfl rfl Tryd.func9 (by kernel_rfl) rfl #[] rfl (by (try simp only [List.map_toArray, List.map_cons, List.map_nil]); first | done | rfl | (simp only [List.length_drop, List.length_take]; rfl)) ?_; (with_reducible refine (greenwoodlaw09_fixed.calls  t268 _ ?side1 A12.out).mono ?_); (case side1 => exact EV.below HEV.out (by repeat (first | (with_reducible first | exact HB.out | apply below_alloc | apply pw_below_drewN | apply below_drew1 | refine below_set ?_ GE265.out) | exact HB.out)) (EV.pos HEV.out)); rintro e w13 ⟨rfl, hb⟩; refine ⟨_, rfl, ?_⟩; have n0_ := Aside0.mk (Kd.V_below (by (with_reducible repeat (first | apply Kd.V_alloc | apply Kd.V_drewN | apply Kd.V_drew)); exact HO_266004.out) hb); have n1_ := Aside0.mk (Kd.V_below (by (with_reducible repeat (first | apply Kd.V_alloc | apply Kd.V_drewN | apply Kd.V_drew)); exact HO_266005.out) hb); have n2_ := Aside0.mk (blk_below (g := gb265) (o := .cells #[.int .i64 a0_0, .int .i64 a0_1, .int .i64 a0_2, .int .i64 a0_3, .slice A0_4 l0_4.length c0_4, .slice A0_5 l0_5.length c0_5] 25 (0, 0)) (by (with_reducible repeat (first | refine blk_drewN ?_ _ | refine blk_drew ?_ | refine blk_alloc ?_ _)); exact BK265.out) hb); have n3_ := Aside0.mk (below_step (by repeat (first | (with_reducible first | exact HB.out | apply below_alloc | apply pw_below_drewN | apply below_drew1 | refine below_set ?_ GE265.out) | exact HB.out)) hb); clear HO_266004; clear HO_266005; clear BK265; clear HB; have HO_266004 := n0_; have HO_266005 := n1_; have BK265 := n2_; have HB := n3_; clear n0_ n1_ n2_ n3_; (try clear hb); (try clear hb2); (try clear hk); (try clear hi)))
    go_ret
    exact ⟨by first | rfl | (simp [errW_none, errW_some] <;> rfl) | (simp [*, errW_none, errW_some] <;> rfl), by repeat (first | (with_reducible first | exact HB.out | apply below_alloc | apply pw_below_drewN | apply below_drew1 | refine below_set ?_ GE265.out) | exact HB.out)⟩
   ·replace c11 := Bool.eq_false_iff.mpr c11
    subst c11
    have H1 : ((some (([(⟨a0_0, a0_1, a0_2, a0_3, l0_4, l0_5⟩ : S25)] : List (S25)) : List (S25))).bind fun y269 => ((matroid_Check.f a0_0 a0_1 a0_2 a0_3 l0_4 l0_5).bind fun t273 => ((matroid_Check.f 8 a0_1 0 0 ([] : List (List Int)) y269).bind fun t274 => (if t273 = 0 then (greenwoodlaw09_MatroidBounds.l0 kj1 t274 0 a0_0 a0_1 a0_2 a0_3 l0_4 l0_5 8 a0_1 0 0 y269) else (some (t274 != 0)))))) = some r := by rw [if_neg (show ¬ (false = true) by decide)] at H; exact H
    clear H
    have H := H1
    clear H1
    obtain ⟨y269, hy269⟩ : ∃ y_ : List (S25), y_ = (([(⟨a0_0, a0_1, a0_2, a0_3, l0_4, l0_5⟩ : S25)] : List (S25))) := ⟨_, rfl⟩
    replace H : ((matroid_Check.f a0_0 a0_1 a0_2 a0_3 l0_4 l0_5).bind fun t273 => ((matroid_Check.f 8 a0_1 0 0 ([] : List (List Int)) y269).bind fun t274 => (if t273 = 0 then (greenwoodlaw09_MatroidBounds.l0 kj1 t274 0 a0_0 a0_1 a0_2 a0_3 l0_4 l0_5 8 a0_1 0 0 y269) else (some (t274 != 0))))) = some r := by first | (rw [hy269]; with_reducible exact H) | (have H2_ := (Option.bind_some _ _).symm.trans H; rw [hy269]; with_reducible exact H2_) | (have H2_ := (Option.bind_some _ _).symm.trans H; with_reducible exact H2_) | with_reducible exact H | (rw [hy269]; exact H) | exact H
    have Ny269 := Aside0.mk hy269
    clear hy269
    replace H := Option.bind_eq_some_iff.mp H
    obtain ⟨t273, A140, H⟩ := H
    replace H : ((matroid_Check.f 8 a0_1 0 0 ([] : List (List Int)) y269).bind fun t274 => (if t273 = 0 then (greenwoodlaw09_MatroidBounds.l0 kj1 t274 0 a0_0 a0_1 a0_2 a0_3 l0_4 l0_5 8 a0_1 0 0 y269) else (some (t274 != 0)))) = some r := H
    have A14 := Aside0.mk A140
    clear A140
    replace H := Option.bind_eq_some_iff.mp H
    obtain ⟨t274, A150, H⟩ := H
    replace H : (if t273 = 0 then (greenwoodlaw09_MatroidBounds.l0 kj1 t274 0 a0_0 a0_1 a0_2 a0_3 l0_4 l0_5 8 a0_1 0 0 y269) else (some (t274 != 0))) = some r := H
    have A15 := Aside0.mk A150
    clear A150
    by_cases c16 : t273 = 0
    ·rw [if_pos c16] at H
     have c16b0 : (t273 == 0) = true := beq_iff_eq.mpr c16
     have c16b1 : (t273 != 0) = false := bne_eq_false_iff_eq.mpr c16
     clear c16
     have H' := Aside0.mk H
     clear H
     have hcz17_0 : wc.cell? ⟨gb265, 0, none⟩ = some (.int .i64 a0_0) := (blk_cell BK265.out 0).trans rfl
     have hcz17_1 : wc.cell? ⟨gb265, 1, none⟩ = some (.int .i64 a0_1) := (blk_cell BK265.out 1).trans rfl
     have hcz17_2 : wc.cell? ⟨gb265, 2, none⟩ = some (.int .i64 a0_2) := (blk_cell BK265.out 2).trans rfl
     have hcz17_3 : wc.cell? ⟨gb265, 3, none⟩ = some (.int .i64 a0_3) := (blk_cell BK265.out 3).trans rfl
     have hcz17_4 : wc.cell? ⟨gb265, 4, none⟩ = some (.slice A0_4 l0_4.length c0_4) := (blk_cell BK265.out 4).trans rfl
     have hcz17_5 : wc.cell? ⟨gb265, 5, none⟩ = some (.slice A0_5 l0_5.length c0_5) := (blk_cell BK265.out 5).trans rfl
     have hfz17_0 := blk_frozen BK265.out 0
     have hfz17_1 := blk_frozen BK265.out 1
     have hfz17_2 := blk_frozen BK265.out 2
     have hfz17_3 := blk_frozen BK265.out 3
     have hfz17_4 := blk_frozen BK265.out 4
     have hfz17_5 := blk_frozen BK265.out 5
     try go_wp2_with (first | ((with_reducible refine gate_dst (N := 19) rfl ?_); refine Kd.N_lit k25 _ 25 ?hg (N' := 19) ?hd (xs := ([(⟨a0_0, a0_1, a0_2, a0_3, l0_4, l0_5⟩ : S25)] : List (S25))) (inner := [.int .i64 a0_0, .int .i64 a0_1, .int .i64 a0_2, .int .i64 a0_3, .slice A0_4 l0_4.length c0_4, .slice A0_5 l0_5.length c0_5]) (ok := (fun k_ => ((P0_4_ k_ ∨ P0_5_ k_) ∨ w.heap.size ≤ k_) ∧ k_ ≠ gb265)) (okp := (fun k_ => ((P0_4_ k_ ∨ P0_5_ k_) ∨ w.heap.size ≤ k_) ∧ k_ ≠ gb265)) ?hr ?hp (fun _ hk => hk) ((show ∀ k_, wc.heap.size ≤ k_ → (fun k_ => ((P0_4_ k_ ∨ P0_5_ k_) ∨ w.heap.size ≤ k_) ∧ k_ ≠ gb265) k_ from fun k_ hk => ⟨(.inr (Nat.le_trans (below_size (by repeat (first | (with_reducible first | exact HB.out | apply below_alloc | apply pw_below_drewN | apply below_drew1 | refine below_set ?_ GE265.out) | exact HB.out))) hk)), Kd.freshB (g := gb265) (o := .cells #[.int .i64 a0_0, .int .i64 a0_1, .int .i64 a0_2, .int .i64 a0_3, .slice A0_4 l0_4.length c0_4, .slice A0_5 l0_5.length c0_5] 25 (0, 0)) (by (with_reducible repeat (first | refine blk_drewN ?_ _ | refine blk_drew ?_ | refine blk_alloc ?_ _)); exact BK265.out) k_ hk⟩) _ (Nat.le_refl _)) (Below.refl _ _) (Nat.le_refl _) (by simp) ?_; (case hd => rfl); (case hg => rfl); (case hr => first | (go_simp; done) | (go_simp; rfl)); (case hp => exact (Reps.c6 (show Kd.FK k25 _ _ (⟨a0_0, a0_1, a0_2, a0_3, l0_4, l0_5⟩ : S25) [.int .i64 a0_0, .int .i64 a0_1, .int .i64 a0_2, .int .i64 a0_3, .slice A0_4 l0_4.length c0_4, .slice A0_5 l0_5.length c0_5] from (k25_mkF _ _ (⟨a0_0, a0_1, a0_2, a0_3, l0_4, l0_5⟩ : S25) (Kd.V_reads' (Kd.V_mono (ok' := (fun k_ => ((P0_4_ k_ ∨ P0_5_ k_) ∨ w.heap.size ≤ k_) ∧ k_ ≠ gb265)) (HO_266004.out) (fun k_ hk => ⟨hk.1, hk.2⟩))).2.1 (Kd.V_F (Kd.V_mono (ok' := (fun k_ => ((P0_4_ k_ ∨ P0_5_ k_) ∨ w.heap.size ≤ k_) ∧ k_ ≠ gb265)) (HO_266004.out) (fun k_ hk => ⟨hk.1, hk.2⟩))) (Kd.V_reads' (Kd.V_mono (ok' := (fun k_ => ((P0_4_ k_ ∨ P0_5_ k_) ∨ w.heap.size ≤ k_) ∧ k_ ≠ gb265)) (HO_266005.out) (fun k_ hk => ⟨hk.1, hk.2⟩))).2.1 (Kd.V_F (Kd.V_mono (ok' := (fun k_ => ((P0_4_ k_ ∨ P0_5_ k_) ∨ w.heap.size ≤ k_) ∧ k_ ≠ gb265)) (HO_266005.out) (fun k_ hk => ⟨hk.1, hk.2⟩))))) (Reps.none _ _))); intro v270 w18 ho19 hb hg_ hnew_; clear hg_ hnew_; (first | rw [← Ny269.out] at ho19 | (simp only [Int.reduceToNat] at ho19; rw [← Ny269.out] at ho19)); have n0_ := Aside0.mk (Kd.V_elder' (by (with_reducible repeat (first | apply Kd.V_alloc | apply Kd.V_drewN | apply Kd.V_drew)); exact HO_266004.out) (Kd.N_base ho19) hb); have n1_ := Aside0.mk (Kd.V_elder' (by (with_reducible repeat (first | apply Kd.V_alloc | apply Kd.V_drewN | apply Kd.V_drew)); exact HO_266005.out) (Kd.N_base ho19) hb); have n2_ := Aside0.mk (Kd.N_lower ho19 (below_size (by repeat (first | (with_reducible first | exact HB.out | apply below_alloc | apply pw_below_drewN | apply below_drew1 | refine below_set ?_ GE265.out) | exact HB.out)))); have n3_ := Aside0.mk (blk_below (g := gb265) (o := .cells #[.int .i64 a0_0, .int .i64 a0_1, .int .i64 a0_2, .int .i64 a0_3, .slice A0_4 l0_4.length c0_4, .slice A0_5 l0_5.length c0_5] 25 (0, 0)) (by (with_reducible repeat (first | refine blk_drewN ?_ _ | refine blk_drew ?_ | refine blk_alloc ?_ _)); exact BK265.out) hb); have n4_ := Aside0.mk (below_step (by repeat (first | (with_reducible first | exact HB.out | apply below_alloc | apply pw_below_drewN | apply below_drew1 | refine below_set ?_ GE265.out) | exact HB.out)) hb); clear HO_266004; clear HO_266005; clear BK265; clear HB; have HO_266004 := n0_; have HO_266005 := n1_; have HO271 := n2_; have BK265 := n3_; have HB := n4_; clear n0_ n1_ n2_ n3_ n4_; clear hb ho19; obtain ⟨Ao20, co20, eo20⟩ := Kd.N_slice HO271.out; subst eo20) | ((with_reducible refine gate_dst (N := 3) rfl ?_); refine box_event ?hg (N := 3) ?hd (cs := #[.int .i64 0, .int .i64 0, .int .i64 0, .int .i64 0, .slice none 0 0, .slice none 0 0]) (t := 25) ?hr ?_; (case hd => rfl); (case hg => rfl); (case hr => first | (go_simp; done) | (go_simp; rfl)); intro gb272 hg w21 hbox hb; have n0_ := Aside0.mk (Kd.V_below (Kd.V_elderB (by (with_reducible repeat (first | apply Kd.V_alloc | apply Kd.V_drewN | apply Kd.V_drew)); exact HO_266004.out) gb272 (Nat.le_of_eq hg.symm)) hb); have n1_ := Aside0.mk (Kd.V_below (Kd.V_elderB (by (with_reducible repeat (first | apply Kd.V_alloc | apply Kd.V_drewN | apply Kd.V_drew)); exact HO_266005.out) gb272 (Nat.le_of_eq hg.symm)) hb); have n2_ := Aside0.mk (Kd.N_below (Kd.N_elderB (by (with_reducible repeat (first | apply Kd.N_alloc | apply Kd.N_drewN | apply Kd.N_drew)); exact HO271.out) gb272 (Nat.le_of_eq hg.symm)) hb); have n3_ := Aside0.mk (blk_below (g := gb265) (o := .cells #[.int .i64 a0_0, .int .i64 a0_1, .int .i64 a0_2, .int .i64 a0_3, .slice A0_4 l0_4.length c0_4, .slice A0_5 l0_5.length c0_5] 25 (0, 0)) (by (with_reducible repeat (first | refine blk_drewN ?_ _ | refine blk_drew ?_ | refine blk_alloc ?_ _)); exact BK265.out) hb); have n4_ := Aside0.mk (below_step (by repeat (first | (with_reducible first | exact HB.out | apply below_alloc | apply pw_below_drewN | apply below_drew1 | refine below_set ?_ GE265.out) | exact HB.out)) hb); have n5_ := Aside0.mk (hbox); have n6_ := Aside0.mk ((by rw [hg]; exact (below_size (by repeat (first | (with_reducible first | exact HB.out | apply below_alloc | apply pw_below_drewN | apply below_drew1 | refine below_set ?_ GE265.out) | exact HB.out))) : w.heap.size ≤ gb272)); have n7_ := Aside0.mk ((by rw [hg]; exact (below_size (by repeat (first | (with_reducible first | exact HB.out | apply below_alloc | apply pw_below_drewN | apply below_drew1 | refine below_set ?_ GE265.out) | exact HB.out))) : w.heap.size ≤ gb272)); have n8_ := Aside0.mk ((by rw [hg]; exact Nat.ne_of_lt (blk_lt (g := gb265) (o := .cells #[.int .i64 a0_0, .int .i64 a0_1, .int .i64 a0_2, .int .i64 a0_3, .slice A0_4 l0_4.length c0_4, .slice A0_5 l0_5.length c0_5] 25 (0, 0)) (by (with_reducible repeat (first | refine blk_drewN ?_ _ | refine blk_drew ?_ | refine blk_alloc ?_ _)); exact BK265.out)) : gb265 ≠ gb272)); have n9_ := Aside0.mk ((by rw [hg]; exact Nat.ne_of_gt (blk_lt (g := gb265) (o := .cells #[.int .i64 a0_0, .int .i64 a0_1, .int .i64 a0_2, .int .i64 a0_3, .slice A0_4 l0_4.length c0_4, .slice A0_5 l0_5.length c0_5] 25 (0, 0)) (by (with_reducible repeat (first | refine blk_drewN ?_ _ | refine blk_drew ?_ | refine blk_alloc ?_ _)); exact BK265.out)) : gb272 ≠ gb265)); clear HO_266004; clear HO_266005; clear HO271; clear BK265; clear HB; have HO_266004 := n0_; have HO_266005 := n1_; have HO271 := n2_; have BK265 := n3_; have HB := n4_; have BK272 := n5_; have GW272 := n6_; have GE272 := n7_; have NB265_272 := n8_; have NB272_265 := n9_; clear n0_ n1_ n2_ n3_ n4_ n5_ n6_ n7_ n8_ n9_; clear hb hbox hg; have hnb22 := NB272_265.out; have hnc22 := NB265_272.out; have hcz23_0 : w21.cell? ⟨gb272, 0, none⟩ = some (.int .i64 0) := (blk_cell BK272.out 0).trans rfl; have hcz23_1 : w21.cell? ⟨gb272, 1, none⟩ = some (.int .i64 0) := (blk_cell BK272.out 1).trans rfl; have hcz23_2 : w21.cell? ⟨gb272, 2, none⟩ = some (.int .i64 0) := (blk_cell BK272.out 2).trans rfl; have hcz23_3 : w21.cell? ⟨gb272, 3, none⟩ = some (.int .i64 0) := (blk_cell BK272.out 3).trans rfl; have hcz23_4 : w21.cell? ⟨gb272, 4, none⟩ = some (.slice none 0 0) := (blk_cell BK272.out 4).trans rfl; have hcz23_5 : w21.cell? ⟨gb272, 5, none⟩ = some (.slice none 0 0) := (blk_cell BK272.out 5).trans rfl; have hfz23_0 := blk_frozen BK272.out 0; have hfz23_1 := blk_frozen BK272.out 1; have hfz23_2 := blk_frozen BK272.out 2; have hfz23_3 := blk_frozen BK272.out 3; have hfz23_4 := blk_frozen BK272.out 4; have hfz23_5 := blk_frozen BK272.out 5))
     have n0_ : Aside0 (Kd.V (Kd.slice 3 (Kd.int .i64)) 26 ((((((w21.setCell ⟨gb272, 0, none⟩ (.int .i64 8)).setCell ⟨gb272, 1, none⟩ (.int .i64 a0_1)).setCell ⟨gb272, 2, none⟩ (.int .i64 0)).setCell ⟨gb272, 3, none⟩ (.int .i64 0)).setCell ⟨gb272, 4, none⟩ (.slice none 0 0)).setCell ⟨gb272, 5, none⟩ (.slice Ao20 y269.length co20)) w.heap.size (fun k_ => ((P0_4_ k_ ∨ P0_5_ k_) ∨ w.heap.size ≤ k_) ∧ some k_ ≠ (.slice Ao20 y269.length co20 : Value).ownBlock ∧ k_ ≠ gb265 ∧ k_ ≠ gb272) (.slice A0_4 l0_4.length c0_4) l0_4) := ⟨by (with_reducible repeat (first | apply Kd.V_alloc | apply Kd.V_drewN | apply Kd.V_drew)); exact Kd.V_mono (Kd.V_far (p := ⟨gb272, 5, none⟩) (Kd.V_far (p := ⟨gb272, 4, none⟩) (Kd.V_far (p := ⟨gb272, 3, none⟩) (Kd.V_far (p := ⟨gb272, 2, none⟩) (Kd.V_far (p := ⟨gb272, 1, none⟩) (Kd.V_far (p := ⟨gb272, 0, none⟩) (Kd.V_mono HO_266004.out (fun k_ hk => (⟨hk, hk.2⟩ : _ ∧ k_ ≠ gb272))) (fun _ hk => hk.2) (.int .i64 8)) (fun _ hk => hk.2) (.int .i64 a0_1)) (fun _ hk => hk.2) (.int .i64 0)) (fun _ hk => hk.2) (.int .i64 0)) (fun _ hk => hk.2) (.slice none 0 0)) (fun _ hk => hk.2) (.slice Ao20 y269.length co20)) (fun _ hk => ⟨hk.1.1.1.1, ⟨hk.1.1.2, ⟨hk.1.1.1.2, hk.1.2⟩⟩⟩)⟩
     have n1_ : Aside0 (Kd.V k25 25 ((((((w21.setCell ⟨gb272, 0, none⟩ (.int .i64 8)).setCell ⟨gb272, 1, none⟩ (.int .i64 a0_1)).setCell ⟨gb272, 2, none⟩ (.int .i64 0)).setCell ⟨gb272, 3, none⟩ (.int .i64 0)).setCell ⟨gb272, 4, none⟩ (.slice none 0 0)).setCell ⟨gb272, 5, none⟩ (.slice Ao20 y269.length co20)) w.heap.size (fun k_ => ((P0_4_ k_ ∨ P0_5_ k_) ∨ w.heap.size ≤ k_) ∧ some k_ ≠ (.slice Ao20 y269.length co20 : Value).ownBlock ∧ k_ ≠ gb265 ∧ k_ ≠ gb272) (.slice A0_5 l0_5.length c0_5) l0_5) := ⟨by (with_reducible repeat (first | apply Kd.V_alloc | apply Kd.V_drewN | apply Kd.V_drew)); exact Kd.V_mono (Kd.V_far (p := ⟨gb272, 5, none⟩) (Kd.V_far (p := ⟨gb272, 4, none⟩) (Kd.V_far (p := ⟨gb272, 3, none⟩) (Kd.V_far (p := ⟨gb272, 2, none⟩) (Kd.V_far (p := ⟨gb272, 1, none⟩) (Kd.V_far (p := ⟨gb272, 0, none⟩) (Kd.V_mono HO_266005.out (fun k_ hk => (⟨hk, hk.2⟩ : _ ∧ k_ ≠ gb272))) (fun _ hk => hk.2) (.int .i64 8)) (fun _ hk => hk.2) (.int .i64 a0_1)) (fun _ hk => hk.2) (.int .i64 0)) (fun _ hk => hk.2) (.int .i64 0)) (fun _ hk => hk.2) (.slice none 0 0)) (fun _ hk => hk.2) (.slice Ao20 y269.length co20)) (fun _ hk => ⟨hk.1.1.1.1, ⟨hk.1.1.2, ⟨hk.1.1.1.2, hk.1.2⟩⟩⟩)⟩
     have n2_ : Aside0 (Kd.N k25 25 ((((((w21.setCell ⟨gb272, 0, none⟩ (.int .i64 8)).setCell ⟨gb272, 1, none⟩ (.int .i64 a0_1)).setCell ⟨gb272, 2, none⟩ (.int .i64 0)).setCell ⟨gb272, 3, none⟩ (.int .i64 0)).setCell ⟨gb272, 4, none⟩ (.slice none 0 0)).setCell ⟨gb272, 5, none⟩ (.slice Ao20 y269.length co20)) w.heap.size (fun k_ => ((P0_4_ k_ ∨ P0_5_ k_) ∨ w.heap.size ≤ k_) ∧ k_ ≠ gb265 ∧ k_ ≠ gb272) (.slice Ao20 y269.length co20) y269) := ⟨by (with_reducible repeat (first | apply Kd.N_alloc | apply Kd.N_drewN | apply Kd.N_drew)); exact Kd.N_mono (Kd.N_far (p := ⟨gb272, 5, none⟩) (Kd.N_far (p := ⟨gb272, 4, none⟩) (Kd.N_far (p := ⟨gb272, 3, none⟩) (Kd.N_far (p := ⟨gb272, 2, none⟩) (Kd.N_far (p := ⟨gb272, 1, none⟩) (Kd.N_far (p := ⟨gb272, 0, none⟩) (Kd.N_mono HO271.out (fun k_ hk => (⟨hk, hk.2⟩ : _ ∧ k_ ≠ gb272))) (fun _ hk => hk.2) (.int .i64 8)) (fun _ hk => hk.2) (.int .i64 a0_1)) (fun _ hk => hk.2) (.int .i64 0)) (fun _ hk => hk.2) (.int .i64 0)) (fun _ hk => hk.2) (.slice none 0 0)) (fun _ hk => hk.2) (.slice Ao20 y269.length co20)) (fun _ hk => ⟨hk.1.1.1, ⟨hk.1.1.2, hk.1.2⟩⟩)⟩
     have n3_ : Aside0 (((((((w21.setCell ⟨gb272, 0, none⟩ (.int .i64 8)).setCell ⟨gb272, 1, none⟩ (.int .i64 a0_1)).setCell ⟨gb272, 2, none⟩ (.int .i64 0)).setCell ⟨gb272, 3, none⟩ (.int .i64 0)).setCell ⟨gb272, 4, none⟩ (.slice none 0 0)).setCell ⟨gb272, 5, none⟩ (.slice Ao20 y269.length co20)).heap[gb265]? = some (.cells #[.int .i64 a0_0, .int .i64 a0_1, .int .i64 a0_2, .int .i64 a0_3, .slice A0_4 l0_4.length c0_4, .slice A0_5 l0_5.length c0_5] 25 (0, 0))) := ⟨by (with_reducible repeat (first | refine blk_drewN ?_ _ | refine blk_drew ?_ | refine blk_alloc ?_ _)); refine blk_far ?_ NB265_272.out _; (with_reducible repeat (first | refine blk_drewN ?_ _ | refine blk_drew ?_ | refine blk_alloc ?_ _)); refine blk_far ?_ NB265_272.out _; (with_reducible repeat (first | refine blk_drewN ?_ _ | refine blk_drew ?_ | refine blk_alloc ?_ _)); refine blk_far ?_ NB265_272.out _; (with_reducible repeat (first | refine blk_drewN ?_ _ | refine blk_drew ?_ | refine blk_alloc ?_ _)); refine blk_far ?_ NB265_272.out _; (with_reducible repeat (first | refine blk_drewN ?_ _ | refine blk_drew ?_ | refine blk_alloc ?_ _)); refine blk_far ?_ NB265_272.out _; (with_reducible repeat (first | refine blk_drewN ?_ _ | refine blk_drew ?_ | refine blk_alloc ?_ _)); refine blk_far ?_ NB265_272.out _; (with_reducible repeat (first | refine blk_drewN ?_ _ | refine blk_drew ?_ | refine blk_alloc ?_ _)); exact BK265.out⟩
     have n4_ : Aside0 (((((((w21.setCell ⟨gb272, 0, none⟩ (.int .i64 8)).setCell ⟨gb272, 1, none⟩ (.int .i64 a0_1)).setCell ⟨gb272, 2, none⟩ (.int .i64 0)).setCell ⟨gb272, 3, none⟩ (.int .i64 0)).setCell ⟨gb272, 4, none⟩ (.slice none 0 0)).setCell ⟨gb272, 5, none⟩ (.slice Ao20 y269.length co20)).heap[gb272]? = some (.cells #[.int .i64 8, .int .i64 a0_1, .int .i64 0, .int .i64 0, .slice none 0 0, .slice Ao20 y269.length co20] 25 (0, 0))) := ⟨by (with_reducible repeat (first | refine blk_drewN ?_ _ | refine blk_drew ?_ | refine blk_alloc ?_ _)); refine blk_put (cs := #[.int .i64 8, .int .i64 a0_1, .int .i64 0, .int .i64 0, .slice none 0 0, .slice none 0 0]) ?_ 5 _ rfl; (with_reducible repeat (first | refine blk_drewN ?_ _ | refine blk_drew ?_ | refine blk_alloc ?_ _)); refine blk_put (cs := #[.int .i64 8, .int .i64 a0_1, .int .i64 0, .int .i64 0, .slice none 0 0, .slice none 0 0]) ?_ 4 _ rfl; (with_reducible repeat (first | refine blk_drewN ?_ _ | refine blk_drew ?_ | refine blk_alloc ?_ _)); refine blk_put (cs := #[.int .i64 8, .int .i64 a0_1, .int .i64 0, .int .i64 0, .slice none 0 0, .slice none 0 0]) ?_ 3 _ rfl; (with_reducible repeat (first | refine blk_drewN ?_ _ | refine blk_drew ?_ | refine blk_alloc ?_ _)); refine blk_put (cs := #[.int .i64 8, .int .i64 a0_1, .int .i64 0, .int .i64 0, .slice none 0 0, .slice none 0 0]) ?_ 2 _ rfl; (with_reducible repeat (first | refine blk_drewN ?_ _ | refine blk_drew ?_ | refine blk_alloc ?_ _)); refine blk_put (cs := #[.int .i64 8, .int .i64 0, .int .i64 0, .int .i64 0, .slice none 0 0, .slice none 0 0]) ?_ 1 _ rfl; (with_reducible repeat (first | refine blk_drewN ?_ _ | refine blk_drew ?_ | refine blk_alloc ?_ _)); refine blk_put (cs := #[.int .i64 0, .int .i64 0, .int .i64 0, .int .i64 0, .slice none 0 0, .slice none 0 0]) ?_ 0 _ rfl; (with_reducible repeat (first | refine blk_drewN ?_ _ | refine blk_drew ?_ | refine blk_alloc ?_ _)); exact BK272.out⟩
     have n5_ : Aside0 (Below w.heap.size w ((((((w21.setCell ⟨gb272, 0, none⟩ (.int .i64 8)).setCell ⟨gb272, 1, none⟩ (.int .i64 a0_1)).setCell ⟨gb272, 2, none⟩ (.int .i64 0)).setCell ⟨gb272, 3, none⟩ (.int .i64 0)).setCell ⟨gb272, 4, none⟩ (.slice none 0 0)).setCell ⟨gb272, 5, none⟩ (.slice Ao20 y269.length co20))) := ⟨by repeat (first | (with_reducible first | exact HB.out | apply below_alloc | apply pw_below_drewN | apply below_drew1 | refine below_set ?_ GE265.out | refine below_set ?_ GE272.out) | exact HB.out)⟩
     (try clear HO_266004)
     (try clear HO_266005)
     (try clear HO271)
     (try clear BK265)
     (try clear BK272)
     (try clear HB)
     generalize ((((((w21.setCell ⟨gb272, 0, none⟩ (.int .i64 8)).setCell ⟨gb272, 1, none⟩ (.int .i64 a0_1)).setCell ⟨gb272, 2, none⟩ (.int .i64 0)).setCell ⟨gb272, 3, none⟩ (.int .i64 0)).setCell ⟨gb272, 4, none⟩ (.slice none 0 0)).setCell ⟨gb272, 5, none⟩ (.slice Ao20 y269.length co20)) = w24 at n0_ n1_ n2_ n3_ n4_ n5_ ⊢
     have HO_266004 := n0_
     have HO_266005 := n1_
     have HO271 := n2_
     have BK265 := n3_
     have BK272 := n4_
     have HB := n5_
     clear n0_ n1_ n2_ n3_ n4_ n5_
     have n0_ := Aside0.mk (Kd.V_drew HO_266004.out)
     have n1_ := Aside0.mk (Kd.V_drew HO_266005.out)
     have n2_ := Aside0.mk (Kd.N_drew HO271.out)
     have n3_ := Aside0.mk (blk_drew BK265.out)
     have n4_ := Aside0.mk (blk_drew BK272.out)
     have n5_ := Aside0.mk (below_drew1 HB.out)
     clear HO_266004
     clear HO_266005
     clear HO271
     clear BK265
     clear BK272
     clear HB
     have HO_266004 := n0_
     have HO_266005 := n1_
     have HO271 := n2_
     have BK265 := n3_
     have BK272 := n4_
     have HB := n5_
     clear n0_ n1_ n2_ n3_ n4_ n5_
     refine start_ (n := 6) (S := fun w' => w'.cell? ⟨gb265, 0, none⟩ = some (.int .i64 a0_0) ∧ w'.cell? ⟨gb265, 1, none⟩ = some (.int .i64 a0_1) ∧ w'.cell? ⟨gb265, 2, none⟩ = some (.int .i64 a0_2) ∧ w'.cell? ⟨gb265, 3, none⟩ = some (.int .i64 a0_3) ∧ w'.cell? ⟨gb265, 4, none⟩ = some (.slice A0_4 l0_4.length c0_4) ∧ w'.cell? ⟨gb265, 5, none⟩ = some (.slice A0_5 l0_5.length c0_5) ∧ w'.cell? ⟨gb272, 0, none⟩ = some (.int .i64 8) ∧ w'.cell? ⟨gb272, 1, none⟩ = some (.int .i64 a0_1) ∧ w'.cell? ⟨gb272, 2, none⟩ = some (.int .i64 0) ∧ w'.cell? ⟨gb272, 3, none⟩ = some (.int .i64 0) ∧ w'.cell? ⟨gb272, 4, none⟩ = some (.slice none 0 0) ∧ w'.cell? ⟨gb272, 5, none⟩ = some (.slice Ao20 y269.length co20)) (ds := []) #[false, false, false, false, false, false] (by kernel_rfl) rfl rfl ⟨(blk_cell BK265.out 0).trans rfl, (blk_cell BK265.out 1).trans rfl, (blk_cell BK265.out 2).trans rfl, (blk_cell BK265.out 3).trans rfl, (blk_cell BK265.out 4).trans rfl, (blk_cell BK265.out 5).trans rfl, (blk_cell BK272.out 0).trans rfl, (blk_cell BK272.out 1).trans rfl, (blk_cell BK272.out 2).trans rfl, (blk_cell BK272.out 3).trans rfl, (blk_cell BK272.out 4).trans rfl, (blk_cell BK272.out 5).trans rfl⟩ (fun hHeld => ?_)
     generalize w24.drew = w25 at HO_266004 HO_266005 HO271 BK265 BK272 HB hHeld ⊢
     refine take_ (i := 0) (N := some 21) (v := ?_) (a' := ?_) #[true, false, false, false, false, false] rfl rfl (by kernel_rfl) (fun _ _ _ h => h) (Or.inl ⟨by rfl, ?_⟩) hHeld ?_ ?_
     rotate_left
     ·rintro w' ⟨s0, s1, s2, s3, s4, s5, s6, s7, s8, s9, s10, s11⟩
      go_simp
      with_reducible rfl
     rotate_left
     ·simp only [Act.put, List.setIfInBounds_toArray, List.set_cons_zero, List.set_cons_succ, i64_w, i32_w]
      rfl
     refine take_ (i := 2) (N := some 23) (v := ?_) (a' := ?_) #[true, false, true, false, false, false] rfl rfl (by kernel_rfl) (fun _ _ _ h => h) (Or.inl ⟨by rfl, ?_⟩) hHeld ?_ ?_
     rotate_left
     ·rintro w' ⟨s0, s1, s2, s3, s4, s5, s6, s7, s8, s9, s10, s11⟩
      go_simp
      with_reducible rfl
     rotate_left
     ·simp only [Act.put, List.setIfInBounds_toArray, List.set_cons_zero, List.set_cons_succ, i64_w, i32_w]
      rfl
     refine one_ (i := 1) (N := some 22) #[true, true, true, false, false, false] rfl rfl (by kernel_rfl) (by decide) (fun K hK => ?_)
     refine goes_ Tryd.func12 (by kernel_rfl) rfl #[.agg #[.int .i64 a0_0, .int .i64 a0_1, .int .i64 a0_2, .int .i64 a0_3, .slice A0_4 l0_4.length c0_4, .slice A0_5 l0_5.length c0_5]] (by rfl) rfl rfl (by (try simp only [List.map_toArray, List.map_cons, List.map_nil]); first | done | rfl | (simp only [List.length_drop, List.length_take]; rfl)) ?_
     with_reducible refine (matroid_Check.calls a0_0 a0_1 a0_2 a0_3 _ _ l0_4 _ _ l0_5 t273 _ ?side5 ?side1 ?side2 ?side3 ?side4 A14.out).mono ?_
     (case side1 => repeat (first | exact (Kd.V_reads' HO_266004.out).2.2 | (with_reducible refine Kd.C_alloc ?_ _) | (with_reducible refine Kd.C_drewN ?_ _) | (with_reducible refine Kd.C_drew ?_)))
     (case side2 => exact (Kd.V_reads' HO_266004.out).2.1)
     (case side3 => repeat (first | exact (Kd.V_reads' HO_266005.out).2.2 | (with_reducible refine Kd.C_alloc ?_ _) | (with_reducible refine Kd.C_drewN ?_ _) | (with_reducible refine Kd.C_drew ?_)))
     (case side4 => exact (Kd.V_reads' HO_266005.out).2.1)
     (case side5 => exact EV.below HEV.out (by repeat (first | (with_reducible first | exact HB.out | apply below_alloc | apply pw_below_drewN | apply below_drew1 | refine below_set ?_ GE265.out | refine below_set ?_ GE272.out) | exact HB.out)) (EV.pos HEV.out))
     rintro e w26 ⟨rfl, hb⟩
     refine ⟨_, rfl, ?_⟩
     have n0_ := Aside0.mk (Kd.V_below (by (with_reducible repeat (first | apply Kd.V_alloc | apply Kd.V_drewN | apply Kd.V_drew)); exact HO_266004.out) hb)
     have n1_ := Aside0.mk (Kd.V_below (by (with_reducible repeat (first | apply Kd.V_alloc | apply Kd.V_drewN | apply Kd.V_drew)); exact HO_266005.out) hb)
     have n2_ := Aside0.mk (Kd.N_below (by (with_reducible repeat (first | apply Kd.N_alloc | apply Kd.N_drewN | apply Kd.N_drew)); exact HO271.out) hb)
     have n3_ := Aside0.mk (blk_below (g := gb265) (o := .cells #[.int .i64 a0_0, .int .i64 a0_1, .int .i64 a0_2, .int .i64 a0_3, .slice A0_4 l0_4.length c0_4, .slice A0_5 l0_5.length c0_5] 25 (0, 0)) (by (with_reducible repeat (first | refine blk_drewN ?_ _ | refine blk_drew ?_ | refine blk_alloc ?_ _)); exact BK265.out) hb)
     have n4_ := Aside0.mk (blk_below (g := gb272) (o := .cells #[.int .i64 8, .int .i64 a0_1, .int .i64 0, .int .i64 0, .slice none 0 0, .slice Ao20 y269.length co20] 25 (0, 0)) (by (with_reducible repeat (first | refine blk_drewN ?_ _ | refine blk_drew ?_ | refine blk_alloc ?_ _)); exact BK272.out) hb)
     have n5_ := Aside0.mk (below_step (by repeat (first | (with_reducible first | exact HB.out | apply below_alloc | apply pw_below_drewN | apply below_drew1 | refine below_set ?_ GE265.out | refine below_set ?_ GE272.out) | exact HB.out)) hb)
     clear HO_266004
     clear HO_266005
     clear HO271
     clear BK265
     clear BK272
     clear HB
     have HO_266004 := n0_
     have HO_266005 := n1_
     have HO271 := n2_
     have BK265 := n3_
     have BK272 := n4_
     have HB := n5_
     clear n0_ n1_ n2_ n3_ n4_ n5_
     (try clear hb)
     (try clear hb2)
     (try clear hk)
     (try clear hi)
     refine hK.out _ _ ⟨(blk_cell BK265.out 0).trans rfl, (blk_cell BK265.out 1).trans rfl, (blk_cell BK265.out 2).trans rfl, (blk_cell BK265.out 3).trans rfl, (blk_cell BK265.out 4).trans rfl, (blk_cell BK265.out 5).trans rfl, (blk_cell BK272.out 0).trans rfl, (blk_cell BK272.out 1).trans rfl, (blk_cell BK272.out 2).trans rfl, (blk_cell BK272.out 3).trans rfl, (blk_cell BK272.out 4).trans rfl, (blk_cell BK272.out 5).trans rfl⟩ (fun hHeld => ?_)
     clear hK K
     refine norm_ (a' := ?_) ?_ ?_
     rotate_left
     ·show Act.put _ (some 22) _ = _
      simp only [Act.put, List.setIfInBounds_toArray, List.set_cons_zero, List.set_cons_succ, i64_w, i32_w]
      rfl
     refine one_ (i := 3) (N := some 24) #[true, true, true, true, false, false] rfl rfl (by kernel_rfl) (by decide) (fun K hK => ?_)
     refine goes_ Tryd.func12 (by kernel_rfl) rfl #[.agg #[.int .i64 8, .int .i64 a0_1, .int .i64 0, .int .i64 0, .slice none 0 0, .slice Ao20 y269.length co20]] (by rfl) rfl rfl (by (try simp only [List.map_toArray, List.map_cons, List.map_nil]); first | done | rfl | (simp only [List.length_drop, List.length_take]; rfl)) ?_
     refine (matroid_Check.calls 8 a0_1 0 0 _ _ ([] : List (List Int)) _ _ y269 t274 _ ?side5 ?side1 ?side2 ?side3 ?side4 A15.out).mono ?_
     (case side1 => exact Kd.C_nil _ _)
     (case side2 => exact Nat.le_refl _)
     (case side3 => repeat (first | exact (Kd.N_reads' HO271.out).2.2 | (with_reducible refine Kd.C_alloc ?_ _) | (with_reducible refine Kd.C_drewN ?_ _) | (with_reducible refine Kd.C_drew ?_)))
     (case side4 => exact (Kd.N_reads' HO271.out).2.1)
     (case side5 => exact EV.below HEV.out (by repeat (first | (with_reducible first | exact HB.out | apply below_alloc | apply pw_below_drewN | apply below_drew1 | refine below_set ?_ GE265.out | refine below_set ?_ GE272.out) | exact HB.out)) (EV.pos HEV.out))
     rintro e w27 ⟨rfl, hb⟩
     refine ⟨_, rfl, ?_⟩
     have n0_ := Aside0.mk (Kd.V_below (by (with_reducible repeat (first | apply Kd.V_alloc | apply Kd.V_drewN | apply Kd.V_drew)); exact HO_266004.out) hb)
     have n1_ := Aside0.mk (Kd.V_below (by (with_reducible repeat (first | apply Kd.V_alloc | apply Kd.V_drewN | apply Kd.V_drew)); exact HO_266005.out) hb)
     have n2_ := Aside0.mk (Kd.N_below (by (with_reducible repeat (first | apply Kd.N_alloc | apply Kd.N_drewN | apply Kd.N_drew)); exact HO271.out) hb)
     have n3_ := Aside0.mk (blk_below (g := gb265) (o := .cells #[.int .i64 a0_0, .int .i64 a0_1, .int .i64 a0_2, .int .i64 a0_3, .slice A0_4 l0_4.length c0_4, .slice A0_5 l0_5.length c0_5] 25 (0, 0)) (by (with_reducible repeat (first | refine blk_drewN ?_ _ | refine blk_drew ?_ | refine blk_alloc ?_ _)); exact BK265.out) hb)
     have n4_ := Aside0.mk (blk_below (g := gb272) (o := .cells #[.int .i64 8, .int .i64 a0_1, .int .i64 0, .int .i64 0, .slice none 0 0, .slice Ao20 y269.length co20] 25 (0, 0)) (by (with_reducible repeat (first | refine blk_drewN ?_ _ | refine blk_drew ?_ | refine blk_alloc ?_ _)); exact BK272.out) hb)
     have n5_ := Aside0.mk (below_step (by repeat (first | (with_reducible first | exact HB.out | apply below_alloc | apply pw_below_drewN | apply below_drew1 | refine below_set ?_ GE265.out | refine below_set ?_ GE272.out) | exact HB.out)) hb)
     clear HO_266004
     clear HO_266005
     clear HO271
     clear BK265
     clear BK272
     clear HB
     have HO_266004 := n0_
     have HO_266005 := n1_
     have HO271 := n2_
     have BK265 := n3_
     have BK272 := n4_
     have HB := n5_
     clear n0_ n1_ n2_ n3_ n4_ n5_
     (try clear hb)
     (try clear hb2)
     (try clear hk)
     (try clear hi)
     refine hK.out _ _ ⟨(blk_cell BK265.out 0).trans rfl, (blk_cell BK265.out 1).trans rfl, (blk_cell BK265.out 2).trans rfl, (blk_cell BK265.out 3).trans rfl, (blk_cell BK265.out 4).trans rfl, (blk_cell BK265.out 5).trans rfl, (blk_cell BK272.out 0).trans rfl, (blk_cell BK272.out 1).trans rfl, (blk_cell BK272.out 2).trans rfl, (blk_cell BK272.out 3).trans rfl, (blk_cell BK272.out 4).trans rfl, (blk_cell BK272.out 5).trans rfl⟩ (fun hHeld => ?_)
     clear hK K
     refine norm_ (a' := ?_) ?_ ?_
     rotate_left
     ·show Act.put _ (some 24) _ = _
      simp only [Act.put, List.setIfInBounds_toArray, List.set_cons_zero, List.set_cons_succ, i64_w, i32_w]
      rfl
     refine pure_ (i := 4) (N := some 4) (v := ?_) (a' := ?_) #[true, true, true, true, true, false] rfl rfl (by kernel_rfl) (fun _ _ _ h => h) (Or.inl ⟨by rfl, ?_⟩) ?_ ?_
     rotate_left
     ·intro w'
      go_simp
      with_reducible rfl
     rotate_left
     ·simp only [Act.put, List.setIfInBounds_toArray, List.set_cons_zero, List.set_cons_succ, i64_w, i32_w]
      rfl
     refine pure_ (i := 5) (N := some 5) (v := ?_) (a' := ?_) #[true, true, true, true, true, true] rfl rfl (by kernel_rfl) (fun _ _ _ h => h) (Or.inl ⟨by rfl, ?_⟩) ?_ ?_
     rotate_left
     ·intro w'
      go_simp
      with_reducible rfl
     rotate_left
     ·simp only [Act.put, List.setIfInBounds_toArray, List.set_cons_zero, List.set_cons_succ, i64_w, i32_w]
      rfl
     refine done_ (by kernel_rfl) ?_
     try go_wp2
     go_loopg [6] kj1 (fun kq v6 w' => ∃ (x6_2 : Int), v6 = .int .i64 x6_2 ∧ Aside0 (greenwoodlaw09_MatroidBounds.l0 kq t274 x6_2 a0_0 a0_1 a0_2 a0_3 l0_4 l0_5 8 a0_1 0 0 y269 = some r) ∧ Aside0 (kq ≤ kj1) ∧ Aside0 (Kd.V (Kd.slice 3 (Kd.int .i64)) 26 w' w.heap.size (fun k_ => ((P0_4_ k_ ∨ P0_5_ k_) ∨ w.heap.size ≤ k_) ∧ some k_ ≠ ((.slice Ao20 y269.length co20) : Value).ownBlock ∧ k_ ≠ gb265 ∧ k_ ≠ gb272) (.slice A0_4 l0_4.length c0_4) l0_4) ∧ Aside0 (Kd.V k25 25 w' w.heap.size (fun k_ => ((P0_4_ k_ ∨ P0_5_ k_) ∨ w.heap.size ≤ k_) ∧ some k_ ≠ ((.slice Ao20 y269.length co20) : Value).ownBlock ∧ k_ ≠ gb265 ∧ k_ ≠ gb272) (.slice A0_5 l0_5.length c0_5) l0_5) ∧ Aside0 (Kd.N k25 25 w' w.heap.size (fun k_ => ((P0_4_ k_ ∨ P0_5_ k_) ∨ w.heap.size ≤ k_) ∧ k_ ≠ gb265 ∧ k_ ≠ gb272) (.slice Ao20 y269.length co20) y269) ∧ Aside0 (w'.heap[gb265]? = some (.cells #[.int .i64 a0_0, .int .i64 a0_1, .int .i64 a0_2, .int .i64 a0_3, (.slice A0_4 l0_4.length c0_4), (.slice A0_5 l0_5.length c0_5)] 25 (0, 0))) ∧ Aside0 (w'.heap[gb272]? = some (.cells #[.int .i64 8, .int .i64 a0_1, .int .i64 0, .int .i64 0, (.slice none 0 0), (.slice Ao20 y269.length co20)] 25 (0, 0))) ∧ Aside0 (Below w.heap.size w w'))
     case atStart => exact ⟨(0), (by first | rfl | (simp; done) | (simp [*]; done)), H', ⟨Nat.le_refl _⟩, ⟨by (with_reducible repeat (first | apply Kd.V_alloc | apply Kd.V_drewN | apply Kd.V_drew)); exact HO_266004.out⟩, ⟨by (with_reducible repeat (first | apply Kd.V_alloc | apply Kd.V_drewN | apply Kd.V_drew)); exact HO_266005.out⟩, ⟨by (with_reducible repeat (first | apply Kd.N_alloc | apply Kd.N_drewN | apply Kd.N_drew)); exact HO271.out⟩, ⟨by (with_reducible repeat (first | refine blk_drewN ?_ _ | refine blk_drew ?_ | refine blk_alloc ?_ _)); exact BK265.out⟩, ⟨by (with_reducible repeat (first | refine blk_drewN ?_ _ | refine blk_drew ?_ | refine blk_alloc ?_ _)); exact BK272.out⟩, ⟨by repeat (first | (with_reducible first | exact HB.out | apply below_alloc | apply pw_below_drewN | apply below_drew1 | refine below_set ?_ GE265.out | refine below_set ?_ GE272.out) | exact HB.out)⟩⟩
     case round =>
      clear H'
      try clear c1
      try clear c2
      try clear p2
      try clear c4
      try clear c5
      try clear c6
      try clear c9
      try clear c11
      try clear c12
      try clear c16
      try clear c16b0
      try clear c16b1
      try clear c22
      try clear hcz17_0
      try clear hcz17_1
      try clear hcz17_2
      try clear hcz17_3
      try clear hcz17_4
      try clear hcz17_5
      try clear hcz23_0
      try clear hcz23_1
      try clear hcz23_2
      try clear hcz23_3
      try clear hcz23_4
      try clear hcz23_5
      try clear hcz8_0
      try clear hcz8_1
      try clear hcz8_2
      try clear hcz8_3
      try clear hcz8_4
      try clear hcz8_5
      try clear hfz17_0
      try clear hfz17_1
      try clear hfz17_2
      try clear hfz17_3
      try clear hfz17_4
      try clear hfz17_5
      try clear hfz23_0
      try clear hfz23_1
      try clear hfz23_2
      try clear hfz23_3
      try clear hfz23_4
      try clear hfz23_5
      try clear hfz8_0
      try clear hfz8_1
      try clear hfz8_2
      try clear hfz8_3
      try clear hfz8_4
      try clear hfz8_5
      try clear p2
      obtain ⟨x6_2, rfl, HA, HK2, HO_266004, HO_266005, HO_273005, BK265, BK272, HB⟩ := hrel
      cases gk with
      | zero => exact absurd HA.out (by simp [greenwoodlaw09_MatroidBounds.l0])
      | succ k2 =>
       have H := HA.out
       clear HA
       simp only [greenwoodlaw09_MatroidBounds.l0] at H
       by_cases c28 : x6_2 < (l0_5.length : Int)
       ·rw [if_pos c28] at H
        have c28b0 : decide (x6_2 < (l0_5.length : Int)) = true := decide_eq_true c28
        clear c28
        by_cases c29 : 0 ≤ x6_2
        ·rw [if_pos c29] at H
         have c29b0 : decide (0 ≤ x6_2) = true := decide_eq_true c29
         clear c29
         replace H := Option.bind_eq_some_iff.mp H
         obtain ⟨t276, A300, H⟩ := H
         replace H : (if t276 = 0 then ((matroid_Deep.f k2 ((rd_T25 l0_5 x6_2).f0) ((rd_T25 l0_5 x6_2).f1) ((rd_T25 l0_5 x6_2).f2) ((rd_T25 l0_5 x6_2).f3) ((rd_T25 l0_5 x6_2).f4) ((rd_T25 l0_5 x6_2).f5)).bind fun t278 => ((matroid_Deep.f k2 a0_0 a0_1 a0_2 a0_3 l0_4 l0_5).bind fun t279 => (if t278 ≥ t279 then (some false) else (greenwoodlaw09_MatroidBounds.l0 k2 t274 (wrap64 (x6_2 + 1)) a0_0 a0_1 a0_2 a0_3 l0_4 l0_5 8 a0_1 0 0 y269)))) else (some false)) = some r := H
         have A30 := Aside0.mk A300
         clear A300
         by_cases c31 : t276 = 0
         ·rw [if_pos c31] at H
          have c31b0 : (t276 == 0) = true := beq_iff_eq.mpr c31
          have c31b1 : (t276 != 0) = false := bne_eq_false_iff_eq.mpr c31
          clear c31
          replace H := Option.bind_eq_some_iff.mp H
          obtain ⟨t278, A320, H⟩ := H
          replace H : ((matroid_Deep.f k2 a0_0 a0_1 a0_2 a0_3 l0_4 l0_5).bind fun t279 => (if t278 ≥ t279 then (some false) else (greenwoodlaw09_MatroidBounds.l0 k2 t274 (wrap64 (x6_2 + 1)) a0_0 a0_1 a0_2 a0_3 l0_4 l0_5 8 a0_1 0 0 y269))) = some r := H
          have A32 := Aside0.mk A320
          clear A320
          replace H := Option.bind_eq_some_iff.mp H
          obtain ⟨t279, A330, H⟩ := H
          replace H : (if t278 ≥ t279 then (some false) else (greenwoodlaw09_MatroidBounds.l0 k2 t274 (wrap64 (x6_2 + 1)) a0_0 a0_1 a0_2 a0_3 l0_4 l0_5 8 a0_1 0 0 y269)) = some r := H
          have A33 := Aside0.mk A330
          clear A330
          by_cases c34 : t278 ≥ t279
          ·rw [if_pos c34] at H
           have c34b0 : decide (t279 ≤ t278) = true := decide_eq_true c34
           clear c34
           exact absurd ((Option.some.inj H).trans hrT) (by decide)
          ·rw [if_neg c34] at H
           have c34b0 : decide (t279 ≤ t278) = false := decide_eq_false c34
           clear c34
           have H' := Aside0.mk H
           clear H
           have hnb35 := NB265_272.out
           have hnc35 := NB272_265.out
           have hcz36_0 : wr.cell? ⟨gb265, 0, none⟩ = some (.int .i64 a0_0) := (blk_cell BK265.out 0).trans rfl
           have hcz36_1 : wr.cell? ⟨gb265, 1, none⟩ = some (.int .i64 a0_1) := (blk_cell BK265.out 1).trans rfl
           have hcz36_2 : wr.cell? ⟨gb265, 2, none⟩ = some (.int .i64 a0_2) := (blk_cell BK265.out 2).trans rfl
           have hcz36_3 : wr.cell? ⟨gb265, 3, none⟩ = some (.int .i64 a0_3) := (blk_cell BK265.out 3).trans rfl
           have hcz36_4 : wr.cell? ⟨gb265, 4, none⟩ = some (.slice A0_4 l0_4.length c0_4) := (blk_cell BK265.out 4).trans rfl
           have hcz36_5 : wr.cell? ⟨gb265, 5, none⟩ = some (.slice A0_5 l0_5.length c0_5) := (blk_cell BK265.out 5).trans rfl
           have hfz36_0 := blk_frozen BK265.out 0
           have hfz36_1 := blk_frozen BK265.out 1
           have hfz36_2 := blk_frozen BK265.out 2
           have hfz36_3 := blk_frozen BK265.out 3
           have hfz36_4 := blk_frozen BK265.out 4
           have hfz36_5 := blk_frozen BK265.out 5
           try go_wp2
           have n0_ := Aside0.mk (Kd.V_drew HO_266004.out)
           have n1_ := Aside0.mk (Kd.V_drew HO_266005.out)
           have n2_ := Aside0.mk (Kd.N_drew HO_273005.out)
           have n3_ := Aside0.mk (blk_drew BK265.out)
           have n4_ := Aside0.mk (blk_drew BK272.out)
           have n5_ := Aside0.mk (below_drew1 HB.out)
           clear HO_266004
           clear HO_266005
           clear HO_273005
           clear BK265
           clear BK272
           clear HB
           have HO_266004 := n0_
           have HO_266005 := n1_
           have HO_273005 := n2_
           have BK265 := n3_
           have BK272 := n4_
           have HB := n5_
           clear n0_ n1_ n2_ n3_ n4_ n5_
           have p275 : 0 ≤ (x6_2 : Int) := of_decide_eq_true (by first | (with_reducible assumption) | assumption)
           have q275 : x6_2 < (l0_5.length : Int) := of_decide_eq_true (by first | (with_reducible assumption) | assumption)
           obtain ⟨ad275, A275_4, c275_4, A275_5, c275_5, e275, hx275_0, hx275_1, hx275_2, hx275_3, hx275_4, hx275_5, hl275_4, hi275_4, hl275_5, hi275_5⟩ := at_T25 (Kd.V_reads' HO_266005.out).2.2 x6_2 p275 q275
           cases e275
           obtain ⟨ce275, hce275, hMe275, hcc275⟩ := Kd.V_get HO_266005.out z25 x6_2 p275 (by first | exact q275 | exact of_decide_eq_true (by first | (with_reducible assumption) | assumption) | (have e_ := (Kd.V_reads' HO_266005.out).1; omega))
           obtain ⟨ua275_4, uc275_4, ua275_5, uc275_5, rfl, ul275_4, ge275_4, ul275_5, ge275_5⟩ := k25_openF hMe275
           have hv275_4 := hcc275 4 _ rfl
           rw [add_field _ _ 4 (by omega)] at hv275_4
           replace hv275_4 := Option.some.inj (hv275_4.symm.trans hx275_4)
           injection hv275_4 with hva_ hvn_ hvc_
           rw [hva_] at ge275_4
           rw [hvc_] at ul275_4
           have HL275_4 := Aside0.mk (show Kd.V (Kd.slice 3 (Kd.int .i64)) 26 _ w.heap.size _ _ ((rd_T25 l0_5 x6_2).f4) from Kd.V_mk ul275_4 ge275_4)
           clear hva_ hvn_ hvc_ ge275_4 ul275_4
           have hv275_5 := hcc275 5 _ rfl
           rw [add_field _ _ 5 (by omega)] at hv275_5
           replace hv275_5 := Option.some.inj (hv275_5.symm.trans hx275_5)
           injection hv275_5 with hva_ hvn_ hvc_
           rw [hva_] at ge275_5
           rw [hvc_] at ul275_5
           have HL275_5 := Aside0.mk (show Kd.V k25 25 _ w.heap.size _ _ ((rd_T25 l0_5 x6_2).f5) from Kd.V_mk ul275_5 ge275_5)
           clear hva_ hvn_ hvc_ ge275_5 ul275_5
           clear hcc275 hce275
           have HR275_4 := Aside0.mk hi275_4
           have HC275_4 := Aside0.mk hl275_4
           clear hi275_4 hl275_4
           have HR275_5 := Aside0.mk hi275_5
           have HC275_5 := Aside0.mk hl275_5
           clear hi275_5 hl275_5
           replace p275 := eq_true p275
           replace q275 := eq_true q275
           have p277 : 0 ≤ (x6_2 : Int) := of_decide_eq_true (by first | (with_reducible assumption) | assumption)
           have q277 : x6_2 < (l0_5.length : Int) := of_decide_eq_true (by first | (with_reducible assumption) | assumption)
           obtain ⟨ad277, A277_4, c277_4, A277_5, c277_5, e277, hx277_0, hx277_1, hx277_2, hx277_3, hx277_4, hx277_5, hl277_4, hi277_4, hl277_5, hi277_5⟩ := at_T25 (Kd.V_reads' HO_266005.out).2.2 x6_2 p277 q277
           obtain rfl : ad275 = ad277 := (by injection e277)
           obtain ⟨ce277, hce277, hMe277, hcc277⟩ := Kd.V_get HO_266005.out z25 x6_2 p277 (by first | exact q277 | exact of_decide_eq_true (by first | (with_reducible assumption) | assumption) | (have e_ := (Kd.V_reads' HO_266005.out).1; omega))
           obtain ⟨ua277_4, uc277_4, ua277_5, uc277_5, rfl, ul277_4, ge277_4, ul277_5, ge277_5⟩ := k25_openF hMe277
           have hv277_4 := hcc277 4 _ rfl
           rw [add_field _ _ 4 (by omega)] at hv277_4
           replace hv277_4 := Option.some.inj (hv277_4.symm.trans hx277_4)
           injection hv277_4 with hva_ hvn_ hvc_
           rw [hva_] at ge277_4
           rw [hvc_] at ul277_4
           have HL277_4 := Aside0.mk (show Kd.V (Kd.slice 3 (Kd.int .i64)) 26 _ w.heap.size _ _ ((rd_T25 l0_5 x6_2).f4) from Kd.V_mk ul277_4 ge277_4)
           clear hva_ hvn_ hvc_ ge277_4 ul277_4
           have hv277_5 := hcc277 5 _ rfl
           rw [add_field _ _ 5 (by omega)] at hv277_5
           replace hv277_5 := Option.some.inj (hv277_5.symm.trans hx277_5)
           injection hv277_5 with hva_ hvn_ hvc_
           rw [hva_] at ge277_5
           rw [hvc_] at ul277_5
           have HL277_5 := Aside0.mk (show Kd.V k25 25 _ w.heap.size _ _ ((rd_T25 l0_5 x6_2).f5) from Kd.V_mk ul277_5 ge277_5)
           clear hva_ hvn_ hvc_ ge277_5 ul277_5
           clear hcc277 hce277
           have HR277_4 := Aside0.mk hi277_4
           have HC277_4 := Aside0.mk hl277_4
           clear hi277_4 hl277_4
           have HR277_5 := Aside0.mk hi277_5
           have HC277_5 := Aside0.mk hl277_5
           clear hi277_5 hl277_5
           have eA4 : A275_4 = A277_4 := by have q := Option.some.inj (hx275_4.symm.trans hx277_4); injection q
           have eC4 : c275_4 = c277_4 := by have q := Option.some.inj (hx275_4.symm.trans hx277_4); injection q
           have eA5 : A275_5 = A277_5 := by have q := Option.some.inj (hx275_5.symm.trans hx277_5); injection q
           have eC5 : c275_5 = c277_5 := by have q := Option.some.inj (hx275_5.symm.trans hx277_5); injection q
           subst eA4 eA5 eC4 eC5
           replace p277 := eq_true p277
           replace q277 := eq_true q277
           refine start_ (n := 18) (S := fun w' => w'.cell? ⟨gb265, 0, none⟩ = some (.int .i64 a0_0) ∧ w'.cell? ⟨gb265, 1, none⟩ = some (.int .i64 a0_1) ∧ w'.cell? ⟨gb265, 2, none⟩ = some (.int .i64 a0_2) ∧ w'.cell? ⟨gb265, 3, none⟩ = some (.int .i64 a0_3) ∧ w'.cell? ⟨gb265, 4, none⟩ = some (.slice A0_4 l0_4.length c0_4) ∧ w'.cell? ⟨gb265, 5, none⟩ = some (.slice (some ad275) l0_5.length c0_5) ∧ w'.cell? (ad275.add ((x6_2).toNat * 6)) = some (.int .i64 ((rd_T25 l0_5 x6_2).f0)) ∧ w'.cell? ⟨(ad275.add ((x6_2).toNat * 6)).block, (ad275.add ((x6_2).toNat * 6)).off + 1, none⟩ = some (.int .i64 ((rd_T25 l0_5 x6_2).f1)) ∧ w'.cell? ⟨(ad275.add ((x6_2).toNat * 6)).block, (ad275.add ((x6_2).toNat * 6)).off + 2, none⟩ = some (.int .i64 ((rd_T25 l0_5 x6_2).f2)) ∧ w'.cell? ⟨(ad275.add ((x6_2).toNat * 6)).block, (ad275.add ((x6_2).toNat * 6)).off + 3, none⟩ = some (.int .i64 ((rd_T25 l0_5 x6_2).f3)) ∧ w'.cell? ⟨(ad275.add ((x6_2).toNat * 6)).block, (ad275.add ((x6_2).toNat * 6)).off + 4, none⟩ = some (.slice A275_4 ((rd_T25 l0_5 x6_2).f4).length c275_4) ∧ w'.cell? ⟨(ad275.add ((x6_2).toNat * 6)).block, (ad275.add ((x6_2).toNat * 6)).off + 5, none⟩ = some (.slice A275_5 ((rd_T25 l0_5 x6_2).f5).length c275_5) ∧ w'.cell? (ad275.add ((x6_2).toNat * 6)) = some (.int .i64 ((rd_T25 l0_5 x6_2).f0)) ∧ w'.cell? ⟨(ad275.add ((x6_2).toNat * 6)).block, (ad275.add ((x6_2).toNat * 6)).off + 1, none⟩ = some (.int .i64 ((rd_T25 l0_5 x6_2).f1)) ∧ w'.cell? ⟨(ad275.add ((x6_2).toNat * 6)).block, (ad275.add ((x6_2).toNat * 6)).off + 2, none⟩ = some (.int .i64 ((rd_T25 l0_5 x6_2).f2)) ∧ w'.cell? ⟨(ad275.add ((x6_2).toNat * 6)).block, (ad275.add ((x6_2).toNat * 6)).off + 3, none⟩ = some (.int .i64 ((rd_T25 l0_5 x6_2).f3)) ∧ w'.cell? ⟨(ad275.add ((x6_2).toNat * 6)).block, (ad275.add ((x6_2).toNat * 6)).off + 4, none⟩ = some (.slice A275_4 ((rd_T25 l0_5 x6_2).f4).length c275_4) ∧ w'.cell? ⟨(ad275.add ((x6_2).toNat * 6)).block, (ad275.add ((x6_2).toNat * 6)).off + 5, none⟩ = some (.slice A275_5 ((rd_T25 l0_5 x6_2).f5).length c275_5)) (ds := []) #[false, false, false, false, false, false, false, false, false, false, false, false, false, false, false, false, false, false] (by kernel_rfl) rfl rfl ⟨(blk_cell BK265.out 0).trans rfl, (blk_cell BK265.out 1).trans rfl, (blk_cell BK265.out 2).trans rfl, (blk_cell BK265.out 3).trans rfl, (blk_cell BK265.out 4).trans rfl, (blk_cell BK265.out 5).trans rfl, hx275_0, hx275_1, hx275_2, hx275_3, hx275_4, hx275_5, hx277_0, hx277_1, hx277_2, hx277_3, hx277_4, hx277_5⟩ (fun hHeld => ?_); refine with_tabW greenwoodlaw09_MatroidBounds.tab10 greenwoodlaw09_MatroidBounds.bits10 (fun HT_ HW_ => ?_)
           generalize wr.drew = w37 at HO_266004 HO_266005 HO_273005 BK265 BK272 HB HL275_4 HL275_5 HL277_4 HL277_5 HR275_4 HR275_5 HR277_4 HR277_5 hx275_0 hx275_1 hx275_2 hx275_3 hx275_4 hx275_5 hx277_0 hx277_1 hx277_2 hx277_3 hx277_4 hx277_5 hHeld ⊢
           refine pure_ (i := 0) (N := some 36) (v := ?_) (a' := ?_) #[true, false, false, false, false, false, false, false, false, false, false, false, false, false, false, false, false, false] rfl rfl (any_of HT_.out (by kernel_rfl)) (fun _ _ _ h => h) (Or.inl ⟨by rfl, ?_⟩) ?_ ?_
           rotate_left
           ·intro w'
            go_simp
            with_reducible rfl
           rotate_left
           ·simp only [Act.put, List.setIfInBounds_toArray, List.set_cons_zero, List.set_cons_succ, i64_w, i32_w]
            rfl
           refine pure_ (i := 2) (N := some 38) (v := ?_) (a' := ?_) #[true, false, true, false, false, false, false, false, false, false, false, false, false, false, false, false, false, false] rfl rfl (any_of HT_.out (by kernel_rfl)) (fun _ _ _ h => h) (Or.inl ⟨by rfl, ?_⟩) ?_ ?_
           rotate_left
           ·intro w'
            go_simp
            with_reducible rfl
           rotate_left
           ·simp only [Act.put, List.setIfInBounds_toArray, List.set_cons_zero, List.set_cons_succ, i64_w, i32_w]
            rfl
           refine take_ (i := 1) (N := some 37) (v := ?_) (a' := ?_) #[true, true, true, false, false, false, false, false, false, false, false, false, false, false, false, false, false, false] rfl rfl (take_ofW HT_.out HW_.out (by kernel_rfl)) (fun _ _ _ h => h) (Or.inl ⟨by rfl, ?_⟩) hHeld ?_ ?_
           rotate_left
           ·rintro w' ⟨s0, s1, s2, s3, s4, s5, s6, s7, s8, s9, s10, s11, s12, s13, s14, s15, s16, s17⟩
            go_simp
            with_reducible rfl
           rotate_left
           ·simp only [Act.put, List.setIfInBounds_toArray, List.set_cons_zero, List.set_cons_succ, i64_w, i32_w]
            rfl
           refine pure_ (i := 3) (N := some 39) (v := ?_) (a' := ?_) #[true, true, true, true, false, false, false, false, false, false, false, false, false, false, false, false, false, false] rfl rfl (any_of HT_.out (by kernel_rfl)) (fun _ _ _ h => h) (Or.inl ⟨by rfl, ?_⟩) ?_ ?_
           rotate_left
           ·intro w'
            go_simp
            with_reducible rfl
           rotate_left
           ·simp only [Act.put, List.setIfInBounds_toArray, List.set_cons_zero, List.set_cons_succ, i64_w, i32_w]
            rfl
           refine take_ (i := 4) (N := some 40) (v := ?_) (a' := ?_) #[true, true, true, true, true, false, false, false, false, false, false, false, false, false, false, false, false, false] rfl rfl (take_ofW HT_.out HW_.out (by kernel_rfl)) (fun _ _ _ h => h) (Or.inl ⟨by rfl, ?_⟩) hHeld ?_ ?_
           rotate_left
           ·rintro w' ⟨s0, s1, s2, s3, s4, s5, s6, s7, s8, s9, s10, s11, s12, s13, s14, s15, s16, s17⟩
            go_simp
            with_reducible rfl
           rotate_left
           ·simp only [Act.put, List.setIfInBounds_toArray, List.set_cons_zero, List.set_cons_succ, i64_w, i32_w]
            rfl
           refine one_ (i := 5) (N := some 41) #[true, true, true, true, true, true, false, false, false, false, false, false, false, false, false, false, false, false] rfl rfl (one_of HT_.out (by kernel_rfl)) (by decide) (fun K hK => ?_)
           refine goes_ Tryd.func12 (by kernel_rfl) rfl #[.agg #[.int .i64 ((rd_T25 l0_5 x6_2).f0), .int .i64 ((rd_T25 l0_5 x6_2).f1), .int .i64 ((rd_T25 l0_5 x6_2).f2), .int .i64 ((rd_T25 l0_5 x6_2).f3), .slice A275_4 ((rd_T25 l0_5 x6_2).f4).length c275_4, .slice A275_5 ((rd_T25 l0_5 x6_2).f5).length c275_5]] (by rfl) rfl rfl (by (try simp only [List.map_toArray, List.map_cons, List.map_nil]); first | done | rfl | (simp only [List.length_drop, List.length_take]; rfl)) ?_
           with_reducible refine (matroid_Check.calls ((rd_T25 l0_5 x6_2).f0) ((rd_T25 l0_5 x6_2).f1) ((rd_T25 l0_5 x6_2).f2) ((rd_T25 l0_5 x6_2).f3) _ _ ((rd_T25 l0_5 x6_2).f4) _ _ ((rd_T25 l0_5 x6_2).f5) t276 _ ?side5 ?side1 ?side2 ?side3 ?side4 A30.out).mono ?_
           (case side1 => repeat (first | exact (by repeat (first | (with_reducible exact HR275_4.out) | (with_reducible refine Kd.C_alloc ?_ _) | (with_reducible refine Kd.C_drewN ?_ _) | (with_reducible refine Kd.C_drew ?_) | exact HR275_4.out)) | (with_reducible refine Kd.C_alloc ?_ _) | (with_reducible refine Kd.C_drewN ?_ _) | (with_reducible refine Kd.C_drew ?_)))
           (case side2 => exact HC275_4.out)
           (case side3 => repeat (first | exact (by repeat (first | (with_reducible exact HR275_5.out) | (with_reducible refine Kd.C_alloc ?_ _) | (with_reducible refine Kd.C_drewN ?_ _) | (with_reducible refine Kd.C_drew ?_) | exact HR275_5.out)) | (with_reducible refine Kd.C_alloc ?_ _) | (with_reducible refine Kd.C_drewN ?_ _) | (with_reducible refine Kd.C_drew ?_)))
           (case side4 => exact HC275_5.out)
           (case side5 => exact EV.below HEV.out (by repeat (first | (with_reducible first | exact HB.out | apply below_alloc | apply pw_below_drewN | apply below_drew1 | refine below_set ?_ GE265.out | refine below_set ?_ GE272.out) | exact HB.out)) (EV.pos HEV.out))
           rintro e w38 ⟨rfl, hb⟩
           have HS6_ := (hb.cell (World.block_lt_of_cell? _ _ (hHeld.2.2.2.2.2.2.1))).trans (hHeld.2.2.2.2.2.2.1)
           have HS7_ := (hb.cell (World.block_lt_of_cell? _ _ (hHeld.2.2.2.2.2.2.2.1))).trans (hHeld.2.2.2.2.2.2.2.1)
           have HS8_ := (hb.cell (World.block_lt_of_cell? _ _ (hHeld.2.2.2.2.2.2.2.2.1))).trans (hHeld.2.2.2.2.2.2.2.2.1)
           have HS9_ := (hb.cell (World.block_lt_of_cell? _ _ (hHeld.2.2.2.2.2.2.2.2.2.1))).trans (hHeld.2.2.2.2.2.2.2.2.2.1)
           have HS10_ := (hb.cell (World.block_lt_of_cell? _ _ (hHeld.2.2.2.2.2.2.2.2.2.2.1))).trans (hHeld.2.2.2.2.2.2.2.2.2.2.1)
           have HS11_ := (hb.cell (World.block_lt_of_cell? _ _ (hHeld.2.2.2.2.2.2.2.2.2.2.2.1))).trans (hHeld.2.2.2.2.2.2.2.2.2.2.2.1)
           have HS12_ := (hb.cell (World.block_lt_of_cell? _ _ (hHeld.2.2.2.2.2.2.2.2.2.2.2.2.1))).trans (hHeld.2.2.2.2.2.2.2.2.2.2.2.2.1)
           have HS13_ := (hb.cell (World.block_lt_of_cell? _ _ (hHeld.2.2.2.2.2.2.2.2.2.2.2.2.2.1))).trans (hHeld.2.2.2.2.2.2.2.2.2.2.2.2.2.1)
           have HS14_ := (hb.cell (World.block_lt_of_cell? _ _ (hHeld.2.2.2.2.2.2.2.2.2.2.2.2.2.2.1))).trans (hHeld.2.2.2.2.2.2.2.2.2.2.2.2.2.2.1)
           have HS15_ := (hb.cell (World.block_lt_of_cell? _ _ (hHeld.2.2.2.2.2.2.2.2.2.2.2.2.2.2.2.1))).trans (hHeld.2.2.2.2.2.2.2.2.2.2.2.2.2.2.2.1)
           have HS16_ := (hb.cell (World.block_lt_of_cell? _ _ (hHeld.2.2.2.2.2.2.2.2.2.2.2.2.2.2.2.2.1))).trans (hHeld.2.2.2.2.2.2.2.2.2.2.2.2.2.2.2.2.1)
           have HS17_ := (hb.cell (World.block_lt_of_cell? _ _ (hHeld.2.2.2.2.2.2.2.2.2.2.2.2.2.2.2.2.2))).trans (hHeld.2.2.2.2.2.2.2.2.2.2.2.2.2.2.2.2.2)
           refine ⟨_, rfl, ?_⟩
           have n0_ := Aside0.mk (Kd.V_below (by (with_reducible repeat (first | apply Kd.V_alloc | apply Kd.V_drewN | apply Kd.V_drew)); exact HO_266004.out) hb)
           have n1_ := Aside0.mk (Kd.V_below (by (with_reducible repeat (first | apply Kd.V_alloc | apply Kd.V_drewN | apply Kd.V_drew)); exact HO_266005.out) hb)
           have n2_ := Aside0.mk (Kd.N_below (by (with_reducible repeat (first | apply Kd.N_alloc | apply Kd.N_drewN | apply Kd.N_drew)); exact HO_273005.out) hb)
           have n3_ := Aside0.mk (Kd.V_below (by (with_reducible repeat (first | apply Kd.V_alloc | apply Kd.V_drewN | apply Kd.V_drew)); exact HL275_4.out) hb)
           have n4_ := Aside0.mk (Kd.V_below (by (with_reducible repeat (first | apply Kd.V_alloc | apply Kd.V_drewN | apply Kd.V_drew)); exact HL275_5.out) hb)
           have n5_ := Aside0.mk (blk_below (g := gb265) (o := .cells #[.int .i64 a0_0, .int .i64 a0_1, .int .i64 a0_2, .int .i64 a0_3, .slice A0_4 l0_4.length c0_4, .slice (some ad275) l0_5.length c0_5] 25 (0, 0)) (by (with_reducible repeat (first | refine blk_drewN ?_ _ | refine blk_drew ?_ | refine blk_alloc ?_ _)); exact BK265.out) hb)
           have n6_ := Aside0.mk (blk_below (g := gb272) (o := .cells #[.int .i64 8, .int .i64 a0_1, .int .i64 0, .int .i64 0, .slice none 0 0, .slice Ao20 y269.length co20] 25 (0, 0)) (by (with_reducible repeat (first | refine blk_drewN ?_ _ | refine blk_drew ?_ | refine blk_alloc ?_ _)); exact BK272.out) hb)
           have n7_ := Aside0.mk (Kd.C_below (by repeat (first | (with_reducible exact HR275_4.out) | (with_reducible refine Kd.C_alloc ?_ _) | (with_reducible refine Kd.C_drewN ?_ _) | (with_reducible refine Kd.C_drew ?_) | exact HR275_4.out)) hb)
           have n8_ := Aside0.mk (Kd.C_below (by repeat (first | (with_reducible exact HR275_5.out) | (with_reducible refine Kd.C_alloc ?_ _) | (with_reducible refine Kd.C_drewN ?_ _) | (with_reducible refine Kd.C_drew ?_) | exact HR275_5.out)) hb)
           have n9_ := Aside0.mk (below_step (by repeat (first | (with_reducible first | exact HB.out | apply below_alloc | apply pw_below_drewN | apply below_drew1 | refine below_set ?_ GE265.out | refine below_set ?_ GE272.out) | exact HB.out)) hb)
           have m0_ := Aside0.mk (Kd.V_below HL277_4.out hb)
           have m1_ := Aside0.mk (Kd.V_below HL277_5.out hb)
           have m2_ := Aside0.mk (Kd.C_below HR277_4.out hb)
           have m3_ := Aside0.mk (Kd.C_below HR277_5.out hb)
           clear HL277_4 HL277_5 HR277_4 HR277_5
           have HL277_4 := m0_
           have HL277_5 := m1_
           have HR277_4 := m2_
           have HR277_5 := m3_
           clear m0_ m1_ m2_ m3_
           clear HO_266004
           clear HO_266005
           clear HO_273005
           clear HL275_4
           clear HL275_5
           clear BK265
           clear BK272
           clear HR275_4
           clear HR275_5
           clear HB
           have HO_266004 := n0_
           have HO_266005 := n1_
           have HO_273005 := n2_
           have HL275_4 := n3_
           have HL275_5 := n4_
           have BK265 := n5_
           have BK272 := n6_
           have HR275_4 := n7_
           have HR275_5 := n8_
           have HB := n9_
           clear n0_ n1_ n2_ n3_ n4_ n5_ n6_ n7_ n8_ n9_
           (try clear hb)
           (try clear hb2)
           (try clear hk)
           (try clear hi)
           refine hK.out _ _ ⟨(blk_cell BK265.out 0).trans rfl, (blk_cell BK265.out 1).trans rfl, (blk_cell BK265.out 2).trans rfl, (blk_cell BK265.out 3).trans rfl, (blk_cell BK265.out 4).trans rfl, (blk_cell BK265.out 5).trans rfl, HS6_, HS7_, HS8_, HS9_, HS10_, HS11_, HS12_, HS13_, HS14_, HS15_, HS16_, HS17_⟩ (fun hHeld => ?_)
           clear hK K
           refine norm_ (a' := ?_) ?_ ?_
           rotate_left
           ·show Act.put _ (some 41) _ = _
            simp only [Act.put, List.setIfInBounds_toArray, List.set_cons_zero, List.set_cons_succ, i64_w, i32_w]
            rfl
           refine pure_ (i := 6) (N := some 42) (v := ?_) (a' := ?_) #[true, true, true, true, true, true, true, false, false, false, false, false, false, false, false, false, false, false] rfl rfl (any_of HT_.out (by kernel_rfl)) (fun _ _ _ h => h) (Or.inl ⟨by rfl, ?_⟩) ?_ ?_
           rotate_left
           ·intro w'
            go_simp
            with_reducible rfl
           rotate_left
           ·simp only [Act.put, List.setIfInBounds_toArray, List.set_cons_zero, List.set_cons_succ, i64_w, i32_w]
            rfl
           refine pure_ (i := 7) (N := some 43) (v := ?_) (a' := ?_) #[true, true, true, true, true, true, true, true, false, false, false, false, false, false, false, false, false, false] rfl rfl (any_of HT_.out (by kernel_rfl)) (fun _ _ _ h => h) (Or.inl ⟨by rfl, ?_⟩) ?_ ?_
           rotate_left
           ·intro w'
            go_simp
            with_reducible rfl
           rotate_left
           ·simp only [Act.put, List.setIfInBounds_toArray, List.set_cons_zero, List.set_cons_succ, i64_w, i32_w]
            rfl
           refine pure_ (i := 8) (N := some 44) (v := ?_) (a' := ?_) #[true, true, true, true, true, true, true, true, true, false, false, false, false, false, false, false, false, false] rfl rfl (any_of HT_.out (by kernel_rfl)) (fun _ _ _ h => h) (Or.inl ⟨by rfl, ?_⟩) ?_ ?_
           rotate_left
           ·intro w'
            go_simp
            with_reducible rfl
           rotate_left
           ·simp only [Act.put, List.setIfInBounds_toArray, List.set_cons_zero, List.set_cons_succ, i64_w, i32_w]
            rfl
           refine pure_ (i := 10) (N := some 46) (v := ?_) (a' := ?_) #[true, true, true, true, true, true, true, true, true, false, true, false, false, false, false, false, false, false] rfl rfl (any_of HT_.out (by kernel_rfl)) (fun _ _ _ h => h) (Or.inl ⟨by rfl, ?_⟩) ?_ ?_
           rotate_left
           ·intro w'
            go_simp
            with_reducible rfl
           rotate_left
           ·simp only [Act.put, List.setIfInBounds_toArray, List.set_cons_zero, List.set_cons_succ, i64_w, i32_w]
            rfl
           refine take_ (i := 9) (N := some 45) (v := ?_) (a' := ?_) #[true, true, true, true, true, true, true, true, true, true, true, false, false, false, false, false, false, false] rfl rfl (take_ofW HT_.out HW_.out (by kernel_rfl)) (fun _ _ _ h => h) (Or.inl ⟨by rfl, ?_⟩) hHeld ?_ ?_
           rotate_left
           ·rintro w' ⟨s0, s1, s2, s3, s4, s5, s6, s7, s8, s9, s10, s11, s12, s13, s14, s15, s16, s17⟩
            go_simp
            with_reducible rfl
           rotate_left
           ·simp only [Act.put, List.setIfInBounds_toArray, List.set_cons_zero, List.set_cons_succ, i64_w, i32_w]
            rfl
           refine pure_ (i := 11) (N := some 47) (v := ?_) (a' := ?_) #[true, true, true, true, true, true, true, true, true, true, true, true, false, false, false, false, false, false] rfl rfl (any_of HT_.out (by kernel_rfl)) (fun _ _ _ h => h) (Or.inl ⟨by rfl, ?_⟩) ?_ ?_
           rotate_left
           ·intro w'
            go_simp
            with_reducible rfl
           rotate_left
           ·simp only [Act.put, List.setIfInBounds_toArray, List.set_cons_zero, List.set_cons_succ, i64_w, i32_w]
            rfl
           refine take_ (i := 12) (N := some 48) (v := ?_) (a' := ?_) #[true, true, true, true, true, true, true, true, true, true, true, true, true, false, false, false, false, false] rfl rfl (take_ofW HT_.out HW_.out (by kernel_rfl)) (fun _ _ _ h => h) (Or.inl ⟨by rfl, ?_⟩) hHeld ?_ ?_
           rotate_left
           ·rintro w' ⟨s0, s1, s2, s3, s4, s5, s6, s7, s8, s9, s10, s11, s12, s13, s14, s15, s16, s17⟩
            go_simp
            with_reducible rfl
           rotate_left
           ·simp only [Act.put, List.setIfInBounds_toArray, List.set_cons_zero, List.set_cons_succ, i64_w, i32_w]
            rfl
           refine take_ (i := 14) (N := some 50) (v := ?_) (a' := ?_) #[true, true, true, true, true, true, true, true, true, true, true, true, true, false, true, false, false, false] rfl rfl (take_ofW HT_.out HW_.out (by kernel_rfl)) (fun _ _ _ h => h) (Or.inl ⟨by rfl, ?_⟩) hHeld ?_ ?_
           rotate_left
           ·rintro w' ⟨s0, s1, s2, s3, s4, s5, s6, s7, s8, s9, s10, s11, s12, s13, s14, s15, s16, s17⟩
            go_simp
            with_reducible rfl
           rotate_left
           ·simp only [Act.put, List.setIfInBounds_toArray, List.set_cons_zero, List.set_cons_succ, i64_w, i32_w]
            rfl
           refine one_ (i := 13) (N := some 49) #[true, true, true, true, true, true, true, true, true, true, true, true, true, true, true, false, false, false] rfl rfl (one_of HT_.out (by kernel_rfl)) (by decide) (fun K hK => ?_)
           refine goes_ Tryd.func14 (by kernel_rfl) rfl #[.agg #[.int .i64 ((rd_T25 l0_5 x6_2).f0), .int .i64 ((rd_T25 l0_5 x6_2).f1), .int .i64 ((rd_T25 l0_5 x6_2).f2), .int .i64 ((rd_T25 l0_5 x6_2).f3), .slice A275_4 ((rd_T25 l0_5 x6_2).f4).length c275_4, .slice A275_5 ((rd_T25 l0_5 x6_2).f5).length c275_5]] (by rfl) rfl rfl (by (try simp only [List.map_toArray, List.map_cons, List.map_nil]); first | done | rfl | (simp only [List.length_drop, List.length_take]; rfl)) ?_
           with_reducible refine (matroid_Deep.calls k2 ((rd_T25 l0_5 x6_2).f0) ((rd_T25 l0_5 x6_2).f1) ((rd_T25 l0_5 x6_2).f2) ((rd_T25 l0_5 x6_2).f3) _ _ ((rd_T25 l0_5 x6_2).f4) _ _ ((rd_T25 l0_5 x6_2).f5) t278 _ ?side1 ?side2 ?side3 ?side4 A32.out).mono ?_
           (case side1 => repeat (first | exact (by repeat (first | (with_reducible exact HR277_4.out) | (with_reducible refine Kd.C_alloc ?_ _) | (with_reducible refine Kd.C_drewN ?_ _) | (with_reducible refine Kd.C_drew ?_) | exact HR277_4.out)) | (with_reducible refine Kd.C_alloc ?_ _) | (with_reducible refine Kd.C_drewN ?_ _) | (with_reducible refine Kd.C_drew ?_)))
           (case side2 => exact HC277_4.out)
           (case side3 => repeat (first | exact (by repeat (first | (with_reducible exact HR277_5.out) | (with_reducible refine Kd.C_alloc ?_ _) | (with_reducible refine Kd.C_drewN ?_ _) | (with_reducible refine Kd.C_drew ?_) | exact HR277_5.out)) | (with_reducible refine Kd.C_alloc ?_ _) | (with_reducible refine Kd.C_drewN ?_ _) | (with_reducible refine Kd.C_drew ?_)))
           (case side4 => exact HC277_5.out)
           rintro e w39 ⟨rfl, hb⟩
           have HS6_ := (hb.cell (World.block_lt_of_cell? _ _ (hHeld.2.2.2.2.2.2.1))).trans (hHeld.2.2.2.2.2.2.1)
           have HS7_ := (hb.cell (World.block_lt_of_cell? _ _ (hHeld.2.2.2.2.2.2.2.1))).trans (hHeld.2.2.2.2.2.2.2.1)
           have HS8_ := (hb.cell (World.block_lt_of_cell? _ _ (hHeld.2.2.2.2.2.2.2.2.1))).trans (hHeld.2.2.2.2.2.2.2.2.1)
           have HS9_ := (hb.cell (World.block_lt_of_cell? _ _ (hHeld.2.2.2.2.2.2.2.2.2.1))).trans (hHeld.2.2.2.2.2.2.2.2.2.1)
           have HS10_ := (hb.cell (World.block_lt_of_cell? _ _ (hHeld.2.2.2.2.2.2.2.2.2.2.1))).trans (hHeld.2.2.2.2.2.2.2.2.2.2.1)
           have HS11_ := (hb.cell (World.block_lt_of_cell? _ _ (hHeld.2.2.2.2.2.2.2.2.2.2.2.1))).trans (hHeld.2.2.2.2.2.2.2.2.2.2.2.1)
           have HS12_ := (hb.cell (World.block_lt_of_cell? _ _ (hHeld.2.2.2.2.2.2.2.2.2.2.2.2.1))).trans (hHeld.2.2.2.2.2.2.2.2.2.2.2.2.1)
           have HS13_ := (hb.cell (World.block_lt_of_cell? _ _ (hHeld.2.2.2.2.2.2.2.2.2.2.2.2.2.1))).trans (hHeld.2.2.2.2.2.2.2.2.2.2.2.2.2.1)
           have HS14_ := (hb.cell (World.block_lt_of_cell? _ _ (hHeld.2.2.2.2.2.2.2.2.2.2.2.2.2.2.1))).trans (hHeld.2.2.2.2.2.2.2.2.2.2.2.2.2.2.1)
           have HS15_ := (hb.cell (World.block_lt_of_cell? _ _ (hHeld.2.2.2.2.2.2.2.2.2.2.2.2.2.2.2.1))).trans (hHeld.2.2.2.2.2.2.2.2.2.2.2.2.2.2.2.1)
           have HS16_ := (hb.cell (World.block_lt_of_cell? _ _ (hHeld.2.2.2.2.2.2.2.2.2.2.2.2.2.2.2.2.1))).trans (hHeld.2.2.2.2.2.2.2.2.2.2.2.2.2.2.2.2.1)
           have HS17_ := (hb.cell (World.block_lt_of_cell? _ _ (hHeld.2.2.2.2.2.2.2.2.2.2.2.2.2.2.2.2.2))).trans (hHeld.2.2.2.2.2.2.2.2.2.2.2.2.2.2.2.2.2)
           refine ⟨_, rfl, ?_⟩
           have n0_ := Aside0.mk (Kd.V_below (by (with_reducible repeat (first | apply Kd.V_alloc | apply Kd.V_drewN | apply Kd.V_drew)); exact HO_266004.out) hb)
           have n1_ := Aside0.mk (Kd.V_below (by (with_reducible repeat (first | apply Kd.V_alloc | apply Kd.V_drewN | apply Kd.V_drew)); exact HO_266005.out) hb)
           have n2_ := Aside0.mk (Kd.N_below (by (with_reducible repeat (first | apply Kd.N_alloc | apply Kd.N_drewN | apply Kd.N_drew)); exact HO_273005.out) hb)
           have n3_ := Aside0.mk (Kd.V_below (by (with_reducible repeat (first | apply Kd.V_alloc | apply Kd.V_drewN | apply Kd.V_drew)); exact HL275_4.out) hb)
           have n4_ := Aside0.mk (Kd.V_below (by (with_reducible repeat (first | apply Kd.V_alloc | apply Kd.V_drewN | apply Kd.V_drew)); exact HL275_5.out) hb)
           have n5_ := Aside0.mk (Kd.V_below (by (with_reducible repeat (first | apply Kd.V_alloc | apply Kd.V_drewN | apply Kd.V_drew)); exact HL277_4.out) hb)
           have n6_ := Aside0.mk (Kd.V_below (by (with_reducible repeat (first | apply Kd.V_alloc | apply Kd.V_drewN | apply Kd.V_drew)); exact HL277_5.out) hb)
           have n7_ := Aside0.mk (blk_below (g := gb265) (o := .cells #[.int .i64 a0_0, .int .i64 a0_1, .int .i64 a0_2, .int .i64 a0_3, .slice A0_4 l0_4.length c0_4, .slice (some ad275) l0_5.length c0_5] 25 (0, 0)) (by (with_reducible repeat (first | refine blk_drewN ?_ _ | refine blk_drew ?_ | refine blk_alloc ?_ _)); exact BK265.out) hb)
           have n8_ := Aside0.mk (blk_below (g := gb272) (o := .cells #[.int .i64 8, .int .i64 a0_1, .int .i64 0, .int .i64 0, .slice none 0 0, .slice Ao20 y269.length co20] 25 (0, 0)) (by (with_reducible repeat (first | refine blk_drewN ?_ _ | refine blk_drew ?_ | refine blk_alloc ?_ _)); exact BK272.out) hb)
           have n9_ := Aside0.mk (Kd.C_below (by repeat (first | (with_reducible exact HR275_4.out) | (with_reducible refine Kd.C_alloc ?_ _) | (with_reducible refine Kd.C_drewN ?_ _) | (with_reducible refine Kd.C_drew ?_) | exact HR275_4.out)) hb)
           have n10_ := Aside0.mk (Kd.C_below (by repeat (first | (with_reducible exact HR275_5.out) | (with_reducible refine Kd.C_alloc ?_ _) | (with_reducible refine Kd.C_drewN ?_ _) | (with_reducible refine Kd.C_drew ?_) | exact HR275_5.out)) hb)
           have n11_ := Aside0.mk (Kd.C_below (by repeat (first | (with_reducible exact HR277_4.out) | (with_reducible refine Kd.C_alloc ?_ _) | (with_reducible refine Kd.C_drewN ?_ _) | (with_reducible refine Kd.C_drew ?_) | exact HR277_4.out)) hb)
           have n12_ := Aside0.mk (Kd.C_below (by repeat (first | (with_reducible exact HR277_5.out) | (with_reducible refine Kd.C_alloc ?_ _) | (with_reducible refine Kd.C_drewN ?_ _) | (with_reducible refine Kd.C_drew ?_) | exact HR277_5.out)) hb)
           have n13_ := Aside0.mk (below_step (by repeat (first | (with_reducible first | exact HB.out | apply below_alloc | apply pw_below_drewN | apply below_drew1 | refine below_set ?_ GE265.out | refine below_set ?_ GE272.out) | exact HB.out)) hb)
           clear HO_266004
           clear HO_266005
           clear HO_273005
           clear HL275_4
           clear HL275_5
           clear HL277_4
           clear HL277_5
           clear BK265
           clear BK272
           clear HR275_4
           clear HR275_5
           clear HR277_4
           clear HR277_5
           clear HB
           have HO_266004 := n0_
           have HO_266005 := n1_
           have HO_273005 := n2_
           have HL275_4 := n3_
           have HL275_5 := n4_
           have HL277_4 := n5_
           have HL277_5 := n6_
           have BK265 := n7_
           have BK272 := n8_
           have HR275_4 := n9_
           have HR275_5 := n10_
           have HR277_4 := n11_
           have HR277_5 := n12_
           have HB := n13_
           clear n0_ n1_ n2_ n3_ n4_ n5_ n6_ n7_ n8_ n9_ n10_ n11_ n12_ n13_
           (try clear hb)
           (try clear hb2)
           (try clear hk)
           (try clear hi)
           refine hK.out _ _ ⟨(blk_cell BK265.out 0).trans rfl, (blk_cell BK265.out 1).trans rfl, (blk_cell BK265.out 2).trans rfl, (blk_cell BK265.out 3).trans rfl, (blk_cell BK265.out 4).trans rfl, (blk_cell BK265.out 5).trans rfl, HS6_, HS7_, HS8_, HS9_, HS10_, HS11_, HS12_, HS13_, HS14_, HS15_, HS16_, HS17_⟩ (fun hHeld => ?_)
           clear hK K
           refine norm_ (a' := ?_) ?_ ?_
           rotate_left
           ·show Act.put _ (some 49) _ = _
            simp only [Act.put, List.setIfInBounds_toArray, List.set_cons_zero, List.set_cons_succ, i64_w, i32_w]
            rfl
           refine one_ (i := 15) (N := some 51) #[true, true, true, true, true, true, true, true, true, true, true, true, true, true, true, true, false, false] rfl rfl (one_of HT_.out (by kernel_rfl)) (by decide) (fun K hK => ?_)
           refine goes_ Tryd.func14 (by kernel_rfl) rfl #[.agg #[.int .i64 a0_0, .int .i64 a0_1, .int .i64 a0_2, .int .i64 a0_3, .slice A0_4 l0_4.length c0_4, .slice (some ad275) l0_5.length c0_5]] (by rfl) rfl rfl (by (try simp only [List.map_toArray, List.map_cons, List.map_nil]); first | done | rfl | (simp only [List.length_drop, List.length_take]; rfl)) ?_
           with_reducible refine (matroid_Deep.calls k2 a0_0 a0_1 a0_2 a0_3 _ _ l0_4 _ _ l0_5 t279 _ ?side1 ?side2 ?side3 ?side4 A33.out).mono ?_
           (case side1 => repeat (first | exact (Kd.V_reads' HO_266004.out).2.2 | (with_reducible refine Kd.C_alloc ?_ _) | (with_reducible refine Kd.C_drewN ?_ _) | (with_reducible refine Kd.C_drew ?_)))
           (case side2 => exact (Kd.V_reads' HO_266004.out).2.1)
           (case side3 => repeat (first | exact (Kd.V_reads' HO_266005.out).2.2 | (with_reducible refine Kd.C_alloc ?_ _) | (with_reducible refine Kd.C_drewN ?_ _) | (with_reducible refine Kd.C_drew ?_)))
           (case side4 => exact (Kd.V_reads' HO_266005.out).2.1)
           rintro e w40 ⟨rfl, hb⟩
           have HS6_ := (hb.cell (World.block_lt_of_cell? _ _ (hHeld.2.2.2.2.2.2.1))).trans (hHeld.2.2.2.2.2.2.1)
           have HS7_ := (hb.cell (World.block_lt_of_cell? _ _ (hHeld.2.2.2.2.2.2.2.1))).trans (hHeld.2.2.2.2.2.2.2.1)
           have HS8_ := (hb.cell (World.block_lt_of_cell? _ _ (hHeld.2.2.2.2.2.2.2.2.1))).trans (hHeld.2.2.2.2.2.2.2.2.1)
           have HS9_ := (hb.cell (World.block_lt_of_cell? _ _ (hHeld.2.2.2.2.2.2.2.2.2.1))).trans (hHeld.2.2.2.2.2.2.2.2.2.1)
           have HS10_ := (hb.cell (World.block_lt_of_cell? _ _ (hHeld.2.2.2.2.2.2.2.2.2.2.1))).trans (hHeld.2.2.2.2.2.2.2.2.2.2.1)
           have HS11_ := (hb.cell (World.block_lt_of_cell? _ _ (hHeld.2.2.2.2.2.2.2.2.2.2.2.1))).trans (hHeld.2.2.2.2.2.2.2.2.2.2.2.1)
           have HS12_ := (hb.cell (World.block_lt_of_cell? _ _ (hHeld.2.2.2.2.2.2.2.2.2.2.2.2.1))).trans (hHeld.2.2.2.2.2.2.2.2.2.2.2.2.1)
           have HS13_ := (hb.cell (World.block_lt_of_cell? _ _ (hHeld.2.2.2.2.2.2.2.2.2.2.2.2.2.1))).trans (hHeld.2.2.2.2.2.2.2.2.2.2.2.2.2.1)
           have HS14_ := (hb.cell (World.block_lt_of_cell? _ _ (hHeld.2.2.2.2.2.2.2.2.2.2.2.2.2.2.1))).trans (hHeld.2.2.2.2.2.2.2.2.2.2.2.2.2.2.1)
           have HS15_ := (hb.cell (World.block_lt_of_cell? _ _ (hHeld.2.2.2.2.2.2.2.2.2.2.2.2.2.2.2.1))).trans (hHeld.2.2.2.2.2.2.2.2.2.2.2.2.2.2.2.1)
           have HS16_ := (hb.cell (World.block_lt_of_cell? _ _ (hHeld.2.2.2.2.2.2.2.2.2.2.2.2.2.2.2.2.1))).trans (hHeld.2.2.2.2.2.2.2.2.2.2.2.2.2.2.2.2.1)
           have HS17_ := (hb.cell (World.block_lt_of_cell? _ _ (hHeld.2.2.2.2.2.2.2.2.2.2.2.2.2.2.2.2.2))).trans (hHeld.2.2.2.2.2.2.2.2.2.2.2.2.2.2.2.2.2)
           refine ⟨_, rfl, ?_⟩
           have n0_ := Aside0.mk (Kd.V_below (by (with_reducible repeat (first | apply Kd.V_alloc | apply Kd.V_drewN | apply Kd.V_drew)); exact HO_266004.out) hb)
           have n1_ := Aside0.mk (Kd.V_below (by (with_reducible repeat (first | apply Kd.V_alloc | apply Kd.V_drewN | apply Kd.V_drew)); exact HO_266005.out) hb)
           have n2_ := Aside0.mk (Kd.N_below (by (with_reducible repeat (first | apply Kd.N_alloc | apply Kd.N_drewN | apply Kd.N_drew)); exact HO_273005.out) hb)
           have n3_ := Aside0.mk (Kd.V_below (by (with_reducible repeat (first | apply Kd.V_alloc | apply Kd.V_drewN | apply Kd.V_drew)); exact HL275_4.out) hb)
           have n4_ := Aside0.mk (Kd.V_below (by (with_reducible repeat (first | apply Kd.V_alloc | apply Kd.V_drewN | apply Kd.V_drew)); exact HL275_5.out) hb)
           have n5_ := Aside0.mk (Kd.V_below (by (with_reducible repeat (first | apply Kd.V_alloc | apply Kd.V_drewN | apply Kd.V_drew)); exact HL277_4.out) hb)
           have n6_ := Aside0.mk (Kd.V_below (by (with_reducible repeat (first | apply Kd.V_alloc | apply Kd.V_drewN | apply Kd.V_drew)); exact HL277_5.out) hb)
           have n7_ := Aside0.mk (blk_below (g := gb265) (o := .cells #[.int .i64 a0_0, .int .i64 a0_1, .int .i64 a0_2, .int .i64 a0_3, .slice A0_4 l0_4.length c0_4, .slice (some ad275) l0_5.length c0_5] 25 (0, 0)) (by (with_reducible repeat (first | refine blk_drewN ?_ _ | refine blk_drew ?_ | refine blk_alloc ?_ _)); exact BK265.out) hb)
           have n8_ := Aside0.mk (blk_below (g := gb272) (o := .cells #[.int .i64 8, .int .i64 a0_1, .int .i64 0, .int .i64 0, .slice none 0 0, .slice Ao20 y269.length co20] 25 (0, 0)) (by (with_reducible repeat (first | refine blk_drewN ?_ _ | refine blk_drew ?_ | refine blk_alloc ?_ _)); exact BK272.out) hb)
           have n9_ := Aside0.mk (Kd.C_below (by repeat (first | (with_reducible exact HR275_4.out) | (with_reducible refine Kd.C_alloc ?_ _) | (with_reducible refine Kd.C_drewN ?_ _) | (with_reducible refine Kd.C_drew ?_) | exact HR275_4.out)) hb)
           have n10_ := Aside0.mk (Kd.C_below (by repeat (first | (with_reducible exact HR275_5.out) | (with_reducible refine Kd.C_alloc ?_ _) | (with_reducible refine Kd.C_drewN ?_ _) | (with_reducible refine Kd.C_drew ?_) | exact HR275_5.out)) hb)
           have n11_ := Aside0.mk (Kd.C_below (by repeat (first | (with_reducible exact HR277_4.out) | (with_reducible refine Kd.C_alloc ?_ _) | (with_reducible refine Kd.C_drewN ?_ _) | (with_reducible refine Kd.C_drew ?_) | exact HR277_4.out)) hb)
           have n12_ := Aside0.mk (Kd.C_below (by repeat (first | (with_reducible exact HR277_5.out) | (with_reducible refine Kd.C_alloc ?_ _) | (with_reducible refine Kd.C_drewN ?_ _) | (with_reducible refine Kd.C_drew ?_) | exact HR277_5.out)) hb)
           have n13_ := Aside0.mk (below_step (by repeat (first | (with_reducible first | exact HB.out | apply below_alloc | apply pw_below_drewN | apply below_drew1 | refine below_set ?_ GE265.out | refine below_set ?_ GE272.out) | exact HB.out)) hb)
           clear HO_266004
           clear HO_266005
           clear HO_273005
           clear HL275_4
           clear HL275_5
           clear HL277_4
           clear HL277_5
           clear BK265
           clear BK272
           clear HR275_4
           clear HR275_5
           clear HR277_4
           clear HR277_5
           clear HB
           have HO_266004 := n0_
           have HO_266005 := n1_
           have HO_273005 := n2_
           have HL275_4 := n3_
           have HL275_5 := n4_
           have HL277_4 := n5_
           have HL277_5 := n6_
           have BK265 := n7_
           have BK272 := n8_
           have HR275_4 := n9_
           have HR275_5 := n10_
           have HR277_4 := n11_
           have HR277_5 := n12_
           have HB := n13_
           clear n0_ n1_ n2_ n3_ n4_ n5_ n6_ n7_ n8_ n9_ n10_ n11_ n12_ n13_
           (try clear hb)
           (try clear hb2)
           (try clear hk)
           (try clear hi)
           refine hK.out _ _ ⟨(blk_cell BK265.out 0).trans rfl, (blk_cell BK265.out 1).trans rfl, (blk_cell BK265.out 2).trans rfl, (blk_cell BK265.out 3).trans rfl, (blk_cell BK265.out 4).trans rfl, (blk_cell BK265.out 5).trans rfl, HS6_, HS7_, HS8_, HS9_, HS10_, HS11_, HS12_, HS13_, HS14_, HS15_, HS16_, HS17_⟩ (fun hHeld => ?_)
           clear hK K
           refine norm_ (a' := ?_) ?_ ?_
           rotate_left
           ·show Act.put _ (some 51) _ = _
            simp only [Act.put, List.setIfInBounds_toArray, List.set_cons_zero, List.set_cons_succ, i64_w, i32_w]
            rfl
           refine pure_ (i := 16) (N := some 52) (v := ?_) (a' := ?_) #[true, true, true, true, true, true, true, true, true, true, true, true, true, true, true, true, true, false] rfl rfl (any_of HT_.out (by kernel_rfl)) (fun _ _ _ h => h) (Or.inl ⟨by rfl, ?_⟩) ?_ ?_
           rotate_left
           ·intro w'
            go_simp
            with_reducible rfl
           rotate_left
           ·simp only [Act.put, List.setIfInBounds_toArray, List.set_cons_zero, List.set_cons_succ, i64_w, i32_w]
            rfl
           refine pure_ (i := 17) (N := some 53) (v := ?_) (a' := ?_) #[true, true, true, true, true, true, true, true, true, true, true, true, true, true, true, true, true, true] rfl rfl (any_of HT_.out (by kernel_rfl)) (fun _ _ _ h => h) (Or.inl ⟨by rfl, ?_⟩) ?_ ?_
           rotate_left
           ·intro w'
            go_simp
            with_reducible rfl
           rotate_left
           ·simp only [Act.put, List.setIfInBounds_toArray, List.set_cons_zero, List.set_cons_succ, i64_w, i32_w]
            rfl
           refine done_ (done_of HT_.out (by kernel_rfl)) ?_
           try go_wp2
           go_roundg k2
           case measure => have := HJ1.out; have := HK2.out; omega
           case rel => exact ⟨(wrap64 (x6_2 + 1)), (by first | rfl | (simp; done) | (simp [*]; done)), H', ⟨by have := HJ1.out; have := HK2.out; omega⟩, ⟨by (with_reducible repeat (first | apply Kd.V_alloc | apply Kd.V_drewN | apply Kd.V_drew)); exact HO_266004.out⟩, ⟨by (with_reducible repeat (first | apply Kd.V_alloc | apply Kd.V_drewN | apply Kd.V_drew)); exact HO_266005.out⟩, ⟨by (with_reducible repeat (first | apply Kd.N_alloc | apply Kd.N_drewN | apply Kd.N_drew)); exact HO_273005.out⟩, ⟨by (with_reducible repeat (first | refine blk_drewN ?_ _ | refine blk_drew ?_ | refine blk_alloc ?_ _)); exact BK265.out⟩, ⟨by (with_reducible repeat (first | refine blk_drewN ?_ _ | refine blk_drew ?_ | refine blk_alloc ?_ _)); exact BK272.out⟩, ⟨by repeat (first | (with_reducible first | exact HB.out | apply below_alloc | apply pw_below_drewN | apply below_drew1 | refine below_set ?_ GE265.out | refine below_set ?_ GE272.out) | exact HB.out)⟩⟩
         ·rw [if_neg c31] at H
          have c31b0 : (t276 == 0) = false := beq_eq_false_iff_ne.mpr c31
          have c31b1 : (t276 != 0) = true := bne_iff_ne.mpr c31
          exact absurd ((Option.some.inj H).trans hrT) (by decide)
        ·rw [if_neg c29] at H
         exact absurd H (by simp)
       ·rw [if_neg c28] at H
        have c28b0 : decide (x6_2 < (l0_5.length : Int)) = false := decide_eq_false c28
        clear c28
        replace H := Option.bind_eq_some_iff.mp H
        obtain ⟨t280, A410, H⟩ := H
        replace H : (if a0_1 < 0 then (some false) else (if a0_1 > 64 then (some false) else (if t280 < 1 then (some false) else (if t280 > 4 then (some false) else ((matroid_Deep.f k2 8 a0_1 0 0 ([] : List (List Int)) y269).bind fun t281 => (if t281 = (wrap64 (t280 + 1)) then (if t280 = 4 then (if t274 = 91 then (some true) else (if t280 < 4 then (some (t274 == 0)) else (some false))) else (if t280 < 4 then (some (t274 == 0)) else (some false))) else (some false))))))) = some r := H
        have A41 := Aside0.mk A410
        clear A410
        by_cases c42 : a0_1 < 0
        ·rw [if_pos c42] at H
         have c42b0 : decide (a0_1 < 0) = true := decide_eq_true c42
         clear c42
         exact absurd ((Option.some.inj H).trans hrT) (by decide)
        ·rw [if_neg c42] at H
         have c42b0 : decide (a0_1 < 0) = false := decide_eq_false c42
         clear c42
         by_cases c43 : a0_1 > 64
         ·rw [if_pos c43] at H
          have c43b0 : decide (64 < a0_1) = true := decide_eq_true c43
          clear c43
          exact absurd ((Option.some.inj H).trans hrT) (by decide)
         ·rw [if_neg c43] at H
          have c43b0 : decide (64 < a0_1) = false := decide_eq_false c43
          clear c43
          by_cases c44 : t280 < 1
          ·rw [if_pos c44] at H
           have c44b0 : decide (t280 < 1) = true := decide_eq_true c44
           clear c44
           exact absurd ((Option.some.inj H).trans hrT) (by decide)
          ·rw [if_neg c44] at H
           have c44b0 : decide (t280 < 1) = false := decide_eq_false c44
           clear c44
           by_cases c45 : t280 > 4
           ·rw [if_pos c45] at H
            have c45b0 : decide (4 < t280) = true := decide_eq_true c45
            clear c45
            exact absurd ((Option.some.inj H).trans hrT) (by decide)
           ·rw [if_neg c45] at H
            have c45b0 : decide (4 < t280) = false := decide_eq_false c45
            clear c45
            replace H := Option.bind_eq_some_iff.mp H
            obtain ⟨t281, A460, H⟩ := H
            replace H : (if t281 = (wrap64 (t280 + 1)) then (if t280 = 4 then (if t274 = 91 then (some true) else (if t280 < 4 then (some (t274 == 0)) else (some false))) else (if t280 < 4 then (some (t274 == 0)) else (some false))) else (some false)) = some r := H
            have A46 := Aside0.mk A460
            clear A460
            by_cases c47 : t281 = (wrap64 (t280 + 1))
            ·rw [if_pos c47] at H
             have c47b0 : (t281 == (wrap64 (t280 + 1))) = true := beq_iff_eq.mpr c47
             have c47b1 : (t281 != (wrap64 (t280 + 1))) = false := bne_eq_false_iff_eq.mpr c47
             clear c47
             by_cases c48 : t280 = 4
             ·rw [if_pos c48] at H
              have c48b0 : (t280 == 4) = true := beq_iff_eq.mpr c48
              have c48b1 : (t280 != 4) = false := bne_eq_false_iff_eq.mpr c48
              clear c48
              by_cases c49 : t274 = 91
              ·rw [if_pos c49] at H
               have c49b0 : (t274 == 91) = true := beq_iff_eq.mpr c49
               have c49b1 : (t274 != 91) = false := bne_eq_false_iff_eq.mpr c49
               clear c49
               obtain rfl := Option.some.inj H
               have hnb50 := NB265_272.out
               have hnc50 := NB272_265.out
               have hcz51_0 : wr.cell? ⟨gb265, 0, none⟩ = some (.int .i64 a0_0) := (blk_cell BK265.out 0).trans rfl
               have hcz51_1 : wr.cell? ⟨gb265, 1, none⟩ = some (.int .i64 a0_1) := (blk_cell BK265.out 1).trans rfl
               have hcz51_2 : wr.cell? ⟨gb265, 2, none⟩ = some (.int .i64 a0_2) := (blk_cell BK265.out 2).trans rfl
               have hcz51_3 : wr.cell? ⟨gb265, 3, none⟩ = some (.int .i64 a0_3) := (blk_cell BK265.out 3).trans rfl
               have hcz51_4 : wr.cell? ⟨gb265, 4, none⟩ = some (.slice A0_4 l0_4.length c0_4) := (blk_cell BK265.out 4).trans rfl
               have hcz51_5 : wr.cell? ⟨gb265, 5, none⟩ = some (.slice A0_5 l0_5.length c0_5) := (blk_cell BK265.out 5).trans rfl
               have hfz51_0 := blk_frozen BK265.out 0
               have hfz51_1 := blk_frozen BK265.out 1
               have hfz51_2 := blk_frozen BK265.out 2
               have hfz51_3 := blk_frozen BK265.out 3
               have hfz51_4 := blk_frozen BK265.out 4
               have hfz51_5 := blk_frozen BK265.out 5
               go_wp2_with (first | ((with_reducible refine gate_callee (f := 14) rfl ?_); refine goesL_ (some 55) rfl rfl Tryd.func14 (by kernel_rfl) rfl #[.agg #[.int .i64 a0_0, .int .i64 a0_1, .int .i64 a0_2, .int .i64 a0_3, .slice A0_4 l0_4.length c0_4, .slice A0_5 l0_5.length c0_5]] rfl (by (try simp only [List.map_toArray, List.map_cons, List.map_nil]); first | done | rfl | (simp only [List.length_drop, List.length_take]; rfl)) ?_; (with_reducible refine (matroid_Deep.calls k2 a0_0 a0_1 a0_2 a0_3 _ _ l0_4 _ _ l0_5 t280 _ ?side1 ?side2 ?side3 ?side4 A41.out).mono ?_); (case side1 => repeat (first | exact (Kd.V_reads' HO_266004.out).2.2 | (with_reducible refine Kd.C_alloc ?_ _) | (with_reducible refine Kd.C_drewN ?_ _) | (with_reducible refine Kd.C_drew ?_))); (case side2 => exact (Kd.V_reads' HO_266004.out).2.1); (case side3 => repeat (first | exact (Kd.V_reads' HO_266005.out).2.2 | (with_reducible refine Kd.C_alloc ?_ _) | (with_reducible refine Kd.C_drewN ?_ _) | (with_reducible refine Kd.C_drew ?_))); (case side4 => exact (Kd.V_reads' HO_266005.out).2.1); rintro e w52 ⟨rfl, hb⟩; refine ⟨_, rfl, ?_⟩; have n0_ := Aside0.mk (Kd.V_below (by (with_reducible repeat (first | apply Kd.V_alloc | apply Kd.V_drewN | apply Kd.V_drew)); exact HO_266004.out) hb); have n1_ := Aside0.mk (Kd.V_below (by (with_reducible repeat (first | apply Kd.V_alloc | apply Kd.V_drewN | apply Kd.V_drew)); exact HO_266005.out) hb); have n2_ := Aside0.mk (Kd.N_below (by (with_reducible repeat (first | apply Kd.N_alloc | apply Kd.N_drewN | apply Kd.N_drew)); exact HO_273005.out) hb); have n3_ := Aside0.mk (blk_below (g := gb265) (o := .cells #[.int .i64 a0_0, .int .i64 a0_1, .int .i64 a0_2, .int .i64 a0_3, .slice A0_4 l0_4.length c0_4, .slice A0_5 l0_5.length c0_5] 25 (0, 0)) (by (with_reducible repeat (first | refine blk_drewN ?_ _ | refine blk_drew ?_ | refine blk_alloc ?_ _)); exact BK265.out) hb); have n4_ := Aside0.mk (blk_below (g := gb272) (o := .cells #[.int .i64 8, .int .i64 a0_1, .int .i64 0, .int .i64 0, .slice none 0 0, .slice Ao20 y269.length co20] 25 (0, 0)) (by (with_reducible repeat (first | refine blk_drewN ?_ _ | refine blk_drew ?_ | refine blk_alloc ?_ _)); exact BK272.out) hb); have n5_ := Aside0.mk (below_step (by repeat (first | (with_reducible first | exact HB.out | apply below_alloc | apply pw_below_drewN | apply below_drew1 | refine below_set ?_ GE265.out | refine below_set ?_ GE272.out) | exact HB.out)) hb); clear HO_266004; clear HO_266005; clear HO_273005; clear BK265; clear BK272; clear HB; have HO_266004 := n0_; have HO_266005 := n1_; have HO_273005 := n2_; have BK265 := n3_; have BK272 := n4_; have HB := n5_; clear n0_ n1_ n2_ n3_ n4_ n5_; (try clear hb); (try clear hb2); (try clear hk); (try clear hi); have hcz53_0 : w52.cell? ⟨gb265, 0, none⟩ = some (.int .i64 a0_0) := (blk_cell BK265.out 0).trans rfl; have hcz53_1 : w52.cell? ⟨gb265, 1, none⟩ = some (.int .i64 a0_1) := (blk_cell BK265.out 1).trans rfl; have hcz53_2 : w52.cell? ⟨gb265, 2, none⟩ = some (.int .i64 a0_2) := (blk_cell BK265.out 2).trans rfl; have hcz53_3 : w52.cell? ⟨gb265, 3, none⟩ = some (.int .i64 a0_3) := (blk_cell BK265.out 3).trans rfl; have hcz53_4 : w52.cell? ⟨gb265, 4, none⟩ = some (.slice A0_4 l0_4.length c0_4) := (blk_cell BK265.out 4).trans rfl; have hcz53_5 : w52.cell? ⟨gb265, 5, none⟩ = some (.slice A0_5 l0_5.length c0_5) := (blk_cell BK265.out 5).trans rfl; have hfz53_0 := blk_frozen BK265.out 0; have hfz53_1 := blk_frozen BK265.out 1; have hfz53_2 := blk_frozen BK265.out 2; have hfz53_3 := blk_frozen BK265.out 3; have hfz53_4 := blk_frozen BK265.out 4; have hfz53_5 := blk_frozen BK265.out 5; have hcz54_0 : w52.cell? ⟨gb272, 0, none⟩ = some (.int .i64 8) := (blk_cell BK272.out 0).trans rfl; have hcz54_1 : w52.cell? ⟨gb272, 1, none⟩ = some (.int .i64 a0_1) := (blk_cell BK272.out 1).trans rfl; have hcz54_2 : w52.cell? ⟨gb272, 2, none⟩ = some (.int .i64 0) := (blk_cell BK272.out 2).trans rfl; have hcz54_3 : w52.cell? ⟨gb272, 3, none⟩ = some (.int .i64 0) := (blk_cell BK272.out 3).trans rfl; have hcz54_4 : w52.cell? ⟨gb272, 4, none⟩ = some (.slice none 0 0) := (blk_cell BK272.out 4).trans rfl; have hcz54_5 : w52.cell? ⟨gb272, 5, none⟩ = some (.slice Ao20 y269.length co20) := (blk_cell BK272.out 5).trans rfl; have hfz54_0 := blk_frozen BK272.out 0; have hfz54_1 := blk_frozen BK272.out 1; have hfz54_2 := blk_frozen BK272.out 2; have hfz54_3 := blk_frozen BK272.out 3; have hfz54_4 := blk_frozen BK272.out 4; have hfz54_5 := blk_frozen BK272.out 5) | (go_at_call 14; (refine (matroid_Deep.calls k2 8 a0_1 0 0 _ _ ([] : List (List Int)) _ _ y269 t281 _ ?side1 ?side2 ?side3 ?side4 A46.out).mono ?_); (case side1 => exact Kd.C_nil _ _); (case side2 => exact Nat.le_refl _); (case side3 => repeat (first | exact (Kd.N_reads' HO_273005.out).2.2 | (with_reducible refine Kd.C_alloc ?_ _) | (with_reducible refine Kd.C_drewN ?_ _) | (with_reducible refine Kd.C_drew ?_))); (case side4 => exact (Kd.N_reads' HO_273005.out).2.1); rintro e w55 ⟨rfl, hb⟩; have n0_ := Aside0.mk (Kd.V_below (by (with_reducible repeat (first | apply Kd.V_alloc | apply Kd.V_drewN | apply Kd.V_drew)); exact HO_266004.out) hb); have n1_ := Aside0.mk (Kd.V_below (by (with_reducible repeat (first | apply Kd.V_alloc | apply Kd.V_drewN | apply Kd.V_drew)); exact HO_266005.out) hb); have n2_ := Aside0.mk (Kd.N_below (by (with_reducible repeat (first | apply Kd.N_alloc | apply Kd.N_drewN | apply Kd.N_drew)); exact HO_273005.out) hb); have n3_ := Aside0.mk (blk_below (g := gb265) (o := .cells #[.int .i64 a0_0, .int .i64 a0_1, .int .i64 a0_2, .int .i64 a0_3, .slice A0_4 l0_4.length c0_4, .slice A0_5 l0_5.length c0_5] 25 (0, 0)) (by (with_reducible repeat (first | refine blk_drewN ?_ _ | refine blk_drew ?_ | refine blk_alloc ?_ _)); exact BK265.out) hb); have n4_ := Aside0.mk (blk_below (g := gb272) (o := .cells #[.int .i64 8, .int .i64 a0_1, .int .i64 0, .int .i64 0, .slice none 0 0, .slice Ao20 y269.length co20] 25 (0, 0)) (by (with_reducible repeat (first | refine blk_drewN ?_ _ | refine blk_drew ?_ | refine blk_alloc ?_ _)); exact BK272.out) hb); have n5_ := Aside0.mk (below_step (by repeat (first | (with_reducible first | exact HB.out | apply below_alloc | apply pw_below_drewN | apply below_drew1 | refine below_set ?_ GE265.out | refine below_set ?_ GE272.out) | exact HB.out)) hb); clear HO_266004; clear HO_266005; clear HO_273005; clear BK265; clear BK272; clear HB; have HO_266004 := n0_; have HO_266005 := n1_; have HO_273005 := n2_; have BK265 := n3_; have BK272 := n4_; have HB := n5_; clear n0_ n1_ n2_ n3_ n4_ n5_; (try clear hb); (try clear hb2); (try clear hk); (try clear hi)))
               go_ret
               exact ⟨by first | rfl | (simp [errW_none, errW_some] <;> rfl) | (simp [*, errW_none, errW_some] <;> rfl), by repeat (first | (with_reducible first | exact HB.out | apply below_alloc | apply pw_below_drewN | apply below_drew1 | refine below_set ?_ GE265.out | refine below_set ?_ GE272.out) | exact HB.out)⟩
              ·rw [if_neg c49] at H
               have c49b0 : (t274 == 91) = false := beq_eq_false_iff_ne.mpr c49
               have c49b1 : (t274 != 91) = true := bne_iff_ne.mpr c49
               by_cases c56 : t280 < 4
               ·rw [if_pos c56] at H
                have c56b0 : decide (t280 < 4) = true := decide_eq_true c56
                clear c56
                obtain rfl := Option.some.inj H
                have hnb57 := NB265_272.out
                have hnc57 := NB272_265.out
                have hcz58_0 : wr.cell? ⟨gb265, 0, none⟩ = some (.int .i64 a0_0) := (blk_cell BK265.out 0).trans rfl
                have hcz58_1 : wr.cell? ⟨gb265, 1, none⟩ = some (.int .i64 a0_1) := (blk_cell BK265.out 1).trans rfl
                have hcz58_2 : wr.cell? ⟨gb265, 2, none⟩ = some (.int .i64 a0_2) := (blk_cell BK265.out 2).trans rfl
                have hcz58_3 : wr.cell? ⟨gb265, 3, none⟩ = some (.int .i64 a0_3) := (blk_cell BK265.out 3).trans rfl
                have hcz58_4 : wr.cell? ⟨gb265, 4, none⟩ = some (.slice A0_4 l0_4.length c0_4) := (blk_cell BK265.out 4).trans rfl
                have hcz58_5 : wr.cell? ⟨gb265, 5, none⟩ = some (.slice A0_5 l0_5.length c0_5) := (blk_cell BK265.out 5).trans rfl
                have hfz58_0 := blk_frozen BK265.out 0
                have hfz58_1 := blk_frozen BK265.out 1
                have hfz58_2 := blk_frozen BK265.out 2
                have hfz58_3 := blk_frozen BK265.out 3
                have hfz58_4 := blk_frozen BK265.out 4
                have hfz58_5 := blk_frozen BK265.out 5
                go_wp2_with (first | ((with_reducible refine gate_callee (f := 14) rfl ?_); refine goesL_ (some 55) rfl rfl Tryd.func14 (by kernel_rfl) rfl #[.agg #[.int .i64 a0_0, .int .i64 a0_1, .int .i64 a0_2, .int .i64 a0_3, .slice A0_4 l0_4.length c0_4, .slice A0_5 l0_5.length c0_5]] rfl (by (try simp only [List.map_toArray, List.map_cons, List.map_nil]); first | done | rfl | (simp only [List.length_drop, List.length_take]; rfl)) ?_; (with_reducible refine (matroid_Deep.calls k2 a0_0 a0_1 a0_2 a0_3 _ _ l0_4 _ _ l0_5 t280 _ ?side1 ?side2 ?side3 ?side4 A41.out).mono ?_); (case side1 => repeat (first | exact (Kd.V_reads' HO_266004.out).2.2 | (with_reducible refine Kd.C_alloc ?_ _) | (with_reducible refine Kd.C_drewN ?_ _) | (with_reducible refine Kd.C_drew ?_))); (case side2 => exact (Kd.V_reads' HO_266004.out).2.1); (case side3 => repeat (first | exact (Kd.V_reads' HO_266005.out).2.2 | (with_reducible refine Kd.C_alloc ?_ _) | (with_reducible refine Kd.C_drewN ?_ _) | (with_reducible refine Kd.C_drew ?_))); (case side4 => exact (Kd.V_reads' HO_266005.out).2.1); rintro e w59 ⟨rfl, hb⟩; refine ⟨_, rfl, ?_⟩; have n0_ := Aside0.mk (Kd.V_below (by (with_reducible repeat (first | apply Kd.V_alloc | apply Kd.V_drewN | apply Kd.V_drew)); exact HO_266004.out) hb); have n1_ := Aside0.mk (Kd.V_below (by (with_reducible repeat (first | apply Kd.V_alloc | apply Kd.V_drewN | apply Kd.V_drew)); exact HO_266005.out) hb); have n2_ := Aside0.mk (Kd.N_below (by (with_reducible repeat (first | apply Kd.N_alloc | apply Kd.N_drewN | apply Kd.N_drew)); exact HO_273005.out) hb); have n3_ := Aside0.mk (blk_below (g := gb265) (o := .cells #[.int .i64 a0_0, .int .i64 a0_1, .int .i64 a0_2, .int .i64 a0_3, .slice A0_4 l0_4.length c0_4, .slice A0_5 l0_5.length c0_5] 25 (0, 0)) (by (with_reducible repeat (first | refine blk_drewN ?_ _ | refine blk_drew ?_ | refine blk_alloc ?_ _)); exact BK265.out) hb); have n4_ := Aside0.mk (blk_below (g := gb272) (o := .cells #[.int .i64 8, .int .i64 a0_1, .int .i64 0, .int .i64 0, .slice none 0 0, .slice Ao20 y269.length co20] 25 (0, 0)) (by (with_reducible repeat (first | refine blk_drewN ?_ _ | refine blk_drew ?_ | refine blk_alloc ?_ _)); exact BK272.out) hb); have n5_ := Aside0.mk (below_step (by repeat (first | (with_reducible first | exact HB.out | apply below_alloc | apply pw_below_drewN | apply below_drew1 | refine below_set ?_ GE265.out | refine below_set ?_ GE272.out) | exact HB.out)) hb); clear HO_266004; clear HO_266005; clear HO_273005; clear BK265; clear BK272; clear HB; have HO_266004 := n0_; have HO_266005 := n1_; have HO_273005 := n2_; have BK265 := n3_; have BK272 := n4_; have HB := n5_; clear n0_ n1_ n2_ n3_ n4_ n5_; (try clear hb); (try clear hb2); (try clear hk); (try clear hi); have hcz60_0 : w59.cell? ⟨gb265, 0, none⟩ = some (.int .i64 a0_0) := (blk_cell BK265.out 0).trans rfl; have hcz60_1 : w59.cell? ⟨gb265, 1, none⟩ = some (.int .i64 a0_1) := (blk_cell BK265.out 1).trans rfl; have hcz60_2 : w59.cell? ⟨gb265, 2, none⟩ = some (.int .i64 a0_2) := (blk_cell BK265.out 2).trans rfl; have hcz60_3 : w59.cell? ⟨gb265, 3, none⟩ = some (.int .i64 a0_3) := (blk_cell BK265.out 3).trans rfl; have hcz60_4 : w59.cell? ⟨gb265, 4, none⟩ = some (.slice A0_4 l0_4.length c0_4) := (blk_cell BK265.out 4).trans rfl; have hcz60_5 : w59.cell? ⟨gb265, 5, none⟩ = some (.slice A0_5 l0_5.length c0_5) := (blk_cell BK265.out 5).trans rfl; have hfz60_0 := blk_frozen BK265.out 0; have hfz60_1 := blk_frozen BK265.out 1; have hfz60_2 := blk_frozen BK265.out 2; have hfz60_3 := blk_frozen BK265.out 3; have hfz60_4 := blk_frozen BK265.out 4; have hfz60_5 := blk_frozen BK265.out 5; have hcz61_0 : w59.cell? ⟨gb272, 0, none⟩ = some (.int .i64 8) := (blk_cell BK272.out 0).trans rfl; have hcz61_1 : w59.cell? ⟨gb272, 1, none⟩ = some (.int .i64 a0_1) := (blk_cell BK272.out 1).trans rfl; have hcz61_2 : w59.cell? ⟨gb272, 2, none⟩ = some (.int .i64 0) := (blk_cell BK272.out 2).trans rfl; have hcz61_3 : w59.cell? ⟨gb272, 3, none⟩ = some (.int .i64 0) := (blk_cell BK272.out 3).trans rfl; have hcz61_4 : w59.cell? ⟨gb272, 4, none⟩ = some (.slice none 0 0) := (blk_cell BK272.out 4).trans rfl; have hcz61_5 : w59.cell? ⟨gb272, 5, none⟩ = some (.slice Ao20 y269.length co20) := (blk_cell BK272.out 5).trans rfl; have hfz61_0 := blk_frozen BK272.out 0; have hfz61_1 := blk_frozen BK272.out 1; have hfz61_2 := blk_frozen BK272.out 2; have hfz61_3 := blk_frozen BK272.out 3; have hfz61_4 := blk_frozen BK272.out 4; have hfz61_5 := blk_frozen BK272.out 5) | (go_at_call 14; (refine (matroid_Deep.calls k2 8 a0_1 0 0 _ _ ([] : List (List Int)) _ _ y269 t281 _ ?side1 ?side2 ?side3 ?side4 A46.out).mono ?_); (case side1 => exact Kd.C_nil _ _); (case side2 => exact Nat.le_refl _); (case side3 => repeat (first | exact (Kd.N_reads' HO_273005.out).2.2 | (with_reducible refine Kd.C_alloc ?_ _) | (with_reducible refine Kd.C_drewN ?_ _) | (with_reducible refine Kd.C_drew ?_))); (case side4 => exact (Kd.N_reads' HO_273005.out).2.1); rintro e w62 ⟨rfl, hb⟩; have n0_ := Aside0.mk (Kd.V_below (by (with_reducible repeat (first | apply Kd.V_alloc | apply Kd.V_drewN | apply Kd.V_drew)); exact HO_266004.out) hb); have n1_ := Aside0.mk (Kd.V_below (by (with_reducible repeat (first | apply Kd.V_alloc | apply Kd.V_drewN | apply Kd.V_drew)); exact HO_266005.out) hb); have n2_ := Aside0.mk (Kd.N_below (by (with_reducible repeat (first | apply Kd.N_alloc | apply Kd.N_drewN | apply Kd.N_drew)); exact HO_273005.out) hb); have n3_ := Aside0.mk (blk_below (g := gb265) (o := .cells #[.int .i64 a0_0, .int .i64 a0_1, .int .i64 a0_2, .int .i64 a0_3, .slice A0_4 l0_4.length c0_4, .slice A0_5 l0_5.length c0_5] 25 (0, 0)) (by (with_reducible repeat (first | refine blk_drewN ?_ _ | refine blk_drew ?_ | refine blk_alloc ?_ _)); exact BK265.out) hb); have n4_ := Aside0.mk (blk_below (g := gb272) (o := .cells #[.int .i64 8, .int .i64 a0_1, .int .i64 0, .int .i64 0, .slice none 0 0, .slice Ao20 y269.length co20] 25 (0, 0)) (by (with_reducible repeat (first | refine blk_drewN ?_ _ | refine blk_drew ?_ | refine blk_alloc ?_ _)); exact BK272.out) hb); have n5_ := Aside0.mk (below_step (by repeat (first | (with_reducible first | exact HB.out | apply below_alloc | apply pw_below_drewN | apply below_drew1 | refine below_set ?_ GE265.out | refine below_set ?_ GE272.out) | exact HB.out)) hb); clear HO_266004; clear HO_266005; clear HO_273005; clear BK265; clear BK272; clear HB; have HO_266004 := n0_; have HO_266005 := n1_; have HO_273005 := n2_; have BK265 := n3_; have BK272 := n4_; have HB := n5_; clear n0_ n1_ n2_ n3_ n4_ n5_; (try clear hb); (try clear hb2); (try clear hk); (try clear hi)))
                go_ret
                exact ⟨by first | rfl | (simp [errW_none, errW_some] <;> rfl) | (simp [*, errW_none, errW_some] <;> rfl), by repeat (first | (with_reducible first | exact HB.out | apply below_alloc | apply pw_below_drewN | apply below_drew1 | refine below_set ?_ GE265.out | refine below_set ?_ GE272.out) | exact HB.out)⟩
               ·rw [if_neg c56] at H
                have c56b0 : decide (t280 < 4) = false := decide_eq_false c56
                clear c56
                exact absurd ((Option.some.inj H).trans hrT) (by decide)
             ·rw [if_neg c48] at H
              have c48b0 : (t280 == 4) = false := beq_eq_false_iff_ne.mpr c48
              have c48b1 : (t280 != 4) = true := bne_iff_ne.mpr c48
              by_cases c63 : t280 < 4
              ·rw [if_pos c63] at H
               have c63b0 : decide (t280 < 4) = true := decide_eq_true c63
               clear c63
               obtain rfl := Option.some.inj H
               have hnb64 := NB265_272.out
               have hnc64 := NB272_265.out
               have hcz65_0 : wr.cell? ⟨gb265, 0, none⟩ = some (.int .i64 a0_0) := (blk_cell BK265.out 0).trans rfl
               have hcz65_1 : wr.cell? ⟨gb265, 1, none⟩ = some (.int .i64 a0_1) := (blk_cell BK265.out 1).trans rfl
               have hcz65_2 : wr.cell? ⟨gb265, 2, none⟩ = some (.int .i64 a0_2) := (blk_cell BK265.out 2).trans rfl
               have hcz65_3 : wr.cell? ⟨gb265, 3, none⟩ = some (.int .i64 a0_3) := (blk_cell BK265.out 3).trans rfl
               have hcz65_4 : wr.cell? ⟨gb265, 4, none⟩ = some (.slice A0_4 l0_4.length c0_4) := (blk_cell BK265.out 4).trans rfl
               have hcz65_5 : wr.cell? ⟨gb265, 5, none⟩ = some (.slice A0_5 l0_5.length c0_5) := (blk_cell BK265.out 5).trans rfl
               have hfz65_0 := blk_frozen BK265.out 0
               have hfz65_1 := blk_frozen BK265.out 1
               have hfz65_2 := blk_frozen BK265.out 2
               have hfz65_3 := blk_frozen BK265.out 3
               have hfz65_4 := blk_frozen BK265.out 4
               have hfz65_5 := blk_frozen BK265.out 5
               go_wp2_with (first | ((with_reducible refine gate_callee (f := 14) rfl ?_); refine goesL_ (some 55) rfl rfl Tryd.func14 (by kernel_rfl) rfl #[.agg #[.int .i64 a0_0, .int .i64 a0_1, .int .i64 a0_2, .int .i64 a0_3, .slice A0_4 l0_4.length c0_4, .slice A0_5 l0_5.length c0_5]] rfl (by (try simp only [List.map_toArray, List.map_cons, List.map_nil]); first | done | rfl | (simp only [List.length_drop, List.length_take]; rfl)) ?_; (with_reducible refine (matroid_Deep.calls k2 a0_0 a0_1 a0_2 a0_3 _ _ l0_4 _ _ l0_5 t280 _ ?side1 ?side2 ?side3 ?side4 A41.out).mono ?_); (case side1 => repeat (first | exact (Kd.V_reads' HO_266004.out).2.2 | (with_reducible refine Kd.C_alloc ?_ _) | (with_reducible refine Kd.C_drewN ?_ _) | (with_reducible refine Kd.C_drew ?_))); (case side2 => exact (Kd.V_reads' HO_266004.out).2.1); (case side3 => repeat (first | exact (Kd.V_reads' HO_266005.out).2.2 | (with_reducible refine Kd.C_alloc ?_ _) | (with_reducible refine Kd.C_drewN ?_ _) | (with_reducible refine Kd.C_drew ?_))); (case side4 => exact (Kd.V_reads' HO_266005.out).2.1); rintro e w66 ⟨rfl, hb⟩; refine ⟨_, rfl, ?_⟩; have n0_ := Aside0.mk (Kd.V_below (by (with_reducible repeat (first | apply Kd.V_alloc | apply Kd.V_drewN | apply Kd.V_drew)); exact HO_266004.out) hb); have n1_ := Aside0.mk (Kd.V_below (by (with_reducible repeat (first | apply Kd.V_alloc | apply Kd.V_drewN | apply Kd.V_drew)); exact HO_266005.out) hb); have n2_ := Aside0.mk (Kd.N_below (by (with_reducible repeat (first | apply Kd.N_alloc | apply Kd.N_drewN | apply Kd.N_drew)); exact HO_273005.out) hb); have n3_ := Aside0.mk (blk_below (g := gb265) (o := .cells #[.int .i64 a0_0, .int .i64 a0_1, .int .i64 a0_2, .int .i64 a0_3, .slice A0_4 l0_4.length c0_4, .slice A0_5 l0_5.length c0_5] 25 (0, 0)) (by (with_reducible repeat (first | refine blk_drewN ?_ _ | refine blk_drew ?_ | refine blk_alloc ?_ _)); exact BK265.out) hb); have n4_ := Aside0.mk (blk_below (g := gb272) (o := .cells #[.int .i64 8, .int .i64 a0_1, .int .i64 0, .int .i64 0, .slice none 0 0, .slice Ao20 y269.length co20] 25 (0, 0)) (by (with_reducible repeat (first | refine blk_drewN ?_ _ | refine blk_drew ?_ | refine blk_alloc ?_ _)); exact BK272.out) hb); have n5_ := Aside0.mk (below_step (by repeat (first | (with_reducible first | exact HB.out | apply below_alloc | apply pw_below_drewN | apply below_drew1 | refine below_set ?_ GE265.out | refine below_set ?_ GE272.out) | exact HB.out)) hb); clear HO_266004; clear HO_266005; clear HO_273005; clear BK265; clear BK272; clear HB; have HO_266004 := n0_; have HO_266005 := n1_; have HO_273005 := n2_; have BK265 := n3_; have BK272 := n4_; have HB := n5_; clear n0_ n1_ n2_ n3_ n4_ n5_; (try clear hb); (try clear hb2); (try clear hk); (try clear hi); have hcz67_0 : w66.cell? ⟨gb265, 0, none⟩ = some (.int .i64 a0_0) := (blk_cell BK265.out 0).trans rfl; have hcz67_1 : w66.cell? ⟨gb265, 1, none⟩ = some (.int .i64 a0_1) := (blk_cell BK265.out 1).trans rfl; have hcz67_2 : w66.cell? ⟨gb265, 2, none⟩ = some (.int .i64 a0_2) := (blk_cell BK265.out 2).trans rfl; have hcz67_3 : w66.cell? ⟨gb265, 3, none⟩ = some (.int .i64 a0_3) := (blk_cell BK265.out 3).trans rfl; have hcz67_4 : w66.cell? ⟨gb265, 4, none⟩ = some (.slice A0_4 l0_4.length c0_4) := (blk_cell BK265.out 4).trans rfl; have hcz67_5 : w66.cell? ⟨gb265, 5, none⟩ = some (.slice A0_5 l0_5.length c0_5) := (blk_cell BK265.out 5).trans rfl; have hfz67_0 := blk_frozen BK265.out 0; have hfz67_1 := blk_frozen BK265.out 1; have hfz67_2 := blk_frozen BK265.out 2; have hfz67_3 := blk_frozen BK265.out 3; have hfz67_4 := blk_frozen BK265.out 4; have hfz67_5 := blk_frozen BK265.out 5; have hcz68_0 : w66.cell? ⟨gb272, 0, none⟩ = some (.int .i64 8) := (blk_cell BK272.out 0).trans rfl; have hcz68_1 : w66.cell? ⟨gb272, 1, none⟩ = some (.int .i64 a0_1) := (blk_cell BK272.out 1).trans rfl; have hcz68_2 : w66.cell? ⟨gb272, 2, none⟩ = some (.int .i64 0) := (blk_cell BK272.out 2).trans rfl; have hcz68_3 : w66.cell? ⟨gb272, 3, none⟩ = some (.int .i64 0) := (blk_cell BK272.out 3).trans rfl; have hcz68_4 : w66.cell? ⟨gb272, 4, none⟩ = some (.slice none 0 0) := (blk_cell BK272.out 4).trans rfl; have hcz68_5 : w66.cell? ⟨gb272, 5, none⟩ = some (.slice Ao20 y269.length co20) := (blk_cell BK272.out 5).trans rfl; have hfz68_0 := blk_frozen BK272.out 0; have hfz68_1 := blk_frozen BK272.out 1; have hfz68_2 := blk_frozen BK272.out 2; have hfz68_3 := blk_frozen BK272.out 3; have hfz68_4 := blk_frozen BK272.out 4; have hfz68_5 := blk_frozen BK272.out 5) | (go_at_call 14; (refine (matroid_Deep.calls k2 8 a0_1 0 0 _ _ ([] : List (List Int)) _ _ y269 t281 _ ?side1 ?side2 ?side3 ?side4 A46.out).mono ?_); (case side1 => exact Kd.C_nil _ _); (case side2 => exact Nat.le_refl _); (case side3 => repeat (first | exact (Kd.N_reads' HO_273005.out).2.2 | (with_reducible refine Kd.C_alloc ?_ _) | (with_reducible refine Kd.C_drewN ?_ _) | (with_reducible refine Kd.C_drew ?_))); (case side4 => exact (Kd.N_reads' HO_273005.out).2.1); rintro e w69 ⟨rfl, hb⟩; have n0_ := Aside0.mk (Kd.V_below (by (with_reducible repeat (first | apply Kd.V_alloc | apply Kd.V_drewN | apply Kd.V_drew)); exact HO_266004.out) hb); have n1_ := Aside0.mk (Kd.V_below (by (with_reducible repeat (first | apply Kd.V_alloc | apply Kd.V_drewN | apply Kd.V_drew)); exact HO_266005.out) hb); have n2_ := Aside0.mk (Kd.N_below (by (with_reducible repeat (first | apply Kd.N_alloc | apply Kd.N_drewN | apply Kd.N_drew)); exact HO_273005.out) hb); have n3_ := Aside0.mk (blk_below (g := gb265) (o := .cells #[.int .i64 a0_0, .int .i64 a0_1, .int .i64 a0_2, .int .i64 a0_3, .slice A0_4 l0_4.length c0_4, .slice A0_5 l0_5.length c0_5] 25 (0, 0)) (by (with_reducible repeat (first | refine blk_drewN ?_ _ | refine blk_drew ?_ | refine blk_alloc ?_ _)); exact BK265.out) hb); have n4_ := Aside0.mk (blk_below (g := gb272) (o := .cells #[.int .i64 8, .int .i64 a0_1, .int .i64 0, .int .i64 0, .slice none 0 0, .slice Ao20 y269.length co20] 25 (0, 0)) (by (with_reducible repeat (first | refine blk_drewN ?_ _ | refine blk_drew ?_ | refine blk_alloc ?_ _)); exact BK272.out) hb); have n5_ := Aside0.mk (below_step (by repeat (first | (with_reducible first | exact HB.out | apply below_alloc | apply pw_below_drewN | apply below_drew1 | refine below_set ?_ GE265.out | refine below_set ?_ GE272.out) | exact HB.out)) hb); clear HO_266004; clear HO_266005; clear HO_273005; clear BK265; clear BK272; clear HB; have HO_266004 := n0_; have HO_266005 := n1_; have HO_273005 := n2_; have BK265 := n3_; have BK272 := n4_; have HB := n5_; clear n0_ n1_ n2_ n3_ n4_ n5_; (try clear hb); (try clear hb2); (try clear hk); (try clear hi)))
               go_ret
               exact ⟨by first | rfl | (simp [errW_none, errW_some] <;> rfl) | (simp [*, errW_none, errW_some] <;> rfl), by repeat (first | (with_reducible first | exact HB.out | apply below_alloc | apply pw_below_drewN | apply below_drew1 | refine below_set ?_ GE265.out | refine below_set ?_ GE272.out) | exact HB.out)⟩
              ·rw [if_neg c63] at H
               have c63b0 : decide (t280 < 4) = false := decide_eq_false c63
               clear c63
               exact absurd ((Option.some.inj H).trans hrT) (by decide)
            ·rw [if_neg c47] at H
             have c47b0 : (t281 == (wrap64 (t280 + 1))) = false := beq_eq_false_iff_ne.mpr c47
             have c47b1 : (t281 != (wrap64 (t280 + 1))) = true := bne_iff_ne.mpr c47
             exact absurd ((Option.some.inj H).trans hrT) (by decide)
    ·rw [if_neg c16] at H
     have c16b0 : (t273 == 0) = false := beq_eq_false_iff_ne.mpr c16
     have c16b1 : (t273 != 0) = true := bne_iff_ne.mpr c16
     obtain rfl := Option.some.inj H
     have hcz70_0 : wc.cell? ⟨gb265, 0, none⟩ = some (.int .i64 a0_0) := (blk_cell BK265.out 0).trans rfl
     have hcz70_1 : wc.cell? ⟨gb265, 1, none⟩ = some (.int .i64 a0_1) := (blk_cell BK265.out 1).trans rfl
     have hcz70_2 : wc.cell? ⟨gb265, 2, none⟩ = some (.int .i64 a0_2) := (blk_cell BK265.out 2).trans rfl
     have hcz70_3 : wc.cell? ⟨gb265, 3, none⟩ = some (.int .i64 a0_3) := (blk_cell BK265.out 3).trans rfl
     have hcz70_4 : wc.cell? ⟨gb265, 4, none⟩ = some (.slice A0_4 l0_4.length c0_4) := (blk_cell BK265.out 4).trans rfl
     have hcz70_5 : wc.cell? ⟨gb265, 5, none⟩ = some (.slice A0_5 l0_5.length c0_5) := (blk_cell BK265.out 5).trans rfl
     have hfz70_0 := blk_frozen BK265.out 0
     have hfz70_1 := blk_frozen BK265.out 1
     have hfz70_2 := blk_frozen BK265.out 2
     have hfz70_3 := blk_frozen BK265.out 3
     have hfz70_4 := blk_frozen BK265.out 4
     have hfz70_5 := blk_frozen BK265.out 5
     try go_wp2_with (first | ((with_reducible refine gate_dst (N := 19) rfl ?_); refine Kd.N_lit k25 _ 25 ?hg (N' := 19) ?hd (xs := ([(⟨a0_0, a0_1, a0_2, a0_3, l0_4, l0_5⟩ : S25)] : List (S25))) (inner := [.int .i64 a0_0, .int .i64 a0_1, .int .i64 a0_2, .int .i64 a0_3, .slice A0_4 l0_4.length c0_4, .slice A0_5 l0_5.length c0_5]) (ok := (fun k_ => ((P0_4_ k_ ∨ P0_5_ k_) ∨ w.heap.size ≤ k_) ∧ k_ ≠ gb265)) (okp := (fun k_ => ((P0_4_ k_ ∨ P0_5_ k_) ∨ w.heap.size ≤ k_) ∧ k_ ≠ gb265)) ?hr ?hp (fun _ hk => hk) ((show ∀ k_, wc.heap.size ≤ k_ → (fun k_ => ((P0_4_ k_ ∨ P0_5_ k_) ∨ w.heap.size ≤ k_) ∧ k_ ≠ gb265) k_ from fun k_ hk => ⟨(.inr (Nat.le_trans (below_size (by repeat (first | (with_reducible first | exact HB.out | apply below_alloc | apply pw_below_drewN | apply below_drew1 | refine below_set ?_ GE265.out) | exact HB.out))) hk)), Kd.freshB (g := gb265) (o := .cells #[.int .i64 a0_0, .int .i64 a0_1, .int .i64 a0_2, .int .i64 a0_3, .slice A0_4 l0_4.length c0_4, .slice A0_5 l0_5.length c0_5] 25 (0, 0)) (by (with_reducible repeat (first | refine blk_drewN ?_ _ | refine blk_drew ?_ | refine blk_alloc ?_ _)); exact BK265.out) k_ hk⟩) _ (Nat.le_refl _)) (Below.refl _ _) (Nat.le_refl _) (by simp) ?_; (case hd => rfl); (case hg => rfl); (case hr => first | (go_simp; done) | (go_simp; rfl)); (case hp => exact (Reps.c6 (show Kd.FK k25 _ _ (⟨a0_0, a0_1, a0_2, a0_3, l0_4, l0_5⟩ : S25) [.int .i64 a0_0, .int .i64 a0_1, .int .i64 a0_2, .int .i64 a0_3, .slice A0_4 l0_4.length c0_4, .slice A0_5 l0_5.length c0_5] from (k25_mkF _ _ (⟨a0_0, a0_1, a0_2, a0_3, l0_4, l0_5⟩ : S25) (Kd.V_reads' (Kd.V_mono (ok' := (fun k_ => ((P0_4_ k_ ∨ P0_5_ k_) ∨ w.heap.size ≤ k_) ∧ k_ ≠ gb265)) (HO_266004.out) (fun k_ hk => ⟨hk.1, hk.2⟩))).2.1 (Kd.V_F (Kd.V_mono (ok' := (fun k_ => ((P0_4_ k_ ∨ P0_5_ k_) ∨ w.heap.size ≤ k_) ∧ k_ ≠ gb265)) (HO_266004.out) (fun k_ hk => ⟨hk.1, hk.2⟩))) (Kd.V_reads' (Kd.V_mono (ok' := (fun k_ => ((P0_4_ k_ ∨ P0_5_ k_) ∨ w.heap.size ≤ k_) ∧ k_ ≠ gb265)) (HO_266005.out) (fun k_ hk => ⟨hk.1, hk.2⟩))).2.1 (Kd.V_F (Kd.V_mono (ok' := (fun k_ => ((P0_4_ k_ ∨ P0_5_ k_) ∨ w.heap.size ≤ k_) ∧ k_ ≠ gb265)) (HO_266005.out) (fun k_ hk => ⟨hk.1, hk.2⟩))))) (Reps.none _ _))); intro v270 w71 ho72 hb hg_ hnew_; clear hg_ hnew_; (first | rw [← Ny269.out] at ho72 | (simp only [Int.reduceToNat] at ho72; rw [← Ny269.out] at ho72)); have n0_ := Aside0.mk (Kd.V_elder' (by (with_reducible repeat (first | apply Kd.V_alloc | apply Kd.V_drewN | apply Kd.V_drew)); exact HO_266004.out) (Kd.N_base ho72) hb); have n1_ := Aside0.mk (Kd.V_elder' (by (with_reducible repeat (first | apply Kd.V_alloc | apply Kd.V_drewN | apply Kd.V_drew)); exact HO_266005.out) (Kd.N_base ho72) hb); have n2_ := Aside0.mk (Kd.N_lower ho72 (below_size (by repeat (first | (with_reducible first | exact HB.out | apply below_alloc | apply pw_below_drewN | apply below_drew1 | refine below_set ?_ GE265.out) | exact HB.out)))); have n3_ := Aside0.mk (blk_below (g := gb265) (o := .cells #[.int .i64 a0_0, .int .i64 a0_1, .int .i64 a0_2, .int .i64 a0_3, .slice A0_4 l0_4.length c0_4, .slice A0_5 l0_5.length c0_5] 25 (0, 0)) (by (with_reducible repeat (first | refine blk_drewN ?_ _ | refine blk_drew ?_ | refine blk_alloc ?_ _)); exact BK265.out) hb); have n4_ := Aside0.mk (below_step (by repeat (first | (with_reducible first | exact HB.out | apply below_alloc | apply pw_below_drewN | apply below_drew1 | refine below_set ?_ GE265.out) | exact HB.out)) hb); clear HO_266004; clear HO_266005; clear BK265; clear HB; have HO_266004 := n0_; have HO_266005 := n1_; have HO271 := n2_; have BK265 := n3_; have HB := n4_; clear n0_ n1_ n2_ n3_ n4_; clear hb ho72; obtain ⟨Ao73, co73, eo73⟩ := Kd.N_slice HO271.out; subst eo73) | ((with_reducible refine gate_dst (N := 3) rfl ?_); refine box_event ?hg (N := 3) ?hd (cs := #[.int .i64 0, .int .i64 0, .int .i64 0, .int .i64 0, .slice none 0 0, .slice none 0 0]) (t := 25) ?hr ?_; (case hd => rfl); (case hg => rfl); (case hr => first | (go_simp; done) | (go_simp; rfl)); intro gb272 hg w74 hbox hb; have n0_ := Aside0.mk (Kd.V_below (Kd.V_elderB (by (with_reducible repeat (first | apply Kd.V_alloc | apply Kd.V_drewN | apply Kd.V_drew)); exact HO_266004.out) gb272 (Nat.le_of_eq hg.symm)) hb); have n1_ := Aside0.mk (Kd.V_below (Kd.V_elderB (by (with_reducible repeat (first | apply Kd.V_alloc | apply Kd.V_drewN | apply Kd.V_drew)); exact HO_266005.out) gb272 (Nat.le_of_eq hg.symm)) hb); have n2_ := Aside0.mk (Kd.N_below (Kd.N_elderB (by (with_reducible repeat (first | apply Kd.N_alloc | apply Kd.N_drewN | apply Kd.N_drew)); exact HO271.out) gb272 (Nat.le_of_eq hg.symm)) hb); have n3_ := Aside0.mk (blk_below (g := gb265) (o := .cells #[.int .i64 a0_0, .int .i64 a0_1, .int .i64 a0_2, .int .i64 a0_3, .slice A0_4 l0_4.length c0_4, .slice A0_5 l0_5.length c0_5] 25 (0, 0)) (by (with_reducible repeat (first | refine blk_drewN ?_ _ | refine blk_drew ?_ | refine blk_alloc ?_ _)); exact BK265.out) hb); have n4_ := Aside0.mk (below_step (by repeat (first | (with_reducible first | exact HB.out | apply below_alloc | apply pw_below_drewN | apply below_drew1 | refine below_set ?_ GE265.out) | exact HB.out)) hb); have n5_ := Aside0.mk (hbox); have n6_ := Aside0.mk ((by rw [hg]; exact (below_size (by repeat (first | (with_reducible first | exact HB.out | apply below_alloc | apply pw_below_drewN | apply below_drew1 | refine below_set ?_ GE265.out) | exact HB.out))) : w.heap.size ≤ gb272)); have n7_ := Aside0.mk ((by rw [hg]; exact (below_size (by repeat (first | (with_reducible first | exact HB.out | apply below_alloc | apply pw_below_drewN | apply below_drew1 | refine below_set ?_ GE265.out) | exact HB.out))) : w.heap.size ≤ gb272)); have n8_ := Aside0.mk ((by rw [hg]; exact Nat.ne_of_lt (blk_lt (g := gb265) (o := .cells #[.int .i64 a0_0, .int .i64 a0_1, .int .i64 a0_2, .int .i64 a0_3, .slice A0_4 l0_4.length c0_4, .slice A0_5 l0_5.length c0_5] 25 (0, 0)) (by (with_reducible repeat (first | refine blk_drewN ?_ _ | refine blk_drew ?_ | refine blk_alloc ?_ _)); exact BK265.out)) : gb265 ≠ gb272)); have n9_ := Aside0.mk ((by rw [hg]; exact Nat.ne_of_gt (blk_lt (g := gb265) (o := .cells #[.int .i64 a0_0, .int .i64 a0_1, .int .i64 a0_2, .int .i64 a0_3, .slice A0_4 l0_4.length c0_4, .slice A0_5 l0_5.length c0_5] 25 (0, 0)) (by (with_reducible repeat (first | refine blk_drewN ?_ _ | refine blk_drew ?_ | refine blk_alloc ?_ _)); exact BK265.out)) : gb272 ≠ gb265)); clear HO_266004; clear HO_266005; clear HO271; clear BK265; clear HB; have HO_266004 := n0_; have HO_266005 := n1_; have HO271 := n2_; have BK265 := n3_; have HB := n4_; have BK272 := n5_; have GW272 := n6_; have GE272 := n7_; have NB265_272 := n8_; have NB272_265 := n9_; clear n0_ n1_ n2_ n3_ n4_ n5_ n6_ n7_ n8_ n9_; clear hb hbox hg; have hnb75 := NB272_265.out; have hnc75 := NB265_272.out; have hcz76_0 : w74.cell? ⟨gb272, 0, none⟩ = some (.int .i64 0) := (blk_cell BK272.out 0).trans rfl; have hcz76_1 : w74.cell? ⟨gb272, 1, none⟩ = some (.int .i64 0) := (blk_cell BK272.out 1).trans rfl; have hcz76_2 : w74.cell? ⟨gb272, 2, none⟩ = some (.int .i64 0) := (blk_cell BK272.out 2).trans rfl; have hcz76_3 : w74.cell? ⟨gb272, 3, none⟩ = some (.int .i64 0) := (blk_cell BK272.out 3).trans rfl; have hcz76_4 : w74.cell? ⟨gb272, 4, none⟩ = some (.slice none 0 0) := (blk_cell BK272.out 4).trans rfl; have hcz76_5 : w74.cell? ⟨gb272, 5, none⟩ = some (.slice none 0 0) := (blk_cell BK272.out 5).trans rfl; have hfz76_0 := blk_frozen BK272.out 0; have hfz76_1 := blk_frozen BK272.out 1; have hfz76_2 := blk_frozen BK272.out 2; have hfz76_3 := blk_frozen BK272.out 3; have hfz76_4 := blk_frozen BK272.out 4; have hfz76_5 := blk_frozen BK272.out 5))
     have n0_ : Aside0 (Kd.V (Kd.slice 3 (Kd.int .i64)) 26 ((((((w74.setCell ⟨gb272, 0, none⟩ (.int .i64 8)).setCell ⟨gb272, 1, none⟩ (.int .i64 a0_1)).setCell ⟨gb272, 2, none⟩ (.int .i64 0)).setCell ⟨gb272, 3, none⟩ (.int .i64 0)).setCell ⟨gb272, 4, none⟩ (.slice none 0 0)).setCell ⟨gb272, 5, none⟩ (.slice Ao73 y269.length co73)) w.heap.size (fun k_ => ((P0_4_ k_ ∨ P0_5_ k_) ∨ w.heap.size ≤ k_) ∧ some k_ ≠ (.slice Ao73 y269.length co73 : Value).ownBlock ∧ k_ ≠ gb265 ∧ k_ ≠ gb272) (.slice A0_4 l0_4.length c0_4) l0_4) := ⟨by (with_reducible repeat (first | apply Kd.V_alloc | apply Kd.V_drewN | apply Kd.V_drew)); exact Kd.V_mono (Kd.V_far (p := ⟨gb272, 5, none⟩) (Kd.V_far (p := ⟨gb272, 4, none⟩) (Kd.V_far (p := ⟨gb272, 3, none⟩) (Kd.V_far (p := ⟨gb272, 2, none⟩) (Kd.V_far (p := ⟨gb272, 1, none⟩) (Kd.V_far (p := ⟨gb272, 0, none⟩) (Kd.V_mono HO_266004.out (fun k_ hk => (⟨hk, hk.2⟩ : _ ∧ k_ ≠ gb272))) (fun _ hk => hk.2) (.int .i64 8)) (fun _ hk => hk.2) (.int .i64 a0_1)) (fun _ hk => hk.2) (.int .i64 0)) (fun _ hk => hk.2) (.int .i64 0)) (fun _ hk => hk.2) (.slice none 0 0)) (fun _ hk => hk.2) (.slice Ao73 y269.length co73)) (fun _ hk => ⟨hk.1.1.1.1, ⟨hk.1.1.2, ⟨hk.1.1.1.2, hk.1.2⟩⟩⟩)⟩
     have n1_ : Aside0 (Kd.V k25 25 ((((((w74.setCell ⟨gb272, 0, none⟩ (.int .i64 8)).setCell ⟨gb272, 1, none⟩ (.int .i64 a0_1)).setCell ⟨gb272, 2, none⟩ (.int .i64 0)).setCell ⟨gb272, 3, none⟩ (.int .i64 0)).setCell ⟨gb272, 4, none⟩ (.slice none 0 0)).setCell ⟨gb272, 5, none⟩ (.slice Ao73 y269.length co73)) w.heap.size (fun k_ => ((P0_4_ k_ ∨ P0_5_ k_) ∨ w.heap.size ≤ k_) ∧ some k_ ≠ (.slice Ao73 y269.length co73 : Value).ownBlock ∧ k_ ≠ gb265 ∧ k_ ≠ gb272) (.slice A0_5 l0_5.length c0_5) l0_5) := ⟨by (with_reducible repeat (first | apply Kd.V_alloc | apply Kd.V_drewN | apply Kd.V_drew)); exact Kd.V_mono (Kd.V_far (p := ⟨gb272, 5, none⟩) (Kd.V_far (p := ⟨gb272, 4, none⟩) (Kd.V_far (p := ⟨gb272, 3, none⟩) (Kd.V_far (p := ⟨gb272, 2, none⟩) (Kd.V_far (p := ⟨gb272, 1, none⟩) (Kd.V_far (p := ⟨gb272, 0, none⟩) (Kd.V_mono HO_266005.out (fun k_ hk => (⟨hk, hk.2⟩ : _ ∧ k_ ≠ gb272))) (fun _ hk => hk.2) (.int .i64 8)) (fun _ hk => hk.2) (.int .i64 a0_1)) (fun _ hk => hk.2) (.int .i64 0)) (fun _ hk => hk.2) (.int .i64 0)) (fun _ hk => hk.2) (.slice none 0 0)) (fun _ hk => hk.2) (.slice Ao73 y269.length co73)) (fun _ hk => ⟨hk.1.1.1.1, ⟨hk.1.1.2, ⟨hk.1.1.1.2, hk.1.2⟩⟩⟩)⟩
     have n2_ : Aside0 (Kd.N k25 25 ((((((w74.setCell ⟨gb272, 0, none⟩ (.int .i64 8)).setCell ⟨gb272, 1, none⟩ (.int .i64 a0_1)).setCell ⟨gb272, 2, none⟩ (.int .i64 0)).setCell ⟨gb272, 3, none⟩ (.int .i64 0)).setCell ⟨gb272, 4, none⟩ (.slice none 0 0)).setCell ⟨gb272, 5, none⟩ (.slice Ao73 y269.length co73)) w.heap.size (fun k_ => ((P0_4_ k_ ∨ P0_5_ k_) ∨ w.heap.size ≤ k_) ∧ k_ ≠ gb265 ∧ k_ ≠ gb272) (.slice Ao73 y269.length co73) y269) := ⟨by (with_reducible repeat (first | apply Kd.N_alloc | apply Kd.N_drewN | apply Kd.N_drew)); exact Kd.N_mono (Kd.N_far (p := ⟨gb272, 5, none⟩) (Kd.N_far (p := ⟨gb272, 4, none⟩) (Kd.N_far (p := ⟨gb272, 3, none⟩) (Kd.N_far (p := ⟨gb272, 2, none⟩) (Kd.N_far (p := ⟨gb272, 1, none⟩) (Kd.N_far (p := ⟨gb272, 0, none⟩) (Kd.N_mono HO271.out (fun k_ hk => (⟨hk, hk.2⟩ : _ ∧ k_ ≠ gb272))) (fun _ hk => hk.2) (.int .i64 8)) (fun _ hk => hk.2) (.int .i64 a0_1)) (fun _ hk => hk.2) (.int .i64 0)) (fun _ hk => hk.2) (.int .i64 0)) (fun _ hk => hk.2) (.slice none 0 0)) (fun _ hk => hk.2) (.slice Ao73 y269.length co73)) (fun _ hk => ⟨hk.1.1.1, ⟨hk.1.1.2, hk.1.2⟩⟩)⟩
     have n3_ : Aside0 (((((((w74.setCell ⟨gb272, 0, none⟩ (.int .i64 8)).setCell ⟨gb272, 1, none⟩ (.int .i64 a0_1)).setCell ⟨gb272, 2, none⟩ (.int .i64 0)).setCell ⟨gb272, 3, none⟩ (.int .i64 0)).setCell ⟨gb272, 4, none⟩ (.slice none 0 0)).setCell ⟨gb272, 5, none⟩ (.slice Ao73 y269.length co73)).heap[gb265]? = some (.cells #[.int .i64 a0_0, .int .i64 a0_1, .int .i64 a0_2, .int .i64 a0_3, .slice A0_4 l0_4.length c0_4, .slice A0_5 l0_5.length c0_5] 25 (0, 0))) := ⟨by (with_reducible repeat (first | refine blk_drewN ?_ _ | refine blk_drew ?_ | refine blk_alloc ?_ _)); refine blk_far ?_ NB265_272.out _; (with_reducible repeat (first | refine blk_drewN ?_ _ | refine blk_drew ?_ | refine blk_alloc ?_ _)); refine blk_far ?_ NB265_272.out _; (with_reducible repeat (first | refine blk_drewN ?_ _ | refine blk_drew ?_ | refine blk_alloc ?_ _)); refine blk_far ?_ NB265_272.out _; (with_reducible repeat (first | refine blk_drewN ?_ _ | refine blk_drew ?_ | refine blk_alloc ?_ _)); refine blk_far ?_ NB265_272.out _; (with_reducible repeat (first | refine blk_drewN ?_ _ | refine blk_drew ?_ | refine blk_alloc ?_ _)); refine blk_far ?_ NB265_272.out _; (with_reducible repeat (first | refine blk_drewN ?_ _ | refine blk_drew ?_ | refine blk_alloc ?_ _)); refine blk_far ?_ NB265_272.out _; (with_reducible repeat (first | refine blk_drewN ?_ _ | refine blk_drew ?_ | refine blk_alloc ?_ _)); exact BK265.out⟩
     have n4_ : Aside0 (((((((w74.setCell ⟨gb272, 0, none⟩ (.int .i64 8)).setCell ⟨gb272, 1, none⟩ (.int .i64 a0_1)).setCell ⟨gb272, 2, none⟩ (.int .i64 0)).setCell ⟨gb272, 3, none⟩ (.int .i64 0)).setCell ⟨gb272, 4, none⟩ (.slice none 0 0)).setCell ⟨gb272, 5, none⟩ (.slice Ao73 y269.length co73)).heap[gb272]? = some (.cells #[.int .i64 8, .int .i64 a0_1, .int .i64 0, .int .i64 0, .slice none 0 0, .slice Ao73 y269.length co73] 25 (0, 0))) := ⟨by (with_reducible repeat (first | refine blk_drewN ?_ _ | refine blk_drew ?_ | refine blk_alloc ?_ _)); refine blk_put (cs := #[.int .i64 8, .int .i64 a0_1, .int .i64 0, .int .i64 0, .slice none 0 0, .slice none 0 0]) ?_ 5 _ rfl; (with_reducible repeat (first | refine blk_drewN ?_ _ | refine blk_drew ?_ | refine blk_alloc ?_ _)); refine blk_put (cs := #[.int .i64 8, .int .i64 a0_1, .int .i64 0, .int .i64 0, .slice none 0 0, .slice none 0 0]) ?_ 4 _ rfl; (with_reducible repeat (first | refine blk_drewN ?_ _ | refine blk_drew ?_ | refine blk_alloc ?_ _)); refine blk_put (cs := #[.int .i64 8, .int .i64 a0_1, .int .i64 0, .int .i64 0, .slice none 0 0, .slice none 0 0]) ?_ 3 _ rfl; (with_reducible repeat (first | refine blk_drewN ?_ _ | refine blk_drew ?_ | refine blk_alloc ?_ _)); refine blk_put (cs := #[.int .i64 8, .int .i64 a0_1, .int .i64 0, .int .i64 0, .slice none 0 0, .slice none 0 0]) ?_ 2 _ rfl; (with_reducible repeat (first | refine blk_drewN ?_ _ | refine blk_drew ?_ | refine blk_alloc ?_ _)); refine blk_put (cs := #[.int .i64 8, .int .i64 0, .int .i64 0, .int .i64 0, .slice none 0 0, .slice none 0 0]) ?_ 1 _ rfl; (with_reducible repeat (first | refine blk_drewN ?_ _ | refine blk_drew ?_ | refine blk_alloc ?_ _)); refine blk_put (cs := #[.int .i64 0, .int .i64 0, .int .i64 0, .int .i64 0, .slice none 0 0, .slice none 0 0]) ?_ 0 _ rfl; (with_reducible repeat (first | refine blk_drewN ?_ _ | refine blk_drew ?_ | refine blk_alloc ?_ _)); exact BK272.out⟩
     have n5_ : Aside0 (Below w.heap.size w ((((((w74.setCell ⟨gb272, 0, none⟩ (.int .i64 8)).setCell ⟨gb272, 1, none⟩ (.int .i64 a0_1)).setCell ⟨gb272, 2, none⟩ (.int .i64 0)).setCell ⟨gb272, 3, none⟩ (.int .i64 0)).setCell ⟨gb272, 4, none⟩ (.slice none 0 0)).setCell ⟨gb272, 5, none⟩ (.slice Ao73 y269.length co73))) := ⟨by repeat (first | (with_reducible first | exact HB.out | apply below_alloc | apply pw_below_drewN | apply below_drew1 | refine below_set ?_ GE265.out | refine below_set ?_ GE272.out) | exact HB.out)⟩
     (try clear HO_266004)
     (try clear HO_266005)
     (try clear HO271)
     (try clear BK265)
     (try clear BK272)
     (try clear HB)
     generalize ((((((w74.setCell ⟨gb272, 0, none⟩ (.int .i64 8)).setCell ⟨gb272, 1, none⟩ (.int .i64 a0_1)).setCell ⟨gb272, 2, none⟩ (.int .i64 0)).setCell ⟨gb272, 3, none⟩ (.int .i64 0)).setCell ⟨gb272, 4, none⟩ (.slice none 0 0)).setCell ⟨gb272, 5, none⟩ (.slice Ao73 y269.length co73)) = w77 at n0_ n1_ n2_ n3_ n4_ n5_ ⊢
     have HO_266004 := n0_
     have HO_266005 := n1_
     have HO271 := n2_
     have BK265 := n3_
     have BK272 := n4_
     have HB := n5_
     clear n0_ n1_ n2_ n3_ n4_ n5_
     have n0_ := Aside0.mk (Kd.V_drew HO_266004.out)
     have n1_ := Aside0.mk (Kd.V_drew HO_266005.out)
     have n2_ := Aside0.mk (Kd.N_drew HO271.out)
     have n3_ := Aside0.mk (blk_drew BK265.out)
     have n4_ := Aside0.mk (blk_drew BK272.out)
     have n5_ := Aside0.mk (below_drew1 HB.out)
     clear HO_266004
     clear HO_266005
     clear HO271
     clear BK265
     clear BK272
     clear HB
     have HO_266004 := n0_
     have HO_266005 := n1_
     have HO271 := n2_
     have BK265 := n3_
     have BK272 := n4_
     have HB := n5_
     clear n0_ n1_ n2_ n3_ n4_ n5_
     refine start_ (n := 6) (S := fun w' => w'.cell? ⟨gb265, 0, none⟩ = some (.int .i64 a0_0) ∧ w'.cell? ⟨gb265, 1, none⟩ = some (.int .i64 a0_1) ∧ w'.cell? ⟨gb265, 2, none⟩ = some (.int .i64 a0_2) ∧ w'.cell? ⟨gb265, 3, none⟩ = some (.int .i64 a0_3) ∧ w'.cell? ⟨gb265, 4, none⟩ = some (.slice A0_4 l0_4.length c0_4) ∧ w'.cell? ⟨gb265, 5, none⟩ = some (.slice A0_5 l0_5.length c0_5) ∧ w'.cell? ⟨gb272, 0, none⟩ = some (.int .i64 8) ∧ w'.cell? ⟨gb272, 1, none⟩ = some (.int .i64 a0_1) ∧ w'.cell? ⟨gb272, 2, none⟩ = some (.int .i64 0) ∧ w'.cell? ⟨gb272, 3, none⟩ = some (.int .i64 0) ∧ w'.cell? ⟨gb272, 4, none⟩ = some (.slice none 0 0) ∧ w'.cell? ⟨gb272, 5, none⟩ = some (.slice Ao73 y269.length co73)) (ds := []) #[false, false, false, false, false, false] (by kernel_rfl) rfl rfl ⟨(blk_cell BK265.out 0).trans rfl, (blk_cell BK265.out 1).trans rfl, (blk_cell BK265.out 2).trans rfl, (blk_cell BK265.out 3).trans rfl, (blk_cell BK265.out 4).trans rfl, (blk_cell BK265.out 5).trans rfl, (blk_cell BK272.out 0).trans rfl, (blk_cell BK272.out 1).trans rfl, (blk_cell BK272.out 2).trans rfl, (blk_cell BK272.out 3).trans rfl, (blk_cell BK272.out 4).trans rfl, (blk_cell BK272.out 5).trans rfl⟩ (fun hHeld => ?_)
     generalize w77.drew = w78 at HO_266004 HO_266005 HO271 BK265 BK272 HB hHeld ⊢
     refine take_ (i := 0) (N := some 21) (v := ?_) (a' := ?_) #[true, false, false, false, false, false] rfl rfl (by kernel_rfl) (fun _ _ _ h => h) (Or.inl ⟨by rfl, ?_⟩) hHeld ?_ ?_
     rotate_left
     ·rintro w' ⟨s0, s1, s2, s3, s4, s5, s6, s7, s8, s9, s10, s11⟩
      go_simp
      with_reducible rfl
     rotate_left
     ·simp only [Act.put, List.setIfInBounds_toArray, List.set_cons_zero, List.set_cons_succ, i64_w, i32_w]
      rfl
     refine take_ (i := 2) (N := some 23) (v := ?_) (a' := ?_) #[true, false, true, false, false, false] rfl rfl (by kernel_rfl) (fun _ _ _ h => h) (Or.inl ⟨by rfl, ?_⟩) hHeld ?_ ?_
     rotate_left
     ·rintro w' ⟨s0, s1, s2, s3, s4, s5, s6, s7, s8, s9, s10, s11⟩
      go_simp
      with_reducible rfl
     rotate_left
     ·simp only [Act.put, List.setIfInBounds_toArray, List.set_cons_zero, List.set_cons_succ, i64_w, i32_w]
      rfl
     refine one_ (i := 1) (N := some 22) #[true, true, true, false, false, false] rfl rfl (by kernel_rfl) (by decide) (fun K hK => ?_)
     refine goes_ Tryd.func12 (by kernel_rfl) rfl #[.agg #[.int .i64 a0_0, .int .i64 a0_1, .int .i64 a0_2, .int .i64 a0_3, .slice A0_4 l0_4.length c0_4, .slice A0_5 l0_5.length c0_5]] (by rfl) rfl rfl (by (try simp only [List.map_toArray, List.map_cons, List.map_nil]); first | done | rfl | (simp only [List.length_drop, List.length_take]; rfl)) ?_
     with_reducible refine (matroid_Check.calls a0_0 a0_1 a0_2 a0_3 _ _ l0_4 _ _ l0_5 t273 _ ?side5 ?side1 ?side2 ?side3 ?side4 A14.out).mono ?_
     (case side1 => repeat (first | exact (Kd.V_reads' HO_266004.out).2.2 | (with_reducible refine Kd.C_alloc ?_ _) | (with_reducible refine Kd.C_drewN ?_ _) | (with_reducible refine Kd.C_drew ?_)))
     (case side2 => exact (Kd.V_reads' HO_266004.out).2.1)
     (case side3 => repeat (first | exact (Kd.V_reads' HO_266005.out).2.2 | (with_reducible refine Kd.C_alloc ?_ _) | (with_reducible refine Kd.C_drewN ?_ _) | (with_reducible refine Kd.C_drew ?_)))
     (case side4 => exact (Kd.V_reads' HO_266005.out).2.1)
     (case side5 => exact EV.below HEV.out (by repeat (first | (with_reducible first | exact HB.out | apply below_alloc | apply pw_below_drewN | apply below_drew1 | refine below_set ?_ GE265.out | refine below_set ?_ GE272.out) | exact HB.out)) (EV.pos HEV.out))
     rintro e w79 ⟨rfl, hb⟩
     refine ⟨_, rfl, ?_⟩
     have n0_ := Aside0.mk (Kd.V_below (by (with_reducible repeat (first | apply Kd.V_alloc | apply Kd.V_drewN | apply Kd.V_drew)); exact HO_266004.out) hb)
     have n1_ := Aside0.mk (Kd.V_below (by (with_reducible repeat (first | apply Kd.V_alloc | apply Kd.V_drewN | apply Kd.V_drew)); exact HO_266005.out) hb)
     have n2_ := Aside0.mk (Kd.N_below (by (with_reducible repeat (first | apply Kd.N_alloc | apply Kd.N_drewN | apply Kd.N_drew)); exact HO271.out) hb)
     have n3_ := Aside0.mk (blk_below (g := gb265) (o := .cells #[.int .i64 a0_0, .int .i64 a0_1, .int .i64 a0_2, .int .i64 a0_3, .slice A0_4 l0_4.length c0_4, .slice A0_5 l0_5.length c0_5] 25 (0, 0)) (by (with_reducible repeat (first | refine blk_drewN ?_ _ | refine blk_drew ?_ | refine blk_alloc ?_ _)); exact BK265.out) hb)
     have n4_ := Aside0.mk (blk_below (g := gb272) (o := .cells #[.int .i64 8, .int .i64 a0_1, .int .i64 0, .int .i64 0, .slice none 0 0, .slice Ao73 y269.length co73] 25 (0, 0)) (by (with_reducible repeat (first | refine blk_drewN ?_ _ | refine blk_drew ?_ | refine blk_alloc ?_ _)); exact BK272.out) hb)
     have n5_ := Aside0.mk (below_step (by repeat (first | (with_reducible first | exact HB.out | apply below_alloc | apply pw_below_drewN | apply below_drew1 | refine below_set ?_ GE265.out | refine below_set ?_ GE272.out) | exact HB.out)) hb)
     clear HO_266004
     clear HO_266005
     clear HO271
     clear BK265
     clear BK272
     clear HB
     have HO_266004 := n0_
     have HO_266005 := n1_
     have HO271 := n2_
     have BK265 := n3_
     have BK272 := n4_
     have HB := n5_
     clear n0_ n1_ n2_ n3_ n4_ n5_
     (try clear hb)
     (try clear hb2)
     (try clear hk)
     (try clear hi)
     refine hK.out _ _ ⟨(blk_cell BK265.out 0).trans rfl, (blk_cell BK265.out 1).trans rfl, (blk_cell BK265.out 2).trans rfl, (blk_cell BK265.out 3).trans rfl, (blk_cell BK265.out 4).trans rfl, (blk_cell BK265.out 5).trans rfl, (blk_cell BK272.out 0).trans rfl, (blk_cell BK272.out 1).trans rfl, (blk_cell BK272.out 2).trans rfl, (blk_cell BK272.out 3).trans rfl, (blk_cell BK272.out 4).trans rfl, (blk_cell BK272.out 5).trans rfl⟩ (fun hHeld => ?_)
     clear hK K
     refine norm_ (a' := ?_) ?_ ?_
     rotate_left
     ·show Act.put _ (some 22) _ = _
      simp only [Act.put, List.setIfInBounds_toArray, List.set_cons_zero, List.set_cons_succ, i64_w, i32_w]
      rfl
     refine one_ (i := 3) (N := some 24) #[true, true, true, true, false, false] rfl rfl (by kernel_rfl) (by decide) (fun K hK => ?_)
     refine goes_ Tryd.func12 (by kernel_rfl) rfl #[.agg #[.int .i64 8, .int .i64 a0_1, .int .i64 0, .int .i64 0, .slice none 0 0, .slice Ao73 y269.length co73]] (by rfl) rfl rfl (by (try simp only [List.map_toArray, List.map_cons, List.map_nil]); first | done | rfl | (simp only [List.length_drop, List.length_take]; rfl)) ?_
     refine (matroid_Check.calls 8 a0_1 0 0 _ _ ([] : List (List Int)) _ _ y269 t274 _ ?side5 ?side1 ?side2 ?side3 ?side4 A15.out).mono ?_
     (case side1 => exact Kd.C_nil _ _)
     (case side2 => exact Nat.le_refl _)
     (case side3 => repeat (first | exact (Kd.N_reads' HO271.out).2.2 | (with_reducible refine Kd.C_alloc ?_ _) | (with_reducible refine Kd.C_drewN ?_ _) | (with_reducible refine Kd.C_drew ?_)))
     (case side4 => exact (Kd.N_reads' HO271.out).2.1)
     (case side5 => exact EV.below HEV.out (by repeat (first | (with_reducible first | exact HB.out | apply below_alloc | apply pw_below_drewN | apply below_drew1 | refine below_set ?_ GE265.out | refine below_set ?_ GE272.out) | exact HB.out)) (EV.pos HEV.out))
     rintro e w80 ⟨rfl, hb⟩
     refine ⟨_, rfl, ?_⟩
     have n0_ := Aside0.mk (Kd.V_below (by (with_reducible repeat (first | apply Kd.V_alloc | apply Kd.V_drewN | apply Kd.V_drew)); exact HO_266004.out) hb)
     have n1_ := Aside0.mk (Kd.V_below (by (with_reducible repeat (first | apply Kd.V_alloc | apply Kd.V_drewN | apply Kd.V_drew)); exact HO_266005.out) hb)
     have n2_ := Aside0.mk (Kd.N_below (by (with_reducible repeat (first | apply Kd.N_alloc | apply Kd.N_drewN | apply Kd.N_drew)); exact HO271.out) hb)
     have n3_ := Aside0.mk (blk_below (g := gb265) (o := .cells #[.int .i64 a0_0, .int .i64 a0_1, .int .i64 a0_2, .int .i64 a0_3, .slice A0_4 l0_4.length c0_4, .slice A0_5 l0_5.length c0_5] 25 (0, 0)) (by (with_reducible repeat (first | refine blk_drewN ?_ _ | refine blk_drew ?_ | refine blk_alloc ?_ _)); exact BK265.out) hb)
     have n4_ := Aside0.mk (blk_below (g := gb272) (o := .cells #[.int .i64 8, .int .i64 a0_1, .int .i64 0, .int .i64 0, .slice none 0 0, .slice Ao73 y269.length co73] 25 (0, 0)) (by (with_reducible repeat (first | refine blk_drewN ?_ _ | refine blk_drew ?_ | refine blk_alloc ?_ _)); exact BK272.out) hb)
     have n5_ := Aside0.mk (below_step (by repeat (first | (with_reducible first | exact HB.out | apply below_alloc | apply pw_below_drewN | apply below_drew1 | refine below_set ?_ GE265.out | refine below_set ?_ GE272.out) | exact HB.out)) hb)
     clear HO_266004
     clear HO_266005
     clear HO271
     clear BK265
     clear BK272
     clear HB
     have HO_266004 := n0_
     have HO_266005 := n1_
     have HO271 := n2_
     have BK265 := n3_
     have BK272 := n4_
     have HB := n5_
     clear n0_ n1_ n2_ n3_ n4_ n5_
     (try clear hb)
     (try clear hb2)
     (try clear hk)
     (try clear hi)
     refine hK.out _ _ ⟨(blk_cell BK265.out 0).trans rfl, (blk_cell BK265.out 1).trans rfl, (blk_cell BK265.out 2).trans rfl, (blk_cell BK265.out 3).trans rfl, (blk_cell BK265.out 4).trans rfl, (blk_cell BK265.out 5).trans rfl, (blk_cell BK272.out 0).trans rfl, (blk_cell BK272.out 1).trans rfl, (blk_cell BK272.out 2).trans rfl, (blk_cell BK272.out 3).trans rfl, (blk_cell BK272.out 4).trans rfl, (blk_cell BK272.out 5).trans rfl⟩ (fun hHeld => ?_)
     clear hK K
     refine norm_ (a' := ?_) ?_ ?_
     rotate_left
     ·show Act.put _ (some 24) _ = _
      simp only [Act.put, List.setIfInBounds_toArray, List.set_cons_zero, List.set_cons_succ, i64_w, i32_w]
      rfl
     refine pure_ (i := 4) (N := some 4) (v := ?_) (a' := ?_) #[true, true, true, true, true, false] rfl rfl (by kernel_rfl) (fun _ _ _ h => h) (Or.inl ⟨by rfl, ?_⟩) ?_ ?_
     rotate_left
     ·intro w'
      go_simp
      with_reducible rfl
     rotate_left
     ·simp only [Act.put, List.setIfInBounds_toArray, List.set_cons_zero, List.set_cons_succ, i64_w, i32_w]
      rfl
     refine pure_ (i := 5) (N := some 5) (v := ?_) (a' := ?_) #[true, true, true, true, true, true] rfl rfl (by kernel_rfl) (fun _ _ _ h => h) (Or.inl ⟨by rfl, ?_⟩) ?_ ?_
     rotate_left
     ·intro w'
      go_simp
      with_reducible rfl
     rotate_left
     ·simp only [Act.put, List.setIfInBounds_toArray, List.set_cons_zero, List.set_cons_succ, i64_w, i32_w]
      rfl
     refine done_ (by kernel_rfl) ?_
     try go_wp2
     go_ret
     exact ⟨by first | rfl | (simp [errW_none, errW_some] <;> rfl) | (simp [*, errW_none, errW_some] <;> rfl), by repeat (first | (with_reducible first | exact HB.out | apply below_alloc | apply pw_below_drewN | apply below_drew1 | refine below_set ?_ GE265.out | refine below_set ?_ GE272.out) | exact HB.out)⟩

end Go.Proofs.YtgbmlkmkfigolaaDoor.P
/- The law MatroidBounds, with no program in sight. -/
namespace Go.Proofs.YtgbmlkmkfigolaaDoor.P
open Go.RowKit Go.Proofs.YtgbmlkmkfigolaaDoorW.PrintWords Go.Proofs.YtgbmlkmkfigolaaDoorW.PrintLast Go.Proofs.YtgbmlkmkfigolaaDoorW.PrintMore NumTh
set_option linter.unusedVariables false
set_option linter.unusedSimpArgs false

/-- one deeper, as its own dual -/
def dualM (m : Mtr) : Mtr := ⟨8, m.f1, 0, 0, [], [m]⟩
theorem dual_deep (m : Mtr) : deepV 4 (dualM m) = deepV 3 m + 1 := by
 rw [deepV_nests (j := 3) (m := dualM m) (show nestsB (8 : Int) = true by decide)]
 show max 0 (deepV 3 m) + 1 = _
 have := (deepV_bd 3 m).1
 omega
theorem dual_lcl (m : Mtr) (h : 0 ≤ m.f1 ∧ m.f1 ≤ 64) : lclB (dualM m) = true := by
 unfold lclB
 have hn : nestsB (8 : Int) = true := by decide
 show (inB m.f1 64 && inB 0 64 && (if nestsB (8 : Int) = true then outerB (dualM m) else _)) = true
 rw [if_pos hn]
 have ho : outerB (dualM m) = true := by
  unfold outerB dualM
  rw [if_neg (by simp), if_neg (show ¬ (8 : Int) = 9 by decide), if_pos (by rfl), if_neg (show ¬ (8 : Int) = 5 by decide), if_neg (show ¬ (8 : Int) = 6 by decide)]
  exact decide_eq_true rfl
 rw [ho]
 unfold inB
 rw [decide_eq_true h.1, decide_eq_true h.2]; rfl
theorem dual_chk (m : Mtr) (h : chkN m = 0) : chkN (dualM m) = 0 ↔ deepV 4 m ≤ 3 := by
 rw [chkN_nest (m := dualM m) (show nestsB (8 : Int) = true by decide)]
 constructor
 ·rintro ⟨_, h2⟩; exact (h2 m (List.mem_singleton.2 rfl)).2
 ·intro hd
  refine ⟨dual_lcl m (chkN_n h), fun x hx => ?_⟩
  have e : x = m := List.mem_singleton.1 hx
  subst e; exact ⟨h, hd⟩
theorem dual_no (m : Mtr) (h : chkN m ≠ 0) : chkN (dualM m) ≠ 0 := fun e =>
 h (((chkN_nest (m := dualM m) (show nestsB (8 : Int) = true by decide)).1 e).2 m (List.mem_singleton.2 rfl)).1
theorem in_less (m : Mtr) (h : chkN m = 0) : ∀ x ∈ m.f5, chkN x = 0 ∧ deepV 4 x < deepV 4 m := by
 intro x hx
 cases hn : nestsB m.f0 with
 | false => rw [((chkN_flat hn).1 h).2] at hx; cases hx
 | true =>
  have h1 := ((chkN_nest hn).1 h).2 x hx
  refine ⟨h1.1, ?_⟩
  have hv : chkV 3 x = true := (chkV_iff.1 (chkN_iff.1 h)).2 x hx
  have h3 : deepV 4 x = deepV 3 x := deepV_low 3 x (chkV_deep 3 x hv)
  rw [h3, deepV_nests (j := 3) hn]
  have := (fold_max (deepV 3) m.f5 0).2.1 x hx
  omega
theorem bounds_l0 (m : Mtr) (ho : OkS m) (h : chkN m = 0) : ∀ (d i : Nat), m.f5.length - i = d → i ≤ m.f5.length →
 Ev (fun k => greenwoodlaw09_MatroidBounds.l0 k (chkN (dualM m)) (i : Int) m.f0 m.f1 m.f2 m.f3 m.f4 m.f5 8 m.f1 0 0 [m]) true := by
 intro d
 have hl5 := ho.l5
 induction d with
 | zero =>
  intro i h1 h2
  refine Ev.step (fun k => by rw [greenwoodlaw09_MatroidBounds.l0]) ?_
  refine Ev.ifn (by omega) ?_
  refine Ev.bind (Deep_ev m ho) ?_
  have hn := chkN_n h
  have hb := deepV_bd 4 m
  have hd4 : deepV 4 m ≤ ((4 : Nat) : Int) := chkV_deep 4 m (chkN_iff.1 h)
  have hu : deepV 3 m = deepV 4 m := deepV_up 3 m hd4
  refine Ev.ifn (by omega) ?_
  refine Ev.ifn (by omega) ?_
  refine Ev.ifn (by omega) ?_
  refine Ev.ifn (by omega) ?_
  have hod : OkS (dualM m) := .mk (by simp [dualM]) (fun l hl => by simp [dualM] at hl) (by simp [dualM]) (fun x hx => by
   have e : x = m := List.mem_singleton.1 hx
   subst e; exact ho)
  refine Ev.bind (Deep_ev (dualM m) hod) ?_
  refine Ev.ifp (by rw [dual_deep, hu]; unfold wrap64; omega) ?_
  have hc := dual_chk m h
  by_cases h4 : deepV 4 m = 4
  ·refine Ev.ifp h4 ?_
   refine Ev.ifp ?_ (Ev.val rfl)
   unfold chkN
   rw [if_pos (by rw [dual_deep, hu, h4]; decide)]
  ·refine Ev.ifn h4 ?_
   refine Ev.ifp (by omega) (Ev.val ?_)
   rw [hc.2 (by omega)]; rfl
 | succ d ih =>
  intro i h1 h2
  have hi : i < m.f5.length := by omega
  refine Ev.step (fun k => by rw [greenwoodlaw09_MatroidBounds.l0]) ?_
  refine Ev.ifp (by omega) ?_
  refine Ev.ifp (by omega) ?_
  rw [rd_T_at hi]
  have hin := in_less m h _ (List.getElem_mem hi)
  refine Ev.bnd ?_
  refine Ev.ifp hin.1 ?_
  refine Ev.bind (Deep_ev _ (ho.each _ (List.getElem_mem hi))) ?_
  refine Ev.bind (Deep_ev m ho) ?_
  refine Ev.ifn (by omega) ?_
  rw [w1b hi hl5]
  exact ih (i + 1) (by omega) (by omega)
theorem MatroidBounds_ev (m : Mtr) (ho : OkS m) : Ev (fun k => greenwoodlaw09_MatroidBounds.f k m.f0 m.f1 m.f2 m.f3 m.f4 m.f5) true := by
 obtain ⟨a0, a1, a2, a3, l4, l5⟩ := m
 unfold greenwoodlaw09_MatroidBounds.f
 refine Ev.bnd ?_
 refine Ev.ifp rfl ?_
 obtain ⟨b, hb⟩ := small_ev _ ho
 refine Ev.bind hb ?_
 cases b with
 | false =>
  refine Ev.step (fun k => by rw [greenwoodlaw09_MatroidBounds.j0]) ?_
  refine Ev.ifp rfl ?_
  exact Ev.bnd (Ev.val rfl)
 | true =>
  refine Ev.step (fun k => by rw [greenwoodlaw09_MatroidBounds.j0]) ?_
  refine Ev.ifn (by decide) ?_
  refine Ev.bnd ?_
  refine Ev.bnd ?_
  refine Ev.bnd ?_
  by_cases h : chkN ⟨a0, a1, a2, a3, l4, l5⟩ = 0
  ·refine Ev.ifp h ?_
   exact bounds_l0 ⟨a0, a1, a2, a3, l4, l5⟩ ho h l5.length 0 rfl (Nat.zero_le _)
  ·refine Ev.ifn h (Ev.val ?_)
   have := dual_no _ h
   show (chkN (dualM ⟨a0, a1, a2, a3, l4, l5⟩) != 0) = true
   simp [this]
end Go.Proofs.YtgbmlkmkfigolaaDoor.P
/- What came in, opened kind by kind: an argument's reading tells a list (of lists ..) that its cells hold. -/
namespace Go.Proofs.YtgbmlkmkfigolaaDoor.P
open Go.RowKit Go.Proofs.YtgbmlkmkfigolaaDoorW.PrintWords Go.Proofs.YtgbmlkmkfigolaaDoorW.PrintLast Go.Proofs.YtgbmlkmkfigolaaDoorW.PrintMore
set_option linter.unusedVariables false
set_option linter.unusedSimpArgs false

structure Opens (P : Program) (t : TypeId) {α : Type} (d : Kd α) (q : α → Prop) : Prop where
 sz : P.cellsOf t = d.sz
 op : ∀ {H : Type} {enc : TypeId × Value → H} {w : World} {base fuel : Nat} {held : Bool} {cs : List Value} {x : DataW H × List MemPlace}, DataW.trod enc P w base (fun _ => true) held fuel t cs = some x → ∃ a : α, d.K w a cs ∧ q a
section
variable {P : Program} {α : Type} {d : Kd α} {q : α → Prop}
theorem opens_int {t : TypeId} {k : IntKind} (ht : P.underlying t = some (.int k)) (hs : P.cellsOf t = 1) : Opens P t (Kd.int k) (fun n => (Lit.int k n).wf = true) :=
 ⟨hs, fun h => by
  obtain ⟨n, rfl, _, hw⟩ := DataW.trod_int ht h
  exact ⟨n, rfl, hw⟩⟩
theorem Opens.mono {t : TypeId} {q' : α → Prop} (h : Opens P t d q) (hq : ∀ a, q a → q' a) : Opens P t d q' :=
 ⟨h.sz, fun ht => by obtain ⟨a, hk, ha⟩ := h.op ht; exact ⟨a, hk, hq a ha⟩⟩
theorem opens_slice {t e : TypeId} (e' : Nat) (ht : P.underlying t = some (.slice e)) (hs : P.cellsOf t = 1) (h : Opens P e d q) : Opens P t (Kd.slice e' d) (fun l => l.length ≤ maxLen ∧ ∀ x ∈ l, q x) :=
 ⟨hs, fun {H enc w base fuel held cs x} htr => by
  rcases Deep.open_slice ht htr with ⟨rfl, _⟩ | ⟨a, len, cap, m, n, D, Pl, rfl, hb, hl, hm, hmm, _, hx⟩
  ·exact ⟨[], ⟨none, 0, rfl, Nat.le_refl _, Kd.C_nil d w⟩, Nat.zero_le _, fun x hx => by cases hx⟩
  ·simp only [if_true] at hmm
   have each : ∀ i, i < len → ∃ y : α, (∃ cs', w.cells? base (a.add (i * P.cellsOf e)) (P.cellsOf e) = some cs' ∧ d.K w y cs') ∧ q y := by
    intro i hi
    obtain ⟨cs', h1, h2⟩ := hx i (by omega)
    obtain ⟨y, hy, hqy⟩ := h.op h2
    exact ⟨y, ⟨cs', h1, hy⟩, hqy⟩
   by_cases h0 : len = 0
   ·subst h0
    refine ⟨[], ⟨some a, cap, rfl, Nat.zero_le _, rfl, by simp, fun h => absurd h (Nat.lt_irrefl 0)⟩, Nat.zero_le _, fun x hx => by cases hx⟩
   ·obtain ⟨y0, _, _⟩ := each 0 (by omega)
    have : Inhabited α := ⟨y0⟩
    obtain ⟨f, hf⟩ := Deep.choose_lt each
    have hlen : ((List.range len).map f).length = len := by simp
    refine ⟨(List.range len).map f, ⟨some a, cap, by rw [hlen], by rw [hlen]; exact hl, ⟨rfl, by rw [hlen]; unfold maxLen at hm; omega, fun _ => ⟨a, rfl, fun j p hj => ?_⟩⟩⟩, by rw [hlen]; omega, fun x hx => ?_⟩
    ·have hjl := (List.getElem?_eq_some_iff.1 hj).1
     rw [hlen] at hjl
     rw [List.getElem?_map, List.getElem?_range hjl] at hj
     have hj' : f j = p := by simpa using hj
     subst hj'
     obtain ⟨⟨cs', h1, h2⟩, _⟩ := hf j hjl
     obtain ⟨_, hcl, hcell⟩ := World.cells?_some h1
     refine ⟨cs', by rw [hcl, h.sz], h2, fun i u hu => ?_⟩
     have hil := (List.getElem?_eq_some_iff.1 hu).1
     have := hcell i (by omega)
     rw [Deep.add_add, hu, h.sz] at this
     exact this
    ·obtain ⟨i, hi, rfl⟩ := List.mem_map.1 hx
     exact (hf i (List.mem_range.1 hi)).2⟩
end
/-- what came in is only read: it may be shared -/
theorem V_of_C {α : Type} {d : Kd α} (hd : Kd.Heap d) {e base c : Nat} {w : World} {A : Option Addr} {xs : List α} (h : d.C w A xs.length xs) (hc : xs.length ≤ c) : Kd.V d e w base (fun _ => True) (.slice A xs.length c) xs :=
 Kd.V_mk hc (fun W' hW => hd.C (fun k hk => hW k trivial hk) h)
end Go.Proofs.YtgbmlkmkfigolaaDoor.P
/- What a tied row's premise gives a walk: the one variable of the library's, laid; a world that meets it. (Turned from a worked proof of the kit.) -/
namespace Go.Proofs.YtgbmlkmkfigolaaDoor.P
open Go.ChangeShapes Go.WideShapes Go.RowKit
set_option linter.unusedVariables false
set_option linter.unusedSimpArgs false

theorem td_et : Tryd.prog.globalNamed "errors.errorType" = some 0 := by kernel_rfl
theorem td_rt : (Tryd.prog.cutTypes.find? (·.1 == "internal/reflectlite.rtype")).map (·.2) = some 76 := by kernel_rfl
theorem td_oneRow : ((List.range 129).filter fun t => Tryd.prog.rowNamed t [101, 114, 114, 111, 114]) = [45] := by kernel_rfl
theorem td_size : Tryd.prog.types.size = 129 := by kernel_rfl
def laidE {H : Type} : List (String × DataW H) := [("errors.errorType", Rows.laid_errors_errorType)]
theorem ev_of_laid {W : World} (h : laidMetH Tryd.prog laidE W) : EV W := by
 have h' : laidMet Tryd.prog [] W ∧ handlesMet Tryd.prog laidE W := h
 obtain ⟨name, u, ty, e1, e2, e3, e4, e5⟩ := h'.2 _ (List.mem_singleton.2 rfl)
 have en : name = [101, 114, 114, 111, 114] := (Option.some.inj e1).symm
 subst en
 obtain rfl := Option.some.inj (td_rt.symm.trans e2)
 have hm : ty ∈ (List.range 129).filter fun t => Tryd.prog.rowNamed t [101, 114, 114, 111, 114] := List.mem_filter.2 ⟨List.mem_range.2 (by rw [← td_size]; exact e3), e4⟩
 rw [td_oneRow] at hm
 obtain rfl := List.mem_singleton.1 hm
 have hh : typeHandle Tryd.prog 45 = .pointer (some ⟨1, 45, none⟩) := by kernel_rfl
 rw [hh] at e5
 have := World.var?_cell td_et e5 0
 unfold EV
 simpa using this
noncomputable def laidWorld (os : Os) : World :=
 let w0 := World.holding Tryd.prog os ⟨#[], #[], []⟩
 { w0 with heap := w0.heap.modify 0 fun
  | .cells _ t frozen => .cells #[.iface 76 (.agg #[.pointer (some ⟨1, 45, none⟩)])] t frozen
  | o => o }
theorem laidWorld_met (os : Os) (args : Array Value) : laidMetH Tryd.prog laidE ((laidWorld os).forCall (fun _ _ => 0) ⟨#[], args, []⟩).memory :=
 laidMetH_of_parts (laidMet_nil _ _) (by kernel_rfl)
end Go.Proofs.YtgbmlkmkfigolaaDoor.P
/- What came in, opened: a matroid, and what lies within it. -/
namespace Go.Proofs.YtgbmlkmkfigolaaDoor.P
open Go.RowKit Go.WideShapes Go.Proofs.YtgbmlkmkfigolaaDoorW.PrintWords Go.Proofs.YtgbmlkmkfigolaaDoorW.PrintLast Go.Proofs.YtgbmlkmkfigolaaDoorW.PrintMore
set_option linter.unusedVariables false
set_option linter.unusedSimpArgs false

section
variable {P : Program} {α : Type} {d : Kd α} {q : α → Prop}
/-- a slice opened, its elements known to open with so much fuel -/
theorem slice_at {t e : TypeId} {H : Type} {enc : TypeId × Value → H} {w : World} {base n : Nat} {held : Bool} {cs : List Value} {x : DataW H × List MemPlace} (ht : P.underlying t = some (.slice e)) (hsz : P.cellsOf e = d.sz)
 (op : ∀ m, m < n → ∀ cs' x', DataW.trod enc P w base (fun _ => true) held m e cs' = some x' → ∃ y : α, d.K w y cs' ∧ q y) (h : DataW.trod enc P w base (fun _ => true) held n t cs = some x) :
 ∃ (l : List α) (A : Option Addr) (c : Nat), cs = [.slice A l.length c] ∧ l.length ≤ c ∧ d.C w A l.length l ∧ l.length ≤ maxLen ∧ ∀ x ∈ l, q x := by
 rcases DataW.trod_slice ht h with ⟨rfl, _⟩ | ⟨a, len, cap, elems, rest, m, hn, rfl, _, hb, hl, hm, hlen, hel, _, _⟩
 ·exact ⟨[], none, 0, rfl, Nat.le_refl _, Kd.C_nil d w, Nat.zero_le _, fun x hx => by cases hx⟩
 ·have each : ∀ i, i < len → ∃ y : α, (∃ cs', w.cells? base (a.add (i * P.cellsOf e)) (P.cellsOf e) = some cs' ∧ d.K w y cs') ∧ q y := by
   intro i hi
   have h1 := hel i hi
   rw [List.getElem?_eq_getElem (by omega)] at h1
   obtain ⟨cs', h2, h3⟩ := Option.bind_eq_some_iff.mp h1
   obtain ⟨y, hy, hqy⟩ := op m (by omega) cs' _ h3
   exact ⟨y, ⟨cs', h2, hy⟩, hqy⟩
  by_cases h0 : len = 0
  ·subst h0
   exact ⟨[], some a, cap, rfl, Nat.zero_le _, ⟨rfl, by simp, fun h => absurd h (Nat.lt_irrefl 0)⟩, Nat.zero_le _, fun x hx => by cases hx⟩
  ·obtain ⟨y0, _, _⟩ := each 0 (by omega)
   have : Inhabited α := ⟨y0⟩
   obtain ⟨f, hf⟩ := Deep.choose_lt each
   have hlen' : ((List.range len).map f).length = len := by simp
   refine ⟨(List.range len).map f, some a, cap, by rw [hlen'], by rw [hlen']; exact hl, ⟨rfl, by rw [hlen']; unfold maxLen at hm; omega, fun _ => ⟨a, rfl, fun j p hj => ?_⟩⟩, by rw [hlen']; omega, fun x hx => ?_⟩
   ·have hjl := (List.getElem?_eq_some_iff.1 hj).1
    rw [hlen'] at hjl
    rw [List.getElem?_map, List.getElem?_range hjl] at hj
    have hj' : f j = p := by simpa using hj
    subst hj'
    obtain ⟨⟨cs', h1, h2⟩, _⟩ := hf j hjl
    obtain ⟨_, hcl, hcell⟩ := World.cells?_some h1
    refine ⟨cs', by rw [hcl, hsz], h2, fun i u hu => ?_⟩
    have hil := (List.getElem?_eq_some_iff.1 hu).1
    have := hcell i (by omega)
    rw [Deep.add_add, hu, hsz] at this
    exact this
   ·obtain ⟨i, hi, rfl⟩ := List.mem_map.1 hx
    exact (hf i (List.mem_range.1 hi)).2
end
theorem cells_mat : Tryd.prog.cellsOf 25 = 6 := by kernel_rfl
theorem opens_rows : Opens Tryd.prog 22 (Kd.slice 26 (Kd.slice 3 (Kd.int .i64))) (fun _ => True) :=
 (opens_slice 26 Tryd.underlying22 (by kernel_rfl) (opens_slice 3 Tryd.underlying26 (by kernel_rfl) (opens_int Tryd.underlying3 (by kernel_rfl)))).mono (fun _ _ => trivial)
set_option maxRecDepth 100000 in
theorem trod_mat {H : Type} {enc : TypeId × Value → H} {w : World} {base : Nat} {held : Bool} : ∀ (fuel : Nat) (cs : List Value) (x : DataW H × List MemPlace), DataW.trod enc Tryd.prog w base (fun _ => true) held fuel 25 cs = some x →
 ∃ (a0 a1 a2 a3 : Int) (A4 : Option Addr) (c4 : Nat) (l4 : List (List Int)) (A5 : Option Addr) (c5 : Nat) (l5 : List Mtr), cs = [.int .i64 a0, .int .i64 a1, .int .i64 a2, .int .i64 a3, .slice A4 l4.length c4, .slice A5 l5.length c5] ∧ (∀ a ∈ [a0, a1, a2, a3], (Lit.int .i64 a).wf = true) ∧ Kd.C (Kd.slice 3 (Kd.int .i64)) w A4 l4.length l4 ∧ l4.length ≤ c4 ∧ Kd.C k25 w A5 l5.length l5 ∧ l5.length ≤ c5 := by
 intro fuel
 induction fuel using Nat.strongRecOn with
 | _ fuel ih =>
  intro cs x h
  obtain ⟨xs, n, rfl, _, hl, hlen, hf⟩ := DataW.trod_struct Tryd.underlying25 h
  rw [cells_mat] at hl
  match cs, hl with
  | [v0, v1, v2, v3, v4, v5], _ =>
   match xs, hlen with
   | [y0, y1, y2, y3, y4, y5], _ =>
    have g0 : DataW.trod enc Tryd.prog w base (fun _ => true) held n 3 [v0] = some y0 := hf 0 _ rfl
    have g1 : DataW.trod enc Tryd.prog w base (fun _ => true) held n 3 [v1] = some y1 := hf 1 _ rfl
    have g2 : DataW.trod enc Tryd.prog w base (fun _ => true) held n 3 [v2] = some y2 := hf 2 _ rfl
    have g3 : DataW.trod enc Tryd.prog w base (fun _ => true) held n 3 [v3] = some y3 := hf 3 _ rfl
    have g4 : DataW.trod enc Tryd.prog w base (fun _ => true) held n 22 [v4] = some y4 := hf 4 _ rfl
    have g5 : DataW.trod enc Tryd.prog w base (fun _ => true) held n 23 [v5] = some y5 := hf 5 _ rfl
    obtain ⟨a0, e0, _, w0⟩ := DataW.trod_int Tryd.underlying3 g0
    obtain ⟨a1, e1, _, w1⟩ := DataW.trod_int Tryd.underlying3 g1
    obtain ⟨a2, e2, _, w2⟩ := DataW.trod_int Tryd.underlying3 g2
    obtain ⟨a3, e3, _, w3⟩ := DataW.trod_int Tryd.underlying3 g3
    obtain ⟨l4, ⟨A4, c4, e4, hc4, hr4⟩, _⟩ := opens_rows.op g4
    obtain ⟨l5, A5, c5, e5, hc5, hr5, _, _⟩ := slice_at (d := k25) (q := fun _ => True) Tryd.underlying23 (by rw [cells_mat]; rfl) (fun m hm cs' x' ht => by
     obtain ⟨b0, b1, b2, b3, B4, d4, k4, B5, d5, k5, rfl, _, q4, p4, q5, p5⟩ := ih m (by omega) cs' x' ht
     exact ⟨⟨b0, b1, b2, b3, k4, k5⟩, k25_mk w ⟨b0, b1, b2, b3, k4, k5⟩ p4 q4 p5 q5, trivial⟩) g5
    have e0 := List.head_eq_of_cons_eq e0
    have e1 := List.head_eq_of_cons_eq e1
    have e2 := List.head_eq_of_cons_eq e2
    have e3 := List.head_eq_of_cons_eq e3
    have e4 := List.head_eq_of_cons_eq e4
    have e5 := List.head_eq_of_cons_eq e5
    subst e0 e1 e2 e3 e4 e5
    refine ⟨a0, a1, a2, a3, A4, c4, l4, A5, c5, l5, rfl, fun a ha => ?_, hr4, hc4, hr5, hc5⟩
    simp only [List.mem_cons, List.not_mem_nil, or_false] at ha
    rcases ha with rfl | rfl | rfl | rfl <;> assumption
set_option maxRecDepth 100000 in
theorem mat_arg {r : Reach} {H : Type} {enc : TypeId × Value → H} {w W0 : World} {base b0 : Nat} {held : Bool} {v : Value} {dd : DataW H} {ps : List MemPlace} (hv : Value.okWide Tryd.prog W0 r b0 25 v)
 (ht : DataW.Trod enc Tryd.prog w base (fun _ => true) held 25 v dd ps) :
 ∃ (a0 a1 a2 a3 : Int) (A4 : Option Addr) (c4 : Nat) (l4 : List (List Int)) (A5 : Option Addr) (c5 : Nat) (l5 : List Mtr), v = .agg #[.int .i64 a0, .int .i64 a1, .int .i64 a2, .int .i64 a3, .slice A4 l4.length c4, .slice A5 l5.length c5] ∧ Kd.C (Kd.slice 3 (Kd.int .i64)) w A4 l4.length l4 ∧ l4.length ≤ c4 ∧ Kd.C k25 w A5 l5.length l5 ∧ l5.length ≤ c5 ∧ OkS ⟨a0, a1, a2, a3, l4, l5⟩ ∧ ∀ a ∈ [a0, a1, a2, a3], (Lit.int .i64 a).wf = true := by
 obtain ⟨cs, rfl, _⟩ := okWide_struct Tryd.underlying25 hv
 obtain ⟨fuel, hf⟩ := ht
 obtain ⟨a0, a1, a2, a3, A4, c4, l4, A5, c5, l5, e, hw, h4, p4, h5, p5⟩ := trod_mat fuel _ _ hf
 have e' : cs = #[.int .i64 a0, .int .i64 a1, .int .i64 a2, .int .i64 a3, .slice A4 l4.length c4, .slice A5 l5.length c5] := by
  apply Array.ext'
  exact e
 subst e'
 exact ⟨a0, a1, a2, a3, A4, c4, l4, A5, c5, l5, rfl, h4, p4, h5, p5, OkS_of (k25_mk w ⟨a0, a1, a2, a3, l4, l5⟩ p4 h4 p5 h5), hw⟩
end Go.Proofs.YtgbmlkmkfigolaaDoor.P
