/- Texts of this claim's own repository, merged by wip/tool/pack.py: Px9A, MatRef, MatRg, MatRh, Px9, MatTb, Px10A, MatRim, EvA, Px11. -/
import Derived.Test.YtgbmlkmkfigolaaDoorKMatroidTells4
set_option linter.unusedVariables false
set_option linter.unusedSimpArgs false
namespace Go.Proofs.YtgbmlkmkfigolaaDoor.P
open Go.RowKit Go.Proofs.YtgbmlkmkfigolaaDoorW.PrintWords Go.Proofs.YtgbmlkmkfigolaaDoorW.PrintLast Go.Proofs.YtgbmlkmkfigolaaDoorW.PrintMore
attribute [local go_sem] max2_int min2_int max_two min_two max_three min_three max_four min_four   -- for this text's walks alone
set_option linter.unusedVariables false
set_option linter.unusedSimpArgs false

/-! ### greenwoodref09_plain: function 46 -/
mutual
def greenwoodref09_plain.j0 : Nat → Bool → Int → Int → Int → Int → List (List Int) → List (S25) → Option (Bool)
 | 0, _, _, _, _, _, _, _ => none
 | k + 1, x17, x217000, x217001, x217002, x217003, x217004, x217005 => if x17 = true then (some false) else (if x217000 = 0 then (if x217002 ≤ x217001 then (some ((x217004.length : Int) == 0)) else (some false)) else (if x217000 = 1 then (greenwoodref09_plain.l0 k 0 x217000 x217001 x217002 x217003 x217004 x217005) else (if x217000 = 2 then (if (x217004.length : Int) = 2 then (if 0 < (x217004.length : Int) then ((greenwoodref09_numbers.f k (rd_L1 x217004 0) x217001 (wrap64 (x217002 - 1))).bind fun t220 => (if t220 = true then (if 1 < (x217004.length : Int) then ((greenwoodref09_numbers.f k (rd_L1 x217004 1) x217002 64).bind fun t222 => (some t222)) else (none)) else (some false))) else (none)) else (some false)) else (if x217000 = 3 then (if (x217004.length : Int) = x217001 then ((greenwoodref06_May.f x217002 x217004).bind fun t223 => (some t223)) else (some false)) else (if x217000 = 4 then (if (x217004.length : Int) = x217001 then ((greenwoodref05_May.f k x217003 x217002 x217004).bind fun t224 => (some t224)) else (some false)) else (some false))))))
def greenwoodref09_plain.l0 : Nat → Int → Int → Int → Int → Int → List (List Int) → List (S25) → Option (Bool)
 | 0, _, _, _, _, _, _, _ => none
 | k + 1, x3, x217000, x217001, x217002, x217003, x217004, x217005 => if x3 < (x217004.length : Int) then (if 0 ≤ x3 then ((greenwoodref09_numbers.f k (rd_L1 x217004 x3) 2 (wrap64 (x217002 - 1))).bind fun t218 => (if t218 = true then (greenwoodref09_plain.l0 k (wrap64 (x3 + 1)) x217000 x217001 x217002 x217003 x217004 x217005) else (some false))) else (none)) else (if x217002 ≥ 1 then (some ((x217004.length : Int) == x217001)) else (some false))
end
def greenwoodref09_plain.f (k : Nat) (a0_0 : Int) (a0_1 : Int) (a0_2 : Int) (a0_3 : Int) (l0_4 : List (List Int)) (l0_5 : List (S25)) : Option (Bool) := if (l0_5.length : Int) > 0 then (greenwoodref09_plain.j0 k true a0_0 a0_1 a0_2 a0_3 l0_4 l0_5) else (if a0_0 = 4 then (greenwoodref09_plain.j0 k false a0_0 a0_1 a0_2 a0_3 l0_4 l0_5) else (greenwoodref09_plain.j0 k (a0_3 != 0) a0_0 a0_1 a0_2 a0_3 l0_4 l0_5))
set_option maxHeartbeats 8000000 in
set_option maxRecDepth 100000 in
theorem greenwoodref09_plain.calls (k : Nat) (a0_0 : Int) (a0_1 : Int) (a0_2 : Int) (a0_3 : Int) (A0_4 : Option Addr) (c0_4 : Nat) (l0_4 : List (List Int)) (A0_5 : Option Addr) (c0_5 : Nat) (l0_5 : List (S25)) (r : Bool) (w : World) (hr0_4 : Kd.C (Kd.slice 3 (Kd.int .i64)) w A0_4 l0_4.length l0_4) (hc0_4 : l0_4.length ≤ c0_4) (hr0_5 : Kd.C k25 w A0_5 l0_5.length l0_5) (hc0_5 : l0_5.length ≤ c0_5) (h : greenwoodref09_plain.f k a0_0 a0_1 a0_2 a0_3 l0_4 l0_5 = some r) :
 Calls Tryd.prog 46 #[.agg #[.int .i64 a0_0, .int .i64 a0_1, .int .i64 a0_2, .int .i64 a0_3, .slice A0_4 l0_4.length c0_4, .slice A0_5 l0_5.length c0_5]] w fun e w' => e = .returned (.bool r) ∧ Below w.heap.size w w' := by
 have hu25 := Tryd.underlying25
 have HR0_4 := Aside0.mk hr0_4
 have HC0_4 := Aside0.mk hc0_4
 clear hr0_4 hc0_4
 have HR0_5 := Aside0.mk hr0_5
 have HC0_5 := Aside0.mk hc0_5
 clear hr0_5 hc0_5
 have HB := Aside0.mk (Below.refl w.heap.size w)
 have H : (if (l0_5.length : Int) > 0 then (greenwoodref09_plain.j0 k true a0_0 a0_1 a0_2 a0_3 l0_4 l0_5) else (if a0_0 = 4 then (greenwoodref09_plain.j0 k false a0_0 a0_1 a0_2 a0_3 l0_4 l0_5) else (greenwoodref09_plain.j0 k (a0_3 != 0) a0_0 a0_1 a0_2 a0_3 l0_4 l0_5))) = some r := h
 clear h
 have HC2 := Aside0.mk H
 clear H
 go_enter Tryd.func46, Tryd.ntmps46
 go_upto_region 1 with (first | ((with_reducible refine gate_dst (N := 1) rfl ?_); (try (refine gate_guard (by rfl) ?_; dsimp only)); refine box_event ?hg (N := 1) ?hd (cs := #[.int .i64 a0_0, .int .i64 a0_1, .int .i64 a0_2, .int .i64 a0_3, .slice A0_4 l0_4.length c0_4, .slice A0_5 l0_5.length c0_5]) (t := 25) ?hr ?_; (case hd => rfl); (case hg => rfl); (case hr => first | (go_simp; done) | (go_simp; rfl)); intro gb216 hg w3 hbox hb; have n0_ := Aside0.mk (below_step (by repeat (first | (with_reducible first | exact HB.out | apply below_alloc | apply pw_below_drewN | apply below_drew1) | exact HB.out)) hb); have n1_ := Aside0.mk (hbox); have n2_ := Aside0.mk ((by rw [hg]; exact (below_size (by repeat (first | (with_reducible first | exact HB.out | apply below_alloc | apply pw_below_drewN | apply below_drew1) | exact HB.out))) : w.heap.size ≤ gb216)); have n3_ := Aside0.mk ((by rw [hg]; exact (below_size (by repeat (first | (with_reducible first | exact HB.out | apply below_alloc | apply pw_below_drewN | apply below_drew1) | exact HB.out))) : w.heap.size ≤ gb216)); clear HB; have HB := n0_; have BK216 := n1_; have GW216 := n2_; have GE216 := n3_; clear n0_ n1_ n2_ n3_; clear hb hbox hg))
 repeat (go_quiet (first | ((with_reducible refine gate_dst (N := 1) rfl ?_); (try (refine gate_guard (by rfl) ?_; dsimp only)); refine box_event ?hg (N := 1) ?hd (cs := #[.int .i64 a0_0, .int .i64 a0_1, .int .i64 a0_2, .int .i64 a0_3, .slice A0_4 l0_4.length c0_4, .slice A0_5 l0_5.length c0_5]) (t := 25) ?hr ?_; (case hd => rfl); (case hg => rfl); (case hr => first | (go_simp; done) | (go_simp; rfl)); intro gb216 hg w3 hbox hb; have n0_ := Aside0.mk (below_step (by repeat (first | (with_reducible first | exact HB.out | apply below_alloc | apply pw_below_drewN | apply below_drew1) | exact HB.out)) hb); have n1_ := Aside0.mk (hbox); have n2_ := Aside0.mk ((by rw [hg]; exact (below_size (by repeat (first | (with_reducible first | exact HB.out | apply below_alloc | apply pw_below_drewN | apply below_drew1) | exact HB.out))) : w.heap.size ≤ gb216)); have n3_ := Aside0.mk ((by rw [hg]; exact (below_size (by repeat (first | (with_reducible first | exact HB.out | apply below_alloc | apply pw_below_drewN | apply below_drew1) | exact HB.out))) : w.heap.size ≤ gb216)); clear HB; have HB := n0_; have BK216 := n1_; have GW216 := n2_; have GE216 := n3_; clear n0_ n1_ n2_ n3_; clear hb hbox hg)); go_upto_region 1 with (first | ((with_reducible refine gate_dst (N := 1) rfl ?_); (try (refine gate_guard (by rfl) ?_; dsimp only)); refine box_event ?hg (N := 1) ?hd (cs := #[.int .i64 a0_0, .int .i64 a0_1, .int .i64 a0_2, .int .i64 a0_3, .slice A0_4 l0_4.length c0_4, .slice A0_5 l0_5.length c0_5]) (t := 25) ?hr ?_; (case hd => rfl); (case hg => rfl); (case hr => first | (go_simp; done) | (go_simp; rfl)); intro gb216 hg w3 hbox hb; have n0_ := Aside0.mk (below_step (by repeat (first | (with_reducible first | exact HB.out | apply below_alloc | apply pw_below_drewN | apply below_drew1) | exact HB.out)) hb); have n1_ := Aside0.mk (hbox); have n2_ := Aside0.mk ((by rw [hg]; exact (below_size (by repeat (first | (with_reducible first | exact HB.out | apply below_alloc | apply pw_below_drewN | apply below_drew1) | exact HB.out))) : w.heap.size ≤ gb216)); have n3_ := Aside0.mk ((by rw [hg]; exact (below_size (by repeat (first | (with_reducible first | exact HB.out | apply below_alloc | apply pw_below_drewN | apply below_drew1) | exact HB.out))) : w.heap.size ≤ gb216)); clear HB; have HB := n0_; have BK216 := n1_; have GW216 := n2_; have GE216 := n3_; clear n0_ n1_ n2_ n3_; clear hb hbox hg)))
 (try simp only [Act.put, List.setIfInBounds_toArray, List.set_cons_zero, List.set_cons_succ])
 go_cut [17] (fun v17 wc => ∃ (kq : Nat) (x17_1 : Bool), v17 = .bool x17_1 ∧ Aside0 (greenwoodref09_plain.j0 kq x17_1 a0_0 a0_1 a0_2 a0_3 l0_4 l0_5 = some r) ∧ Aside0 (kq ≤ k) ∧ Aside0 (wc.heap[gb216]? = some (.cells #[.int .i64 a0_0, .int .i64 a0_1, .int .i64 a0_2, .int .i64 a0_3, (.slice A0_4 l0_4.length c0_4), (.slice A0_5 l0_5.length c0_5)] 25 (0, 0))) ∧ Aside0 (Below w.heap.size w wc))
 case first =>
  have H := HC2.out
  clear HC2
  by_cases c4 : (l0_5.length : Int) > 0
  ·rw [if_pos c4] at H
   have c4b0 : decide (0 < (l0_5.length : Int)) = true := decide_eq_true c4
   have c4b1 : decide (0 < l0_5.length) = true := decide_eq_true (by omega)
   clear c4
   (first | rw [c4b0] | (simp only [i64_w, i32_w]; rw [c4b0]) | skip)
   have H' := Aside0.mk H
   clear H
   have hcz5_0 : w3.cell? ⟨gb216, 0, none⟩ = some (.int .i64 a0_0) := (blk_cell BK216.out 0).trans rfl
   have hcz5_1 : w3.cell? ⟨gb216, 1, none⟩ = some (.int .i64 a0_1) := (blk_cell BK216.out 1).trans rfl
   have hcz5_2 : w3.cell? ⟨gb216, 2, none⟩ = some (.int .i64 a0_2) := (blk_cell BK216.out 2).trans rfl
   have hcz5_3 : w3.cell? ⟨gb216, 3, none⟩ = some (.int .i64 a0_3) := (blk_cell BK216.out 3).trans rfl
   have hcz5_4 : w3.cell? ⟨gb216, 4, none⟩ = some (.slice A0_4 l0_4.length c0_4) := (blk_cell BK216.out 4).trans rfl
   have hcz5_5 : w3.cell? ⟨gb216, 5, none⟩ = some (.slice A0_5 l0_5.length c0_5) := (blk_cell BK216.out 5).trans rfl
   have hfz5_0 := blk_frozen BK216.out 0
   have hfz5_1 := blk_frozen BK216.out 1
   have hfz5_2 := blk_frozen BK216.out 2
   have hfz5_3 := blk_frozen BK216.out 3
   have hfz5_4 := blk_frozen BK216.out 4
   have hfz5_5 := blk_frozen BK216.out 5
   go_wp2
   repeat (go_quiet (fail); try go_wp2)
   go_meet
   case rel => exact ⟨_, (true), (by first | rfl | (simp; done) | (simp [*]; done)), H', ⟨by first | omega | exact Nat.le_refl _⟩, ⟨by (with_reducible repeat (first | refine blk_drewN ?_ _ | refine blk_drew ?_ | refine blk_alloc ?_ _)); exact BK216.out⟩, ⟨by repeat (first | (with_reducible first | exact HB.out | apply below_alloc | apply pw_below_drewN | apply below_drew1 | refine below_set ?_ GE216.out) | exact HB.out)⟩⟩
  ·rw [if_neg c4] at H
   have c4b0 : decide (0 < (l0_5.length : Int)) = false := decide_eq_false c4
   have c4b1 : decide (0 < l0_5.length) = false := decide_eq_false (by omega)
   clear c4
   (first | rw [c4b0] | (simp only [i64_w, i32_w]; rw [c4b0]) | skip)
   by_cases c6 : a0_0 = 4
   ·rw [if_pos c6] at H
    have c6b0 : (a0_0 == 4) = true := beq_iff_eq.mpr c6
    have c6b1 : (a0_0 != 4) = false := bne_eq_false_iff_eq.mpr c6
    clear c6
    have H' := Aside0.mk H
    clear H
    have hcz7_0 : w3.cell? ⟨gb216, 0, none⟩ = some (.int .i64 a0_0) := (blk_cell BK216.out 0).trans rfl
    have hcz7_1 : w3.cell? ⟨gb216, 1, none⟩ = some (.int .i64 a0_1) := (blk_cell BK216.out 1).trans rfl
    have hcz7_2 : w3.cell? ⟨gb216, 2, none⟩ = some (.int .i64 a0_2) := (blk_cell BK216.out 2).trans rfl
    have hcz7_3 : w3.cell? ⟨gb216, 3, none⟩ = some (.int .i64 a0_3) := (blk_cell BK216.out 3).trans rfl
    have hcz7_4 : w3.cell? ⟨gb216, 4, none⟩ = some (.slice A0_4 l0_4.length c0_4) := (blk_cell BK216.out 4).trans rfl
    have hcz7_5 : w3.cell? ⟨gb216, 5, none⟩ = some (.slice A0_5 l0_5.length c0_5) := (blk_cell BK216.out 5).trans rfl
    have hfz7_0 := blk_frozen BK216.out 0
    have hfz7_1 := blk_frozen BK216.out 1
    have hfz7_2 := blk_frozen BK216.out 2
    have hfz7_3 := blk_frozen BK216.out 3
    have hfz7_4 := blk_frozen BK216.out 4
    have hfz7_5 := blk_frozen BK216.out 5
    go_wp2
    repeat (go_quiet (fail); try go_wp2)
    go_meet
    case rel => exact ⟨_, (false), (by first | rfl | (simp; done) | (simp [*]; done)), H', ⟨by first | omega | exact Nat.le_refl _⟩, ⟨by (with_reducible repeat (first | refine blk_drewN ?_ _ | refine blk_drew ?_ | refine blk_alloc ?_ _)); exact BK216.out⟩, ⟨by repeat (first | (with_reducible first | exact HB.out | apply below_alloc | apply pw_below_drewN | apply below_drew1 | refine below_set ?_ GE216.out) | exact HB.out)⟩⟩
   ·rw [if_neg c6] at H
    have c6b0 : (a0_0 == 4) = false := beq_eq_false_iff_ne.mpr c6
    have c6b1 : (a0_0 != 4) = true := bne_iff_ne.mpr c6
    have H' := Aside0.mk H
    clear H
    have hcz8_0 : w3.cell? ⟨gb216, 0, none⟩ = some (.int .i64 a0_0) := (blk_cell BK216.out 0).trans rfl
    have hcz8_1 : w3.cell? ⟨gb216, 1, none⟩ = some (.int .i64 a0_1) := (blk_cell BK216.out 1).trans rfl
    have hcz8_2 : w3.cell? ⟨gb216, 2, none⟩ = some (.int .i64 a0_2) := (blk_cell BK216.out 2).trans rfl
    have hcz8_3 : w3.cell? ⟨gb216, 3, none⟩ = some (.int .i64 a0_3) := (blk_cell BK216.out 3).trans rfl
    have hcz8_4 : w3.cell? ⟨gb216, 4, none⟩ = some (.slice A0_4 l0_4.length c0_4) := (blk_cell BK216.out 4).trans rfl
    have hcz8_5 : w3.cell? ⟨gb216, 5, none⟩ = some (.slice A0_5 l0_5.length c0_5) := (blk_cell BK216.out 5).trans rfl
    have hfz8_0 := blk_frozen BK216.out 0
    have hfz8_1 := blk_frozen BK216.out 1
    have hfz8_2 := blk_frozen BK216.out 2
    have hfz8_3 := blk_frozen BK216.out 3
    have hfz8_4 := blk_frozen BK216.out 4
    have hfz8_5 := blk_frozen BK216.out 5
    go_wp2
    repeat (go_quiet (fail); try go_wp2)
    go_meet
    case rel => exact ⟨_, ((a0_3 != 0)), (by first | rfl | (simp; done) | (simp [*]; done)), H', ⟨by first | omega | exact Nat.le_refl _⟩, ⟨by (with_reducible repeat (first | refine blk_drewN ?_ _ | refine blk_drew ?_ | refine blk_alloc ?_ _)); exact BK216.out⟩, ⟨by repeat (first | (with_reducible first | exact HB.out | apply below_alloc | apply pw_below_drewN | apply below_drew1 | refine below_set ?_ GE216.out) | exact HB.out)⟩⟩
 case rest =>
  clear HC2
  try clear p2
  try clear c4
  try clear c4b0
  try clear c4b1
  try clear c6
  try clear c6b0
  try clear c6b1
  try clear hcz5_0
  try clear hcz5_1
  try clear hcz5_2
  try clear hcz5_3
  try clear hcz5_4
  try clear hcz5_5
  try clear hcz7_0
  try clear hcz7_1
  try clear hcz7_2
  try clear hcz7_3
  try clear hcz7_4
  try clear hcz7_5
  try clear hcz8_0
  try clear hcz8_1
  try clear hcz8_2
  try clear hcz8_3
  try clear hcz8_4
  try clear hcz8_5
  try clear hfz5_0
  try clear hfz5_1
  try clear hfz5_2
  try clear hfz5_3
  try clear hfz5_4
  try clear hfz5_5
  try clear hfz7_0
  try clear hfz7_1
  try clear hfz7_2
  try clear hfz7_3
  try clear hfz7_4
  try clear hfz7_5
  try clear hfz8_0
  try clear hfz8_1
  try clear hfz8_2
  try clear hfz8_3
  try clear hfz8_4
  try clear hfz8_5
  obtain ⟨kq, x17_1, rfl, HA, HJ1, BK216, HB⟩ := hcut
  cases kq with
  | zero => exact absurd HA.out (by simp [greenwoodref09_plain.j0])
  | succ kj1 =>
   have H := HA.out
   clear HA
   simp only [greenwoodref09_plain.j0] at H
   by_cases c9 : x17_1 = true
   ·subst c9
    have H1 : (some false) = some r := by rw [if_pos rfl] at H; exact H
    clear H
    have H := H1
    clear H1
    obtain rfl := Option.some.inj H
    go_wp2
    repeat (go_quiet (fail); try go_wp2)
    go_ret
    exact ⟨by first | rfl | (simp [errW_none, errW_some] <;> rfl) | (simp [*, errW_none, errW_some] <;> rfl), by repeat (first | (with_reducible first | exact HB.out | apply below_alloc | apply pw_below_drewN | apply below_drew1 | refine below_set ?_ GE216.out) | exact HB.out)⟩
   ·replace c9 := Bool.eq_false_iff.mpr c9
    subst c9
    have H1 : (if a0_0 = 0 then (if a0_2 ≤ a0_1 then (some ((l0_4.length : Int) == 0)) else (some false)) else (if a0_0 = 1 then (greenwoodref09_plain.l0 kj1 0 a0_0 a0_1 a0_2 a0_3 l0_4 l0_5) else (if a0_0 = 2 then (if (l0_4.length : Int) = 2 then (if 0 < (l0_4.length : Int) then ((greenwoodref09_numbers.f kj1 (rd_L1 l0_4 0) a0_1 (wrap64 (a0_2 - 1))).bind fun t220 => (if t220 = true then (if 1 < (l0_4.length : Int) then ((greenwoodref09_numbers.f kj1 (rd_L1 l0_4 1) a0_2 64).bind fun t222 => (some t222)) else (none)) else (some false))) else (none)) else (some false)) else (if a0_0 = 3 then (if (l0_4.length : Int) = a0_1 then ((greenwoodref06_May.f a0_2 l0_4).bind fun t223 => (some t223)) else (some false)) else (if a0_0 = 4 then (if (l0_4.length : Int) = a0_1 then ((greenwoodref05_May.f kj1 a0_3 a0_2 l0_4).bind fun t224 => (some t224)) else (some false)) else (some false)))))) = some r := by rw [if_neg (show ¬ (false = true) by decide)] at H; exact H
    clear H
    have H := H1
    clear H1
    by_cases c10 : a0_0 = 0
    ·rw [if_pos c10] at H
     have c10b0 : (a0_0 == 0) = true := beq_iff_eq.mpr c10
     have c10b1 : (a0_0 != 0) = false := bne_eq_false_iff_eq.mpr c10
     clear c10
     by_cases c11 : a0_2 ≤ a0_1
     ·rw [if_pos c11] at H
      have c11b0 : decide (a0_2 ≤ a0_1) = true := decide_eq_true c11
      clear c11
      obtain rfl := Option.some.inj H
      have hcz12_0 : wc.cell? ⟨gb216, 0, none⟩ = some (.int .i64 a0_0) := (blk_cell BK216.out 0).trans rfl
      have hcz12_1 : wc.cell? ⟨gb216, 1, none⟩ = some (.int .i64 a0_1) := (blk_cell BK216.out 1).trans rfl
      have hcz12_2 : wc.cell? ⟨gb216, 2, none⟩ = some (.int .i64 a0_2) := (blk_cell BK216.out 2).trans rfl
      have hcz12_3 : wc.cell? ⟨gb216, 3, none⟩ = some (.int .i64 a0_3) := (blk_cell BK216.out 3).trans rfl
      have hcz12_4 : wc.cell? ⟨gb216, 4, none⟩ = some (.slice A0_4 l0_4.length c0_4) := (blk_cell BK216.out 4).trans rfl
      have hcz12_5 : wc.cell? ⟨gb216, 5, none⟩ = some (.slice A0_5 l0_5.length c0_5) := (blk_cell BK216.out 5).trans rfl
      have hfz12_0 := blk_frozen BK216.out 0
      have hfz12_1 := blk_frozen BK216.out 1
      have hfz12_2 := blk_frozen BK216.out 2
      have hfz12_3 := blk_frozen BK216.out 3
      have hfz12_4 := blk_frozen BK216.out 4
      have hfz12_5 := blk_frozen BK216.out 5
      go_wp2
      repeat (go_quiet (fail); try go_wp2)
      go_ret
      exact ⟨by first | rfl | (simp [errW_none, errW_some] <;> rfl) | (simp [*, errW_none, errW_some] <;> rfl), by repeat (first | (with_reducible first | exact HB.out | apply below_alloc | apply pw_below_drewN | apply below_drew1 | refine below_set ?_ GE216.out) | exact HB.out)⟩
     ·rw [if_neg c11] at H
      have c11b0 : decide (a0_2 ≤ a0_1) = false := decide_eq_false c11
      clear c11
      obtain rfl := Option.some.inj H
      have hcz13_0 : wc.cell? ⟨gb216, 0, none⟩ = some (.int .i64 a0_0) := (blk_cell BK216.out 0).trans rfl
      have hcz13_1 : wc.cell? ⟨gb216, 1, none⟩ = some (.int .i64 a0_1) := (blk_cell BK216.out 1).trans rfl
      have hcz13_2 : wc.cell? ⟨gb216, 2, none⟩ = some (.int .i64 a0_2) := (blk_cell BK216.out 2).trans rfl
      have hcz13_3 : wc.cell? ⟨gb216, 3, none⟩ = some (.int .i64 a0_3) := (blk_cell BK216.out 3).trans rfl
      have hcz13_4 : wc.cell? ⟨gb216, 4, none⟩ = some (.slice A0_4 l0_4.length c0_4) := (blk_cell BK216.out 4).trans rfl
      have hcz13_5 : wc.cell? ⟨gb216, 5, none⟩ = some (.slice A0_5 l0_5.length c0_5) := (blk_cell BK216.out 5).trans rfl
      have hfz13_0 := blk_frozen BK216.out 0
      have hfz13_1 := blk_frozen BK216.out 1
      have hfz13_2 := blk_frozen BK216.out 2
      have hfz13_3 := blk_frozen BK216.out 3
      have hfz13_4 := blk_frozen BK216.out 4
      have hfz13_5 := blk_frozen BK216.out 5
      go_wp2
      repeat (go_quiet (fail); try go_wp2)
      go_ret
      exact ⟨by first | rfl | (simp [errW_none, errW_some] <;> rfl) | (simp [*, errW_none, errW_some] <;> rfl), by repeat (first | (with_reducible first | exact HB.out | apply below_alloc | apply pw_below_drewN | apply below_drew1 | refine below_set ?_ GE216.out) | exact HB.out)⟩
    ·rw [if_neg c10] at H
     have c10b0 : (a0_0 == 0) = false := beq_eq_false_iff_ne.mpr c10
     have c10b1 : (a0_0 != 0) = true := bne_iff_ne.mpr c10
     by_cases c14 : a0_0 = 1
     ·rw [if_pos c14] at H
      have c14b0 : (a0_0 == 1) = true := beq_iff_eq.mpr c14
      have c14b1 : (a0_0 != 1) = false := bne_eq_false_iff_eq.mpr c14
      clear c14
      have H' := Aside0.mk H
      clear H
      have hcz15_0 : wc.cell? ⟨gb216, 0, none⟩ = some (.int .i64 a0_0) := (blk_cell BK216.out 0).trans rfl
      have hcz15_1 : wc.cell? ⟨gb216, 1, none⟩ = some (.int .i64 a0_1) := (blk_cell BK216.out 1).trans rfl
      have hcz15_2 : wc.cell? ⟨gb216, 2, none⟩ = some (.int .i64 a0_2) := (blk_cell BK216.out 2).trans rfl
      have hcz15_3 : wc.cell? ⟨gb216, 3, none⟩ = some (.int .i64 a0_3) := (blk_cell BK216.out 3).trans rfl
      have hcz15_4 : wc.cell? ⟨gb216, 4, none⟩ = some (.slice A0_4 l0_4.length c0_4) := (blk_cell BK216.out 4).trans rfl
      have hcz15_5 : wc.cell? ⟨gb216, 5, none⟩ = some (.slice A0_5 l0_5.length c0_5) := (blk_cell BK216.out 5).trans rfl
      have hfz15_0 := blk_frozen BK216.out 0
      have hfz15_1 := blk_frozen BK216.out 1
      have hfz15_2 := blk_frozen BK216.out 2
      have hfz15_3 := blk_frozen BK216.out 3
      have hfz15_4 := blk_frozen BK216.out 4
      have hfz15_5 := blk_frozen BK216.out 5
      go_wp2
      repeat (go_quiet (fail); try go_wp2)
      go_loopg [3] kj1 (fun kq v3 w' => ∃ (x3_2 : Int), v3 = .int .i64 x3_2 ∧ Aside0 (greenwoodref09_plain.l0 kq x3_2 a0_0 a0_1 a0_2 a0_3 l0_4 l0_5 = some r) ∧ Aside0 (kq ≤ kj1) ∧ Aside0 (w'.heap[gb216]? = some (.cells #[.int .i64 a0_0, .int .i64 a0_1, .int .i64 a0_2, .int .i64 a0_3, (.slice A0_4 l0_4.length c0_4), (.slice A0_5 l0_5.length c0_5)] 25 (0, 0))) ∧ Aside0 (Below w.heap.size w w'))
      case atStart => exact ⟨(0), (by first | rfl | (simp; done) | (simp [*]; done)), H', ⟨Nat.le_refl _⟩, ⟨by (with_reducible repeat (first | refine blk_drewN ?_ _ | refine blk_drew ?_ | refine blk_alloc ?_ _)); exact BK216.out⟩, ⟨by repeat (first | (with_reducible first | exact HB.out | apply below_alloc | apply pw_below_drewN | apply below_drew1 | refine below_set ?_ GE216.out) | exact HB.out)⟩⟩
      case round =>
       clear H'
       try clear c1
       try clear p2
       try clear c4
       try clear c4b0
       try clear c4b1
       try clear c6
       try clear c6b0
       try clear c6b1
       try clear p6
       try clear c9
       try clear c10
       try clear c10b0
       try clear c10b1
       try clear c11
       try clear c11b0
       try clear c14
       try clear c14b0
       try clear c14b1
       try clear hcz12_0
       try clear hcz12_1
       try clear hcz12_2
       try clear hcz12_3
       try clear hcz12_4
       try clear hcz12_5
       try clear hcz13_0
       try clear hcz13_1
       try clear hcz13_2
       try clear hcz13_3
       try clear hcz13_4
       try clear hcz13_5
       try clear hcz15_0
       try clear hcz15_1
       try clear hcz15_2
       try clear hcz15_3
       try clear hcz15_4
       try clear hcz15_5
       try clear hcz5_0
       try clear hcz5_1
       try clear hcz5_2
       try clear hcz5_3
       try clear hcz5_4
       try clear hcz5_5
       try clear hcz7_0
       try clear hcz7_1
       try clear hcz7_2
       try clear hcz7_3
       try clear hcz7_4
       try clear hcz7_5
       try clear hcz8_0
       try clear hcz8_1
       try clear hcz8_2
       try clear hcz8_3
       try clear hcz8_4
       try clear hcz8_5
       try clear hfz12_0
       try clear hfz12_1
       try clear hfz12_2
       try clear hfz12_3
       try clear hfz12_4
       try clear hfz12_5
       try clear hfz13_0
       try clear hfz13_1
       try clear hfz13_2
       try clear hfz13_3
       try clear hfz13_4
       try clear hfz13_5
       try clear hfz15_0
       try clear hfz15_1
       try clear hfz15_2
       try clear hfz15_3
       try clear hfz15_4
       try clear hfz15_5
       try clear hfz5_0
       try clear hfz5_1
       try clear hfz5_2
       try clear hfz5_3
       try clear hfz5_4
       try clear hfz5_5
       try clear hfz7_0
       try clear hfz7_1
       try clear hfz7_2
       try clear hfz7_3
       try clear hfz7_4
       try clear hfz7_5
       try clear hfz8_0
       try clear hfz8_1
       try clear hfz8_2
       try clear hfz8_3
       try clear hfz8_4
       try clear hfz8_5
       try clear p2
       obtain ⟨x3_2, rfl, HA, HK2, BK216, HB⟩ := hrel
       cases gk with
       | zero => exact absurd HA.out (by simp [greenwoodref09_plain.l0])
       | succ k2 =>
        have H := HA.out
        clear HA
        simp only [greenwoodref09_plain.l0] at H
        by_cases c16 : x3_2 < (l0_4.length : Int)
        ·rw [if_pos c16] at H
         have c16b0 : decide (x3_2 < (l0_4.length : Int)) = true := decide_eq_true c16
         clear c16
         by_cases c17 : 0 ≤ x3_2
         ·rw [if_pos c17] at H
          have c17b0 : decide (0 ≤ x3_2) = true := decide_eq_true c17
          clear c17
          replace H := Option.bind_eq_some_iff.mp H
          obtain ⟨t218, A180, H⟩ := H
          replace H : (if t218 = true then (greenwoodref09_plain.l0 k2 (wrap64 (x3_2 + 1)) a0_0 a0_1 a0_2 a0_3 l0_4 l0_5) else (some false)) = some r := H
          have A18 := Aside0.mk A180
          clear A180
          by_cases c19 : t218 = true
          ·subst c19
           have H1 : (greenwoodref09_plain.l0 k2 (wrap64 (x3_2 + 1)) a0_0 a0_1 a0_2 a0_3 l0_4 l0_5) = some r := by rw [if_pos rfl] at H; exact H
           clear H
           have H := H1
           clear H1
           have H' := Aside0.mk H
           clear H
           have hcz20_0 : wr.cell? ⟨gb216, 0, none⟩ = some (.int .i64 a0_0) := (blk_cell BK216.out 0).trans rfl
           have hcz20_1 : wr.cell? ⟨gb216, 1, none⟩ = some (.int .i64 a0_1) := (blk_cell BK216.out 1).trans rfl
           have hcz20_2 : wr.cell? ⟨gb216, 2, none⟩ = some (.int .i64 a0_2) := (blk_cell BK216.out 2).trans rfl
           have hcz20_3 : wr.cell? ⟨gb216, 3, none⟩ = some (.int .i64 a0_3) := (blk_cell BK216.out 3).trans rfl
           have hcz20_4 : wr.cell? ⟨gb216, 4, none⟩ = some (.slice A0_4 l0_4.length c0_4) := (blk_cell BK216.out 4).trans rfl
           have hcz20_5 : wr.cell? ⟨gb216, 5, none⟩ = some (.slice A0_5 l0_5.length c0_5) := (blk_cell BK216.out 5).trans rfl
           have hfz20_0 := blk_frozen BK216.out 0
           have hfz20_1 := blk_frozen BK216.out 1
           have hfz20_2 := blk_frozen BK216.out 2
           have hfz20_3 := blk_frozen BK216.out 3
           have hfz20_4 := blk_frozen BK216.out 4
           have hfz20_5 := blk_frozen BK216.out 5
           have p217 : 0 ≤ (x3_2 : Int) := of_decide_eq_true (by first | (with_reducible assumption) | assumption)
           have q217 : x3_2 < (l0_4.length : Int) := of_decide_eq_true (by first | (with_reducible assumption) | assumption)
           obtain ⟨ad217, A217_0, c217_0, e217, hx217_0, hl217_0, hi217_0⟩ := at_L1 HR0_4.out x3_2 p217 q217
           cases e217
           replace hx217_0 := (HB.out.cell (World.block_lt_of_cell? w _ hx217_0)).trans hx217_0
           have HR217_0 := Aside0.mk hi217_0
           have HC217_0 := Aside0.mk hl217_0
           clear hi217_0 hl217_0
           replace p217 := eq_true p217
           replace q217 := eq_true q217
           go_wp2_with (first | (go_at_call 56; (with_reducible refine (greenwoodref09_numbers.calls k2 _ _ (rd_L1 l0_4 x3_2) 2 (wrap64 (a0_2 - 1)) true _ ?side1 ?side2 A18.out).mono ?_); (case side1 => repeat (first | exact (Kd.C_below HR217_0.out HB.out) | (with_reducible refine Kd.C_alloc ?_ _) | (with_reducible refine Kd.C_drewN ?_ _) | (with_reducible refine Kd.C_drew ?_))); (case side2 => exact HC217_0.out); rintro e w' ⟨rfl, ⟨nd, rfl⟩⟩; (try first | exact ⟨rfl, _, World.drewN_drewN _ _ _⟩ | exact ⟨rfl, _, Eq.trans (World.drewN_drewN _ _ _) (congrArg (World.drewN _) (Nat.add_assoc _ _ _))⟩)))
           repeat (go_quiet (first | (go_at_call 56; (with_reducible refine (greenwoodref09_numbers.calls k2 _ _ (rd_L1 l0_4 x3_2) 2 (wrap64 (a0_2 - 1)) true _ ?side1 ?side2 A18.out).mono ?_); (case side1 => repeat (first | exact (Kd.C_below HR217_0.out HB.out) | (with_reducible refine Kd.C_alloc ?_ _) | (with_reducible refine Kd.C_drewN ?_ _) | (with_reducible refine Kd.C_drew ?_))); (case side2 => exact HC217_0.out); rintro e w' ⟨rfl, ⟨nd, rfl⟩⟩; (try first | exact ⟨rfl, _, World.drewN_drewN _ _ _⟩ | exact ⟨rfl, _, Eq.trans (World.drewN_drewN _ _ _) (congrArg (World.drewN _) (Nat.add_assoc _ _ _))⟩))); try go_wp2_with (first | (go_at_call 56; (with_reducible refine (greenwoodref09_numbers.calls k2 _ _ (rd_L1 l0_4 x3_2) 2 (wrap64 (a0_2 - 1)) true _ ?side1 ?side2 A18.out).mono ?_); (case side1 => repeat (first | exact (Kd.C_below HR217_0.out HB.out) | (with_reducible refine Kd.C_alloc ?_ _) | (with_reducible refine Kd.C_drewN ?_ _) | (with_reducible refine Kd.C_drew ?_))); (case side2 => exact HC217_0.out); rintro e w' ⟨rfl, ⟨nd, rfl⟩⟩; (try first | exact ⟨rfl, _, World.drewN_drewN _ _ _⟩ | exact ⟨rfl, _, Eq.trans (World.drewN_drewN _ _ _) (congrArg (World.drewN _) (Nat.add_assoc _ _ _))⟩))))
           go_roundg k2
           case measure => have := HJ1.out; have := HK2.out; omega
           case rel => exact ⟨(wrap64 (x3_2 + 1)), (by first | rfl | (simp; done) | (simp [*]; done)), H', ⟨by have := HJ1.out; have := HK2.out; omega⟩, ⟨by (with_reducible repeat (first | refine blk_drewN ?_ _ | refine blk_drew ?_ | refine blk_alloc ?_ _)); exact BK216.out⟩, ⟨by repeat (first | (with_reducible first | exact HB.out | apply below_alloc | apply pw_below_drewN | apply below_drew1 | refine below_set ?_ GE216.out) | exact HB.out)⟩⟩
          ·replace c19 := Bool.eq_false_iff.mpr c19
           subst c19
           have H1 : (some false) = some r := by rw [if_neg (show ¬ (false = true) by decide)] at H; exact H
           clear H
           have H := H1
           clear H1
           obtain rfl := Option.some.inj H
           have hcz21_0 : wr.cell? ⟨gb216, 0, none⟩ = some (.int .i64 a0_0) := (blk_cell BK216.out 0).trans rfl
           have hcz21_1 : wr.cell? ⟨gb216, 1, none⟩ = some (.int .i64 a0_1) := (blk_cell BK216.out 1).trans rfl
           have hcz21_2 : wr.cell? ⟨gb216, 2, none⟩ = some (.int .i64 a0_2) := (blk_cell BK216.out 2).trans rfl
           have hcz21_3 : wr.cell? ⟨gb216, 3, none⟩ = some (.int .i64 a0_3) := (blk_cell BK216.out 3).trans rfl
           have hcz21_4 : wr.cell? ⟨gb216, 4, none⟩ = some (.slice A0_4 l0_4.length c0_4) := (blk_cell BK216.out 4).trans rfl
           have hcz21_5 : wr.cell? ⟨gb216, 5, none⟩ = some (.slice A0_5 l0_5.length c0_5) := (blk_cell BK216.out 5).trans rfl
           have hfz21_0 := blk_frozen BK216.out 0
           have hfz21_1 := blk_frozen BK216.out 1
           have hfz21_2 := blk_frozen BK216.out 2
           have hfz21_3 := blk_frozen BK216.out 3
           have hfz21_4 := blk_frozen BK216.out 4
           have hfz21_5 := blk_frozen BK216.out 5
           have p217 : 0 ≤ (x3_2 : Int) := of_decide_eq_true (by first | (with_reducible assumption) | assumption)
           have q217 : x3_2 < (l0_4.length : Int) := of_decide_eq_true (by first | (with_reducible assumption) | assumption)
           obtain ⟨ad217, A217_0, c217_0, e217, hx217_0, hl217_0, hi217_0⟩ := at_L1 HR0_4.out x3_2 p217 q217
           cases e217
           replace hx217_0 := (HB.out.cell (World.block_lt_of_cell? w _ hx217_0)).trans hx217_0
           have HR217_0 := Aside0.mk hi217_0
           have HC217_0 := Aside0.mk hl217_0
           clear hi217_0 hl217_0
           replace p217 := eq_true p217
           replace q217 := eq_true q217
           go_wp2_with (first | (go_at_call 56; (with_reducible refine (greenwoodref09_numbers.calls k2 _ _ (rd_L1 l0_4 x3_2) 2 (wrap64 (a0_2 - 1)) false _ ?side1 ?side2 A18.out).mono ?_); (case side1 => repeat (first | exact (Kd.C_below HR217_0.out HB.out) | (with_reducible refine Kd.C_alloc ?_ _) | (with_reducible refine Kd.C_drewN ?_ _) | (with_reducible refine Kd.C_drew ?_))); (case side2 => exact HC217_0.out); rintro e w' ⟨rfl, ⟨nd, rfl⟩⟩; (try first | exact ⟨rfl, _, World.drewN_drewN _ _ _⟩ | exact ⟨rfl, _, Eq.trans (World.drewN_drewN _ _ _) (congrArg (World.drewN _) (Nat.add_assoc _ _ _))⟩)))
           repeat (go_quiet (first | (go_at_call 56; (with_reducible refine (greenwoodref09_numbers.calls k2 _ _ (rd_L1 l0_4 x3_2) 2 (wrap64 (a0_2 - 1)) false _ ?side1 ?side2 A18.out).mono ?_); (case side1 => repeat (first | exact (Kd.C_below HR217_0.out HB.out) | (with_reducible refine Kd.C_alloc ?_ _) | (with_reducible refine Kd.C_drewN ?_ _) | (with_reducible refine Kd.C_drew ?_))); (case side2 => exact HC217_0.out); rintro e w' ⟨rfl, ⟨nd, rfl⟩⟩; (try first | exact ⟨rfl, _, World.drewN_drewN _ _ _⟩ | exact ⟨rfl, _, Eq.trans (World.drewN_drewN _ _ _) (congrArg (World.drewN _) (Nat.add_assoc _ _ _))⟩))); try go_wp2_with (first | (go_at_call 56; (with_reducible refine (greenwoodref09_numbers.calls k2 _ _ (rd_L1 l0_4 x3_2) 2 (wrap64 (a0_2 - 1)) false _ ?side1 ?side2 A18.out).mono ?_); (case side1 => repeat (first | exact (Kd.C_below HR217_0.out HB.out) | (with_reducible refine Kd.C_alloc ?_ _) | (with_reducible refine Kd.C_drewN ?_ _) | (with_reducible refine Kd.C_drew ?_))); (case side2 => exact HC217_0.out); rintro e w' ⟨rfl, ⟨nd, rfl⟩⟩; (try first | exact ⟨rfl, _, World.drewN_drewN _ _ _⟩ | exact ⟨rfl, _, Eq.trans (World.drewN_drewN _ _ _) (congrArg (World.drewN _) (Nat.add_assoc _ _ _))⟩))))
           go_ret
           exact ⟨by first | rfl | (simp [errW_none, errW_some] <;> rfl) | (simp [*, errW_none, errW_some] <;> rfl), by repeat (first | (with_reducible first | exact HB.out | apply below_alloc | apply pw_below_drewN | apply below_drew1 | refine below_set ?_ GE216.out) | exact HB.out)⟩
         ·rw [if_neg c17] at H
          exact absurd H (by simp)
        ·rw [if_neg c16] at H
         have c16b0 : decide (x3_2 < (l0_4.length : Int)) = false := decide_eq_false c16
         clear c16
         by_cases c22 : a0_2 ≥ 1
         ·rw [if_pos c22] at H
          have c22b0 : decide (1 ≤ a0_2) = true := decide_eq_true c22
          clear c22
          obtain rfl := Option.some.inj H
          have hcz23_0 : wr.cell? ⟨gb216, 0, none⟩ = some (.int .i64 a0_0) := (blk_cell BK216.out 0).trans rfl
          have hcz23_1 : wr.cell? ⟨gb216, 1, none⟩ = some (.int .i64 a0_1) := (blk_cell BK216.out 1).trans rfl
          have hcz23_2 : wr.cell? ⟨gb216, 2, none⟩ = some (.int .i64 a0_2) := (blk_cell BK216.out 2).trans rfl
          have hcz23_3 : wr.cell? ⟨gb216, 3, none⟩ = some (.int .i64 a0_3) := (blk_cell BK216.out 3).trans rfl
          have hcz23_4 : wr.cell? ⟨gb216, 4, none⟩ = some (.slice A0_4 l0_4.length c0_4) := (blk_cell BK216.out 4).trans rfl
          have hcz23_5 : wr.cell? ⟨gb216, 5, none⟩ = some (.slice A0_5 l0_5.length c0_5) := (blk_cell BK216.out 5).trans rfl
          have hfz23_0 := blk_frozen BK216.out 0
          have hfz23_1 := blk_frozen BK216.out 1
          have hfz23_2 := blk_frozen BK216.out 2
          have hfz23_3 := blk_frozen BK216.out 3
          have hfz23_4 := blk_frozen BK216.out 4
          have hfz23_5 := blk_frozen BK216.out 5
          go_wp2
          repeat (go_quiet (fail); try go_wp2)
          go_ret
          exact ⟨by first | rfl | (simp [errW_none, errW_some] <;> rfl) | (simp [*, errW_none, errW_some] <;> rfl), by repeat (first | (with_reducible first | exact HB.out | apply below_alloc | apply pw_below_drewN | apply below_drew1 | refine below_set ?_ GE216.out) | exact HB.out)⟩
         ·rw [if_neg c22] at H
          have c22b0 : decide (1 ≤ a0_2) = false := decide_eq_false c22
          clear c22
          obtain rfl := Option.some.inj H
          have hcz24_0 : wr.cell? ⟨gb216, 0, none⟩ = some (.int .i64 a0_0) := (blk_cell BK216.out 0).trans rfl
          have hcz24_1 : wr.cell? ⟨gb216, 1, none⟩ = some (.int .i64 a0_1) := (blk_cell BK216.out 1).trans rfl
          have hcz24_2 : wr.cell? ⟨gb216, 2, none⟩ = some (.int .i64 a0_2) := (blk_cell BK216.out 2).trans rfl
          have hcz24_3 : wr.cell? ⟨gb216, 3, none⟩ = some (.int .i64 a0_3) := (blk_cell BK216.out 3).trans rfl
          have hcz24_4 : wr.cell? ⟨gb216, 4, none⟩ = some (.slice A0_4 l0_4.length c0_4) := (blk_cell BK216.out 4).trans rfl
          have hcz24_5 : wr.cell? ⟨gb216, 5, none⟩ = some (.slice A0_5 l0_5.length c0_5) := (blk_cell BK216.out 5).trans rfl
          have hfz24_0 := blk_frozen BK216.out 0
          have hfz24_1 := blk_frozen BK216.out 1
          have hfz24_2 := blk_frozen BK216.out 2
          have hfz24_3 := blk_frozen BK216.out 3
          have hfz24_4 := blk_frozen BK216.out 4
          have hfz24_5 := blk_frozen BK216.out 5
          go_wp2
          repeat (go_quiet (fail); try go_wp2)
          go_ret
          exact ⟨by first | rfl | (simp [errW_none, errW_some] <;> rfl) | (simp [*, errW_none, errW_some] <;> rfl), by repeat (first | (with_reducible first | exact HB.out | apply below_alloc | apply pw_below_drewN | apply below_drew1 | refine below_set ?_ GE216.out) | exact HB.out)⟩
     ·rw [if_neg c14] at H
      have c14b0 : (a0_0 == 1) = false := beq_eq_false_iff_ne.mpr c14
      have c14b1 : (a0_0 != 1) = true := bne_iff_ne.mpr c14
      by_cases c25 : a0_0 = 2
      ·rw [if_pos c25] at H
       have c25b0 : (a0_0 == 2) = true := beq_iff_eq.mpr c25
       have c25b1 : (a0_0 != 2) = false := bne_eq_false_iff_eq.mpr c25
       clear c25
       by_cases c26 : (l0_4.length : Int) = 2
       ·rw [if_pos c26] at H
        have c26b0 : ((l0_4.length : Int) == 2) = true := beq_iff_eq.mpr c26
        have c26b1 : ((l0_4.length : Int) != 2) = false := bne_eq_false_iff_eq.mpr c26
        clear c26
        by_cases c27 : 0 < (l0_4.length : Int)
        ·rw [if_pos c27] at H
         have c27b0 : decide (0 < (l0_4.length : Int)) = true := decide_eq_true c27
         have c27b1 : decide (0 < l0_4.length) = true := decide_eq_true (by omega)
         clear c27
         replace H := Option.bind_eq_some_iff.mp H
         obtain ⟨t220, A280, H⟩ := H
         replace H : (if t220 = true then (if 1 < (l0_4.length : Int) then ((greenwoodref09_numbers.f kj1 (rd_L1 l0_4 1) a0_2 64).bind fun t222 => (some t222)) else (none)) else (some false)) = some r := H
         have A28 := Aside0.mk A280
         clear A280
         by_cases c29 : t220 = true
         ·subst c29
          have H1 : (if 1 < (l0_4.length : Int) then ((greenwoodref09_numbers.f kj1 (rd_L1 l0_4 1) a0_2 64).bind fun t222 => (some t222)) else (none)) = some r := by rw [if_pos rfl] at H; exact H
          clear H
          have H := H1
          clear H1
          by_cases c30 : 1 < (l0_4.length : Int)
          ·rw [if_pos c30] at H
           have c30b0 : decide (1 < (l0_4.length : Int)) = true := decide_eq_true c30
           have c30b1 : decide (1 < l0_4.length) = true := decide_eq_true (by omega)
           clear c30
           replace H := Option.bind_eq_some_iff.mp H
           obtain ⟨t222, A310, H⟩ := H
           replace H : (some t222) = some r := H
           have A31 := Aside0.mk A310
           clear A310
           obtain rfl := Option.some.inj H
           have hcz32_0 : wc.cell? ⟨gb216, 0, none⟩ = some (.int .i64 a0_0) := (blk_cell BK216.out 0).trans rfl
           have hcz32_1 : wc.cell? ⟨gb216, 1, none⟩ = some (.int .i64 a0_1) := (blk_cell BK216.out 1).trans rfl
           have hcz32_2 : wc.cell? ⟨gb216, 2, none⟩ = some (.int .i64 a0_2) := (blk_cell BK216.out 2).trans rfl
           have hcz32_3 : wc.cell? ⟨gb216, 3, none⟩ = some (.int .i64 a0_3) := (blk_cell BK216.out 3).trans rfl
           have hcz32_4 : wc.cell? ⟨gb216, 4, none⟩ = some (.slice A0_4 l0_4.length c0_4) := (blk_cell BK216.out 4).trans rfl
           have hcz32_5 : wc.cell? ⟨gb216, 5, none⟩ = some (.slice A0_5 l0_5.length c0_5) := (blk_cell BK216.out 5).trans rfl
           have hfz32_0 := blk_frozen BK216.out 0
           have hfz32_1 := blk_frozen BK216.out 1
           have hfz32_2 := blk_frozen BK216.out 2
           have hfz32_3 := blk_frozen BK216.out 3
           have hfz32_4 := blk_frozen BK216.out 4
           have hfz32_5 := blk_frozen BK216.out 5
           have p219 : 0 ≤ (0 : Int) := (by omega)
           have q219 : 0 < (l0_4.length : Int) := of_decide_eq_true (by first | (with_reducible assumption) | assumption)
           obtain ⟨ad219, A219_0, c219_0, e219, hx219_0, hl219_0, hi219_0⟩ := at_L1 HR0_4.out 0 p219 q219
           cases e219
           have qi219 : (0 < l0_4.length) = True := eq_true (by omega)
           (try rw [show ((0 : Int)).toNat = 0 from rfl] at hx219_0)
           (try rw [Addr.add_zero'] at hx219_0)
           replace hx219_0 := (HB.out.cell (World.block_lt_of_cell? w _ hx219_0)).trans hx219_0
           have HR219_0 := Aside0.mk hi219_0
           have HC219_0 := Aside0.mk hl219_0
           clear hi219_0 hl219_0
           replace p219 := eq_true p219
           replace q219 := eq_true q219
           (try (have p221 : 0 ≤ (1 : Int) := (by omega); have q221 : 1 < (l0_4.length : Int) := of_decide_eq_true (by first | (with_reducible assumption) | assumption); obtain ⟨ad221, A221_0, c221_0, e221, hx221_0, hl221_0, hi221_0⟩ := at_L1 HR0_4.out 1 p221 q221; obtain rfl : ad219 = ad221 := (by injection e221); (try simp only [show (1 : Int).toNat = 1 from rfl, Nat.reduceMul, Nat.reduceEqDiff, Go.Addr.add, ↓reduceIte] at hx221_0); have qi221 : (1 < l0_4.length) = True := eq_true (by omega); (try rw [show ((1 : Int)).toNat = 1 from rfl] at hx221_0); replace hx221_0 := (HB.out.cell (World.block_lt_of_cell? w _ hx221_0)).trans hx221_0; have HR221_0 := Aside0.mk hi221_0; have HC221_0 := Aside0.mk hl221_0; clear hi221_0 hl221_0; replace p221 := eq_true p221; replace q221 := eq_true q221))
           go_wp2_with (first | (go_at_call 56; (with_reducible refine (greenwoodref09_numbers.calls kj1 _ _ (rd_L1 l0_4 0) a0_1 (wrap64 (a0_2 - 1)) true _ ?side1 ?side2 A28.out).mono ?_); (case side1 => repeat (first | exact (Kd.C_below HR219_0.out HB.out) | (with_reducible refine Kd.C_alloc ?_ _) | (with_reducible refine Kd.C_drewN ?_ _) | (with_reducible refine Kd.C_drew ?_))); (case side2 => exact HC219_0.out); rintro e w' ⟨rfl, ⟨nd, rfl⟩⟩; (try first | exact ⟨rfl, _, World.drewN_drewN _ _ _⟩ | exact ⟨rfl, _, Eq.trans (World.drewN_drewN _ _ _) (congrArg (World.drewN _) (Nat.add_assoc _ _ _))⟩); have p221 : 0 ≤ (1 : Int) := (by omega); have q221 : 1 < (l0_4.length : Int) := of_decide_eq_true (by first | (with_reducible assumption) | assumption); obtain ⟨ad221, A221_0, c221_0, e221, hx221_0, hl221_0, hi221_0⟩ := at_L1 HR0_4.out 1 p221 q221; obtain rfl : ad219 = ad221 := (by injection e221); (try simp only [show (1 : Int).toNat = 1 from rfl, Nat.reduceMul, Nat.reduceEqDiff, Go.Addr.add, ↓reduceIte] at hx221_0); have qi221 : (1 < l0_4.length) = True := eq_true (by omega); (try rw [show ((1 : Int)).toNat = 1 from rfl] at hx221_0); replace hx221_0 := (HB.out.cell (World.block_lt_of_cell? w _ hx221_0)).trans hx221_0; have HR221_0 := Aside0.mk hi221_0; have HC221_0 := Aside0.mk hl221_0; clear hi221_0 hl221_0; replace p221 := eq_true p221; replace q221 := eq_true q221) | (go_at_call 56; (with_reducible refine (greenwoodref09_numbers.calls kj1 _ _ (rd_L1 l0_4 1) a0_2 64 t222 _ ?side1 ?side2 A31.out).mono ?_); (case side1 => repeat (first | exact (Kd.C_below HR221_0.out (by repeat (first | (with_reducible first | exact HB.out | apply below_alloc | apply pw_below_drewN | apply below_drew1 | refine below_set ?_ GE216.out) | exact HB.out))) | (with_reducible refine Kd.C_alloc ?_ _) | (with_reducible refine Kd.C_drewN ?_ _) | (with_reducible refine Kd.C_drew ?_))); (case side2 => exact HC221_0.out); rintro e w' ⟨rfl, ⟨nd, rfl⟩⟩; (try first | exact ⟨rfl, _, World.drewN_drewN _ _ _⟩ | exact ⟨rfl, _, Eq.trans (World.drewN_drewN _ _ _) (congrArg (World.drewN _) (Nat.add_assoc _ _ _))⟩)))
           repeat (go_quiet (first | (go_at_call 56; (with_reducible refine (greenwoodref09_numbers.calls kj1 _ _ (rd_L1 l0_4 0) a0_1 (wrap64 (a0_2 - 1)) true _ ?side1 ?side2 A28.out).mono ?_); (case side1 => repeat (first | exact (Kd.C_below HR219_0.out HB.out) | (with_reducible refine Kd.C_alloc ?_ _) | (with_reducible refine Kd.C_drewN ?_ _) | (with_reducible refine Kd.C_drew ?_))); (case side2 => exact HC219_0.out); rintro e w' ⟨rfl, ⟨nd, rfl⟩⟩; (try first | exact ⟨rfl, _, World.drewN_drewN _ _ _⟩ | exact ⟨rfl, _, Eq.trans (World.drewN_drewN _ _ _) (congrArg (World.drewN _) (Nat.add_assoc _ _ _))⟩)) | (go_at_call 56; (with_reducible refine (greenwoodref09_numbers.calls kj1 _ _ (rd_L1 l0_4 1) a0_2 64 t222 _ ?side1 ?side2 A31.out).mono ?_); (case side1 => repeat (first | exact (Kd.C_below HR221_0.out (by repeat (first | (with_reducible first | exact HB.out | apply below_alloc | apply pw_below_drewN | apply below_drew1 | refine below_set ?_ GE216.out) | exact HB.out))) | (with_reducible refine Kd.C_alloc ?_ _) | (with_reducible refine Kd.C_drewN ?_ _) | (with_reducible refine Kd.C_drew ?_))); (case side2 => exact HC221_0.out); rintro e w' ⟨rfl, ⟨nd, rfl⟩⟩; (try first | exact ⟨rfl, _, World.drewN_drewN _ _ _⟩ | exact ⟨rfl, _, Eq.trans (World.drewN_drewN _ _ _) (congrArg (World.drewN _) (Nat.add_assoc _ _ _))⟩))); try go_wp2_with (first | (go_at_call 56; (with_reducible refine (greenwoodref09_numbers.calls kj1 _ _ (rd_L1 l0_4 0) a0_1 (wrap64 (a0_2 - 1)) true _ ?side1 ?side2 A28.out).mono ?_); (case side1 => repeat (first | exact (Kd.C_below HR219_0.out HB.out) | (with_reducible refine Kd.C_alloc ?_ _) | (with_reducible refine Kd.C_drewN ?_ _) | (with_reducible refine Kd.C_drew ?_))); (case side2 => exact HC219_0.out); rintro e w' ⟨rfl, ⟨nd, rfl⟩⟩; (try first | exact ⟨rfl, _, World.drewN_drewN _ _ _⟩ | exact ⟨rfl, _, Eq.trans (World.drewN_drewN _ _ _) (congrArg (World.drewN _) (Nat.add_assoc _ _ _))⟩); have p221 : 0 ≤ (1 : Int) := (by omega); have q221 : 1 < (l0_4.length : Int) := of_decide_eq_true (by first | (with_reducible assumption) | assumption); obtain ⟨ad221, A221_0, c221_0, e221, hx221_0, hl221_0, hi221_0⟩ := at_L1 HR0_4.out 1 p221 q221; obtain rfl : ad219 = ad221 := (by injection e221); (try simp only [show (1 : Int).toNat = 1 from rfl, Nat.reduceMul, Nat.reduceEqDiff, Go.Addr.add, ↓reduceIte] at hx221_0); have qi221 : (1 < l0_4.length) = True := eq_true (by omega); (try rw [show ((1 : Int)).toNat = 1 from rfl] at hx221_0); replace hx221_0 := (HB.out.cell (World.block_lt_of_cell? w _ hx221_0)).trans hx221_0; have HR221_0 := Aside0.mk hi221_0; have HC221_0 := Aside0.mk hl221_0; clear hi221_0 hl221_0; replace p221 := eq_true p221; replace q221 := eq_true q221) | (go_at_call 56; (with_reducible refine (greenwoodref09_numbers.calls kj1 _ _ (rd_L1 l0_4 1) a0_2 64 t222 _ ?side1 ?side2 A31.out).mono ?_); (case side1 => repeat (first | exact (Kd.C_below HR221_0.out (by repeat (first | (with_reducible first | exact HB.out | apply below_alloc | apply pw_below_drewN | apply below_drew1 | refine below_set ?_ GE216.out) | exact HB.out))) | (with_reducible refine Kd.C_alloc ?_ _) | (with_reducible refine Kd.C_drewN ?_ _) | (with_reducible refine Kd.C_drew ?_))); (case side2 => exact HC221_0.out); rintro e w' ⟨rfl, ⟨nd, rfl⟩⟩; (try first | exact ⟨rfl, _, World.drewN_drewN _ _ _⟩ | exact ⟨rfl, _, Eq.trans (World.drewN_drewN _ _ _) (congrArg (World.drewN _) (Nat.add_assoc _ _ _))⟩))))
           go_ret
           exact ⟨by first | rfl | (simp [errW_none, errW_some] <;> rfl) | (simp [*, errW_none, errW_some] <;> rfl), by repeat (first | (with_reducible first | exact HB.out | apply below_alloc | apply pw_below_drewN | apply below_drew1 | refine below_set ?_ GE216.out) | exact HB.out)⟩
          ·rw [if_neg c30] at H
           exact absurd H (by simp)
         ·replace c29 := Bool.eq_false_iff.mpr c29
          subst c29
          have H1 : (some false) = some r := by rw [if_neg (show ¬ (false = true) by decide)] at H; exact H
          clear H
          have H := H1
          clear H1
          obtain rfl := Option.some.inj H
          have hcz33_0 : wc.cell? ⟨gb216, 0, none⟩ = some (.int .i64 a0_0) := (blk_cell BK216.out 0).trans rfl
          have hcz33_1 : wc.cell? ⟨gb216, 1, none⟩ = some (.int .i64 a0_1) := (blk_cell BK216.out 1).trans rfl
          have hcz33_2 : wc.cell? ⟨gb216, 2, none⟩ = some (.int .i64 a0_2) := (blk_cell BK216.out 2).trans rfl
          have hcz33_3 : wc.cell? ⟨gb216, 3, none⟩ = some (.int .i64 a0_3) := (blk_cell BK216.out 3).trans rfl
          have hcz33_4 : wc.cell? ⟨gb216, 4, none⟩ = some (.slice A0_4 l0_4.length c0_4) := (blk_cell BK216.out 4).trans rfl
          have hcz33_5 : wc.cell? ⟨gb216, 5, none⟩ = some (.slice A0_5 l0_5.length c0_5) := (blk_cell BK216.out 5).trans rfl
          have hfz33_0 := blk_frozen BK216.out 0
          have hfz33_1 := blk_frozen BK216.out 1
          have hfz33_2 := blk_frozen BK216.out 2
          have hfz33_3 := blk_frozen BK216.out 3
          have hfz33_4 := blk_frozen BK216.out 4
          have hfz33_5 := blk_frozen BK216.out 5
          have p219 : 0 ≤ (0 : Int) := (by omega)
          have q219 : 0 < (l0_4.length : Int) := of_decide_eq_true (by first | (with_reducible assumption) | assumption)
          obtain ⟨ad219, A219_0, c219_0, e219, hx219_0, hl219_0, hi219_0⟩ := at_L1 HR0_4.out 0 p219 q219
          cases e219
          have qi219 : (0 < l0_4.length) = True := eq_true (by omega)
          (try rw [show ((0 : Int)).toNat = 0 from rfl] at hx219_0)
          (try rw [Addr.add_zero'] at hx219_0)
          replace hx219_0 := (HB.out.cell (World.block_lt_of_cell? w _ hx219_0)).trans hx219_0
          have HR219_0 := Aside0.mk hi219_0
          have HC219_0 := Aside0.mk hl219_0
          clear hi219_0 hl219_0
          replace p219 := eq_true p219
          replace q219 := eq_true q219
          go_wp2_with (first | (go_at_call 56; (with_reducible refine (greenwoodref09_numbers.calls kj1 _ _ (rd_L1 l0_4 0) a0_1 (wrap64 (a0_2 - 1)) false _ ?side1 ?side2 A28.out).mono ?_); (case side1 => repeat (first | exact (Kd.C_below HR219_0.out HB.out) | (with_reducible refine Kd.C_alloc ?_ _) | (with_reducible refine Kd.C_drewN ?_ _) | (with_reducible refine Kd.C_drew ?_))); (case side2 => exact HC219_0.out); rintro e w' ⟨rfl, ⟨nd, rfl⟩⟩; (try first | exact ⟨rfl, _, World.drewN_drewN _ _ _⟩ | exact ⟨rfl, _, Eq.trans (World.drewN_drewN _ _ _) (congrArg (World.drewN _) (Nat.add_assoc _ _ _))⟩)))
          repeat (go_quiet (first | (go_at_call 56; (with_reducible refine (greenwoodref09_numbers.calls kj1 _ _ (rd_L1 l0_4 0) a0_1 (wrap64 (a0_2 - 1)) false _ ?side1 ?side2 A28.out).mono ?_); (case side1 => repeat (first | exact (Kd.C_below HR219_0.out HB.out) | (with_reducible refine Kd.C_alloc ?_ _) | (with_reducible refine Kd.C_drewN ?_ _) | (with_reducible refine Kd.C_drew ?_))); (case side2 => exact HC219_0.out); rintro e w' ⟨rfl, ⟨nd, rfl⟩⟩; (try first | exact ⟨rfl, _, World.drewN_drewN _ _ _⟩ | exact ⟨rfl, _, Eq.trans (World.drewN_drewN _ _ _) (congrArg (World.drewN _) (Nat.add_assoc _ _ _))⟩))); try go_wp2_with (first | (go_at_call 56; (with_reducible refine (greenwoodref09_numbers.calls kj1 _ _ (rd_L1 l0_4 0) a0_1 (wrap64 (a0_2 - 1)) false _ ?side1 ?side2 A28.out).mono ?_); (case side1 => repeat (first | exact (Kd.C_below HR219_0.out HB.out) | (with_reducible refine Kd.C_alloc ?_ _) | (with_reducible refine Kd.C_drewN ?_ _) | (with_reducible refine Kd.C_drew ?_))); (case side2 => exact HC219_0.out); rintro e w' ⟨rfl, ⟨nd, rfl⟩⟩; (try first | exact ⟨rfl, _, World.drewN_drewN _ _ _⟩ | exact ⟨rfl, _, Eq.trans (World.drewN_drewN _ _ _) (congrArg (World.drewN _) (Nat.add_assoc _ _ _))⟩))))
          go_ret
          exact ⟨by first | rfl | (simp [errW_none, errW_some] <;> rfl) | (simp [*, errW_none, errW_some] <;> rfl), by repeat (first | (with_reducible first | exact HB.out | apply below_alloc | apply pw_below_drewN | apply below_drew1 | refine below_set ?_ GE216.out) | exact HB.out)⟩
        ·rw [if_neg c27] at H
         exact absurd H (by simp)
       ·rw [if_neg c26] at H
        have c26b0 : ((l0_4.length : Int) == 2) = false := beq_eq_false_iff_ne.mpr c26
        have c26b1 : ((l0_4.length : Int) != 2) = true := bne_iff_ne.mpr c26
        obtain rfl := Option.some.inj H
        have hcz34_0 : wc.cell? ⟨gb216, 0, none⟩ = some (.int .i64 a0_0) := (blk_cell BK216.out 0).trans rfl
        have hcz34_1 : wc.cell? ⟨gb216, 1, none⟩ = some (.int .i64 a0_1) := (blk_cell BK216.out 1).trans rfl
        have hcz34_2 : wc.cell? ⟨gb216, 2, none⟩ = some (.int .i64 a0_2) := (blk_cell BK216.out 2).trans rfl
        have hcz34_3 : wc.cell? ⟨gb216, 3, none⟩ = some (.int .i64 a0_3) := (blk_cell BK216.out 3).trans rfl
        have hcz34_4 : wc.cell? ⟨gb216, 4, none⟩ = some (.slice A0_4 l0_4.length c0_4) := (blk_cell BK216.out 4).trans rfl
        have hcz34_5 : wc.cell? ⟨gb216, 5, none⟩ = some (.slice A0_5 l0_5.length c0_5) := (blk_cell BK216.out 5).trans rfl
        have hfz34_0 := blk_frozen BK216.out 0
        have hfz34_1 := blk_frozen BK216.out 1
        have hfz34_2 := blk_frozen BK216.out 2
        have hfz34_3 := blk_frozen BK216.out 3
        have hfz34_4 := blk_frozen BK216.out 4
        have hfz34_5 := blk_frozen BK216.out 5
        go_wp2
        repeat (go_quiet (fail); try go_wp2)
        go_ret
        exact ⟨by first | rfl | (simp [errW_none, errW_some] <;> rfl) | (simp [*, errW_none, errW_some] <;> rfl), by repeat (first | (with_reducible first | exact HB.out | apply below_alloc | apply pw_below_drewN | apply below_drew1 | refine below_set ?_ GE216.out) | exact HB.out)⟩
      ·rw [if_neg c25] at H
       have c25b0 : (a0_0 == 2) = false := beq_eq_false_iff_ne.mpr c25
       have c25b1 : (a0_0 != 2) = true := bne_iff_ne.mpr c25
       by_cases c35 : a0_0 = 3
       ·rw [if_pos c35] at H
        have c35b0 : (a0_0 == 3) = true := beq_iff_eq.mpr c35
        have c35b1 : (a0_0 != 3) = false := bne_eq_false_iff_eq.mpr c35
        clear c35
        by_cases c36 : (l0_4.length : Int) = a0_1
        ·rw [if_pos c36] at H
         have c36b0 : ((l0_4.length : Int) == a0_1) = true := beq_iff_eq.mpr c36
         have c36b1 : ((l0_4.length : Int) != a0_1) = false := bne_eq_false_iff_eq.mpr c36
         clear c36
         replace H := Option.bind_eq_some_iff.mp H
         obtain ⟨t223, A370, H⟩ := H
         replace H : (some t223) = some r := H
         have A37 := Aside0.mk A370
         clear A370
         obtain rfl := Option.some.inj H
         have hcz38_0 : wc.cell? ⟨gb216, 0, none⟩ = some (.int .i64 a0_0) := (blk_cell BK216.out 0).trans rfl
         have hcz38_1 : wc.cell? ⟨gb216, 1, none⟩ = some (.int .i64 a0_1) := (blk_cell BK216.out 1).trans rfl
         have hcz38_2 : wc.cell? ⟨gb216, 2, none⟩ = some (.int .i64 a0_2) := (blk_cell BK216.out 2).trans rfl
         have hcz38_3 : wc.cell? ⟨gb216, 3, none⟩ = some (.int .i64 a0_3) := (blk_cell BK216.out 3).trans rfl
         have hcz38_4 : wc.cell? ⟨gb216, 4, none⟩ = some (.slice A0_4 l0_4.length c0_4) := (blk_cell BK216.out 4).trans rfl
         have hcz38_5 : wc.cell? ⟨gb216, 5, none⟩ = some (.slice A0_5 l0_5.length c0_5) := (blk_cell BK216.out 5).trans rfl
         have hfz38_0 := blk_frozen BK216.out 0
         have hfz38_1 := blk_frozen BK216.out 1
         have hfz38_2 := blk_frozen BK216.out 2
         have hfz38_3 := blk_frozen BK216.out 3
         have hfz38_4 := blk_frozen BK216.out 4
         have hfz38_5 := blk_frozen BK216.out 5
         go_wp2_with (first | (go_at_call 57; (with_reducible refine (greenwoodref06_May.calls a0_2 _ _ l0_4 t223 _ ?side1 ?side2 A37.out).mono ?_); (case side1 => repeat (first | exact (Kd.C_below HR0_4.out HB.out) | (with_reducible refine Kd.C_alloc ?_ _) | (with_reducible refine Kd.C_drewN ?_ _) | (with_reducible refine Kd.C_drew ?_))); (case side2 => exact HC0_4.out); rintro e w' ⟨rfl, ⟨nd, rfl⟩⟩; (try first | exact ⟨rfl, _, World.drewN_drewN _ _ _⟩ | exact ⟨rfl, _, Eq.trans (World.drewN_drewN _ _ _) (congrArg (World.drewN _) (Nat.add_assoc _ _ _))⟩)))
         repeat (go_quiet (first | (go_at_call 57; (with_reducible refine (greenwoodref06_May.calls a0_2 _ _ l0_4 t223 _ ?side1 ?side2 A37.out).mono ?_); (case side1 => repeat (first | exact (Kd.C_below HR0_4.out HB.out) | (with_reducible refine Kd.C_alloc ?_ _) | (with_reducible refine Kd.C_drewN ?_ _) | (with_reducible refine Kd.C_drew ?_))); (case side2 => exact HC0_4.out); rintro e w' ⟨rfl, ⟨nd, rfl⟩⟩; (try first | exact ⟨rfl, _, World.drewN_drewN _ _ _⟩ | exact ⟨rfl, _, Eq.trans (World.drewN_drewN _ _ _) (congrArg (World.drewN _) (Nat.add_assoc _ _ _))⟩))); try go_wp2_with (first | (go_at_call 57; (with_reducible refine (greenwoodref06_May.calls a0_2 _ _ l0_4 t223 _ ?side1 ?side2 A37.out).mono ?_); (case side1 => repeat (first | exact (Kd.C_below HR0_4.out HB.out) | (with_reducible refine Kd.C_alloc ?_ _) | (with_reducible refine Kd.C_drewN ?_ _) | (with_reducible refine Kd.C_drew ?_))); (case side2 => exact HC0_4.out); rintro e w' ⟨rfl, ⟨nd, rfl⟩⟩; (try first | exact ⟨rfl, _, World.drewN_drewN _ _ _⟩ | exact ⟨rfl, _, Eq.trans (World.drewN_drewN _ _ _) (congrArg (World.drewN _) (Nat.add_assoc _ _ _))⟩))))
         go_ret
         exact ⟨by first | rfl | (simp [errW_none, errW_some] <;> rfl) | (simp [*, errW_none, errW_some] <;> rfl), by repeat (first | (with_reducible first | exact HB.out | apply below_alloc | apply pw_below_drewN | apply below_drew1 | refine below_set ?_ GE216.out) | exact HB.out)⟩
        ·rw [if_neg c36] at H
         have c36b0 : ((l0_4.length : Int) == a0_1) = false := beq_eq_false_iff_ne.mpr c36
         have c36b1 : ((l0_4.length : Int) != a0_1) = true := bne_iff_ne.mpr c36
         obtain rfl := Option.some.inj H
         have hcz39_0 : wc.cell? ⟨gb216, 0, none⟩ = some (.int .i64 a0_0) := (blk_cell BK216.out 0).trans rfl
         have hcz39_1 : wc.cell? ⟨gb216, 1, none⟩ = some (.int .i64 a0_1) := (blk_cell BK216.out 1).trans rfl
         have hcz39_2 : wc.cell? ⟨gb216, 2, none⟩ = some (.int .i64 a0_2) := (blk_cell BK216.out 2).trans rfl
         have hcz39_3 : wc.cell? ⟨gb216, 3, none⟩ = some (.int .i64 a0_3) := (blk_cell BK216.out 3).trans rfl
         have hcz39_4 : wc.cell? ⟨gb216, 4, none⟩ = some (.slice A0_4 l0_4.length c0_4) := (blk_cell BK216.out 4).trans rfl
         have hcz39_5 : wc.cell? ⟨gb216, 5, none⟩ = some (.slice A0_5 l0_5.length c0_5) := (blk_cell BK216.out 5).trans rfl
         have hfz39_0 := blk_frozen BK216.out 0
         have hfz39_1 := blk_frozen BK216.out 1
         have hfz39_2 := blk_frozen BK216.out 2
         have hfz39_3 := blk_frozen BK216.out 3
         have hfz39_4 := blk_frozen BK216.out 4
         have hfz39_5 := blk_frozen BK216.out 5
         go_wp2
         repeat (go_quiet (fail); try go_wp2)
         go_ret
         exact ⟨by first | rfl | (simp [errW_none, errW_some] <;> rfl) | (simp [*, errW_none, errW_some] <;> rfl), by repeat (first | (with_reducible first | exact HB.out | apply below_alloc | apply pw_below_drewN | apply below_drew1 | refine below_set ?_ GE216.out) | exact HB.out)⟩
       ·rw [if_neg c35] at H
        have c35b0 : (a0_0 == 3) = false := beq_eq_false_iff_ne.mpr c35
        have c35b1 : (a0_0 != 3) = true := bne_iff_ne.mpr c35
        by_cases c40 : a0_0 = 4
        ·rw [if_pos c40] at H
         have c40b0 : (a0_0 == 4) = true := beq_iff_eq.mpr c40
         have c40b1 : (a0_0 != 4) = false := bne_eq_false_iff_eq.mpr c40
         clear c40
         by_cases c41 : (l0_4.length : Int) = a0_1
         ·rw [if_pos c41] at H
          have c41b0 : ((l0_4.length : Int) == a0_1) = true := beq_iff_eq.mpr c41
          have c41b1 : ((l0_4.length : Int) != a0_1) = false := bne_eq_false_iff_eq.mpr c41
          clear c41
          replace H := Option.bind_eq_some_iff.mp H
          obtain ⟨t224, A420, H⟩ := H
          replace H : (some t224) = some r := H
          have A42 := Aside0.mk A420
          clear A420
          obtain rfl := Option.some.inj H
          have hcz43_0 : wc.cell? ⟨gb216, 0, none⟩ = some (.int .i64 a0_0) := (blk_cell BK216.out 0).trans rfl
          have hcz43_1 : wc.cell? ⟨gb216, 1, none⟩ = some (.int .i64 a0_1) := (blk_cell BK216.out 1).trans rfl
          have hcz43_2 : wc.cell? ⟨gb216, 2, none⟩ = some (.int .i64 a0_2) := (blk_cell BK216.out 2).trans rfl
          have hcz43_3 : wc.cell? ⟨gb216, 3, none⟩ = some (.int .i64 a0_3) := (blk_cell BK216.out 3).trans rfl
          have hcz43_4 : wc.cell? ⟨gb216, 4, none⟩ = some (.slice A0_4 l0_4.length c0_4) := (blk_cell BK216.out 4).trans rfl
          have hcz43_5 : wc.cell? ⟨gb216, 5, none⟩ = some (.slice A0_5 l0_5.length c0_5) := (blk_cell BK216.out 5).trans rfl
          have hfz43_0 := blk_frozen BK216.out 0
          have hfz43_1 := blk_frozen BK216.out 1
          have hfz43_2 := blk_frozen BK216.out 2
          have hfz43_3 := blk_frozen BK216.out 3
          have hfz43_4 := blk_frozen BK216.out 4
          have hfz43_5 := blk_frozen BK216.out 5
          go_wp2_with (first | (go_at_call 58; (with_reducible refine (greenwoodref05_May.calls kj1 a0_3 a0_2 _ _ l0_4 t224 _ ?side1 ?side2 A42.out).mono ?_); (case side1 => repeat (first | exact (Kd.C_below HR0_4.out HB.out) | (with_reducible refine Kd.C_alloc ?_ _) | (with_reducible refine Kd.C_drewN ?_ _) | (with_reducible refine Kd.C_drew ?_))); (case side2 => exact HC0_4.out); rintro e w' ⟨rfl, ⟨nd, rfl⟩⟩; (try first | exact ⟨rfl, _, World.drewN_drewN _ _ _⟩ | exact ⟨rfl, _, Eq.trans (World.drewN_drewN _ _ _) (congrArg (World.drewN _) (Nat.add_assoc _ _ _))⟩)))
          repeat (go_quiet (first | (go_at_call 58; (with_reducible refine (greenwoodref05_May.calls kj1 a0_3 a0_2 _ _ l0_4 t224 _ ?side1 ?side2 A42.out).mono ?_); (case side1 => repeat (first | exact (Kd.C_below HR0_4.out HB.out) | (with_reducible refine Kd.C_alloc ?_ _) | (with_reducible refine Kd.C_drewN ?_ _) | (with_reducible refine Kd.C_drew ?_))); (case side2 => exact HC0_4.out); rintro e w' ⟨rfl, ⟨nd, rfl⟩⟩; (try first | exact ⟨rfl, _, World.drewN_drewN _ _ _⟩ | exact ⟨rfl, _, Eq.trans (World.drewN_drewN _ _ _) (congrArg (World.drewN _) (Nat.add_assoc _ _ _))⟩))); try go_wp2_with (first | (go_at_call 58; (with_reducible refine (greenwoodref05_May.calls kj1 a0_3 a0_2 _ _ l0_4 t224 _ ?side1 ?side2 A42.out).mono ?_); (case side1 => repeat (first | exact (Kd.C_below HR0_4.out HB.out) | (with_reducible refine Kd.C_alloc ?_ _) | (with_reducible refine Kd.C_drewN ?_ _) | (with_reducible refine Kd.C_drew ?_))); (case side2 => exact HC0_4.out); rintro e w' ⟨rfl, ⟨nd, rfl⟩⟩; (try first | exact ⟨rfl, _, World.drewN_drewN _ _ _⟩ | exact ⟨rfl, _, Eq.trans (World.drewN_drewN _ _ _) (congrArg (World.drewN _) (Nat.add_assoc _ _ _))⟩))))
          go_ret
          exact ⟨by first | rfl | (simp [errW_none, errW_some] <;> rfl) | (simp [*, errW_none, errW_some] <;> rfl), by repeat (first | (with_reducible first | exact HB.out | apply below_alloc | apply pw_below_drewN | apply below_drew1 | refine below_set ?_ GE216.out) | exact HB.out)⟩
         ·rw [if_neg c41] at H
          have c41b0 : ((l0_4.length : Int) == a0_1) = false := beq_eq_false_iff_ne.mpr c41
          have c41b1 : ((l0_4.length : Int) != a0_1) = true := bne_iff_ne.mpr c41
          obtain rfl := Option.some.inj H
          have hcz44_0 : wc.cell? ⟨gb216, 0, none⟩ = some (.int .i64 a0_0) := (blk_cell BK216.out 0).trans rfl
          have hcz44_1 : wc.cell? ⟨gb216, 1, none⟩ = some (.int .i64 a0_1) := (blk_cell BK216.out 1).trans rfl
          have hcz44_2 : wc.cell? ⟨gb216, 2, none⟩ = some (.int .i64 a0_2) := (blk_cell BK216.out 2).trans rfl
          have hcz44_3 : wc.cell? ⟨gb216, 3, none⟩ = some (.int .i64 a0_3) := (blk_cell BK216.out 3).trans rfl
          have hcz44_4 : wc.cell? ⟨gb216, 4, none⟩ = some (.slice A0_4 l0_4.length c0_4) := (blk_cell BK216.out 4).trans rfl
          have hcz44_5 : wc.cell? ⟨gb216, 5, none⟩ = some (.slice A0_5 l0_5.length c0_5) := (blk_cell BK216.out 5).trans rfl
          have hfz44_0 := blk_frozen BK216.out 0
          have hfz44_1 := blk_frozen BK216.out 1
          have hfz44_2 := blk_frozen BK216.out 2
          have hfz44_3 := blk_frozen BK216.out 3
          have hfz44_4 := blk_frozen BK216.out 4
          have hfz44_5 := blk_frozen BK216.out 5
          go_wp2
          repeat (go_quiet (fail); try go_wp2)
          go_ret
          exact ⟨by first | rfl | (simp [errW_none, errW_some] <;> rfl) | (simp [*, errW_none, errW_some] <;> rfl), by repeat (first | (with_reducible first | exact HB.out | apply below_alloc | apply pw_below_drewN | apply below_drew1 | refine below_set ?_ GE216.out) | exact HB.out)⟩
        ·rw [if_neg c40] at H
         have c40b0 : (a0_0 == 4) = false := beq_eq_false_iff_ne.mpr c40
         have c40b1 : (a0_0 != 4) = true := bne_iff_ne.mpr c40
         obtain rfl := Option.some.inj H
         have hcz45_0 : wc.cell? ⟨gb216, 0, none⟩ = some (.int .i64 a0_0) := (blk_cell BK216.out 0).trans rfl
         have hcz45_1 : wc.cell? ⟨gb216, 1, none⟩ = some (.int .i64 a0_1) := (blk_cell BK216.out 1).trans rfl
         have hcz45_2 : wc.cell? ⟨gb216, 2, none⟩ = some (.int .i64 a0_2) := (blk_cell BK216.out 2).trans rfl
         have hcz45_3 : wc.cell? ⟨gb216, 3, none⟩ = some (.int .i64 a0_3) := (blk_cell BK216.out 3).trans rfl
         have hcz45_4 : wc.cell? ⟨gb216, 4, none⟩ = some (.slice A0_4 l0_4.length c0_4) := (blk_cell BK216.out 4).trans rfl
         have hcz45_5 : wc.cell? ⟨gb216, 5, none⟩ = some (.slice A0_5 l0_5.length c0_5) := (blk_cell BK216.out 5).trans rfl
         have hfz45_0 := blk_frozen BK216.out 0
         have hfz45_1 := blk_frozen BK216.out 1
         have hfz45_2 := blk_frozen BK216.out 2
         have hfz45_3 := blk_frozen BK216.out 3
         have hfz45_4 := blk_frozen BK216.out 4
         have hfz45_5 := blk_frozen BK216.out 5
         go_wp2
         repeat (go_quiet (fail); try go_wp2)
         go_ret
         exact ⟨by first | rfl | (simp [errW_none, errW_some] <;> rfl) | (simp [*, errW_none, errW_some] <;> rfl), by repeat (first | (with_reducible first | exact HB.out | apply below_alloc | apply pw_below_drewN | apply below_drew1 | refine below_set ?_ GE216.out) | exact HB.out)⟩


/-! ### greenwoodref09_may: function 29 -/
end Go.Proofs.YtgbmlkmkfigolaaDoor.P
/- greenwoodref09.may, sums, by hand: two functions that call each other. -/
namespace Go.Proofs.YtgbmlkmkfigolaaDoor.P
open Go.RowKit Go.Proofs.YtgbmlkmkfigolaaDoorW.PrintWords Go.Proofs.YtgbmlkmkfigolaaDoorW.PrintLast Go.Proofs.YtgbmlkmkfigolaaDoorW.PrintMore
set_option linter.unusedVariables false
set_option linter.unusedSimpArgs false

def sumsO (f : Mtr → Option Bool) : Int → List Mtr → Option Int
 | n, [] => some n
 | n, x :: r => (f x).bind fun b => if b = true then sumsO f (wrap64 (n + x.f1)) r else some (-1)
def greenwoodref09_may.f : Nat → Int → Int → Int → Int → List (List Int) → List Mtr → Option Bool
 | 0, _, _, _, _, _, _ => none
 | k + 1, a0, a1, a2, a3, l4, l5 =>
  if a1 < 0 ∨ 64 < a1 ∨ a2 < 0 ∨ 64 < a2 then some false
  else if nestsB a0 = false then greenwoodref09_plain.f k a0 a1 a2 a3 l4 l5
  else if a3 ≠ 0 ∨ (a2 ≠ 0 ∧ a0 ≠ 7) ∨ l5.length < 1 ∨ 8 < l5.length ∨ (1 < l5.length ∧ a0 ≠ 9) then some false
  else (sumsO (fun x => greenwoodref09_may.f k x.f0 x.f1 x.f2 x.f3 x.f4 x.f5) 0 l5).bind fun n =>
   if n < 0 then some false
   else if 7 ≤ a0 then some (decide (l4.length = 0) && decide (a1 = n))
   else if l4.length ≠ 1 then some false
   else (greenwoodref09_Set.f k (rd_L1 l4 0) n).bind fun s => if s = false then some false else if a0 = 5 then some (decide (a1 = ((rd_L1 l4 0).length : Int))) else some (decide (a1 = wrap64 (n - ((rd_L1 l4 0).length : Int))))
/-- a contract of may, at what f tells -/
def MayOf (f : Mtr → Option Bool) : Prop := ∀ (a0 a1 a2 a3 : Int) (l4 : List (List Int)) (l5 : List Mtr) (A4 : Option Addr) (c4 : Nat) (A5 : Option Addr) (c5 : Nat) (w : World) (b : Bool), f ⟨a0, a1, a2, a3, l4, l5⟩ = some b → Kd.C (Kd.slice 3 (Kd.int .i64)) w A4 l4.length l4 → l4.length ≤ c4 → Kd.C k25 w A5 l5.length l5 → l5.length ≤ c5 →
 Calls Tryd.prog 29 #[.agg #[.int .i64 a0, .int .i64 a1, .int .i64 a2, .int .i64 a3, .slice A4 l4.length c4, .slice A5 l5.length c5]] w fun e w' => e = .returned (.bool b) ∧ Below w.heap.size w w'
set_option maxHeartbeats 4000000 in
set_option maxRecDepth 100000 in
theorem sums_c {f : Mtr → Option Bool} (hf : MayOf f) (a0 a1 a2 a3 : Int) (l4 : List (List Int)) (l5 : List Mtr) (A4 : Option Addr) (c4 : Nat) (A5 : Option Addr) (c5 : Nat) (w : World) (n : Int) (hn : sumsO f 0 l5 = some n) (hr5 : Kd.C k25 w A5 l5.length l5) (hc5 : l5.length ≤ c5) :
 Calls Tryd.prog 47 #[.agg #[.int .i64 a0, .int .i64 a1, .int .i64 a2, .int .i64 a3, .slice A4 l4.length c4, .slice A5 l5.length c5]] w fun e w' => e = .returned (.int .i64 n) ∧ Below w.heap.size w w' := by
 obtain ⟨W1, hW1⟩ : ∃ W1, W1 = w.alloc (Obj.cells #[.int .i64 a0, .int .i64 a1, .int .i64 a2, .int .i64 a3, .slice A4 l4.length c4, .slice A5 l5.length c5] 25) := ⟨_, rfl⟩
 have hB1 : Below w.heap.size w W1 := by subst hW1; exact (Below.refl _ _).alloc (Nat.le_refl _) _
 have hbx := (mbox w 25 (.int .i64 a0) (.int .i64 a1) (.int .i64 a2) (.int .i64 a3) (.slice A4 l4.length c4) (.slice A5 l5.length c5)).2.2.2.2.2
 have hsz : w.heap.size < W1.heap.size := by
  subst hW1
  rw [show (w.alloc (Obj.cells #[.int .i64 a0, .int .i64 a1, .int .i64 a2, .int .i64 a3, .slice A4 l4.length c4, .slice A5 l5.length c5] 25)).heap.size = w.heap.size + 1 from Array.size_push ..]; omega
 rw [← hW1] at hbx
 have HB1 := Aside0.mk (And.intro hB1 (And.intro hbx hsz))
 have HR5 := Aside0.mk hr5
 have HL5 := Aside0.mk (C_len hr5)
 have HF := Aside0.mk hf
 have HN := Aside0.mk hn
 have HW1 := Aside0.mk hW1
 clear hB1 hbx hsz hr5 hc5 hf hn hW1
 go_enter Tryd.func47, Tryd.ntmps47
 go_wp2
 rw [← HW1.out]
 go_loopw [3, 4] (fun v3 v4 wr => ∃ (i : Nat) (s : Int), i ≤ l5.length ∧ v3 = .int .i64 s ∧ v4 = .int .i64 (i : Int) ∧ Aside0 (Below W1.heap.size W1 wr) ∧ Aside0 (sumsO f s (l5.drop i) = some n)) (fun _ v4 _ => (l5.length - (RowKit.intOf v4).toNat))
 case atStart => exact ⟨0, 0, Nat.zero_le _, rfl, rfl, ⟨Below.refl _ _⟩, HN⟩
 case round =>
  clear HN
  obtain ⟨i, s, hi, rfl, rfl, HB, HN⟩ := hrel
  have zb := (HB.out.cell (p := ⟨w.heap.size, 5, none⟩) HB1.out.2.2).trans HB1.out.2.1
  have HR := Aside0.mk (HB1.out.1.trans (HB.out.mono HB1.out.1.size))
  by_cases hlt : i < l5.length
  ·obtain ⟨ad, B4, d4, B5, d5, hA, y0, y1, y2, y3, y4, y5, hl4, hC4, hl5, hC5⟩ := at_T25 HR5.out (i : Int) (by omega) (by omega)
   rw [Int.toNat_natCast] at y0 y1 y2 y3 y4 y5
   have hstep : l5.drop i = rd_T25 l5 (i : Int) :: l5.drop (i + 1) := by rw [List.drop_eq_getElem_cons hlt, rd_T_at hlt]
   have hlen : (l5.length : Int) ≤ 9223372036854775807 := by have := HL5.out; omega
   have hs := HN.out
   rw [hstep] at hs
   unfold sumsO at hs
   generalize rd_T25 l5 (i : Int) = x at *
   obtain ⟨x0, x1, x2, x3, x4, x5⟩ := x
   dsimp only at y0 y1 y2 y3 y4 y5 hl4 hC4 hl5 hC5 hs
   replace y0 := (HR.out.cell (World.block_lt_of_cell? w _ y0)).trans y0
   replace y1 := (HR.out.cell (World.block_lt_of_cell? w _ y1)).trans y1
   replace y2 := (HR.out.cell (World.block_lt_of_cell? w _ y2)).trans y2
   replace y3 := (HR.out.cell (World.block_lt_of_cell? w _ y3)).trans y3
   replace y4 := (HR.out.cell (World.block_lt_of_cell? w _ y4)).trans y4
   replace y5 := (HR.out.cell (World.block_lt_of_cell? w _ y5)).trans y5
   obtain ⟨b, hb, hs2⟩ := Option.bind_eq_some_iff.mp hs
   have HX := Aside0.mk (fun W (hW : Aside0 (Below w.heap.size w W)) => HF.out x0 x1 x2 x3 x4 x5 B4 d4 B5 d5 W b hb (Kd.C_below hC4 hW.out) hl4 (Kd.C_below hC5 hW.out) hl5)
   have HS2 := Aside0.mk hs2
   have HY := Aside0.mk y1
   clear hl4 hC4 hl5 hC5 hstep hs hb hs2 HN
   subst hA
   cases b with
   | true =>
    go_wp2_with (go_at_call 29; refine (HX.out _ HR).mono ?_; rintro e w5 ⟨rfl, hb⟩; have HB5 : Aside0 (Below W1.heap.size W1 w5) := ⟨HB.out.trans (hb.mono HB.out.size)⟩; have zb5 := (hb.cell (p := ⟨w.heap.size, 5, none⟩) (World.block_lt_of_cell? _ _ zb)).trans zb; have y15 := (hb.cell (World.block_lt_of_cell? _ _ HY.out)).trans HY.out; clear hb)
    go_roundw
    case rel => exact ⟨i + 1, _, by omega, rfl, by go_num, by first | exact HB5 | exact ⟨pw_below_drewN HB5.out _⟩, ⟨by have := HS2.out; simpa using this⟩⟩
    case measure => simp [RowKit.intOf]; omega
   | false =>
    have HM : Aside0 (n = -1) := ⟨by have := HS2.out; simp at this; exact this.symm⟩
    go_wp2_with (go_at_call 29; refine (HX.out _ HR).mono ?_; rintro e w5 ⟨rfl, hb⟩; have HB5 := at_step HR hb; clear hb)
    go_ret
    exact ⟨by rw [HM.out]; rfl, by first | exact HB5.out | exact pw_below_drewN HB5.out _⟩
  ·have HM : Aside0 (s = n) := ⟨by
    have := HN.out
    rw [List.drop_of_length_le (by omega)] at this
    exact Option.some.inj this⟩
   have hie : i = l5.length := by omega
   subst hie
   clear HN hlt hi
   go_wp2
   go_ret
   exact ⟨by rw [← HM.out]; rfl, by first | exact HR.out | exact pw_below_drewN HR.out _⟩
end Go.Proofs.YtgbmlkmkfigolaaDoor.P
/- greenwoodref09.may, walked. -/
namespace Go.Proofs.YtgbmlkmkfigolaaDoor.P
open Go.RowKit Go.Proofs.YtgbmlkmkfigolaaDoorW.PrintWords Go.Proofs.YtgbmlkmkfigolaaDoorW.PrintLast Go.Proofs.YtgbmlkmkfigolaaDoorW.PrintMore
set_option linter.unusedVariables false
set_option linter.unusedSimpArgs false

theorem rnests_eq (t : Int) : greenwoodref09_nests.f t = some (nestsB t) := by
 unfold greenwoodref09_nests.f nestsB
 by_cases h : t ≥ 5
 ·rw [if_pos h, decide_eq_true h]; rfl
 ·rw [if_neg h, decide_eq_false h]; rfl
theorem rnests_c (x : Int) (w : World) : Calls Tryd.prog 45 #[.int .i64 x] w fun e w' => e = .returned (.bool (nestsB x)) ∧ Drawn0 w w' :=
 greenwoodref09_nests.calls x _ w (rnests_eq x)
set_option maxHeartbeats 4000000 in
set_option maxRecDepth 100000 in
theorem may_1 (a0 a1 a2 a3 : Int) (l4 : List (List Int)) (l5 : List Mtr) (A4 : Option Addr) (c4 : Nat) (A5 : Option Addr) (c5 : Nat) (w : World) (h : a1 < 0 ∨ 64 < a1 ∨ a2 < 0 ∨ 64 < a2) :
 Calls Tryd.prog 29 #[.agg #[.int .i64 a0, .int .i64 a1, .int .i64 a2, .int .i64 a3, .slice A4 l4.length c4, .slice A5 l5.length c5]] w fun e w' => e = .returned (.bool false) ∧ Below w.heap.size w w' := by
 have HB := Aside0.mk ((Below.refl w.heap.size w).alloc (Nat.le_refl _) (Obj.cells #[.int .i64 a0, .int .i64 a1, .int .i64 a2, .int .i64 a3, .slice A4 l4.length c4, .slice A5 l5.length c5] 25))
 have hways : decide (a1 < 0) = true ∨ (decide (a1 < 0) = false ∧ decide (64 < a1) = true) ∨ (decide (a1 < 0) = false ∧ decide (64 < a1) = false ∧ decide (a2 < 0) = true) ∨ (decide (a1 < 0) = false ∧ decide (64 < a1) = false ∧ decide (a2 < 0) = false ∧ decide (64 < a2) = true) := by
  by_cases h1 : a1 < 0
  ·exact .inl (decide_eq_true h1)
  by_cases h2 : 64 < a1
  ·exact .inr (.inl ⟨decide_eq_false h1, decide_eq_true h2⟩)
  by_cases h3 : a2 < 0
  ·exact .inr (.inr (.inl ⟨decide_eq_false h1, decide_eq_false h2, decide_eq_true h3⟩))
  ·exact .inr (.inr (.inr ⟨decide_eq_false h1, decide_eq_false h2, decide_eq_false h3, decide_eq_true (by omega)⟩))
 clear h
 rcases hways with g1 | ⟨g1, g2⟩ | ⟨g1, g2, g3⟩ | ⟨g1, g2, g3, g4⟩
 all_goals
  go_enter Tryd.func29, Tryd.ntmps29
  go_wp2
  go_ret
  exact ⟨rfl, by first | exact HB.out | exact pw_below_drewN HB.out _⟩
set_option maxHeartbeats 4000000 in
set_option maxRecDepth 100000 in
theorem may_2 (k : Nat) (b : Bool) (a0 a1 a2 a3 : Int) (l4 : List (List Int)) (l5 : List Mtr) (A4 : Option Addr) (c4 : Nat) (A5 : Option Addr) (c5 : Nat) (w : World) (hr4 : Kd.C (Kd.slice 3 (Kd.int .i64)) w A4 l4.length l4) (hc4 : l4.length ≤ c4) (hr5 : Kd.C k25 w A5 l5.length l5) (hc5 : l5.length ≤ c5) (g1 : decide (a1 < 0) = false) (g2 : decide (64 < a1) = false) (g3 : decide (a2 < 0) = false) (g4 : decide (64 < a2) = false) (h : nestsB a0 = false) (hp : greenwoodref09_plain.f k a0 a1 a2 a3 l4 l5 = some b) :
 Calls Tryd.prog 29 #[.agg #[.int .i64 a0, .int .i64 a1, .int .i64 a2, .int .i64 a3, .slice A4 l4.length c4, .slice A5 l5.length c5]] w fun e w' => e = .returned (.bool b) ∧ Below w.heap.size w w' := by
 have hb := (Below.refl w.heap.size w).alloc (Nat.le_refl _) (Obj.cells #[.int .i64 a0, .int .i64 a1, .int .i64 a2, .int .i64 a3, .slice A4 l4.length c4, .slice A5 l5.length c5] 25)
 have HB := Aside0.mk hb
 have HN := Aside0.mk (fun W => rnests_c a0 W)
 rw [h] at HN
 have HP := Aside0.mk (fun (W : World) (hW : Below w.heap.size w W) => greenwoodref09_plain.calls k a0 a1 a2 a3 A4 c4 l4 A5 c5 l5 b W (Kd.C_below hr4 hW) hc4 (Kd.C_below hr5 hW) hc5 hp)
 clear hb h hp hr4 hc4 hr5 hc5
 go_enter Tryd.func29, Tryd.ntmps29
 go_wp2_with (first
  | (go_at_call 45; refine (HN.out _).mono ?_; rintro e w' ⟨rfl, ⟨q, rfl⟩⟩)
  | (go_at_call 46; refine (HP.out _ (by first | exact HB.out | exact pw_below_drewN HB.out _)).mono ?_; rintro e w' ⟨rfl, hb⟩; have HB2 := at_step (by first | exact HB | exact ⟨pw_below_drewN HB.out _⟩) hb; clear hb))
 go_ret
 exact ⟨rfl, by first | exact HB2.out | exact pw_below_drewN HB2.out _⟩
set_option maxHeartbeats 4000000 in
set_option maxRecDepth 100000 in
theorem may_3 (a0 a1 a2 a3 : Int) (l4 : List (List Int)) (l5 : List Mtr) (A4 : Option Addr) (c4 : Nat) (A5 : Option Addr) (c5 : Nat) (w : World) (g1 : decide (a1 < 0) = false) (g2 : decide (64 < a1) = false) (g3 : decide (a2 < 0) = false) (g4 : decide (64 < a2) = false) (h : nestsB a0 = true) (hc : a3 ≠ 0 ∨ (a2 ≠ 0 ∧ a0 ≠ 7) ∨ l5.length < 1 ∨ 8 < l5.length ∨ (1 < l5.length ∧ a0 ≠ 9)) :
 Calls Tryd.prog 29 #[.agg #[.int .i64 a0, .int .i64 a1, .int .i64 a2, .int .i64 a3, .slice A4 l4.length c4, .slice A5 l5.length c5]] w fun e w' => e = .returned (.bool false) ∧ Below w.heap.size w w' := by
 have HB := Aside0.mk ((Below.refl w.heap.size w).alloc (Nat.le_refl _) (Obj.cells #[.int .i64 a0, .int .i64 a1, .int .i64 a2, .int .i64 a3, .slice A4 l4.length c4, .slice A5 l5.length c5] 25))
 have HN := Aside0.mk (fun W => rnests_c a0 W)
 rw [h] at HN
 have hP : (a2 != 0) = false ∨ ((a2 != 0) = true ∧ (a0 != 7) = false) ∨ ((a2 != 0) = true ∧ (a0 != 7) = true) := by
  by_cases e2 : a2 = 0
  ·exact .inl (by simp [e2])
  ·by_cases e7 : a0 = 7
   ·exact .inr (.inl ⟨by simp [e2], by simp [e7]⟩)
   ·exact .inr (.inr ⟨by simp [e2], by simp [e7]⟩)
 have hL : ((a2 != 0) = true ∧ (a0 != 7) = true) ∨ (a3 != 0) = true ∨ (decide (l5.length < 1) = true ∧ decide ((l5.length : Int) < 1) = true) ∨ (decide (l5.length < 1) = false ∧ decide ((l5.length : Int) < 1) = false ∧ decide (8 < l5.length) = true ∧ decide (8 < (l5.length : Int)) = true) ∨ (decide (l5.length < 1) = false ∧ decide ((l5.length : Int) < 1) = false ∧ decide (8 < l5.length) = false ∧ decide (8 < (l5.length : Int)) = false ∧ decide (1 < l5.length) = true ∧ decide (1 < (l5.length : Int)) = true ∧ (a0 != 9) = true) := by
  rcases hc with h1 | ⟨h1, h2⟩ | h1 | h1 | ⟨h1, h2⟩
  ·exact .inr (.inl (by simp [h1]))
  ·exact .inl ⟨by simp [h1], by simp [h2]⟩
  ·exact .inr (.inr (.inl ⟨decide_eq_true h1, decide_eq_true (by omega)⟩))
  ·exact .inr (.inr (.inr (.inl ⟨decide_eq_false (by omega), decide_eq_false (by omega), decide_eq_true h1, decide_eq_true (by omega)⟩)))
  ·by_cases h8 : 8 < l5.length
   ·exact .inr (.inr (.inr (.inl ⟨decide_eq_false (by omega), decide_eq_false (by omega), decide_eq_true h8, decide_eq_true (by omega)⟩)))
   ·exact .inr (.inr (.inr (.inr ⟨decide_eq_false (by omega), decide_eq_false (by omega), decide_eq_false h8, decide_eq_false (by omega), decide_eq_true h1, decide_eq_true (by omega), by simp [h2]⟩)))
 clear h hc
 cases h3 : (a3 != 0) with
 | true =>
  clear hP hL
  go_enter Tryd.func29, Tryd.ntmps29
  go_wp2_with (first | (go_at_call 45; refine (HN.out _).mono ?_; rintro e w' ⟨rfl, ⟨q, rfl⟩⟩))
  go_ret
  exact ⟨rfl, by first | exact HB.out | exact pw_below_drewN HB.out _⟩
 | false =>
  rw [h3] at hL
  rcases hP with p1 | ⟨p1, p2⟩ | ⟨p1, p2⟩
  ·rw [p1] at hL
   rcases hL with ⟨h, _⟩ | h | ⟨l1, l2⟩ | ⟨l1, l2, l3, l4⟩ | ⟨l1, l2, l3, l4, l5, l6, l7⟩
   ·cases h
   ·cases h
   all_goals
    go_enter Tryd.func29, Tryd.ntmps29
    go_wp2_with (first | (go_at_call 45; refine (HN.out _).mono ?_; rintro e w' ⟨rfl, ⟨q, rfl⟩⟩))
    go_ret
    exact ⟨rfl, by first | exact HB.out | exact pw_below_drewN HB.out _⟩
  ·rw [p1, p2] at hL
   rcases hL with ⟨_, h⟩ | h | ⟨l1, l2⟩ | ⟨l1, l2, l3, l4⟩ | ⟨l1, l2, l3, l4, l5, l6, l7⟩
   ·cases h
   ·cases h
   all_goals
    go_enter Tryd.func29, Tryd.ntmps29
    go_wp2_with (first | (go_at_call 45; refine (HN.out _).mono ?_; rintro e w' ⟨rfl, ⟨q, rfl⟩⟩))
    go_ret
    exact ⟨rfl, by first | exact HB.out | exact pw_below_drewN HB.out _⟩
  ·clear hL
   go_enter Tryd.func29, Tryd.ntmps29
   go_wp2_with (first | (go_at_call 45; refine (HN.out _).mono ?_; rintro e w' ⟨rfl, ⟨q, rfl⟩⟩))
   go_ret
   exact ⟨rfl, by first | exact HB.out | exact pw_below_drewN HB.out _⟩
end Go.Proofs.YtgbmlkmkfigolaaDoor.P
/- greenwoodref09.may, walked: what lies within. -/
namespace Go.Proofs.YtgbmlkmkfigolaaDoor.P
open Go.RowKit Go.Proofs.YtgbmlkmkfigolaaDoorW.PrintWords Go.Proofs.YtgbmlkmkfigolaaDoorW.PrintLast Go.Proofs.YtgbmlkmkfigolaaDoorW.PrintMore
set_option linter.unusedVariables false
set_option linter.unusedSimpArgs false

set_option maxHeartbeats 4000000 in
set_option maxRecDepth 100000 in
theorem may_4 {f : Mtr → Option Bool} (hf : MayOf f) (a0 a1 a2 a3 : Int) (l4 : List (List Int)) (l5 : List Mtr) (A4 : Option Addr) (c4 : Nat) (A5 : Option Addr) (c5 : Nat) (w : World) (hr4 : Kd.C (Kd.slice 3 (Kd.int .i64)) w A4 l4.length l4) (hc4 : l4.length ≤ c4) (hr5 : Kd.C k25 w A5 l5.length l5) (hc5 : l5.length ≤ c5) (g1 : decide (a1 < 0) = false) (g2 : decide (64 < a1) = false) (g3 : decide (a2 < 0) = false) (g4 : decide (64 < a2) = false) (h3 : (a3 != 0) = false) (l1 : decide (l5.length < 1) = false) (l2 : decide ((l5.length : Int) < 1) = false) (l3 : decide (8 < l5.length) = false) (l4' : decide (8 < (l5.length : Int)) = false) (hPQ : ((a2 != 0) = false ∧ decide (1 < l5.length) = false ∧ decide (1 < (l5.length : Int)) = false) ∨ ((a2 != 0) = false ∧ decide (1 < l5.length) = true ∧ decide (1 < (l5.length : Int)) = true ∧ (a0 != 9) = false) ∨ ((a2 != 0) = true ∧ (a0 != 7) = false ∧ decide (1 < l5.length) = false ∧ decide (1 < (l5.length : Int)) = false)) (h : nestsB a0 = true) (n : Int) (hn : sumsO f 0 l5 = some n) (b : Bool) (hb : (decide (n < 0) = true ∧ b = false) ∨ (decide (n < 0) = false ∧ decide (7 ≤ a0) = true ∧ ((l4.length : Int) == 0) = false ∧ b = false) ∨ (decide (n < 0) = false ∧ decide (7 ≤ a0) = true ∧ ((l4.length : Int) == 0) = true ∧ (a1 == n) = b)) :
 Calls Tryd.prog 29 #[.agg #[.int .i64 a0, .int .i64 a1, .int .i64 a2, .int .i64 a3, .slice A4 l4.length c4, .slice A5 l5.length c5]] w fun e w' => e = .returned (.bool b) ∧ Below w.heap.size w w' := by
 obtain ⟨W1, hW1⟩ : ∃ W1, W1 = w.alloc (Obj.cells #[.int .i64 a0, .int .i64 a1, .int .i64 a2, .int .i64 a3, .slice A4 l4.length c4, .slice A5 l5.length c5] 25) := ⟨_, rfl⟩
 have hB1 : Below w.heap.size w W1 := by subst hW1; exact (Below.refl _ _).alloc (Nat.le_refl _) _
 have hbx := mbox w 25 (.int .i64 a0) (.int .i64 a1) (.int .i64 a2) (.int .i64 a3) (.slice A4 l4.length c4) (.slice A5 l5.length c5)
 have hsz : w.heap.size < W1.heap.size := by
  subst hW1
  rw [show (w.alloc (Obj.cells #[.int .i64 a0, .int .i64 a1, .int .i64 a2, .int .i64 a3, .slice A4 l4.length c4, .slice A5 l5.length c5] 25)).heap.size = w.heap.size + 1 from Array.size_push ..]; omega
 rw [← hW1] at hbx
 have HB1 := Aside0.mk (And.intro hB1 (And.intro hbx hsz))
 have HW1 := Aside0.mk hW1
 have HN := Aside0.mk (fun W => rnests_c a0 W)
 rw [h] at HN
 have HSUM := Aside0.mk (fun (W : World) (hW : Below w.heap.size w W) => sums_c hf a0 a1 a2 a3 l4 l5 A4 c4 A5 c5 W n hn (Kd.C_below hr5 hW) hc5)
 clear hB1 hbx hsz hr4 hc4 hr5 hc5 hn h hf hW1
 rcases hPQ with ⟨p1, p2, p3⟩ | ⟨p1, p2, p3, p4⟩ | ⟨p1, p2, p3, p4⟩
 all_goals
  rcases hb with ⟨q1, rfl⟩ | ⟨q1, q2, q3, rfl⟩ | ⟨q1, q2, q3, q4⟩
 all_goals
  go_enter Tryd.func29, Tryd.ntmps29
  go_wp2_with (first | (go_at_call 47; rw [← HW1.out]; refine (HSUM.out _ (pw_below_drewN HB1.out.1 _)).mono ?_; rintro e w2 ⟨rfl, hb⟩; (have HB2 : Aside0 (Below W1.heap.size W1 w2) := ⟨(pw_below_drewN (Below.refl _ _) _).trans (hb.mono (Nat.le_refl _))⟩); (have z0 := (HB2.out.cell (p := ⟨w.heap.size, 0, none⟩) HB1.out.2.2).trans HB1.out.2.1.1); (have z1 := (HB2.out.cell (p := ⟨w.heap.size, 1, none⟩) HB1.out.2.2).trans HB1.out.2.1.2.1); (have z4 := (HB2.out.cell (p := ⟨w.heap.size, 4, none⟩) HB1.out.2.2).trans HB1.out.2.1.2.2.2.2.1); (have HBW : Aside0 (Below w.heap.size w w2) := ⟨HB1.out.1.trans (HB2.out.mono HB1.out.1.size)⟩); clear hb) | (go_at_call 45; refine (HN.out _).mono ?_; rintro e w' ⟨rfl, ⟨q, rfl⟩⟩))
  go_ret
  exact ⟨by simp [*], by repeat (first | exact HBW.out | apply pw_below_drewN)⟩
set_option maxHeartbeats 4000000 in
set_option maxRecDepth 100000 in
theorem may_5 {f : Mtr → Option Bool} (k : Nat) (hf : MayOf f) (a0 a1 a2 a3 : Int) (l4 : List (List Int)) (l5 : List Mtr) (A4 : Option Addr) (c4 : Nat) (A5 : Option Addr) (c5 : Nat) (w : World) (hr4 : Kd.C (Kd.slice 3 (Kd.int .i64)) w A4 l4.length l4) (hc4 : l4.length ≤ c4) (hr5 : Kd.C k25 w A5 l5.length l5) (hc5 : l5.length ≤ c5) (g1 : decide (a1 < 0) = false) (g2 : decide (64 < a1) = false) (g3 : decide (a2 < 0) = false) (g4 : decide (64 < a2) = false) (h3 : (a3 != 0) = false) (l1 : decide (l5.length < 1) = false) (l2 : decide ((l5.length : Int) < 1) = false) (l3 : decide (8 < l5.length) = false) (l4' : decide (8 < (l5.length : Int)) = false) (h : nestsB a0 = true) (n : Int) (hn : sumsO f 0 l5 = some n) (q1 : decide (n < 0) = false) (q2 : decide (7 ≤ a0) = false) (hP : (a2 != 0) = false) (hQ : decide (1 < l5.length) = false) (hQ' : decide (1 < (l5.length : Int)) = false) (b : Bool) (s : Bool) (hb : (((l4.length : Int) != 1) = true ∧ b = false) ∨ (((l4.length : Int) != 1) = false ∧ 0 < l4.length ∧ greenwoodref09_Set.f k (rd_L1 l4 0) n = some s ∧ ((s = false ∧ b = false) ∨ (s = true ∧ (a0 == 5) = true ∧ (a1 == ((rd_L1 l4 0).length : Int)) = b) ∨ (s = true ∧ (a0 == 5) = false ∧ (a1 == wrap64 (n - ((rd_L1 l4 0).length : Int))) = b)))) :
 Calls Tryd.prog 29 #[.agg #[.int .i64 a0, .int .i64 a1, .int .i64 a2, .int .i64 a3, .slice A4 l4.length c4, .slice A5 l5.length c5]] w fun e w' => e = .returned (.bool b) ∧ Below w.heap.size w w' := by
 obtain ⟨W1, hW1⟩ : ∃ W1, W1 = w.alloc (Obj.cells #[.int .i64 a0, .int .i64 a1, .int .i64 a2, .int .i64 a3, .slice A4 l4.length c4, .slice A5 l5.length c5] 25) := ⟨_, rfl⟩
 have hB1 : Below w.heap.size w W1 := by subst hW1; exact (Below.refl _ _).alloc (Nat.le_refl _) _
 have hbx := mbox w 25 (.int .i64 a0) (.int .i64 a1) (.int .i64 a2) (.int .i64 a3) (.slice A4 l4.length c4) (.slice A5 l5.length c5)
 have hsz : w.heap.size < W1.heap.size := by
  subst hW1
  rw [show (w.alloc (Obj.cells #[.int .i64 a0, .int .i64 a1, .int .i64 a2, .int .i64 a3, .slice A4 l4.length c4, .slice A5 l5.length c5] 25)).heap.size = w.heap.size + 1 from Array.size_push ..]; omega
 rw [← hW1] at hbx
 have HB1 := Aside0.mk (And.intro hB1 (And.intro hbx hsz))
 have HW1 := Aside0.mk hW1
 have HN := Aside0.mk (fun W => rnests_c a0 W)
 rw [h] at HN
 have HSUM := Aside0.mk (fun (W : World) (hW : Below w.heap.size w W) => sums_c hf a0 a1 a2 a3 l4 l5 A4 c4 A5 c5 W n hn (Kd.C_below hr5 hW) hc5)
 rcases hb with ⟨q3, rfl⟩ | ⟨q3, h0, hset, hb⟩
 ·clear hB1 hbx hsz hr4 hc4 hr5 hc5 hn h hf hW1
  go_enter Tryd.func29, Tryd.ntmps29
  go_wp2_with (first | (go_at_call 47; rw [← HW1.out]; refine (HSUM.out _ (pw_below_drewN HB1.out.1 _)).mono ?_; rintro e w2 ⟨rfl, hb⟩; (have HB2 : Aside0 (Below W1.heap.size W1 w2) := ⟨(pw_below_drewN (Below.refl _ _) _).trans (hb.mono (Nat.le_refl _))⟩); (have z0 := (HB2.out.cell (p := ⟨w.heap.size, 0, none⟩) HB1.out.2.2).trans HB1.out.2.1.1); (have z1 := (HB2.out.cell (p := ⟨w.heap.size, 1, none⟩) HB1.out.2.2).trans HB1.out.2.1.2.1); (have z4 := (HB2.out.cell (p := ⟨w.heap.size, 4, none⟩) HB1.out.2.2).trans HB1.out.2.1.2.2.2.2.1); (have HBW : Aside0 (Below w.heap.size w w2) := ⟨HB1.out.1.trans (HB2.out.mono HB1.out.1.size)⟩); clear hb) | (go_at_call 45; refine (HN.out _).mono ?_; rintro e w' ⟨rfl, ⟨q, rfl⟩⟩))
  go_ret
  exact ⟨by simp [*], by repeat (first | exact HBW.out | apply pw_below_drewN)⟩
 ·obtain ⟨ad, A0, c0, hA, x0, hl0, hR0⟩ := at_L1 hr4 0 (by omega) (by omega)
  subst hA
  rw [show (0 : Int).toNat = 0 from rfl, Addr.add_zero'] at x0
  have HSET := Aside0.mk (fun (W : World) (hW : Aside0 (Below w.heap.size w W)) => greenwoodref09_Set.calls k A0 c0 (rd_L1 l4 0) n s W (Kd.C_below hR0 hW.out) hl0 hset)
  have HX0 := Aside0.mk x0
  clear hB1 hbx hsz hr4 hc4 hr5 hc5 hn h hf hW1 hR0 hl0 hset x0
  generalize rd_L1 l4 0 = x at *
  rcases hb with ⟨rfl, rfl⟩ | ⟨rfl, q4, q5⟩ | ⟨rfl, q4, q5⟩
  all_goals
   go_enter Tryd.func29, Tryd.ntmps29
   go_wp2_with (first | (go_at_call 17; refine (HSET.out _ (by first | exact HBW | exact ⟨pw_below_drewN HBW.out _⟩)).mono ?_; rintro e w' ⟨rfl, ⟨q3, rfl⟩⟩) | (go_at_call 47; rw [← HW1.out]; refine (HSUM.out _ (pw_below_drewN HB1.out.1 _)).mono ?_; rintro e w2 ⟨rfl, hb⟩; (have HB2 : Aside0 (Below W1.heap.size W1 w2) := ⟨(pw_below_drewN (Below.refl _ _) _).trans (hb.mono (Nat.le_refl _))⟩); (have z0 := (HB2.out.cell (p := ⟨w.heap.size, 0, none⟩) HB1.out.2.2).trans HB1.out.2.1.1); (have z1 := (HB2.out.cell (p := ⟨w.heap.size, 1, none⟩) HB1.out.2.2).trans HB1.out.2.1.2.1); (have z4 := (HB2.out.cell (p := ⟨w.heap.size, 4, none⟩) HB1.out.2.2).trans HB1.out.2.1.2.2.2.2.1); (have HBW : Aside0 (Below w.heap.size w w2) := ⟨HB1.out.1.trans (HB2.out.mono HB1.out.1.size)⟩); (have x0 := (HBW.out.cell (World.block_lt_of_cell? w _ HX0.out)).trans HX0.out); clear hb) | (go_at_call 45; refine (HN.out _).mono ?_; rintro e w' ⟨rfl, ⟨q, rfl⟩⟩))
   repeat (go_quiet (fail); try go_wp2)
   go_ret
   exact ⟨by simp [*], by repeat (first | exact HBW.out | apply pw_below_drewN)⟩
theorem beqd (a c : Int) : (a == c) = decide (a = c) := by by_cases h : a = c <;> simp [h]
theorem may_step (k : Nat) (ih : MayOf (fun x => greenwoodref09_may.f k x.f0 x.f1 x.f2 x.f3 x.f4 x.f5)) : MayOf (fun x => greenwoodref09_may.f (k + 1) x.f0 x.f1 x.f2 x.f3 x.f4 x.f5) := by
 intro a0 a1 a2 a3 l4 l5 A4 c4 A5 c5 w b h hr4 hc4 hr5 hc5
 replace h : greenwoodref09_may.f (k + 1) a0 a1 a2 a3 l4 l5 = some b := h
 unfold greenwoodref09_may.f at h
 by_cases h1 : a1 < 0 ∨ 64 < a1 ∨ a2 < 0 ∨ 64 < a2
 ·rw [if_pos h1] at h
  obtain rfl := Option.some.inj h
  exact may_1 a0 a1 a2 a3 l4 l5 A4 c4 A5 c5 w h1
 rw [if_neg h1] at h
 have g1 : decide (a1 < 0) = false := decide_eq_false (fun h => h1 (.inl h))
 have g2 : decide (64 < a1) = false := decide_eq_false (fun h => h1 (.inr (.inl h)))
 have g3 : decide (a2 < 0) = false := decide_eq_false (fun h => h1 (.inr (.inr (.inl h))))
 have g4 : decide (64 < a2) = false := decide_eq_false (fun h => h1 (.inr (.inr (.inr h))))
 by_cases h2 : nestsB a0 = false
 ·rw [if_pos h2] at h
  exact may_2 k b a0 a1 a2 a3 l4 l5 A4 c4 A5 c5 w hr4 hc4 hr5 hc5 g1 g2 g3 g4 h2 h
 rw [if_neg h2] at h
 have h2' : nestsB a0 = true := by cases e : nestsB a0 with | true => rfl | false => exact absurd e h2
 by_cases h3 : a3 ≠ 0 ∨ (a2 ≠ 0 ∧ a0 ≠ 7) ∨ l5.length < 1 ∨ 8 < l5.length ∨ (1 < l5.length ∧ a0 ≠ 9)
 ·rw [if_pos h3] at h
  obtain rfl := Option.some.inj h
  exact may_3 a0 a1 a2 a3 l4 l5 A4 c4 A5 c5 w g1 g2 g3 g4 h2' h3
 rw [if_neg h3] at h
 have e3 : a3 = 0 := Decidable.byContradiction (fun e => h3 (.inl e))
 have e7 : a2 = 0 ∨ a0 = 7 := by
  by_cases e : a2 = 0
  ·exact .inl e
  ·exact .inr (Decidable.byContradiction (fun e' => h3 (.inr (.inl ⟨e, e'⟩))))
 have e9 : ¬ 1 < l5.length ∨ a0 = 9 := by
  by_cases e : 1 < l5.length
  ·exact .inr (Decidable.byContradiction (fun e' => h3 (.inr (.inr (.inr (.inr ⟨e, e'⟩))))))
  ·exact .inl e
 have el1 : ¬ l5.length < 1 := fun e => h3 (.inr (.inr (.inl e)))
 have el8 : ¬ 8 < l5.length := fun e => h3 (.inr (.inr (.inr (.inl e))))
 obtain ⟨n, hn, h⟩ := Option.bind_eq_some_iff.mp h
 have b3 : (a3 != 0) = false := by simp [e3]
 have d1 : decide (l5.length < 1) = false := decide_eq_false el1
 have d2 : decide ((l5.length : Int) < 1) = false := decide_eq_false (by omega)
 have d3 : decide (8 < l5.length) = false := decide_eq_false el8
 have d4 : decide (8 < (l5.length : Int)) = false := decide_eq_false (by omega)
 have hPQ : ((a2 != 0) = false ∧ decide (1 < l5.length) = false ∧ decide (1 < (l5.length : Int)) = false) ∨ ((a2 != 0) = false ∧ decide (1 < l5.length) = true ∧ decide (1 < (l5.length : Int)) = true ∧ (a0 != 9) = false) ∨ ((a2 != 0) = true ∧ (a0 != 7) = false ∧ decide (1 < l5.length) = false ∧ decide (1 < (l5.length : Int)) = false) := by
  by_cases e2 : a2 = 0
  ·by_cases e1 : 1 < l5.length
   ·exact .inr (.inl ⟨by simp [e2], decide_eq_true e1, decide_eq_true (by omega), by rcases e9 with e | e; exact absurd e1 e; simp [e]⟩)
   ·exact .inl ⟨by simp [e2], decide_eq_false e1, decide_eq_false (by omega)⟩
  ·have e0 : a0 = 7 := by rcases e7 with e | e; exact absurd e e2; exact e
   have e1 : ¬ 1 < l5.length := by rcases e9 with e | e; exact e; omega
   exact .inr (.inr ⟨by simp [e2], by simp [e0], decide_eq_false e1, decide_eq_false (by omega)⟩)
 by_cases hneg : n < 0
 ·rw [if_pos hneg] at h
  obtain rfl := Option.some.inj h
  exact may_4 ih a0 a1 a2 a3 l4 l5 A4 c4 A5 c5 w hr4 hc4 hr5 hc5 g1 g2 g3 g4 b3 d1 d2 d3 d4 hPQ h2' n hn false (.inl ⟨decide_eq_true hneg, rfl⟩)
 rw [if_neg hneg] at h
 by_cases h7 : 7 ≤ a0
 ·rw [if_pos h7] at h
  have hb := Option.some.inj h
  refine may_4 ih a0 a1 a2 a3 l4 l5 A4 c4 A5 c5 w hr4 hc4 hr5 hc5 g1 g2 g3 g4 b3 d1 d2 d3 d4 hPQ h2' n hn b ?_
  by_cases h4 : l4.length = 0
  ·refine .inr (.inr ⟨decide_eq_false hneg, decide_eq_true h7, by simp [h4], ?_⟩)
   rw [← hb, decide_eq_true h4, Bool.true_and, beqd]
  ·refine .inr (.inl ⟨decide_eq_false hneg, decide_eq_true h7, by simp [h4], ?_⟩)
   rw [← hb, decide_eq_false h4, Bool.false_and]
 rw [if_neg h7] at h
 have e2 : a2 = 0 := by rcases e7 with e | e; exact e; omega
 have e1 : ¬ 1 < l5.length := by rcases e9 with e | e; exact e; omega
 by_cases h4 : l4.length ≠ 1
 ·rw [if_pos h4] at h
  obtain rfl := Option.some.inj h
  exact may_5 k ih a0 a1 a2 a3 l4 l5 A4 c4 A5 c5 w hr4 hc4 hr5 hc5 g1 g2 g3 g4 b3 d1 d2 d3 d4 h2' n hn (decide_eq_false hneg) (decide_eq_false h7) (by simp [e2]) (decide_eq_false e1) (decide_eq_false (by omega)) false true (.inl ⟨by simp; omega, rfl⟩)
 rw [if_neg h4] at h
 obtain ⟨s, hs, h⟩ := Option.bind_eq_some_iff.mp h
 refine may_5 k ih a0 a1 a2 a3 l4 l5 A4 c4 A5 c5 w hr4 hc4 hr5 hc5 g1 g2 g3 g4 b3 d1 d2 d3 d4 h2' n hn (decide_eq_false hneg) (decide_eq_false h7) (by simp [e2]) (decide_eq_false e1) (decide_eq_false (by omega)) b s (.inr ⟨by simp; omega, by omega, hs, ?_⟩)
 cases s with
 | false =>
  rw [if_pos rfl] at h
  exact .inl ⟨rfl, (Option.some.inj h).symm⟩
 | true =>
  rw [if_neg (by simp)] at h
  by_cases h5 : a0 = 5
  ·rw [if_pos h5] at h
   exact .inr (.inl ⟨rfl, by simp [h5], by rw [beqd]; exact Option.some.inj h⟩)
  ·rw [if_neg h5] at h
   exact .inr (.inr ⟨rfl, by simp [h5], by rw [beqd]; exact Option.some.inj h⟩)
theorem may_all : ∀ k, MayOf (fun x => greenwoodref09_may.f k x.f0 x.f1 x.f2 x.f3 x.f4 x.f5)
 | 0 => fun a0 a1 a2 a3 l4 l5 A4 c4 A5 c5 w b h => by
  replace h : greenwoodref09_may.f 0 a0 a1 a2 a3 l4 l5 = some b := h
  simp [greenwoodref09_may.f] at h
 | k + 1 => may_step k (may_all k)
theorem greenwoodref09_may.calls (k : Nat) (a0_0 : Int) (a0_1 : Int) (a0_2 : Int) (a0_3 : Int) (A0_4 : Option Addr) (c0_4 : Nat) (l0_4 : List (List Int)) (A0_5 : Option Addr) (c0_5 : Nat) (l0_5 : List Mtr) (r : Bool) (w : World) (hr0_4 : Kd.C (Kd.slice 3 (Kd.int .i64)) w A0_4 l0_4.length l0_4) (hc0_4 : l0_4.length ≤ c0_4) (hr0_5 : Kd.C k25 w A0_5 l0_5.length l0_5) (hc0_5 : l0_5.length ≤ c0_5) (h : greenwoodref09_may.f k a0_0 a0_1 a0_2 a0_3 l0_4 l0_5 = some r) :
 Calls Tryd.prog 29 #[.agg #[.int .i64 a0_0, .int .i64 a0_1, .int .i64 a0_2, .int .i64 a0_3, .slice A0_4 l0_4.length c0_4, .slice A0_5 l0_5.length c0_5]] w fun e w' => e = .returned (.bool r) ∧ Below w.heap.size w w' :=
 may_all k a0_0 a0_1 a0_2 a0_3 l0_4 l0_5 A0_4 c0_4 A0_5 c0_5 w r h hr0_4 hc0_4 hr0_5 hc0_5
end Go.Proofs.YtgbmlkmkfigolaaDoor.P
namespace Go.Proofs.YtgbmlkmkfigolaaDoor.P
open Go.RowKit Go.Proofs.YtgbmlkmkfigolaaDoorW.PrintWords Go.Proofs.YtgbmlkmkfigolaaDoorW.PrintLast Go.Proofs.YtgbmlkmkfigolaaDoorW.PrintMore
attribute [local go_sem] max2_int min2_int max_two min_two max_three min_three max_four min_four   -- for this text's walks alone
set_option linter.unusedVariables false
set_option linter.unusedSimpArgs false

/-! ### greenwoodref09_Check: function 13 -/
def greenwoodref09_Check.f (k : Nat) (a0_0 : Int) (a0_1 : Int) (a0_2 : Int) (a0_3 : Int) (l0_4 : List (List Int)) (l0_5 : List (S25)) : Option (Int) := (greenwoodref09_Deep.f k a0_0 a0_1 a0_2 a0_3 l0_4 l0_5).bind fun t228 => (if t228 = 5 then (some 91) else ((greenwoodref09_may.f k a0_0 a0_1 a0_2 a0_3 l0_4 l0_5).bind fun t229 => (if t229 = true then (some 0) else (some 90))))
set_option maxHeartbeats 8000000 in
set_option maxRecDepth 100000 in
theorem greenwoodref09_Check.calls (k : Nat) (a0_0 : Int) (a0_1 : Int) (a0_2 : Int) (a0_3 : Int) (A0_4 : Option Addr) (c0_4 : Nat) (l0_4 : List (List Int)) (A0_5 : Option Addr) (c0_5 : Nat) (l0_5 : List (S25)) (r : Int) (w : World) (hr0_4 : Kd.C (Kd.slice 3 (Kd.int .i64)) w A0_4 l0_4.length l0_4) (hc0_4 : l0_4.length ≤ c0_4) (hr0_5 : Kd.C k25 w A0_5 l0_5.length l0_5) (hc0_5 : l0_5.length ≤ c0_5) (h : greenwoodref09_Check.f k a0_0 a0_1 a0_2 a0_3 l0_4 l0_5 = some r) :
 Calls Tryd.prog 13 #[.agg #[.int .i64 a0_0, .int .i64 a0_1, .int .i64 a0_2, .int .i64 a0_3, .slice A0_4 l0_4.length c0_4, .slice A0_5 l0_5.length c0_5]] w fun e w' => e = .returned (.int .i64 r) ∧ Below w.heap.size w w' := by
 have hu25 := Tryd.underlying25
 have HR0_4 := Aside0.mk hr0_4
 have HC0_4 := Aside0.mk hc0_4
 clear hr0_4 hc0_4
 have HR0_5 := Aside0.mk hr0_5
 have HC0_5 := Aside0.mk hc0_5
 clear hr0_5 hc0_5
 have HB := Aside0.mk (Below.refl w.heap.size w)
 have H : ((greenwoodref09_Deep.f k a0_0 a0_1 a0_2 a0_3 l0_4 l0_5).bind fun t228 => (if t228 = 5 then (some 91) else ((greenwoodref09_may.f k a0_0 a0_1 a0_2 a0_3 l0_4 l0_5).bind fun t229 => (if t229 = true then (some 0) else (some 90))))) = some r := h
 clear h
 replace H := Option.bind_eq_some_iff.mp H
 obtain ⟨t228, A20, H⟩ := H
 replace H : (if t228 = 5 then (some 91) else ((greenwoodref09_may.f k a0_0 a0_1 a0_2 a0_3 l0_4 l0_5).bind fun t229 => (if t229 = true then (some 0) else (some 90)))) = some r := H
 have A2 := Aside0.mk A20
 clear A20
 by_cases c3 : t228 = 5
 ·rw [if_pos c3] at H
  have c3b0 : (t228 == 5) = true := beq_iff_eq.mpr c3
  have c3b1 : (t228 != 5) = false := bne_eq_false_iff_eq.mpr c3
  clear c3
  obtain rfl := Option.some.inj H
  go_enter Tryd.func13, Tryd.ntmps13
  go_wp2_with (first | ((with_reducible refine gate_dst (N := 1) rfl ?_); refine box_event ?hg (N := 1) ?hd (cs := #[.int .i64 a0_0, .int .i64 a0_1, .int .i64 a0_2, .int .i64 a0_3, .slice A0_4 l0_4.length c0_4, .slice A0_5 l0_5.length c0_5]) (t := 25) ?hr ?_; (case hd => rfl); (case hg => rfl); (case hr => first | (go_simp; done) | (go_simp; rfl)); intro gb227 hg w4 hbox hb; have n0_ := Aside0.mk (below_step (by repeat (first | (with_reducible first | exact HB.out | apply below_alloc | apply pw_below_drewN | apply below_drew1) | exact HB.out)) hb); have n1_ := Aside0.mk (hbox); have n2_ := Aside0.mk ((by rw [hg]; exact (below_size (by repeat (first | (with_reducible first | exact HB.out | apply below_alloc | apply pw_below_drewN | apply below_drew1) | exact HB.out))) : w.heap.size ≤ gb227)); have n3_ := Aside0.mk ((by rw [hg]; exact (below_size (by repeat (first | (with_reducible first | exact HB.out | apply below_alloc | apply pw_below_drewN | apply below_drew1) | exact HB.out))) : w.heap.size ≤ gb227)); clear HB; have HB := n0_; have BK227 := n1_; have GW227 := n2_; have GE227 := n3_; clear n0_ n1_ n2_ n3_; clear hb hbox hg; have hcz5_0 : w4.cell? ⟨gb227, 0, none⟩ = some (.int .i64 a0_0) := (blk_cell BK227.out 0).trans rfl; have hcz5_1 : w4.cell? ⟨gb227, 1, none⟩ = some (.int .i64 a0_1) := (blk_cell BK227.out 1).trans rfl; have hcz5_2 : w4.cell? ⟨gb227, 2, none⟩ = some (.int .i64 a0_2) := (blk_cell BK227.out 2).trans rfl; have hcz5_3 : w4.cell? ⟨gb227, 3, none⟩ = some (.int .i64 a0_3) := (blk_cell BK227.out 3).trans rfl; have hcz5_4 : w4.cell? ⟨gb227, 4, none⟩ = some (.slice A0_4 l0_4.length c0_4) := (blk_cell BK227.out 4).trans rfl; have hcz5_5 : w4.cell? ⟨gb227, 5, none⟩ = some (.slice A0_5 l0_5.length c0_5) := (blk_cell BK227.out 5).trans rfl; have hfz5_0 := blk_frozen BK227.out 0; have hfz5_1 := blk_frozen BK227.out 1; have hfz5_2 := blk_frozen BK227.out 2; have hfz5_3 := blk_frozen BK227.out 3; have hfz5_4 := blk_frozen BK227.out 4; have hfz5_5 := blk_frozen BK227.out 5) | ((with_reducible refine gate_callee (f := 15) rfl ?_); refine goesL_ (some 4) rfl rfl Tryd.func15 (by kernel_rfl) rfl #[.agg #[.int .i64 a0_0, .int .i64 a0_1, .int .i64 a0_2, .int .i64 a0_3, .slice A0_4 l0_4.length c0_4, .slice A0_5 l0_5.length c0_5]] rfl (by (try simp only [List.map_toArray, List.map_cons, List.map_nil]); first | done | rfl | (simp only [List.length_drop, List.length_take]; rfl)) ?_; (with_reducible refine (greenwoodref09_Deep.calls k a0_0 a0_1 a0_2 a0_3 _ _ l0_4 _ _ l0_5 t228 _ ?side1 ?side2 ?side3 ?side4 A2.out).mono ?_); (case side1 => repeat (first | exact (Kd.C_below HR0_4.out HB.out) | (with_reducible refine Kd.C_alloc ?_ _) | (with_reducible refine Kd.C_drewN ?_ _) | (with_reducible refine Kd.C_drew ?_))); (case side2 => exact HC0_4.out); (case side3 => repeat (first | exact (Kd.C_below HR0_5.out HB.out) | (with_reducible refine Kd.C_alloc ?_ _) | (with_reducible refine Kd.C_drewN ?_ _) | (with_reducible refine Kd.C_drew ?_))); (case side4 => exact HC0_5.out); rintro e w6 ⟨rfl, hb⟩; refine ⟨_, rfl, ?_⟩; have n0_ := Aside0.mk (blk_below (g := gb227) (o := .cells #[.int .i64 a0_0, .int .i64 a0_1, .int .i64 a0_2, .int .i64 a0_3, .slice A0_4 l0_4.length c0_4, .slice A0_5 l0_5.length c0_5] 25 (0, 0)) (by (with_reducible repeat (first | refine blk_drewN ?_ _ | refine blk_drew ?_ | refine blk_alloc ?_ _)); exact BK227.out) hb); have n1_ := Aside0.mk (below_step (by repeat (first | (with_reducible first | exact HB.out | apply below_alloc | apply pw_below_drewN | apply below_drew1 | refine below_set ?_ GE227.out) | exact HB.out)) hb); clear BK227; clear HB; have BK227 := n0_; have HB := n1_; clear n0_ n1_; (try clear hb); (try clear hb2); (try clear hk); (try clear hi)))
  go_ret
  exact ⟨by first | rfl | (simp [errW_none, errW_some] <;> rfl) | (simp [*, errW_none, errW_some] <;> rfl), by repeat (first | (with_reducible first | exact HB.out | apply below_alloc | apply pw_below_drewN | apply below_drew1 | refine below_set ?_ GE227.out) | exact HB.out)⟩
 ·rw [if_neg c3] at H
  have c3b0 : (t228 == 5) = false := beq_eq_false_iff_ne.mpr c3
  have c3b1 : (t228 != 5) = true := bne_iff_ne.mpr c3
  replace H := Option.bind_eq_some_iff.mp H
  obtain ⟨t229, A70, H⟩ := H
  replace H : (if t229 = true then (some 0) else (some 90)) = some r := H
  have A7 := Aside0.mk A70
  clear A70
  by_cases c8 : t229 = true
  ·subst c8
   have H1 : (some 0) = some r := by rw [if_pos rfl] at H; exact H
   clear H
   have H := H1
   clear H1
   obtain rfl := Option.some.inj H
   go_enter Tryd.func13, Tryd.ntmps13
   go_wp2_with (first | ((with_reducible refine gate_dst (N := 1) rfl ?_); refine box_event ?hg (N := 1) ?hd (cs := #[.int .i64 a0_0, .int .i64 a0_1, .int .i64 a0_2, .int .i64 a0_3, .slice A0_4 l0_4.length c0_4, .slice A0_5 l0_5.length c0_5]) (t := 25) ?hr ?_; (case hd => rfl); (case hg => rfl); (case hr => first | (go_simp; done) | (go_simp; rfl)); intro gb227 hg w9 hbox hb; have n0_ := Aside0.mk (below_step (by repeat (first | (with_reducible first | exact HB.out | apply below_alloc | apply pw_below_drewN | apply below_drew1) | exact HB.out)) hb); have n1_ := Aside0.mk (hbox); have n2_ := Aside0.mk ((by rw [hg]; exact (below_size (by repeat (first | (with_reducible first | exact HB.out | apply below_alloc | apply pw_below_drewN | apply below_drew1) | exact HB.out))) : w.heap.size ≤ gb227)); have n3_ := Aside0.mk ((by rw [hg]; exact (below_size (by repeat (first | (with_reducible first | exact HB.out | apply below_alloc | apply pw_below_drewN | apply below_drew1) | exact HB.out))) : w.heap.size ≤ gb227)); clear HB; have HB := n0_; have BK227 := n1_; have GW227 := n2_; have GE227 := n3_; clear n0_ n1_ n2_ n3_; clear hb hbox hg; have hcz10_0 : w9.cell? ⟨gb227, 0, none⟩ = some (.int .i64 a0_0) := (blk_cell BK227.out 0).trans rfl; have hcz10_1 : w9.cell? ⟨gb227, 1, none⟩ = some (.int .i64 a0_1) := (blk_cell BK227.out 1).trans rfl; have hcz10_2 : w9.cell? ⟨gb227, 2, none⟩ = some (.int .i64 a0_2) := (blk_cell BK227.out 2).trans rfl; have hcz10_3 : w9.cell? ⟨gb227, 3, none⟩ = some (.int .i64 a0_3) := (blk_cell BK227.out 3).trans rfl; have hcz10_4 : w9.cell? ⟨gb227, 4, none⟩ = some (.slice A0_4 l0_4.length c0_4) := (blk_cell BK227.out 4).trans rfl; have hcz10_5 : w9.cell? ⟨gb227, 5, none⟩ = some (.slice A0_5 l0_5.length c0_5) := (blk_cell BK227.out 5).trans rfl; have hfz10_0 := blk_frozen BK227.out 0; have hfz10_1 := blk_frozen BK227.out 1; have hfz10_2 := blk_frozen BK227.out 2; have hfz10_3 := blk_frozen BK227.out 3; have hfz10_4 := blk_frozen BK227.out 4; have hfz10_5 := blk_frozen BK227.out 5) | ((with_reducible refine gate_callee (f := 15) rfl ?_); refine goesL_ (some 4) rfl rfl Tryd.func15 (by kernel_rfl) rfl #[.agg #[.int .i64 a0_0, .int .i64 a0_1, .int .i64 a0_2, .int .i64 a0_3, .slice A0_4 l0_4.length c0_4, .slice A0_5 l0_5.length c0_5]] rfl (by (try simp only [List.map_toArray, List.map_cons, List.map_nil]); first | done | rfl | (simp only [List.length_drop, List.length_take]; rfl)) ?_; (with_reducible refine (greenwoodref09_Deep.calls k a0_0 a0_1 a0_2 a0_3 _ _ l0_4 _ _ l0_5 t228 _ ?side1 ?side2 ?side3 ?side4 A2.out).mono ?_); (case side1 => repeat (first | exact (Kd.C_below HR0_4.out HB.out) | (with_reducible refine Kd.C_alloc ?_ _) | (with_reducible refine Kd.C_drewN ?_ _) | (with_reducible refine Kd.C_drew ?_))); (case side2 => exact HC0_4.out); (case side3 => repeat (first | exact (Kd.C_below HR0_5.out HB.out) | (with_reducible refine Kd.C_alloc ?_ _) | (with_reducible refine Kd.C_drewN ?_ _) | (with_reducible refine Kd.C_drew ?_))); (case side4 => exact HC0_5.out); rintro e w11 ⟨rfl, hb⟩; refine ⟨_, rfl, ?_⟩; have n0_ := Aside0.mk (blk_below (g := gb227) (o := .cells #[.int .i64 a0_0, .int .i64 a0_1, .int .i64 a0_2, .int .i64 a0_3, .slice A0_4 l0_4.length c0_4, .slice A0_5 l0_5.length c0_5] 25 (0, 0)) (by (with_reducible repeat (first | refine blk_drewN ?_ _ | refine blk_drew ?_ | refine blk_alloc ?_ _)); exact BK227.out) hb); have n1_ := Aside0.mk (below_step (by repeat (first | (with_reducible first | exact HB.out | apply below_alloc | apply pw_below_drewN | apply below_drew1 | refine below_set ?_ GE227.out) | exact HB.out)) hb); clear BK227; clear HB; have BK227 := n0_; have HB := n1_; clear n0_ n1_; (try clear hb); (try clear hb2); (try clear hk); (try clear hi); have hcz12_0 : w11.cell? ⟨gb227, 0, none⟩ = some (.int .i64 a0_0) := (blk_cell BK227.out 0).trans rfl; have hcz12_1 : w11.cell? ⟨gb227, 1, none⟩ = some (.int .i64 a0_1) := (blk_cell BK227.out 1).trans rfl; have hcz12_2 : w11.cell? ⟨gb227, 2, none⟩ = some (.int .i64 a0_2) := (blk_cell BK227.out 2).trans rfl; have hcz12_3 : w11.cell? ⟨gb227, 3, none⟩ = some (.int .i64 a0_3) := (blk_cell BK227.out 3).trans rfl; have hcz12_4 : w11.cell? ⟨gb227, 4, none⟩ = some (.slice A0_4 l0_4.length c0_4) := (blk_cell BK227.out 4).trans rfl; have hcz12_5 : w11.cell? ⟨gb227, 5, none⟩ = some (.slice A0_5 l0_5.length c0_5) := (blk_cell BK227.out 5).trans rfl; have hfz12_0 := blk_frozen BK227.out 0; have hfz12_1 := blk_frozen BK227.out 1; have hfz12_2 := blk_frozen BK227.out 2; have hfz12_3 := blk_frozen BK227.out 3; have hfz12_4 := blk_frozen BK227.out 4; have hfz12_5 := blk_frozen BK227.out 5) | ((with_reducible refine gate_callee (f := 29) rfl ?_); refine goesL_ (some 7) rfl rfl Tryd.func29 (by kernel_rfl) rfl #[.agg #[.int .i64 a0_0, .int .i64 a0_1, .int .i64 a0_2, .int .i64 a0_3, .slice A0_4 l0_4.length c0_4, .slice A0_5 l0_5.length c0_5]] rfl (by (try simp only [List.map_toArray, List.map_cons, List.map_nil]); first | done | rfl | (simp only [List.length_drop, List.length_take]; rfl)) ?_; (with_reducible refine (greenwoodref09_may.calls k a0_0 a0_1 a0_2 a0_3 _ _ l0_4 _ _ l0_5 true _ ?side1 ?side2 ?side3 ?side4 A7.out).mono ?_); (case side1 => repeat (first | exact (Kd.C_below HR0_4.out HB.out) | (with_reducible refine Kd.C_alloc ?_ _) | (with_reducible refine Kd.C_drewN ?_ _) | (with_reducible refine Kd.C_drew ?_))); (case side2 => exact HC0_4.out); (case side3 => repeat (first | exact (Kd.C_below HR0_5.out HB.out) | (with_reducible refine Kd.C_alloc ?_ _) | (with_reducible refine Kd.C_drewN ?_ _) | (with_reducible refine Kd.C_drew ?_))); (case side4 => exact HC0_5.out); rintro e w13 ⟨rfl, hb⟩; refine ⟨_, rfl, ?_⟩; have n0_ := Aside0.mk (blk_below (g := gb227) (o := .cells #[.int .i64 a0_0, .int .i64 a0_1, .int .i64 a0_2, .int .i64 a0_3, .slice A0_4 l0_4.length c0_4, .slice A0_5 l0_5.length c0_5] 25 (0, 0)) (by (with_reducible repeat (first | refine blk_drewN ?_ _ | refine blk_drew ?_ | refine blk_alloc ?_ _)); exact BK227.out) hb); have n1_ := Aside0.mk (below_step (by repeat (first | (with_reducible first | exact HB.out | apply below_alloc | apply pw_below_drewN | apply below_drew1 | refine below_set ?_ GE227.out) | exact HB.out)) hb); clear BK227; clear HB; have BK227 := n0_; have HB := n1_; clear n0_ n1_; (try clear hb); (try clear hb2); (try clear hk); (try clear hi)))
   go_ret
   exact ⟨by first | rfl | (simp [errW_none, errW_some] <;> rfl) | (simp [*, errW_none, errW_some] <;> rfl), by repeat (first | (with_reducible first | exact HB.out | apply below_alloc | apply pw_below_drewN | apply below_drew1 | refine below_set ?_ GE227.out) | exact HB.out)⟩
  ·replace c8 := Bool.eq_false_iff.mpr c8
   subst c8
   have H1 : (some 90) = some r := by rw [if_neg (show ¬ (false = true) by decide)] at H; exact H
   clear H
   have H := H1
   clear H1
   obtain rfl := Option.some.inj H
   go_enter Tryd.func13, Tryd.ntmps13
   go_wp2_with (first | ((with_reducible refine gate_dst (N := 1) rfl ?_); refine box_event ?hg (N := 1) ?hd (cs := #[.int .i64 a0_0, .int .i64 a0_1, .int .i64 a0_2, .int .i64 a0_3, .slice A0_4 l0_4.length c0_4, .slice A0_5 l0_5.length c0_5]) (t := 25) ?hr ?_; (case hd => rfl); (case hg => rfl); (case hr => first | (go_simp; done) | (go_simp; rfl)); intro gb227 hg w14 hbox hb; have n0_ := Aside0.mk (below_step (by repeat (first | (with_reducible first | exact HB.out | apply below_alloc | apply pw_below_drewN | apply below_drew1) | exact HB.out)) hb); have n1_ := Aside0.mk (hbox); have n2_ := Aside0.mk ((by rw [hg]; exact (below_size (by repeat (first | (with_reducible first | exact HB.out | apply below_alloc | apply pw_below_drewN | apply below_drew1) | exact HB.out))) : w.heap.size ≤ gb227)); have n3_ := Aside0.mk ((by rw [hg]; exact (below_size (by repeat (first | (with_reducible first | exact HB.out | apply below_alloc | apply pw_below_drewN | apply below_drew1) | exact HB.out))) : w.heap.size ≤ gb227)); clear HB; have HB := n0_; have BK227 := n1_; have GW227 := n2_; have GE227 := n3_; clear n0_ n1_ n2_ n3_; clear hb hbox hg; have hcz15_0 : w14.cell? ⟨gb227, 0, none⟩ = some (.int .i64 a0_0) := (blk_cell BK227.out 0).trans rfl; have hcz15_1 : w14.cell? ⟨gb227, 1, none⟩ = some (.int .i64 a0_1) := (blk_cell BK227.out 1).trans rfl; have hcz15_2 : w14.cell? ⟨gb227, 2, none⟩ = some (.int .i64 a0_2) := (blk_cell BK227.out 2).trans rfl; have hcz15_3 : w14.cell? ⟨gb227, 3, none⟩ = some (.int .i64 a0_3) := (blk_cell BK227.out 3).trans rfl; have hcz15_4 : w14.cell? ⟨gb227, 4, none⟩ = some (.slice A0_4 l0_4.length c0_4) := (blk_cell BK227.out 4).trans rfl; have hcz15_5 : w14.cell? ⟨gb227, 5, none⟩ = some (.slice A0_5 l0_5.length c0_5) := (blk_cell BK227.out 5).trans rfl; have hfz15_0 := blk_frozen BK227.out 0; have hfz15_1 := blk_frozen BK227.out 1; have hfz15_2 := blk_frozen BK227.out 2; have hfz15_3 := blk_frozen BK227.out 3; have hfz15_4 := blk_frozen BK227.out 4; have hfz15_5 := blk_frozen BK227.out 5) | ((with_reducible refine gate_callee (f := 15) rfl ?_); refine goesL_ (some 4) rfl rfl Tryd.func15 (by kernel_rfl) rfl #[.agg #[.int .i64 a0_0, .int .i64 a0_1, .int .i64 a0_2, .int .i64 a0_3, .slice A0_4 l0_4.length c0_4, .slice A0_5 l0_5.length c0_5]] rfl (by (try simp only [List.map_toArray, List.map_cons, List.map_nil]); first | done | rfl | (simp only [List.length_drop, List.length_take]; rfl)) ?_; (with_reducible refine (greenwoodref09_Deep.calls k a0_0 a0_1 a0_2 a0_3 _ _ l0_4 _ _ l0_5 t228 _ ?side1 ?side2 ?side3 ?side4 A2.out).mono ?_); (case side1 => repeat (first | exact (Kd.C_below HR0_4.out HB.out) | (with_reducible refine Kd.C_alloc ?_ _) | (with_reducible refine Kd.C_drewN ?_ _) | (with_reducible refine Kd.C_drew ?_))); (case side2 => exact HC0_4.out); (case side3 => repeat (first | exact (Kd.C_below HR0_5.out HB.out) | (with_reducible refine Kd.C_alloc ?_ _) | (with_reducible refine Kd.C_drewN ?_ _) | (with_reducible refine Kd.C_drew ?_))); (case side4 => exact HC0_5.out); rintro e w16 ⟨rfl, hb⟩; refine ⟨_, rfl, ?_⟩; have n0_ := Aside0.mk (blk_below (g := gb227) (o := .cells #[.int .i64 a0_0, .int .i64 a0_1, .int .i64 a0_2, .int .i64 a0_3, .slice A0_4 l0_4.length c0_4, .slice A0_5 l0_5.length c0_5] 25 (0, 0)) (by (with_reducible repeat (first | refine blk_drewN ?_ _ | refine blk_drew ?_ | refine blk_alloc ?_ _)); exact BK227.out) hb); have n1_ := Aside0.mk (below_step (by repeat (first | (with_reducible first | exact HB.out | apply below_alloc | apply pw_below_drewN | apply below_drew1 | refine below_set ?_ GE227.out) | exact HB.out)) hb); clear BK227; clear HB; have BK227 := n0_; have HB := n1_; clear n0_ n1_; (try clear hb); (try clear hb2); (try clear hk); (try clear hi); have hcz17_0 : w16.cell? ⟨gb227, 0, none⟩ = some (.int .i64 a0_0) := (blk_cell BK227.out 0).trans rfl; have hcz17_1 : w16.cell? ⟨gb227, 1, none⟩ = some (.int .i64 a0_1) := (blk_cell BK227.out 1).trans rfl; have hcz17_2 : w16.cell? ⟨gb227, 2, none⟩ = some (.int .i64 a0_2) := (blk_cell BK227.out 2).trans rfl; have hcz17_3 : w16.cell? ⟨gb227, 3, none⟩ = some (.int .i64 a0_3) := (blk_cell BK227.out 3).trans rfl; have hcz17_4 : w16.cell? ⟨gb227, 4, none⟩ = some (.slice A0_4 l0_4.length c0_4) := (blk_cell BK227.out 4).trans rfl; have hcz17_5 : w16.cell? ⟨gb227, 5, none⟩ = some (.slice A0_5 l0_5.length c0_5) := (blk_cell BK227.out 5).trans rfl; have hfz17_0 := blk_frozen BK227.out 0; have hfz17_1 := blk_frozen BK227.out 1; have hfz17_2 := blk_frozen BK227.out 2; have hfz17_3 := blk_frozen BK227.out 3; have hfz17_4 := blk_frozen BK227.out 4; have hfz17_5 := blk_frozen BK227.out 5) | ((with_reducible refine gate_callee (f := 29) rfl ?_); refine goesL_ (some 7) rfl rfl Tryd.func29 (by kernel_rfl) rfl #[.agg #[.int .i64 a0_0, .int .i64 a0_1, .int .i64 a0_2, .int .i64 a0_3, .slice A0_4 l0_4.length c0_4, .slice A0_5 l0_5.length c0_5]] rfl (by (try simp only [List.map_toArray, List.map_cons, List.map_nil]); first | done | rfl | (simp only [List.length_drop, List.length_take]; rfl)) ?_; (with_reducible refine (greenwoodref09_may.calls k a0_0 a0_1 a0_2 a0_3 _ _ l0_4 _ _ l0_5 false _ ?side1 ?side2 ?side3 ?side4 A7.out).mono ?_); (case side1 => repeat (first | exact (Kd.C_below HR0_4.out HB.out) | (with_reducible refine Kd.C_alloc ?_ _) | (with_reducible refine Kd.C_drewN ?_ _) | (with_reducible refine Kd.C_drew ?_))); (case side2 => exact HC0_4.out); (case side3 => repeat (first | exact (Kd.C_below HR0_5.out HB.out) | (with_reducible refine Kd.C_alloc ?_ _) | (with_reducible refine Kd.C_drewN ?_ _) | (with_reducible refine Kd.C_drew ?_))); (case side4 => exact HC0_5.out); rintro e w18 ⟨rfl, hb⟩; refine ⟨_, rfl, ?_⟩; have n0_ := Aside0.mk (blk_below (g := gb227) (o := .cells #[.int .i64 a0_0, .int .i64 a0_1, .int .i64 a0_2, .int .i64 a0_3, .slice A0_4 l0_4.length c0_4, .slice A0_5 l0_5.length c0_5] 25 (0, 0)) (by (with_reducible repeat (first | refine blk_drewN ?_ _ | refine blk_drew ?_ | refine blk_alloc ?_ _)); exact BK227.out) hb); have n1_ := Aside0.mk (below_step (by repeat (first | (with_reducible first | exact HB.out | apply below_alloc | apply pw_below_drewN | apply below_drew1 | refine below_set ?_ GE227.out) | exact HB.out)) hb); clear BK227; clear HB; have BK227 := n0_; have HB := n1_; clear n0_ n1_; (try clear hb); (try clear hb2); (try clear hk); (try clear hi)))
   go_ret
   exact ⟨by first | rfl | (simp [errW_none, errW_some] <;> rfl) | (simp [*, errW_none, errW_some] <;> rfl), by repeat (first | (with_reducible first | exact HB.out | apply below_alloc | apply pw_below_drewN | apply below_drew1 | refine below_set ?_ GE227.out) | exact HB.out)⟩
end Go.Proofs.YtgbmlkmkfigolaaDoor.P
/- What the document's reference says of a matroid: the same words as the check's. -/
namespace Go.Proofs.YtgbmlkmkfigolaaDoor.P
open Go.RowKit Go.Proofs.YtgbmlkmkfigolaaDoorW.PrintWords Go.Proofs.YtgbmlkmkfigolaaDoorW.PrintLast Go.Proofs.YtgbmlkmkfigolaaDoorW.PrintMore NumTh
set_option linter.unusedVariables false
set_option linter.unusedSimpArgs false

/-! ### numbers -/
theorem outB_eq (most x : Int) : outB most x = (decide (x < 0) || decide (most < x)) := by
 unfold outB inB
 by_cases h : 0 ≤ x <;> by_cases h' : x ≤ most <;> simp [h, h'] <;> omega
theorem rnum_l0 (l : List Int) (many most : Int) (hn : l.length ≤ 9223372036854775807) : ∀ (d i : Nat), l.length - i = d → i ≤ l.length → Ev (fun k => greenwoodref09_numbers.l0 k l many most (i : Int)) (!((l.drop i).any (outB most)) && decide ((l.length : Int) = many)) := by
 intro d
 induction d with
 | zero =>
  intro i h1 h2
  refine Ev.step (fun k => by rw [greenwoodref09_numbers.l0]) ?_
  refine Ev.ifn (by omega) (Ev.val ?_)
  rw [List.drop_of_length_le (by omega)]
  by_cases h : (l.length : Int) = many <;> simp [h]
 | succ d ih =>
  intro i h1 h2
  have hi : i < l.length := by omega
  refine Ev.step (fun k => by rw [greenwoodref09_numbers.l0]) ?_
  refine Ev.ifp (by omega) (Ev.ifp (by omega) ?_)
  rw [rd_at hi, List.drop_eq_getElem_cons hi, List.any_cons, outB_eq]
  by_cases a : l[i] < 0
  ·refine Ev.ifp a (Ev.val ?_)
   rw [decide_eq_true a]; rfl
  refine Ev.ifn a ?_
  by_cases b : l[i] > most
  ·refine Ev.ifp b (Ev.val ?_)
   rw [decide_eq_true (show most < l[i] from b), Bool.or_true]; rfl
  refine Ev.ifn b ?_
  rw [decide_eq_false a, decide_eq_false (show ¬ most < l[i] from b), Bool.or_false, Bool.false_or, w1b hi hn]
  exact ih (i + 1) (by omega) (by omega)
theorem rnum_ev (l : List Int) (many most : Int) (hn : l.length ≤ 9223372036854775807) : Ev (fun k => greenwoodref09_numbers.f k l many most) (numB l many most) := by
 have := rnum_l0 l many most hn l.length 0 (by omega) (by omega)
 unfold numB
 rw [Bool.and_comm]
 unfold greenwoodref09_numbers.f
 simpa using this

/-! ### plain -/
theorem rplain_l0 (m : Mtr) (hm : OkS m) : ∀ (d i : Nat), m.f4.length - i = d → i ≤ m.f4.length → Ev (fun k => greenwoodref09_plain.l0 k (i : Int) m.f0 m.f1 m.f2 m.f3 m.f4 m.f5) (!((m.f4.drop i).any fun l => !numB l 2 (wrap64 (m.f2 - 1))) && (decide (1 ≤ m.f2) && decide ((m.f4.length : Int) = m.f1))) := by
 intro d
 have hl4 := hm.l4
 induction d with
 | zero =>
  intro i h1 h2
  refine Ev.step (fun k => by rw [greenwoodref09_plain.l0]) ?_
  refine Ev.ifn (by omega) ?_
  rw [List.drop_of_length_le (by omega)]
  by_cases h : m.f2 ≥ 1
  ·refine Ev.ifp h (Ev.val ?_)
   rw [decide_eq_true (show 1 ≤ m.f2 from h)]
   by_cases h : (m.f4.length : Int) = m.f1 <;> simp [h]
  ·refine Ev.ifn h (Ev.val ?_)
   rw [decide_eq_false (show ¬ 1 ≤ m.f2 from h)]; rfl
 | succ d ih =>
  intro i h1 h2
  have hi : i < m.f4.length := by omega
  refine Ev.step (fun k => by rw [greenwoodref09_plain.l0]) ?_
  refine Ev.ifp (by omega) (Ev.ifp (by omega) ?_)
  rw [rd_L_at hi, List.drop_eq_getElem_cons hi, List.any_cons]
  refine Ev.bind (rnum_ev _ _ _ (hm.ls _ (List.getElem_mem hi))) ?_
  cases numB m.f4[i] 2 (wrap64 (m.f2 - 1)) with
  | false => exact Ev.ifn (by decide) (Ev.val rfl)
  | true =>
   refine Ev.ifp rfl ?_
   rw [w1b hi hl4]
   have := ih (i + 1) (by omega) (by omega)
   simpa using this
theorem rplain_ev (m : Mtr) (hm : OkS m) (h1 : 0 ≤ m.f1 ∧ m.f1 ≤ 64) (h2 : 0 ≤ m.f2 ∧ m.f2 ≤ 64) : Ev (fun k => greenwoodref09_plain.f k m.f0 m.f1 m.f2 m.f3 m.f4 m.f5) (decide (m.f5.length = 0) && plainB m) := by
 unfold greenwoodref09_plain.f
 have hf : ∀ r, r = false → Ev (fun k => greenwoodref09_plain.j0 k true m.f0 m.f1 m.f2 m.f3 m.f4 m.f5) r := fun r hr => Ev.step (fun k => by rw [greenwoodref09_plain.j0]) (Ev.ifp rfl (Ev.val hr.symm))
 by_cases h5 : (m.f5.length : Int) > 0
 ·refine Ev.ifp h5 (hf _ ?_)
  rw [decide_eq_false (by omega)]; rfl
 refine Ev.ifn h5 ?_
 rw [decide_eq_true (show m.f5.length = 0 by omega), Bool.true_and]
 by_cases h4 : m.f0 = 4
 ·refine Ev.ifp h4 ?_
  refine Ev.step (fun k => by rw [greenwoodref09_plain.j0]) (Ev.ifn (by decide) ?_)
  refine Ev.ifn (by omega) (Ev.ifn (by omega) (Ev.ifn (by omega) (Ev.ifn (by omega) (Ev.ifp h4 ?_))))
  unfold plainB
  rw [if_neg (by omega), if_neg (by omega), if_neg (by omega), if_neg (by omega), if_pos h4]
  by_cases e : (m.f4.length : Int) = m.f1
  ·refine Ev.ifp e (Ev.bind (rmay_ev _ _ _) (Ev.val ?_))
   rw [decide_eq_true e]; rfl
  ·refine Ev.ifn e (Ev.val ?_)
   rw [decide_eq_false e]; rfl
 refine Ev.ifn h4 ?_
 by_cases h3 : m.f3 = 0
 ·have e3 : (m.f3 != 0) = false := by simp [h3]
  rw [e3]
  refine Ev.step (fun k => by rw [greenwoodref09_plain.j0]) (Ev.ifn (by decide) ?_)
  unfold plainB
  simp only [decide_eq_true h3, Bool.and_true, Bool.true_and]
  by_cases t0 : m.f0 = 0
  ·refine Ev.ifp t0 ?_
   rw [if_pos t0]
   by_cases e : m.f2 ≤ m.f1
   ·refine Ev.ifp e (Ev.val ?_)
    rw [decide_eq_true e]
    by_cases h : m.f4.length = 0 <;> simp [h]
   ·refine Ev.ifn e (Ev.val ?_)
    rw [decide_eq_false e]; rfl
  refine Ev.ifn t0 ?_
  rw [if_neg t0]
  by_cases t1 : m.f0 = 1
  ·refine Ev.ifp t1 ?_
   rw [if_pos t1]
   have := rplain_l0 m hm m.f4.length 0 (by omega) (by omega)
   rw [List.drop_zero, Bool.and_comm] at this
   exact this
  refine Ev.ifn t1 ?_
  rw [if_neg t1]
  by_cases t2 : m.f0 = 2
  ·refine Ev.ifp t2 ?_
   rw [if_pos t2]
   by_cases e : (m.f4.length : Int) = 2
   ·refine Ev.ifp e (Ev.ifp (by omega) ?_)
    have m0 : rd_L1 m.f4 0 ∈ m.f4 := by have := rd_L_at (l := m.f4) (i := 0) (by omega); rw [show ((0 : Nat) : Int) = 0 from rfl] at this; rw [this]; exact List.getElem_mem _
    have m1 : rd_L1 m.f4 1 ∈ m.f4 := by have := rd_L_at (l := m.f4) (i := 1) (by omega); rw [show ((1 : Nat) : Int) = 1 from rfl] at this; rw [this]; exact List.getElem_mem _
    refine Ev.bind (rnum_ev _ _ _ (hm.ls _ m0)) ?_
    rw [decide_eq_true (show m.f4.length = 2 by omega), Bool.true_and]
    cases numB (rd_L1 m.f4 0) m.f1 (wrap64 (m.f2 - 1)) with
    | false => exact Ev.ifn (by decide) (Ev.val rfl)
    | true =>
     refine Ev.ifp rfl (Ev.ifp (by omega) (Ev.bind (rnum_ev _ _ _ (hm.ls _ m1)) (Ev.val ?_)))
     rfl
   ·refine Ev.ifn e (Ev.val ?_)
    rw [decide_eq_false (show ¬ m.f4.length = 2 by omega)]; rfl
  refine Ev.ifn t2 ?_
  rw [if_neg t2]
  by_cases t3 : m.f0 = 3
  ·refine Ev.ifp t3 ?_
   rw [if_pos t3]
   by_cases e : (m.f4.length : Int) = m.f1
   ·refine Ev.ifp e (Ev.bnd (Ev.val ?_))
    rw [decide_eq_true e, Bool.true_and]
    unfold refMatchB matchB
    have x1 : decide (m.f2 < 0) = false := decide_eq_false (by omega)
    have x2 : decide (64 < m.f2) = false := decide_eq_false (by omega)
    have x3 : decide (64 < (m.f4.length : Int)) = false := decide_eq_false (by omega)
    have y1 : decide (0 ≤ m.f2) = true := decide_eq_true (by omega)
    have y2 : decide (m.f2 ≤ 64) = true := decide_eq_true (by omega)
    have y3 : decide (m.f4.length ≤ 64) = true := decide_eq_true (by omega)
    rw [x1, x2, x3, y1, y2, y3]
    simp
   ·refine Ev.ifn e (Ev.val ?_)
    rw [decide_eq_false e]; rfl
  refine Ev.ifn t3 (Ev.ifn h4 (Ev.val ?_))
  rw [if_neg t3, if_neg h4]
 ·have e3 : (m.f3 != 0) = true := by simp [h3]
  rw [e3]
  refine hf _ ?_
  unfold plainB
  rw [decide_eq_false h3]
  simp [h4]

/-! ### deep -/
theorem wz1 : wrap64 (0 + 1) = 1 := by unfold wrap64; omega
theorem rdeep_ev : ∀ (j : Nat), j ≤ 100 → ∀ (m : Mtr), OkS m → Ev (fun k => greenwoodref09_deep.f k m.f0 m.f1 m.f2 m.f3 m.f4 m.f5 (j : Int)) (deepV j m) := by
 intro j
 induction j with
 | zero =>
  intro hj m hm
  refine Ev.step (fun k => by rw [greenwoodref09_deep.f]) ?_
  refine Ev.step (fun k => by rw [greenwoodref09_deep.l0]) ?_
  by_cases h : (0 : Int) < (m.f5.length : Int)
  ·exact Ev.ifp h (Ev.ifn (by omega) (Ev.val wz1))
  ·exact Ev.ifn h (Ev.val wz1)
 | succ j ih =>
  intro hj m hm
  refine Ev.step (fun k => by rw [greenwoodref09_deep.f]) ?_
  unfold deepV
  cases hn : nestsB m.f0 with
  | false =>
   rw [if_neg (by decide)]
   refine Ev.step (fun k => by rw [greenwoodref09_deep.l0]) ?_
   by_cases h : (0 : Int) < (m.f5.length : Int)
   ·refine Ev.ifp h (Ev.ifp (by omega) ?_)
    simp only [rnests_eq, Option.bind_some, hn]
    exact Ev.ifn (by decide) (Ev.val wz1)
   ·exact Ev.ifn h (Ev.val wz1)
  | true =>
   rw [if_pos rfl]
   have hloop : ∀ (d i : Nat) (a : Int), m.f5.length - i = d → i ≤ m.f5.length → 0 ≤ a → a ≤ (j : Int) + 1 → Ev (fun k => greenwoodref09_deep.l0 k ((j + 1 : Nat) : Int) a (i : Int) m.f0 m.f1 m.f2 m.f3 m.f4 m.f5) (((m.f5.drop i).map (deepV j)).foldl max a + 1) := by
    intro d
    have hl5 := hm.l5
    induction d with
    | zero =>
     intro i a h1 h2 h3 h4
     refine Ev.step (fun k => by rw [greenwoodref09_deep.l0]) ?_
     refine Ev.ifn (by omega) (Ev.val ?_)
     rw [List.drop_of_length_le (by omega)]
     show wrap64 (a + 1) = a + 1
     unfold wrap64; omega
    | succ d ihd =>
     intro i a h1 h2 h3 h4
     have hi : i < m.f5.length := by omega
     refine Ev.step (fun k => by rw [greenwoodref09_deep.l0]) ?_
     refine Ev.ifp (by omega) (Ev.ifp (by omega) ?_)
     simp only [rnests_eq, Option.bind_some, hn]
     refine Ev.ifp trivial (Ev.ifp (by omega) ?_)
     rw [rd_T_at hi]
     have hw : wrap64 (((j + 1 : Nat) : Int) - 1) = (j : Int) := by unfold wrap64; omega
     rw [hw]
     refine Ev.bind (ih (by omega) _ (hm.each _ (List.getElem_mem hi))) ?_
     rw [w1b hi hl5, mx_max]
     have hb := deepV_bd j m.f5[i]
     have := ihd (i + 1) (max a (deepV j m.f5[i])) (by omega) (by omega) (by omega) (by omega)
     rw [List.drop_eq_getElem_cons hi]
     exact this
   exact hloop _ 0 0 rfl (Nat.zero_le _) (Int.le_refl _) (by omega)
theorem rDeep_ev (m : Mtr) (hm : OkS m) : Ev (fun k => greenwoodref09_Deep.f k m.f0 m.f1 m.f2 m.f3 m.f4 m.f5) (deepV 4 m) := by
 unfold greenwoodref09_Deep.f
 exact Ev.bind (rdeep_ev 4 (by omega) m hm) (Ev.now _)

/-! ### Set -/
theorem rSet_ev (l : List Int) (n : Int) (hn : l.length ≤ 9223372036854775807) : Ev (fun k => greenwoodref09_Set.f k l n) (setB l n) := by
 unfold greenwoodref09_Set.f setB
 refine Ev.bind (ref02_May_ev l hn) ?_
 cases mayB l with
 | false => exact Ev.ifn (by decide) (Ev.val rfl)
 | true =>
  refine Ev.ifp rfl ?_
  by_cases h : (l.length : Int) = 0
  ·refine Ev.ifp h (Ev.val ?_)
   rw [decide_eq_true h]; rfl
  ·refine Ev.ifn h ?_
   have hw : wrap64 ((l.length : Int) - 1) = (l.length : Int) - 1 := by unfold wrap64; omega
   rw [hw]
   refine Ev.ifp (by omega) (Ev.ifp (by omega) (Ev.val ?_))
   rw [decide_eq_false h]; rfl

/-! ### may -/
/-- what all within come to -/
def total (l : List Mtr) : Int := (l.map (·.f1)).foldr (· + ·) 0
theorem chk_n {j : Nat} {m : Mtr} (h : chkV j m = true) : 0 ≤ m.f1 ∧ m.f1 ≤ 64 := by
 cases j with
 | zero => cases h
 | succ j =>
  unfold chkV lclB inB at h
  simp only [Bool.and_eq_true, decide_eq_true_eq] at h
  exact h.1.1.1
theorem total_bd {g : Mtr → Bool} (hg : ∀ x, g x = true → 0 ≤ x.f1 ∧ x.f1 ≤ 64) : ∀ (l : List Mtr), l.all g = true → 0 ≤ total l ∧ total l ≤ 64 * (l.length : Int) := by
 intro l
 induction l with
 | nil => intro _; exact ⟨by simp [total], by simp [total]⟩
 | cons x r ih =>
  intro h
  rw [List.all_cons, Bool.and_eq_true] at h
  have h1 := hg x h.1
  have h2 := ih h.2
  have e : total (x :: r) = x.f1 + total r := rfl
  rw [e, List.length_cons]
  omega
theorem sums_ev {f : Nat → Mtr → Option Bool} {g : Mtr → Bool} (hg : ∀ x, g x = true → 0 ≤ x.f1 ∧ x.f1 ≤ 64) : ∀ (l : List Mtr), (∀ x ∈ l, Ev (fun k => f k x) (g x)) → ∀ (n : Int), 0 ≤ n → n + 64 * (l.length : Int) ≤ 1000000 →
 Ev (fun k => sumsO (f k) n l) (if l.all g = true then n + total l else -1) := by
 intro l
 induction l with
 | nil => intro _ n _ _; exact Ev.val (by simp [total])
 | cons x r ih =>
  intro hf n h0 h1
  rw [List.length_cons] at h1
  unfold sumsO
  refine Ev.bind (hf x (List.mem_cons_self ..)) ?_
  rw [List.all_cons]
  cases hx : g x with
  | false => exact Ev.ifn (by decide) (Ev.val (by simp))
  | true =>
   have hb := hg x hx
   refine Ev.ifp rfl ?_
   have hw : wrap64 (n + x.f1) = n + x.f1 := by unfold wrap64; omega
   rw [hw, Bool.true_and]
   have := ih (fun y hy => hf y (List.mem_cons_of_mem _ hy)) (n + x.f1) (by omega) (by omega)
   have e : total (x :: r) = x.f1 + total r := rfl
   rw [e, ← Int.add_assoc]
   exact this
theorem sumV_all {g : Mtr → Bool} (hg : ∀ x, g x = true → 0 ≤ x.f1 ∧ x.f1 ≤ 64) : ∀ (l : List Mtr), l.all g = true → ∀ (n : Int), 0 ≤ n → n + 64 * (l.length : Int) ≤ 1000000 → sumV n l = some (n + total l) := by
 intro l
 induction l with
 | nil => intro _ n _ _; simp [sumV, total]
 | cons x r ih =>
  intro h n h0 h1
  rw [List.length_cons] at h1
  rw [List.all_cons, Bool.and_eq_true] at h
  have hb := hg x h.1
  unfold sumV
  have hi : inB x.f1 64 = true := by unfold inB; rw [decide_eq_true hb.1, decide_eq_true hb.2]; rfl
  have hw : wrap64 (n + x.f1) = n + x.f1 := by unfold wrap64; omega
  rw [if_pos hi, hw, ih h.2 _ (by omega) (by omega)]
  have e : total (x :: r) = x.f1 + total r := rfl
  rw [e, Int.add_assoc]
theorem deep_in {j : Nat} {m : Mtr} (hn : nestsB m.f0 = true) (h : deepV (j + 1) m ≤ ((j + 1 : Nat) : Int)) : ∀ x ∈ m.f5, deepV j x ≤ (j : Int) := by
 unfold deepV at h
 rw [if_pos hn] at h
 have key : ∀ (l : List Mtr) (a : Int), (l.map (deepV j)).foldl max a ≤ (j : Int) → a ≤ (j : Int) ∧ ∀ x ∈ l, deepV j x ≤ (j : Int) := by
  intro l
  induction l with
  | nil => intro a h; exact ⟨h, fun x hx => by cases hx⟩
  | cons y r ih =>
   intro a h
   have := ih _ h
   refine ⟨by omega, fun x hx => ?_⟩
   rcases List.mem_cons.1 hx with rfl | hx
   ·omega
   ·exact this.2 x hx
 exact (key m.f5 0 (by omega)).2
theorem lclB_n {m : Mtr} (h1 : 0 ≤ m.f1 ∧ m.f1 ≤ 64) (h2 : 0 ≤ m.f2 ∧ m.f2 ≤ 64) : lclB m = (if nestsB m.f0 = true then outerB m else decide (m.f5.length = 0) && plainB m) := by
 unfold lclB inB
 rw [decide_eq_true h1.1, decide_eq_true h1.2, decide_eq_true h2.1, decide_eq_true h2.2]; rfl
theorem nests_iff {t : Int} : nestsB t = true ↔ 5 ≤ t ∧ t ≤ 9 := by unfold nestsB; rw [Bool.and_eq_true, decide_eq_true_eq, decide_eq_true_eq]
theorem outer_no {m : Mtr} (hn : nestsB m.f0 = true) (h : m.f3 ≠ 0 ∨ (m.f2 ≠ 0 ∧ m.f0 ≠ 7) ∨ m.f5.length < 1 ∨ 8 < m.f5.length ∨ (1 < m.f5.length ∧ m.f0 ≠ 9)) : outerB m = false := by
 unfold outerB
 split
 ·rfl
 next h1 =>
 split
 ·split
  ·rfl
  ·next n _ =>
   have : m.f5.length < 1 ∨ 8 < m.f5.length := by omega
   rcases this with h | h
   ·rw [decide_eq_false (show ¬ 1 ≤ m.f5.length by omega)]; rfl
   ·rw [decide_eq_false (show ¬ m.f5.length ≤ 8 by omega), Bool.and_false]; rfl
 ·rw [if_neg (by omega)]
theorem outer_56 {m : Mtr} (h : m.f0 = 5 ∨ m.f0 = 6) (e3 : m.f3 = 0) (e2 : m.f2 = 0) (hl : m.f5.length = 1) : outerB m = (if m.f0 = 5 then decide (m.f4.length = 1) && setB (rd_L1 m.f4 0) (rd_T25 m.f5 0).f1 && decide (m.f1 = ((rd_L1 m.f4 0).length : Int)) else decide (m.f4.length = 1) && setB (rd_L1 m.f4 0) (rd_T25 m.f5 0).f1 && decide (m.f1 = wrap64 ((rd_T25 m.f5 0).f1 - ((rd_L1 m.f4 0).length : Int)))) := by
 have c1 : ¬ (m.f3 ≠ 0 ∨ (m.f0 ≠ 7 ∧ m.f2 ≠ 0) ∨ (7 ≤ m.f0 ∧ m.f4.length ≠ 0)) := by omega
 unfold outerB
 rw [if_neg c1, if_neg (show ¬ m.f0 = 9 by omega), if_pos hl]
 by_cases h5 : m.f0 = 5
 ·rw [if_pos h5, if_pos h5]
 ·rw [if_neg h5, if_neg h5, if_pos (show m.f0 = 6 by omega)]
theorem rmay_all : ∀ (j : Nat), ∀ (m : Mtr), OkS m → deepV j m ≤ (j : Int) → Ev (fun k => greenwoodref09_may.f k m.f0 m.f1 m.f2 m.f3 m.f4 m.f5) (chkV j m) := by
 intro j
 induction j with
 | zero => intro m _ h; have := (deepV_bd 0 m).1; omega
 | succ j ih =>
  intro m hm hd
  refine Ev.step (fun k => by rw [greenwoodref09_may.f]) ?_
  unfold chkV
  by_cases h1 : m.f1 < 0 ∨ 64 < m.f1 ∨ m.f2 < 0 ∨ 64 < m.f2
  ·refine Ev.ifp h1 (Ev.val ?_)
   unfold lclB inB
   rcases h1 with h | h | h | h
   ·rw [decide_eq_false (show ¬ 0 ≤ m.f1 by omega)]; simp
   ·rw [decide_eq_false (show ¬ m.f1 ≤ 64 by omega)]; simp
   ·rw [decide_eq_false (show ¬ 0 ≤ m.f2 by omega)]; simp
   ·rw [decide_eq_false (show ¬ m.f2 ≤ 64 by omega)]; simp
  refine Ev.ifn h1 ?_
  have hb1 : 0 ≤ m.f1 ∧ m.f1 ≤ 64 := by omega
  have hb2 : 0 ≤ m.f2 ∧ m.f2 ≤ 64 := by omega
  rw [lclB_n hb1 hb2]
  cases hn : nestsB m.f0 with
  | false =>
   refine Ev.ifp rfl ?_
   rw [if_neg (by decide)]
   have := rplain_ev m hm hb1 hb2
   by_cases h5 : m.f5.length = 0
   ·have e : m.f5.all (chkV j) = true := by rw [List.length_eq_zero_iff.1 h5]; rfl
    rw [e, Bool.and_true]
    exact this
   ·rw [decide_eq_false h5, Bool.false_and] at this
    rw [decide_eq_false h5, Bool.false_and, Bool.false_and]
    exact this
  | true =>
   refine Ev.ifn (by decide) ?_
   rw [if_pos rfl]
   by_cases h3 : m.f3 ≠ 0 ∨ (m.f2 ≠ 0 ∧ m.f0 ≠ 7) ∨ m.f5.length < 1 ∨ 8 < m.f5.length ∨ (1 < m.f5.length ∧ m.f0 ≠ 9)
   ·refine Ev.ifp h3 (Ev.val ?_)
    rw [outer_no hn h3]; rfl
   refine Ev.ifn h3 ?_
   have hin := deep_in hn hd
   have hs := sums_ev (f := fun k x => greenwoodref09_may.f k x.f0 x.f1 x.f2 x.f3 x.f4 x.f5) (fun x hx => chk_n hx) m.f5 (fun x hx => ih x (hm.each x hx) (hin x hx)) 0 (Int.le_refl _) (by omega)
   refine Ev.bind hs ?_
   cases ha : m.f5.all (chkV j) with
   | false =>
    rw [if_neg (by decide)]
    exact Ev.ifp (by omega) (Ev.val (by simp))
   | true =>
    rw [if_pos rfl, Bool.and_true]
    have ht := total_bd (g := chkV j) (fun x hx => chk_n hx) m.f5 ha
    refine Ev.ifn (by omega) ?_
    have hnn := nests_iff.1 hn
    have e3 : m.f3 = 0 := by by_cases e : m.f3 = 0; exact e; exact absurd (.inl e) h3
    have e2 : ¬ (m.f0 ≠ 7 ∧ m.f2 ≠ 0) := fun e => h3 (.inr (.inl ⟨e.2, e.1⟩))
    have e5 : 1 ≤ m.f5.length ∧ m.f5.length ≤ 8 := by omega
    by_cases h7 : 7 ≤ m.f0
    ·refine Ev.ifp h7 (Ev.val ?_)
     unfold outerB
     by_cases h4 : m.f4.length = 0
     ·rw [if_neg (by omega), decide_eq_true h4, Bool.true_and]
      by_cases h9 : m.f0 = 9
      ·rw [if_pos h9, sumV_all (fun x hx => chk_n hx) m.f5 ha 0 (Int.le_refl _) (by omega)]
       show _ = (decide (1 ≤ m.f5.length) && decide (m.f5.length ≤ 8) && decide (0 + total m.f5 = m.f1))
       rw [decide_eq_true e5.1, decide_eq_true e5.2, Bool.true_and, Bool.true_and]
       apply decide_eq_decide.mpr; omega
      ·rw [if_neg h9]
       have hl1 : m.f5.length = 1 := by omega
       rw [if_pos hl1, if_neg (by omega), if_neg (by omega)]
       obtain ⟨x, hx⟩ : ∃ x, m.f5 = [x] := by
        match hq : m.f5, hl1 with
        | [x], _ => exact ⟨x, rfl⟩
       rw [hx]
       have ex : total [x] = x.f1 := by simp [total]
       have er : (rd_T25 [x] 0) = x := rfl
       rw [ex, er]
       apply decide_eq_decide.mpr; omega
     ·rw [decide_eq_false h4, Bool.false_and, if_pos (by omega)]
    ·refine Ev.ifn h7 ?_
     have hl1 : m.f5.length = 1 := by omega
     obtain ⟨x, hx⟩ : ∃ x, m.f5 = [x] := by
      match hq : m.f5, hl1 with
      | [x], _ => exact ⟨x, rfl⟩
     have ex : total [x] = x.f1 := by simp [total]
     have er : (rd_T25 [x] 0) = x := rfl
     rw [outer_56 (by omega) e3 (by omega) hl1, hx, ex, er, Int.zero_add]
     by_cases h4 : m.f4.length = 1
     ·have m0 : rd_L1 m.f4 0 ∈ m.f4 := by have := rd_L_at (l := m.f4) (i := 0) (by omega); rw [show ((0 : Nat) : Int) = 0 from rfl] at this; rw [this]; exact List.getElem_mem _
      refine Ev.ifn (by omega) (Ev.bind (rSet_ev _ _ (hm.ls _ m0)) ?_)
      rw [decide_eq_true h4]
      cases hset : setB (rd_L1 m.f4 0) x.f1 with
      | false =>
       refine Ev.ifp rfl (Ev.val ?_)
       by_cases h5 : m.f0 = 5
       ·rw [if_pos h5]; rfl
       ·rw [if_neg h5]; rfl
      | true =>
       refine Ev.ifn (by decide) ?_
       by_cases h5 : m.f0 = 5
       ·refine Ev.ifp h5 (Ev.val ?_)
        rw [if_pos h5]; rfl
       ·refine Ev.ifn h5 (Ev.val ?_)
        rw [if_neg h5]; rfl
     ·refine Ev.ifp h4 (Ev.val ?_)
      rw [decide_eq_false h4]
      by_cases h5 : m.f0 = 5
      ·rw [if_pos h5]; rfl
      ·rw [if_neg h5]; rfl
theorem rCheck_ev (m : Mtr) (hm : OkS m) : Ev (fun k => greenwoodref09_Check.f k m.f0 m.f1 m.f2 m.f3 m.f4 m.f5) (chkN m) := by
 unfold greenwoodref09_Check.f chkN
 refine Ev.bind (rDeep_ev m hm) ?_
 have := deepV_bd 4 m
 by_cases h : deepV 4 m = 5
 ·refine Ev.ifp h (Ev.val ?_)
  rw [if_pos (show 4 < deepV 4 m by omega)]
 ·have h4 : deepV 4 m ≤ ((4 : Nat) : Int) := by omega
  refine Ev.ifn h (Ev.bind (rmay_all 4 m hm h4) ?_)
  rw [if_neg (show ¬ 4 < deepV 4 m by omega)]
  cases chkV 4 m with
  | false => exact Ev.ifn (by decide) (Ev.val (by rw [if_neg (by decide)]))
  | true => exact Ev.ifp rfl (Ev.val (by rw [if_pos rfl]))

/-! ### Small: whatever it says -/
theorem size_ev : ∀ (j : Nat), j ≤ 100 → ∀ (m : Mtr), OkS m → ∃ v, Ev (fun k => greenwoodref09_size.f k m.f0 m.f1 m.f2 m.f3 m.f4 m.f5 (j : Int)) v := by
 intro j
 induction j with
 | zero =>
  intro hj m hm
  have h1 : ∀ (d i : Nat) (n : Int), m.f5.length - i = d → i ≤ m.f5.length → ∃ v, Ev (fun k => greenwoodref09_size.l1 k ((0 : Nat) : Int) n (i : Int) m.f0 m.f1 m.f2 m.f3 m.f4 m.f5) v := by
   intro d
   have hl5 := hm.l5
   induction d with
   | zero =>
    intro i n e1 e2
    exact ⟨n, Ev.step (fun k => by rw [greenwoodref09_size.l1]) (Ev.ifn (by omega) (Ev.step (fun k => by rw [greenwoodref09_size.j3]) (Ev.ifn (by decide) (Ev.val rfl))))⟩
   | succ d ihd =>
    intro i n e1 e2
    by_cases hn : n < 10000
    ·obtain ⟨v, hv⟩ := ihd (i + 1) (wrap64 (n + 10000)) (by omega) (by omega)
     refine ⟨v, Ev.step (fun k => by rw [greenwoodref09_size.l1]) (Ev.ifp (by omega) (Ev.step (fun k => by rw [greenwoodref09_size.j3]) (Ev.ifp (decide_eq_true hn) (Ev.ifn (by omega) ?_))))⟩
     rw [w1b (show i < m.f5.length by omega) hl5]
     exact hv
    ·exact ⟨n, Ev.step (fun k => by rw [greenwoodref09_size.l1]) (Ev.ifp (by omega) (Ev.step (fun k => by rw [greenwoodref09_size.j3]) (Ev.ifn (by simpa using hn) (Ev.val rfl))))⟩
  have h0 : ∀ (d i : Nat) (n : Int), m.f4.length - i = d → i ≤ m.f4.length → ∃ v, Ev (fun k => greenwoodref09_size.l0 k ((0 : Nat) : Int) n (i : Int) m.f0 m.f1 m.f2 m.f3 m.f4 m.f5) v := by
   intro d
   have hl4 := hm.l4
   have hj1 : ∀ n, ∃ v, Ev (fun k => greenwoodref09_size.j1 k ((0 : Nat) : Int) n m.f0 m.f1 m.f2 m.f3 m.f4 m.f5) v := fun n => by
    obtain ⟨v, hv⟩ := h1 m.f5.length 0 n rfl (Nat.zero_le _)
    exact ⟨v, Ev.step (fun k => by rw [greenwoodref09_size.j1]; rfl) hv⟩
   induction d with
   | zero =>
    intro i n e1 e2
    obtain ⟨v, hv⟩ := hj1 n
    exact ⟨v, Ev.step (fun k => by rw [greenwoodref09_size.l0]) (Ev.ifn (by omega) hv)⟩
   | succ d ihd =>
    intro i n e1 e2
    by_cases hn : n < 10000
    ·obtain ⟨v, hv⟩ := ihd (i + 1) (wrap64 (n + ((rd_L1 m.f4 (i : Int)).length : Int))) (by omega) (by omega)
     refine ⟨v, Ev.step (fun k => by rw [greenwoodref09_size.l0]) (Ev.ifp (by omega) (Ev.ifp hn (Ev.ifp (by omega) ?_)))⟩
     rw [w1b (show i < m.f4.length by omega) hl4]
     exact hv
    ·obtain ⟨v, hv⟩ := hj1 n
     exact ⟨v, Ev.step (fun k => by rw [greenwoodref09_size.l0]) (Ev.ifp (by omega) (Ev.ifn hn hv))⟩
  obtain ⟨v, hv⟩ := h0 m.f4.length 0 (wrap64 (1 + (m.f4.length : Int))) rfl (Nat.zero_le _)
  exact ⟨v, Ev.step (fun k => by rw [greenwoodref09_size.f]; rfl) hv⟩
 | succ j ih =>
  intro hj m hm
  have h1 : ∀ (d i : Nat) (n : Int), m.f5.length - i = d → i ≤ m.f5.length → ∃ v, Ev (fun k => greenwoodref09_size.l1 k ((j + 1 : Nat) : Int) n (i : Int) m.f0 m.f1 m.f2 m.f3 m.f4 m.f5) v := by
   intro d
   have hl5 := hm.l5
   induction d with
   | zero =>
    intro i n e1 e2
    exact ⟨n, Ev.step (fun k => by rw [greenwoodref09_size.l1]) (Ev.ifn (by omega) (Ev.step (fun k => by rw [greenwoodref09_size.j3]) (Ev.ifn (by decide) (Ev.val rfl))))⟩
   | succ d ihd =>
    intro i n e1 e2
    have hi : i < m.f5.length := by omega
    by_cases hn : n < 10000
    ·obtain ⟨t, ht⟩ := ih (by omega) m.f5[i] (hm.each _ (List.getElem_mem hi))
     obtain ⟨v, hv⟩ := ihd (i + 1) (wrap64 (n + t)) (by omega) (by omega)
     refine ⟨v, Ev.step (fun k => by rw [greenwoodref09_size.l1]) (Ev.ifp (by omega) (Ev.step (fun k => by rw [greenwoodref09_size.j3]) (Ev.ifp (decide_eq_true hn) (Ev.ifp (by omega) (Ev.ifp (by omega) (Ev.ifp (by omega) ?_))))))⟩
     have hw : wrap64 (((j + 1 : Nat) : Int) - 1) = (j : Int) := by unfold wrap64; omega
     rw [rd_T_at hi, hw]
     refine Ev.bind ht ?_
     rw [w1b hi hl5]
     exact hv
    ·exact ⟨n, Ev.step (fun k => by rw [greenwoodref09_size.l1]) (Ev.ifp (by omega) (Ev.step (fun k => by rw [greenwoodref09_size.j3]) (Ev.ifn (by simpa using hn) (Ev.val rfl))))⟩
  have h0 : ∀ (d i : Nat) (n : Int), m.f4.length - i = d → i ≤ m.f4.length → ∃ v, Ev (fun k => greenwoodref09_size.l0 k ((j + 1 : Nat) : Int) n (i : Int) m.f0 m.f1 m.f2 m.f3 m.f4 m.f5) v := by
   intro d
   have hl4 := hm.l4
   have hj1 : ∀ n, ∃ v, Ev (fun k => greenwoodref09_size.j1 k ((j + 1 : Nat) : Int) n m.f0 m.f1 m.f2 m.f3 m.f4 m.f5) v := fun n => by
    obtain ⟨v, hv⟩ := h1 m.f5.length 0 n rfl (Nat.zero_le _)
    exact ⟨v, Ev.step (fun k => by rw [greenwoodref09_size.j1]; rfl) hv⟩
   induction d with
   | zero =>
    intro i n e1 e2
    obtain ⟨v, hv⟩ := hj1 n
    exact ⟨v, Ev.step (fun k => by rw [greenwoodref09_size.l0]) (Ev.ifn (by omega) hv)⟩
   | succ d ihd =>
    intro i n e1 e2
    by_cases hn : n < 10000
    ·obtain ⟨v, hv⟩ := ihd (i + 1) (wrap64 (n + ((rd_L1 m.f4 (i : Int)).length : Int))) (by omega) (by omega)
     refine ⟨v, Ev.step (fun k => by rw [greenwoodref09_size.l0]) (Ev.ifp (by omega) (Ev.ifp hn (Ev.ifp (by omega) ?_)))⟩
     rw [w1b (show i < m.f4.length by omega) hl4]
     exact hv
    ·obtain ⟨v, hv⟩ := hj1 n
     exact ⟨v, Ev.step (fun k => by rw [greenwoodref09_size.l0]) (Ev.ifp (by omega) (Ev.ifn hn hv))⟩
  obtain ⟨v, hv⟩ := h0 m.f4.length 0 (wrap64 (1 + (m.f4.length : Int))) rfl (Nat.zero_le _)
  exact ⟨v, Ev.step (fun k => by rw [greenwoodref09_size.f]; rfl) hv⟩
theorem small_ev (m : Mtr) (hm : OkS m) : ∃ b, Ev (fun k => greenwoodref09_Small.f k m.f0 m.f1 m.f2 m.f3 m.f4 m.f5) b := by
 obtain ⟨v, hv⟩ := size_ev 8 (by omega) m hm
 unfold greenwoodref09_Small.f
 exact ⟨_, Ev.bind hv (Ev.now _)⟩
end Go.Proofs.YtgbmlkmkfigolaaDoor.P
namespace Go.Proofs.YtgbmlkmkfigolaaDoor.P
open Go.RowKit Go.Proofs.YtgbmlkmkfigolaaDoorW.PrintWords Go.Proofs.YtgbmlkmkfigolaaDoorW.PrintLast Go.Proofs.YtgbmlkmkfigolaaDoorW.PrintMore
attribute [local go_sem] max2_int min2_int max_two min_two max_three min_three max_four min_four   -- for this text's walks alone
set_option linter.unusedVariables false
set_option linter.unusedSimpArgs false

/-! ### greenwoodref02_in: function 34 -/
def greenwoodref02_in.l0 : Nat → List Int → Int → Int → Option (Bool)
 | 0, _, _, _ => none
 | k + 1, x0, x1, x5 => if x5 < (x0.length : Int) then (if 0 ≤ x5 then (if (rd x0 x5) = x1 then (some true) else (greenwoodref02_in.l0 k x0 x1 (wrap64 (x5 + 1)))) else (none)) else (some false)
def greenwoodref02_in.f (k : Nat) (l0 : List Int) (a1 : Int) : Option (Bool) := greenwoodref02_in.l0 k l0 a1 0
set_option maxHeartbeats 8000000 in
set_option maxRecDepth 100000 in
theorem greenwoodref02_in.calls (k : Nat) (A0 : Option Addr) (c0 : Nat) (l0 : List Int) (a1 : Int) (r : Bool) (w : World) (hr0 : Kd.C (Kd.int .i64) w A0 l0.length l0) (hc0 : l0.length ≤ c0) (h : greenwoodref02_in.f k l0 a1 = some r) :
 Calls Tryd.prog 34 #[.slice A0 l0.length c0, .int .i64 a1] w fun e w' => e = .returned (.bool r) ∧ Drawn0 w w' := by
 have HR0 := Aside0.mk hr0
 have HC0 := Aside0.mk hc0
 clear hr0 hc0
 have H : (greenwoodref02_in.l0 k l0 a1 0) = some r := h
 clear h
 have H' := Aside0.mk H
 clear H
 go_enter Tryd.func34, Tryd.ntmps34
 go_wp2
 go_loopg [5] k (fun kq v5 w' => ∃ (x5_1 : Int), v5 = .int .i64 x5_1 ∧ Aside0 (greenwoodref02_in.l0 kq l0 a1 x5_1 = some r) ∧ Aside0 (kq ≤ k) ∧ Drawn0 w w')
 case atStart => exact ⟨(0), (by first | rfl | (simp; done) | (simp [*]; done)), H', ⟨Nat.le_refl _⟩, by repeat (first | exact Drawn0.refl _ | apply Drawn0.step)⟩
 case round =>
  clear H'
  try clear p2
  obtain ⟨x5_1, rfl, HA, HK1, ⟨m1, rfl⟩⟩ := hrel
  cases gk with
  | zero => exact absurd HA.out (by simp [greenwoodref02_in.l0])
  | succ k1 =>
   have H := HA.out
   clear HA
   simp only [greenwoodref02_in.l0] at H
   by_cases c3 : x5_1 < (l0.length : Int)
   ·rw [if_pos c3] at H
    have c3b0 : decide (x5_1 < (l0.length : Int)) = true := decide_eq_true c3
    clear c3
    by_cases c4 : 0 ≤ x5_1
    ·rw [if_pos c4] at H
     have c4b0 : decide (0 ≤ x5_1) = true := decide_eq_true c4
     clear c4
     by_cases c5 : (rd l0 x5_1) = a1
     ·rw [if_pos c5] at H
      have c5b0 : ((rd l0 x5_1) == a1) = true := beq_iff_eq.mpr c5
      have c5b1 : ((rd l0 x5_1) != a1) = false := bne_eq_false_iff_eq.mpr c5
      clear c5
      obtain rfl := Option.some.inj H
      have p230 : 0 ≤ (x5_1 : Int) := of_decide_eq_true (by first | (with_reducible assumption) | assumption)
      have q230 : x5_1 < (l0.length : Int) := of_decide_eq_true (by first | (with_reducible assumption) | assumption)
      obtain ⟨ad230, e230, hx230_0⟩ := Kd.at_int HR0.out x5_1 p230 q230
      cases e230
      replace p230 := eq_true p230
      replace q230 := eq_true q230
      go_wp2
      go_ret
      exact ⟨by first | rfl | (simp; done) | (simp [*]; done), by repeat (first | exact Drawn0.refl _ | apply Drawn0.step)⟩
     ·rw [if_neg c5] at H
      have c5b0 : ((rd l0 x5_1) == a1) = false := beq_eq_false_iff_ne.mpr c5
      have c5b1 : ((rd l0 x5_1) != a1) = true := bne_iff_ne.mpr c5
      have H' := Aside0.mk H
      clear H
      have p230 : 0 ≤ (x5_1 : Int) := of_decide_eq_true (by first | (with_reducible assumption) | assumption)
      have q230 : x5_1 < (l0.length : Int) := of_decide_eq_true (by first | (with_reducible assumption) | assumption)
      obtain ⟨ad230, e230, hx230_0⟩ := Kd.at_int HR0.out x5_1 p230 q230
      cases e230
      replace p230 := eq_true p230
      replace q230 := eq_true q230
      go_wp2
      go_roundg k1
      case measure => have := HK1.out; omega
      case rel => exact ⟨(wrap64 (x5_1 + 1)), (by first | rfl | (simp; done) | (simp [*]; done)), H', ⟨by have := HK1.out; omega⟩, by repeat (first | exact Drawn0.refl _ | apply Drawn0.step)⟩
    ·rw [if_neg c4] at H
     exact absurd H (by simp)
   ·rw [if_neg c3] at H
    have c3b0 : decide (x5_1 < (l0.length : Int)) = false := decide_eq_false c3
    clear c3
    obtain rfl := Option.some.inj H
    go_wp2
    go_ret
    exact ⟨by first | rfl | (simp; done) | (simp [*]; done), by repeat (first | exact Drawn0.refl _ | apply Drawn0.step)⟩

/-! ### greenwoodref02_Minus: function 24 -/
mutual
def greenwoodref02_Minus.l0 : Nat → List Int → List Int → List Int → Int → Option (List Int)
 | 0, _, _, _, _ => none
 | k + 1, x0, x1, x5, x6 => if x6 < (x0.length : Int) then ((greenwoodref02_May.f k x0).bind fun t234 => (if t234 = true then ((greenwoodref02_May.f k x1).bind fun t235 => (greenwoodref02_Minus.j1 k x0 x1 x5 x6 t235)) else (greenwoodref02_Minus.j1 k x0 x1 x5 x6 false))) else (greenwoodref02_Minus.j1 k x0 x1 x5 x6 false)
def greenwoodref02_Minus.j1 : Nat → List Int → List Int → List Int → Int → Bool → Option (List Int)
 | 0, _, _, _, _, _ => none
 | k + 1, x0, x1, x5, x6, x19 => if x19 = true then (if 0 ≤ x6 then (if x6 < (x0.length : Int) then ((greenwoodref02_in.f k x1 (rd x0 x6)).bind fun t237 => (if t237 = true then (greenwoodref02_Minus.l0 k x0 x1 x5 (wrap64 (x6 + 1))) else (if x5.length < 17592186044416 then (greenwoodref02_Minus.l0 k x0 x1 (x5 ++ [rd x0 x6]) (wrap64 (x6 + 1))) else (none)))) else (none)) else (none)) else (some x5)
end
def greenwoodref02_Minus.f (k : Nat) (l0 : List Int) (l1 : List Int) : Option (List Int) := greenwoodref02_Minus.l0 k l0 l1 (([] : List Int)) 0
set_option maxHeartbeats 8000000 in
set_option maxRecDepth 100000 in
theorem greenwoodref02_Minus.calls (k : Nat) (A0 : Option Addr) (c0 : Nat) (l0 : List Int) (A1 : Option Addr) (c1 : Nat) (l1 : List Int) (r : List Int) (w : World) (hr0 : Kd.C (Kd.int .i64) w A0 l0.length l0) (hc0 : l0.length ≤ c0) (hr1 : Kd.C (Kd.int .i64) w A1 l1.length l1) (hc1 : l1.length ≤ c1) (h : greenwoodref02_Minus.f k l0 l1 = some r) :
 Calls Tryd.prog 24 #[.slice A0 l0.length c0, .slice A1 l1.length c1] w fun e w' => ∃ v0_ : Value, e = .returned (v0_) ∧ Kd.R (Kd.int .i64) 3 w' w.heap.size (fun _ => True) v0_ r ∧ Below w.heap.size w w' := by
 have HR0 := Aside0.mk hr0
 have HC0 := Aside0.mk hc0
 clear hr0 hc0
 have HR1 := Aside0.mk hr1
 have HC1 := Aside0.mk hc1
 clear hr1 hc1
 have HB := Aside0.mk (Below.refl w.heap.size w)
 have H : (greenwoodref02_Minus.l0 k l0 l1 (([] : List Int)) 0) = some r := h
 clear h
 obtain ⟨y231, hy231⟩ : ∃ y_ : List Int, y_ = (([] : List Int)) := ⟨_, rfl⟩
 replace H : (greenwoodref02_Minus.l0 k l0 l1 y231 0) = some r := by first | (rw [hy231]; with_reducible exact H) | (have H2_ := (Option.bind_some _ _).symm.trans H; rw [hy231]; with_reducible exact H2_) | (have H2_ := (Option.bind_some _ _).symm.trans H; with_reducible exact H2_) | with_reducible exact H | (rw [hy231]; exact H) | exact H
 have Ny231 := Aside0.mk hy231
 clear hy231
 have H' := Aside0.mk H
 clear H
 go_enter Tryd.func24, Tryd.ntmps24
 go_wp2_with (first | ((with_reducible refine gate_dst (N := 7) rfl ?_); refine Kd.R_lit (Kd.int .i64) _ 3 ?hg (N := 7) ?hd (xs := ([] : List Int)) (inner := []) (ok := fun _ => True) (okp := fun _ => True) ?hr ?hp (fun _ hk => hk) trivial (Below.refl _ _) (Nat.le_refl _) (by simp) ?_; (case hd => rfl); (case hg => rfl); (case hr => first | (go_simp; done) | (go_simp; rfl)); (case hp => exact (Reps.none _ _)); intro v232 w3 ho4 hb hg_ hnew_; clear hg_ hnew_; (first | rw [← Ny231.out] at ho4 | (simp only [Int.reduceToNat] at ho4; rw [← Ny231.out] at ho4)); have n0_ := Aside0.mk (Kd.R_lower ho4 (below_size (by repeat (first | (with_reducible first | exact HB.out | apply below_alloc | apply pw_below_drewN | apply below_drew1) | exact HB.out)))); have n1_ := Aside0.mk (below_step (by repeat (first | (with_reducible first | exact HB.out | apply below_alloc | apply pw_below_drewN | apply below_drew1) | exact HB.out)) hb); clear HB; have HO233 := n0_; have HB := n1_; clear n0_ n1_; clear hb ho4))
 go_loopg [5, 6] k (fun kq v5 v6 w' => ∃ (x5_1 : List Int) (x6_1 : Int), v6 = .int .i64 x6_1 ∧ Aside0 (greenwoodref02_Minus.l0 kq l0 l1 x5_1 x6_1 = some r) ∧ Aside0 (kq ≤ k) ∧ Aside0 (Kd.R (Kd.int .i64) 3 w' w.heap.size (fun _ => True) v5 x5_1) ∧ Aside0 (Below w.heap.size w w'))
 case atStart => exact ⟨(y231), (0), (by first | rfl | (simp; done) | (simp [*]; done)), H', ⟨Nat.le_refl _⟩, ⟨by (with_reducible repeat (first | apply Kd.R_alloc | apply Kd.R_drewN | apply Kd.R_drew)); exact HO233.out⟩, ⟨by repeat (first | (with_reducible first | exact HB.out | apply below_alloc | apply pw_below_drewN | apply below_drew1) | exact HB.out)⟩⟩
 case round =>
  clear H'
  try clear c1
  try clear c2
  try clear p2
  obtain ⟨x5_1, x6_1, rfl, HA, HK1, HO_5, HB⟩ := hrel
  cases gk with
  | zero => exact absurd HA.out (by simp [greenwoodref02_Minus.l0])
  | succ k1 =>
   have H := HA.out
   clear HA
   simp only [greenwoodref02_Minus.l0] at H
   have HC5 := Aside0.mk H
   clear H
   go_upto_region 3 with (fail)
   go_cut [19] (fun v19 wc => ∃ (kq : Nat) (x19_4 : Bool), v19 = .bool x19_4 ∧ Aside0 (greenwoodref02_Minus.j1 kq l0 l1 x5_1 x6_1 x19_4 = some r) ∧ Aside0 (kq ≤ k1) ∧ Aside0 (Kd.R (Kd.int .i64) 3 wc w.heap.size (fun _ => True) u5 x5_1) ∧ Aside0 (Below w.heap.size w wc))
   case first =>
    have H := HC5.out
    clear HC5
    by_cases c6 : x6_1 < (l0.length : Int)
    ·rw [if_pos c6] at H
     have c6b0 : decide (x6_1 < (l0.length : Int)) = true := decide_eq_true c6
     clear c6
     (first | rw [c6b0] | (simp only [i64_w, i32_w]; rw [c6b0]) | skip)
     replace H := Option.bind_eq_some_iff.mp H
     obtain ⟨t234, A70, H⟩ := H
     replace H : (if t234 = true then ((greenwoodref02_May.f k1 l1).bind fun t235 => (greenwoodref02_Minus.j1 k1 l0 l1 x5_1 x6_1 t235)) else (greenwoodref02_Minus.j1 k1 l0 l1 x5_1 x6_1 false)) = some r := H
     have A7 := Aside0.mk A70
     clear A70
     by_cases c8 : t234 = true
     ·subst c8
      have H1 : ((greenwoodref02_May.f k1 l1).bind fun t235 => (greenwoodref02_Minus.j1 k1 l0 l1 x5_1 x6_1 t235)) = some r := by rw [if_pos rfl] at H; exact H
      clear H
      have H := H1
      clear H1
      replace H := Option.bind_eq_some_iff.mp H
      obtain ⟨t235, A90, H⟩ := H
      replace H : (greenwoodref02_Minus.j1 k1 l0 l1 x5_1 x6_1 t235) = some r := H
      have A9 := Aside0.mk A90
      clear A90
      have H' := Aside0.mk H
      clear H
      go_wp2_with (first | (go_at_call 32; (with_reducible refine (greenwoodref02_May.calls k1 _ _ l0 true _ ?side1 ?side2 A7.out).mono ?_); (case side1 => repeat (first | exact (Kd.C_below HR0.out HB.out) | (with_reducible refine Kd.C_alloc ?_ _) | (with_reducible refine Kd.C_drewN ?_ _) | (with_reducible refine Kd.C_drew ?_))); (case side2 => exact HC0.out); rintro e w' ⟨rfl, ⟨nd, rfl⟩⟩) | (go_at_call 32; (with_reducible refine (greenwoodref02_May.calls k1 _ _ l1 t235 _ ?side1 ?side2 A9.out).mono ?_); (case side1 => repeat (first | exact (Kd.C_below HR1.out (by repeat (first | (with_reducible first | exact HB.out | apply below_alloc | apply pw_below_drewN | apply below_drew1) | exact HB.out))) | (with_reducible refine Kd.C_alloc ?_ _) | (with_reducible refine Kd.C_drewN ?_ _) | (with_reducible refine Kd.C_drew ?_))); (case side2 => exact HC1.out); rintro e w' ⟨rfl, ⟨nd, rfl⟩⟩))
      go_meet
      case rel => exact ⟨_, (t235), (by first | rfl | (simp; done) | (simp [*]; done)), H', ⟨by have := HK1.out; first | omega | exact Nat.le_refl _⟩, ⟨by (with_reducible repeat (first | apply Kd.R_alloc | apply Kd.R_drewN | apply Kd.R_drew)); exact HO_5.out⟩, ⟨by repeat (first | (with_reducible first | exact HB.out | apply below_alloc | apply pw_below_drewN | apply below_drew1) | exact HB.out)⟩⟩
     ·replace c8 := Bool.eq_false_iff.mpr c8
      subst c8
      have H1 : (greenwoodref02_Minus.j1 k1 l0 l1 x5_1 x6_1 false) = some r := by rw [if_neg (show ¬ (false = true) by decide)] at H; exact H
      clear H
      have H := H1
      clear H1
      have H' := Aside0.mk H
      clear H
      go_wp2_with (first | (go_at_call 32; (with_reducible refine (greenwoodref02_May.calls k1 _ _ l0 false _ ?side1 ?side2 A7.out).mono ?_); (case side1 => repeat (first | exact (Kd.C_below HR0.out HB.out) | (with_reducible refine Kd.C_alloc ?_ _) | (with_reducible refine Kd.C_drewN ?_ _) | (with_reducible refine Kd.C_drew ?_))); (case side2 => exact HC0.out); rintro e w' ⟨rfl, ⟨nd, rfl⟩⟩))
      go_meet
      case rel => exact ⟨_, (false), (by first | rfl | (simp; done) | (simp [*]; done)), H', ⟨by have := HK1.out; first | omega | exact Nat.le_refl _⟩, ⟨by (with_reducible repeat (first | apply Kd.R_alloc | apply Kd.R_drewN | apply Kd.R_drew)); exact HO_5.out⟩, ⟨by repeat (first | (with_reducible first | exact HB.out | apply below_alloc | apply pw_below_drewN | apply below_drew1) | exact HB.out)⟩⟩
    ·rw [if_neg c6] at H
     have c6b0 : decide (x6_1 < (l0.length : Int)) = false := decide_eq_false c6
     clear c6
     (first | rw [c6b0] | (simp only [i64_w, i32_w]; rw [c6b0]) | skip)
     have H' := Aside0.mk H
     clear H
     go_wp2
     go_meet
     case rel => exact ⟨_, (false), (by first | rfl | (simp; done) | (simp [*]; done)), H', ⟨by have := HK1.out; first | omega | exact Nat.le_refl _⟩, ⟨by (with_reducible repeat (first | apply Kd.R_alloc | apply Kd.R_drewN | apply Kd.R_drew)); exact HO_5.out⟩, ⟨by repeat (first | (with_reducible first | exact HB.out | apply below_alloc | apply pw_below_drewN | apply below_drew1) | exact HB.out)⟩⟩
   case rest =>
    clear HC5
    try clear c1
    try clear c2
    try clear p2
    try clear c6
    try clear c6b0
    try clear c8
    try clear p2
    obtain ⟨kq, x19_4, rfl, HA, HJ4, HO_5, HB⟩ := hcut
    cases kq with
    | zero => exact absurd HA.out (by simp [greenwoodref02_Minus.j1])
    | succ kj4 =>
     have H := HA.out
     clear HA
     simp only [greenwoodref02_Minus.j1] at H
     by_cases c10 : x19_4 = true
     ·subst c10
      have H1 : (if 0 ≤ x6_1 then (if x6_1 < (l0.length : Int) then ((greenwoodref02_in.f kj4 l1 (rd l0 x6_1)).bind fun t237 => (if t237 = true then (greenwoodref02_Minus.l0 kj4 l0 l1 x5_1 (wrap64 (x6_1 + 1))) else (if x5_1.length < 17592186044416 then (greenwoodref02_Minus.l0 kj4 l0 l1 (x5_1 ++ [rd l0 x6_1]) (wrap64 (x6_1 + 1))) else (none)))) else (none)) else (none)) = some r := by rw [if_pos rfl] at H; exact H
      clear H
      have H := H1
      clear H1
      by_cases c11 : 0 ≤ x6_1
      ·rw [if_pos c11] at H
       have c11b0 : decide (0 ≤ x6_1) = true := decide_eq_true c11
       clear c11
       by_cases c12 : x6_1 < (l0.length : Int)
       ·rw [if_pos c12] at H
        have c12b0 : decide (x6_1 < (l0.length : Int)) = true := decide_eq_true c12
        clear c12
        replace H := Option.bind_eq_some_iff.mp H
        obtain ⟨t237, A130, H⟩ := H
        replace H : (if t237 = true then (greenwoodref02_Minus.l0 kj4 l0 l1 x5_1 (wrap64 (x6_1 + 1))) else (if x5_1.length < 17592186044416 then (greenwoodref02_Minus.l0 kj4 l0 l1 (x5_1 ++ [rd l0 x6_1]) (wrap64 (x6_1 + 1))) else (none))) = some r := H
        have A13 := Aside0.mk A130
        clear A130
        by_cases c14 : t237 = true
        ·subst c14
         have H1 : (greenwoodref02_Minus.l0 kj4 l0 l1 x5_1 (wrap64 (x6_1 + 1))) = some r := by rw [if_pos rfl] at H; exact H
         clear H
         have H := H1
         clear H1
         have H' := Aside0.mk H
         clear H
         have p236 : 0 ≤ (x6_1 : Int) := of_decide_eq_true (by first | (with_reducible assumption) | assumption)
         have q236 : x6_1 < (l0.length : Int) := of_decide_eq_true (by first | (with_reducible assumption) | assumption)
         obtain ⟨ad236, e236, hx236_0⟩ := Kd.at_int HR0.out x6_1 p236 q236
         cases e236
         replace hx236_0 := (HB.out.cell (World.block_lt_of_cell? w _ hx236_0)).trans hx236_0
         replace p236 := eq_true p236
         replace q236 := eq_true q236
         go_wp2_with (first | ((with_reducible refine gate_callee (f := 34) rfl ?_); refine goesL_ (some 27) rfl rfl Tryd.func34 (by kernel_rfl) rfl #[.slice A1 l1.length c1, .int .i64 (rd l0 x6_1)] rfl (by (try simp only [List.map_toArray, List.map_cons, List.map_nil]); first | done | rfl | (simp only [List.length_drop, List.length_take]; rfl)) ?_; (with_reducible refine (greenwoodref02_in.calls kj4 _ _ l1 (rd l0 x6_1) true _ ?side1 ?side2 A13.out).mono ?_); (case side1 => repeat (first | exact (Kd.C_below HR1.out HB.out) | (with_reducible refine Kd.C_alloc ?_ _) | (with_reducible refine Kd.C_drewN ?_ _) | (with_reducible refine Kd.C_drew ?_))); (case side2 => exact HC1.out); rintro e w' ⟨rfl, ⟨nd, rfl⟩⟩; refine ⟨_, rfl, ?_⟩))
         go_roundg kj4
         case measure => have := HK1.out; have := HJ4.out; omega
         case rel => exact ⟨(x5_1), (wrap64 (x6_1 + 1)), (by first | rfl | (simp; done) | (simp [*]; done)), H', ⟨by have := HK1.out; have := HJ4.out; omega⟩, ⟨by (with_reducible repeat (first | apply Kd.R_alloc | apply Kd.R_drewN | apply Kd.R_drew)); exact HO_5.out⟩, ⟨by repeat (first | (with_reducible first | exact HB.out | apply below_alloc | apply pw_below_drewN | apply below_drew1) | exact HB.out)⟩⟩
        ·replace c14 := Bool.eq_false_iff.mpr c14
         subst c14
         have H1 : (if x5_1.length < 17592186044416 then (greenwoodref02_Minus.l0 kj4 l0 l1 (x5_1 ++ [rd l0 x6_1]) (wrap64 (x6_1 + 1))) else (none)) = some r := by rw [if_neg (show ¬ (false = true) by decide)] at H; exact H
         clear H
         have H := H1
         clear H1
         by_cases c15 : x5_1.length < 17592186044416
         ·rw [if_pos c15] at H
          have LMc15 := Aside0.mk c15
          clear c15
          obtain ⟨y239, hy239⟩ : ∃ y_ : List Int, y_ = (x5_1 ++ [rd l0 x6_1]) := ⟨_, rfl⟩
          replace H : (greenwoodref02_Minus.l0 kj4 l0 l1 y239 (wrap64 (x6_1 + 1))) = some r := by first | (rw [hy239]; with_reducible exact H) | (have H2_ := (Option.bind_some _ _).symm.trans H; rw [hy239]; with_reducible exact H2_) | (have H2_ := (Option.bind_some _ _).symm.trans H; with_reducible exact H2_) | with_reducible exact H | (rw [hy239]; exact H) | exact H
          have Ny239 := Aside0.mk hy239
          clear hy239
          have H' := Aside0.mk H
          clear H
          have p236 : 0 ≤ (x6_1 : Int) := of_decide_eq_true (by first | (with_reducible assumption) | assumption)
          have q236 : x6_1 < (l0.length : Int) := of_decide_eq_true (by first | (with_reducible assumption) | assumption)
          obtain ⟨ad236, e236, hx236_0⟩ := Kd.at_int HR0.out x6_1 p236 q236
          cases e236
          replace hx236_0 := (HB.out.cell (World.block_lt_of_cell? w _ hx236_0)).trans hx236_0
          replace p236 := eq_true p236
          replace q236 := eq_true q236
          go_wp2_with (first | ((with_reducible refine gate_callee (f := 34) rfl ?_); refine goesL_ (some 27) rfl rfl Tryd.func34 (by kernel_rfl) rfl #[.slice A1 l1.length c1, .int .i64 (rd l0 x6_1)] rfl (by (try simp only [List.map_toArray, List.map_cons, List.map_nil]); first | done | rfl | (simp only [List.length_drop, List.length_take]; rfl)) ?_; (with_reducible refine (greenwoodref02_in.calls kj4 _ _ l1 (rd l0 x6_1) false _ ?side1 ?side2 A13.out).mono ?_); (case side1 => repeat (first | exact (Kd.C_below HR1.out HB.out) | (with_reducible refine Kd.C_alloc ?_ _) | (with_reducible refine Kd.C_drewN ?_ _) | (with_reducible refine Kd.C_drew ?_))); (case side2 => exact HC1.out); rintro e w' ⟨rfl, ⟨nd, rfl⟩⟩; refine ⟨_, rfl, ?_⟩; have p238 : 0 ≤ (x6_1 : Int) := of_decide_eq_true (by first | (with_reducible assumption) | assumption); have q238 : x6_1 < (l0.length : Int) := of_decide_eq_true (by first | (with_reducible assumption) | assumption); obtain ⟨ad238, e238, hx238_0⟩ := Kd.at_int HR0.out x6_1 p238 q238; obtain rfl : ad236 = ad238 := (by injection e238); replace hx238_0 := (HB.out.cell (World.block_lt_of_cell? w _ hx238_0)).trans hx238_0; replace p238 := eq_true p238; replace q238 := eq_true q238) | ((with_reducible refine gate_builtin (b := .append) (xs := #[.tmp 29, .tmp 34]) rfl ?_); at_builtin; refine Kd.R_append (Kd.int .i64) (w0 := w) w.heap.size rfl (.tmp 29) (.tmp 34) 26 3 (.int .i64 0) 8 rfl Tryd.underlying26 info3 rfl (by decide) (by omega) u5 x5_1 (rd l0 x6_1) [.int .i64 (rd l0 x6_1)] (fun _ => True) (fun _ => False) rfl rfl ?aP (fun _ hk => hk.elim) ?aF ?aO ?aB ?aS ?aL ?_; (case aP => exact rfl); (case aB => exact (by repeat (first | (with_reducible first | exact HB.out | apply below_alloc | apply pw_below_drewN | apply below_drew1) | exact HB.out))); (case aF => exact (fun _ _ => trivial)); (case aO => exact (by (with_reducible repeat (first | apply Kd.R_alloc | apply Kd.R_drewN | apply Kd.R_drew)); exact HO_5.out)); (case aS => exact (below_size (by repeat (first | (with_reducible first | exact HB.out | apply below_alloc | apply pw_below_drewN | apply below_drew1) | exact HB.out)))); (case aL => have := LMc15.out; omega); intro v240 w16 ho hb hg hat; rw [← Ny239.out] at ho; have n0_ := Aside0.mk (hb); have n1_ := Aside0.mk (ho); clear HB; clear HO_5; have HB := n0_; have HO241 := n1_; clear n0_ n1_; clear ho hb hg hat))
          go_roundg kj4
          case measure => have := HK1.out; have := HJ4.out; omega
          case rel => exact ⟨(y239), (wrap64 (x6_1 + 1)), (by first | rfl | (simp; done) | (simp [*]; done)), H', ⟨by have := HK1.out; have := HJ4.out; omega⟩, ⟨by (with_reducible repeat (first | apply Kd.R_alloc | apply Kd.R_drewN | apply Kd.R_drew)); exact HO241.out⟩, ⟨by repeat (first | (with_reducible first | exact HB.out | apply below_alloc | apply pw_below_drewN | apply below_drew1) | exact HB.out)⟩⟩
         ·rw [if_neg c15] at H
          exact absurd H (by simp)
       ·rw [if_neg c12] at H
        exact absurd H (by simp)
      ·rw [if_neg c11] at H
       exact absurd H (by simp)
     ·replace c10 := Bool.eq_false_iff.mpr c10
      subst c10
      have H1 : (some x5_1) = some r := by rw [if_neg (show ¬ (false = true) by decide)] at H; exact H
      clear H
      have H := H1
      clear H1
      obtain rfl := Option.some.inj H
      go_wp2
      go_ret
      exact ⟨_, by first | rfl | (simp [errW_none, errW_some] <;> rfl) | (simp [*, errW_none, errW_some] <;> rfl), by (with_reducible repeat (first | apply Kd.R_alloc | apply Kd.R_drewN | apply Kd.R_drew)); exact HO_5.out, by repeat (first | (with_reducible first | exact HB.out | apply below_alloc | apply pw_below_drewN | apply below_drew1) | exact HB.out)⟩

/-! ### greenwoodref02_All: function 25 -/
def greenwoodref02_All.l0 : Nat → Int → List Int → Int → Option (List Int)
 | 0, _, _, _ => none
 | k + 1, x0, x3, x4 => if x4 < x0 then (if x0 ≤ 100000 then (if x3.length < 17592186044416 then (greenwoodref02_All.l0 k x0 (x3 ++ [x4]) (wrap64 (x4 + 1))) else (none)) else (some x3)) else (some x3)
def greenwoodref02_All.f (k : Nat) (a0 : Int) : Option (List Int) := greenwoodref02_All.l0 k a0 (([] : List Int)) 0
set_option maxHeartbeats 8000000 in
set_option maxRecDepth 100000 in
theorem greenwoodref02_All.calls (k : Nat) (a0 : Int) (r : List Int) (w : World) (h : greenwoodref02_All.f k a0 = some r) :
 Calls Tryd.prog 25 #[.int .i64 a0] w fun e w' => ∃ v0_ : Value, e = .returned (v0_) ∧ Kd.R (Kd.int .i64) 3 w' w.heap.size (fun _ => True) v0_ r ∧ Below w.heap.size w w' := by
 have HB := Aside0.mk (Below.refl w.heap.size w)
 have H : (greenwoodref02_All.l0 k a0 (([] : List Int)) 0) = some r := h
 clear h
 obtain ⟨y242, hy242⟩ : ∃ y_ : List Int, y_ = (([] : List Int)) := ⟨_, rfl⟩
 replace H : (greenwoodref02_All.l0 k a0 y242 0) = some r := by first | (rw [hy242]; with_reducible exact H) | (have H2_ := (Option.bind_some _ _).symm.trans H; rw [hy242]; with_reducible exact H2_) | (have H2_ := (Option.bind_some _ _).symm.trans H; with_reducible exact H2_) | with_reducible exact H | (rw [hy242]; exact H) | exact H
 have Ny242 := Aside0.mk hy242
 clear hy242
 have H' := Aside0.mk H
 clear H
 go_enter Tryd.func25, Tryd.ntmps25
 go_wp2_with (first | ((with_reducible refine gate_dst (N := 5) rfl ?_); refine Kd.R_lit (Kd.int .i64) _ 3 ?hg (N := 5) ?hd (xs := ([] : List Int)) (inner := []) (ok := fun _ => True) (okp := fun _ => True) ?hr ?hp (fun _ hk => hk) trivial (Below.refl _ _) (Nat.le_refl _) (by simp) ?_; (case hd => rfl); (case hg => rfl); (case hr => first | (go_simp; done) | (go_simp; rfl)); (case hp => exact (Reps.none _ _)); intro v243 w2 ho3 hb hg_ hnew_; clear hg_ hnew_; (first | rw [← Ny242.out] at ho3 | (simp only [Int.reduceToNat] at ho3; rw [← Ny242.out] at ho3)); have n0_ := Aside0.mk (Kd.R_lower ho3 (below_size (by repeat (first | (with_reducible first | exact HB.out | apply below_alloc | apply pw_below_drewN | apply below_drew1) | exact HB.out)))); have n1_ := Aside0.mk (below_step (by repeat (first | (with_reducible first | exact HB.out | apply below_alloc | apply pw_below_drewN | apply below_drew1) | exact HB.out)) hb); clear HB; have HO244 := n0_; have HB := n1_; clear n0_ n1_; clear hb ho3))
 go_loopg [3, 4] k (fun kq v3 v4 w' => ∃ (x3_1 : List Int) (x4_1 : Int), v4 = .int .i64 x4_1 ∧ Aside0 (greenwoodref02_All.l0 kq a0 x3_1 x4_1 = some r) ∧ Aside0 (kq ≤ k) ∧ Aside0 (Kd.R (Kd.int .i64) 3 w' w.heap.size (fun _ => True) v3 x3_1) ∧ Aside0 (Below w.heap.size w w'))
 case atStart => exact ⟨(y242), (0), (by first | rfl | (simp; done) | (simp [*]; done)), H', ⟨Nat.le_refl _⟩, ⟨by (with_reducible repeat (first | apply Kd.R_alloc | apply Kd.R_drewN | apply Kd.R_drew)); exact HO244.out⟩, ⟨by repeat (first | (with_reducible first | exact HB.out | apply below_alloc | apply pw_below_drewN | apply below_drew1) | exact HB.out)⟩⟩
 case round =>
  clear H'
  try clear c2
  try clear p2
  obtain ⟨x3_1, x4_1, rfl, HA, HK1, HO_3, HB⟩ := hrel
  cases gk with
  | zero => exact absurd HA.out (by simp [greenwoodref02_All.l0])
  | succ k1 =>
   have H := HA.out
   clear HA
   simp only [greenwoodref02_All.l0] at H
   by_cases c4 : x4_1 < a0
   ·rw [if_pos c4] at H
    have c4b0 : decide (x4_1 < a0) = true := decide_eq_true c4
    clear c4
    by_cases c5 : a0 ≤ 100000
    ·rw [if_pos c5] at H
     have c5b0 : decide (a0 ≤ 100000) = true := decide_eq_true c5
     clear c5
     by_cases c6 : x3_1.length < 17592186044416
     ·rw [if_pos c6] at H
      have LMc6 := Aside0.mk c6
      clear c6
      obtain ⟨y245, hy245⟩ : ∃ y_ : List Int, y_ = (x3_1 ++ [x4_1]) := ⟨_, rfl⟩
      replace H : (greenwoodref02_All.l0 k1 a0 y245 (wrap64 (x4_1 + 1))) = some r := by first | (rw [hy245]; with_reducible exact H) | (have H2_ := (Option.bind_some _ _).symm.trans H; rw [hy245]; with_reducible exact H2_) | (have H2_ := (Option.bind_some _ _).symm.trans H; with_reducible exact H2_) | with_reducible exact H | (rw [hy245]; exact H) | exact H
      have Ny245 := Aside0.mk hy245
      clear hy245
      have H' := Aside0.mk H
      clear H
      go_wp2_with (first | ((with_reducible refine gate_builtin (b := .append) (xs := #[.tmp 15, .tmp 17]) rfl ?_); at_builtin; refine Kd.R_append (Kd.int .i64) (w0 := w) w.heap.size rfl (.tmp 15) (.tmp 17) 26 3 (.int .i64 0) 8 rfl Tryd.underlying26 info3 rfl (by decide) (by omega) u3 x3_1 x4_1 [.int .i64 x4_1] (fun _ => True) (fun _ => False) rfl rfl ?aP (fun _ hk => hk.elim) ?aF ?aO ?aB ?aS ?aL ?_; (case aP => exact rfl); (case aB => exact (by repeat (first | (with_reducible first | exact HB.out | apply below_alloc | apply pw_below_drewN | apply below_drew1) | exact HB.out))); (case aF => exact (fun _ _ => trivial)); (case aO => exact (by (with_reducible repeat (first | apply Kd.R_alloc | apply Kd.R_drewN | apply Kd.R_drew)); exact HO_3.out)); (case aS => exact (below_size (by repeat (first | (with_reducible first | exact HB.out | apply below_alloc | apply pw_below_drewN | apply below_drew1) | exact HB.out)))); (case aL => have := LMc6.out; omega); intro v246 w7 ho hb hg hat; rw [← Ny245.out] at ho; have n0_ := Aside0.mk (hb); have n1_ := Aside0.mk (ho); clear HB; clear HO_3; have HB := n0_; have HO247 := n1_; clear n0_ n1_; clear ho hb hg hat))
      go_roundg k1
      case measure => have := HK1.out; omega
      case rel => exact ⟨(y245), (wrap64 (x4_1 + 1)), (by first | rfl | (simp; done) | (simp [*]; done)), H', ⟨by have := HK1.out; omega⟩, ⟨by (with_reducible repeat (first | apply Kd.R_alloc | apply Kd.R_drewN | apply Kd.R_drew)); exact HO247.out⟩, ⟨by repeat (first | (with_reducible first | exact HB.out | apply below_alloc | apply pw_below_drewN | apply below_drew1) | exact HB.out)⟩⟩
     ·rw [if_neg c6] at H
      exact absurd H (by simp)
    ·rw [if_neg c5] at H
     have c5b0 : decide (a0 ≤ 100000) = false := decide_eq_false c5
     clear c5
     obtain rfl := Option.some.inj H
     go_wp2
     go_ret
     exact ⟨_, by first | rfl | (simp [errW_none, errW_some] <;> rfl) | (simp [*, errW_none, errW_some] <;> rfl), by (with_reducible repeat (first | apply Kd.R_alloc | apply Kd.R_drewN | apply Kd.R_drew)); exact HO_3.out, by repeat (first | (with_reducible first | exact HB.out | apply below_alloc | apply pw_below_drewN | apply below_drew1) | exact HB.out)⟩
   ·rw [if_neg c4] at H
    have c4b0 : decide (x4_1 < a0) = false := decide_eq_false c4
    clear c4
    obtain rfl := Option.some.inj H
    go_wp2
    go_ret
    exact ⟨_, by first | rfl | (simp [errW_none, errW_some] <;> rfl) | (simp [*, errW_none, errW_some] <;> rfl), by (with_reducible repeat (first | apply Kd.R_alloc | apply Kd.R_drewN | apply Kd.R_drew)); exact HO_3.out, by repeat (first | (with_reducible first | exact HB.out | apply below_alloc | apply pw_below_drewN | apply below_drew1) | exact HB.out)⟩

/-! ### greenwoodref09_Image: function 11 -/
end Go.Proofs.YtgbmlkmkfigolaaDoor.P
/- greenwoodref09.Image, by hand. -/
namespace Go.Proofs.YtgbmlkmkfigolaaDoor.P
open Go.RowKit Go.Proofs.YtgbmlkmkfigolaaDoorW.PrintWords Go.Proofs.YtgbmlkmkfigolaaDoorW.PrintLast Go.Proofs.YtgbmlkmkfigolaaDoorW.PrintMore
set_option linter.unusedVariables false
set_option linter.unusedSimpArgs false

def greenwoodref09_Image.f (k : Nat) (a0 a1 a2 a3 : Int) (l4 : List (List Int)) (l5 : List Mtr) (l1 : List Int) : Option (List Int × Bool) :=
 (greenwoodref09_Check.f k a0 a1 a2 a3 l4 l5).bind fun c =>
  if c ≠ 0 ∨ (a0 ≠ 5 ∧ a0 ≠ 6) then some ([], false)
  else (greenwoodref09_Set.f k l1 a1).bind fun s =>
   if s = false then some ([], false)
   else if l4.length = 0 then none
   else if a0 = 6 then (if l5.length = 0 then none else (greenwoodref02_All.f k (rd_T25 l5 0).f1).bind fun a => (greenwoodref02_Minus.f k a (rd_L1 l4 0)).bind fun l => (imgO l [] l1).bind fun o => some (o, true))
   else (imgO (rd_L1 l4 0) [] l1).bind fun o => some (o, true)
set_option maxHeartbeats 4000000 in
set_option maxRecDepth 100000 in
theorem rimg_no (k : Nat) (c : Int) (a0 a1 a2 a3 : Int) (A4 : Option Addr) (c4 : Nat) (l4 : List (List Int)) (A5 : Option Addr) (c5 : Nat) (l5 : List Mtr) (A1 : Option Addr) (c1 : Nat) (l1 : List Int) (w : World) (hr4 : Kd.C (Kd.slice 3 (Kd.int .i64)) w A4 l4.length l4) (hc4 : l4.length ≤ c4) (hr5 : Kd.C k25 w A5 l5.length l5) (hc5 : l5.length ≤ c5) (hr1 : Kd.C (Kd.int .i64) w A1 l1.length l1) (hc1 : l1.length ≤ c1) (hck : greenwoodref09_Check.f k a0 a1 a2 a3 l4 l5 = some c) (s : Bool) (hs : greenwoodref09_Set.f k l1 a1 = some s ∨ (c ≠ 0 ∨ (a0 ≠ 5 ∧ a0 ≠ 6)))
 (hb : (c != 0) = true ∨ ((c != 0) = false ∧ (a0 != 5) = true ∧ (a0 != 6) = true) ∨ (c = 0 ∧ a0 = 5 ∧ s = false) ∨ (c = 0 ∧ a0 = 6 ∧ s = false)) :
 Calls Tryd.prog 11 #[.agg #[.int .i64 a0, .int .i64 a1, .int .i64 a2, .int .i64 a3, .slice A4 l4.length c4, .slice A5 l5.length c5], .slice A1 l1.length c1] w fun e w' => ∃ v0_ : Value, e = .returned (.tuple #[v0_, .bool false]) ∧ Kd.R (Kd.int .i64) 3 w' w.heap.size (fun _ => True) v0_ [] ∧ Below w.heap.size w w' := by
 obtain ⟨W1, hW1⟩ : ∃ W1, W1 = w.alloc (Obj.cells #[.int .i64 a0, .int .i64 a1, .int .i64 a2, .int .i64 a3, .slice A4 l4.length c4, .slice A5 l5.length c5] 25) := ⟨_, rfl⟩
 have hB1 : Below w.heap.size w W1 := by subst hW1; exact (Below.refl _ _).alloc (Nat.le_refl _) _
 have hbx := mbox w 25 (.int .i64 a0) (.int .i64 a1) (.int .i64 a2) (.int .i64 a3) (.slice A4 l4.length c4) (.slice A5 l5.length c5)
 have hsz : w.heap.size < W1.heap.size := by
  subst hW1
  rw [show (w.alloc (Obj.cells #[.int .i64 a0, .int .i64 a1, .int .i64 a2, .int .i64 a3, .slice A4 l4.length c4, .slice A5 l5.length c5] 25)).heap.size = w.heap.size + 1 from Array.size_push ..]; omega
 rw [← hW1] at hbx
 have HB1 := Aside0.mk (And.intro hB1 (And.intro hbx hsz))
 have HW1 := Aside0.mk hW1
 have HCHK := Aside0.mk (greenwoodref09_Check.calls k a0 a1 a2 a3 A4 c4 l4 A5 c5 l5 c W1 (Kd.C_below hr4 hB1) hc4 (Kd.C_below hr5 hB1) hc5 hck)
 have hset : (c = 0 ∧ (a0 = 5 ∨ a0 = 6)) → ∀ (W : World), Aside0 (Below w.heap.size w W) → Calls Tryd.prog 17 #[.slice A1 l1.length c1, .int .i64 a1] W fun e w' => e = .returned (.bool s) ∧ Drawn0 W w' := by
  rintro ⟨e1, e2⟩ W hW
  rcases hs with hs | hs | ⟨h5, h6⟩
  ·exact greenwoodref09_Set.calls k A1 c1 l1 a1 s W (Kd.C_below hr1 hW.out) hc1 hs
  ·exact absurd e1 hs
  ·rcases e2 with e2 | e2
   ·exact absurd e2 h5
   ·exact absurd e2 h6
 clear hB1 hbx hsz hr4 hc4 hr5 hc5 hr1 hc1 hck hW1 hs
 rcases hb with g1 | ⟨g1, g2, g3⟩ | ⟨rfl, rfl, rfl⟩ | ⟨rfl, rfl, rfl⟩
 iterate 2
  ·clear hset
   go_enter Tryd.func11, Tryd.ntmps11
   go_wp2_with (first | (go_at_call 13; rw [← HW1.out]; refine (HCHK.out).mono ?_; rintro e w2 ⟨rfl, hb⟩; (have HB2 := Aside0.mk hb); (have z0 := (HB2.out.cell (p := ⟨w.heap.size, 0, none⟩) HB1.out.2.2).trans HB1.out.2.1.1); (have z1 := (HB2.out.cell (p := ⟨w.heap.size, 1, none⟩) HB1.out.2.2).trans HB1.out.2.1.2.1); (have z4 := (HB2.out.cell (p := ⟨w.heap.size, 4, none⟩) HB1.out.2.2).trans HB1.out.2.1.2.2.2.2.1); (have z5 := (HB2.out.cell (p := ⟨w.heap.size, 5, none⟩) HB1.out.2.2).trans HB1.out.2.1.2.2.2.2.2); (have HBW : Aside0 (Below w.heap.size w w2) := ⟨HB1.out.1.trans (HB2.out.mono HB1.out.1.size)⟩); clear hb))
   go_ret2
   exact ⟨_, rfl, Kd.R_nil _ _ _ _ _, by repeat (first | exact HBW.out | apply pw_below_drewN)⟩
 all_goals
  have HSET := Aside0.mk (hset ⟨rfl, by simp⟩)
  clear hset
  go_enter Tryd.func11, Tryd.ntmps11
  go_wp2_with (first | (go_at_call 17; refine (HSET.out _ HBW).mono ?_; rintro e w' ⟨rfl, ⟨q3, rfl⟩⟩) | (go_at_call 13; rw [← HW1.out]; refine (HCHK.out).mono ?_; rintro e w2 ⟨rfl, hb⟩; (have HB2 := Aside0.mk hb); (have z0 := (HB2.out.cell (p := ⟨w.heap.size, 0, none⟩) HB1.out.2.2).trans HB1.out.2.1.1); (have z1 := (HB2.out.cell (p := ⟨w.heap.size, 1, none⟩) HB1.out.2.2).trans HB1.out.2.1.2.1); (have z4 := (HB2.out.cell (p := ⟨w.heap.size, 4, none⟩) HB1.out.2.2).trans HB1.out.2.1.2.2.2.2.1); (have z5 := (HB2.out.cell (p := ⟨w.heap.size, 5, none⟩) HB1.out.2.2).trans HB1.out.2.1.2.2.2.2.2); (have HBW : Aside0 (Below w.heap.size w w2) := ⟨HB1.out.1.trans (HB2.out.mono HB1.out.1.size)⟩); clear hb))
  go_ret2
  exact ⟨_, rfl, Kd.R_nil _ _ _ _ _, by repeat (first | exact HBW.out | apply pw_below_drewN)⟩
set_option maxHeartbeats 4000000 in
set_option maxRecDepth 100000 in
theorem rimg_5 (k : Nat) (a1 a2 a3 : Int) (A4 : Option Addr) (c4 : Nat) (l4 : List (List Int)) (A5 : Option Addr) (c5 : Nat) (l5 : List Mtr) (A1 : Option Addr) (c1 : Nat) (l1 : List Int) (w : World) (hr4 : Kd.C (Kd.slice 3 (Kd.int .i64)) w A4 l4.length l4) (hc4 : l4.length ≤ c4) (hr5 : Kd.C k25 w A5 l5.length l5) (hc5 : l5.length ≤ c5) (hr1 : Kd.C (Kd.int .i64) w A1 l1.length l1) (hc1 : l1.length ≤ c1) (hck : greenwoodref09_Check.f k 5 a1 a2 a3 l4 l5 = some 0) (hs : greenwoodref09_Set.f k l1 a1 = some true) (h0 : 0 < l4.length) (o : List Int) (ho : imgO (rd_L1 l4 0) [] l1 = some o) :
 Calls Tryd.prog 11 #[.agg #[.int .i64 5, .int .i64 a1, .int .i64 a2, .int .i64 a3, .slice A4 l4.length c4, .slice A5 l5.length c5], .slice A1 l1.length c1] w fun e w' => ∃ v0_ : Value, e = .returned (.tuple #[v0_, .bool true]) ∧ Kd.R (Kd.int .i64) 3 w' w.heap.size (fun _ => True) v0_ o ∧ Below w.heap.size w w' := by
 obtain ⟨W1, hW1⟩ : ∃ W1, W1 = w.alloc (Obj.cells #[.int .i64 5, .int .i64 a1, .int .i64 a2, .int .i64 a3, .slice A4 l4.length c4, .slice A5 l5.length c5] 25) := ⟨_, rfl⟩
 have hB1 : Below w.heap.size w W1 := by subst hW1; exact (Below.refl _ _).alloc (Nat.le_refl _) _
 have hbx := mbox w 25 (.int .i64 5) (.int .i64 a1) (.int .i64 a2) (.int .i64 a3) (.slice A4 l4.length c4) (.slice A5 l5.length c5)
 have hsz : w.heap.size < W1.heap.size := by
  subst hW1
  rw [show (w.alloc (Obj.cells #[.int .i64 5, .int .i64 a1, .int .i64 a2, .int .i64 a3, .slice A4 l4.length c4, .slice A5 l5.length c5] 25)).heap.size = w.heap.size + 1 from Array.size_push ..]; omega
 rw [← hW1] at hbx
 have HB1 := Aside0.mk (And.intro hB1 (And.intro hbx hsz))
 have HW1 := Aside0.mk hW1
 have HCHK := Aside0.mk (greenwoodref09_Check.calls k 5 a1 a2 a3 A4 c4 l4 A5 c5 l5 0 W1 (Kd.C_below hr4 hB1) hc4 (Kd.C_below hr5 hB1) hc5 hck)
 have HSET := Aside0.mk (fun (W : World) (hW : Aside0 (Below w.heap.size w W)) => greenwoodref09_Set.calls k A1 c1 l1 a1 true W (Kd.C_below hr1 hW.out) hc1 hs)
 obtain ⟨ad, A0, c0, hA, x0, hl0, hR0⟩ := at_L1 hr4 0 (by omega) (by omega)
 subst hA
 rw [show (0 : Int).toNat = 0 from rfl, Addr.add_zero'] at x0
 have HX0 := Aside0.mk x0
 generalize rd_L1 l4 0 = l at *
 have HO := Aside0.mk ho
 have HL0 := Aside0.mk hR0
 have HS0 := Aside0.mk hr1
 clear hB1 hbx hsz hr4 hc4 hr5 hc5 hr1 hc1 hck hW1 hs ho x0 hR0 hl0
 go_enter Tryd.func11, Tryd.ntmps11
 go_wp2_with (first | (go_at_call 17; refine (HSET.out _ HBW).mono ?_; rintro e w' ⟨rfl, ⟨q3, rfl⟩⟩) | (go_at_call 13; rw [← HW1.out]; refine (HCHK.out).mono ?_; rintro e w2 ⟨rfl, hb⟩; (have HB2 := Aside0.mk hb); (have z0 := (HB2.out.cell (p := ⟨w.heap.size, 0, none⟩) HB1.out.2.2).trans HB1.out.2.1.1); (have z1 := (HB2.out.cell (p := ⟨w.heap.size, 1, none⟩) HB1.out.2.2).trans HB1.out.2.1.2.1); (have z4 := (HB2.out.cell (p := ⟨w.heap.size, 4, none⟩) HB1.out.2.2).trans HB1.out.2.1.2.2.2.2.1); (have z5 := (HB2.out.cell (p := ⟨w.heap.size, 5, none⟩) HB1.out.2.2).trans HB1.out.2.1.2.2.2.2.2); (have HBW : Aside0 (Below w.heap.size w w2) := ⟨HB1.out.1.trans (HB2.out.mono HB1.out.1.size)⟩); (have x0 := (HBW.out.cell (World.block_lt_of_cell? w _ HX0.out)).trans HX0.out); clear hb))
 have HL := Aside0.mk (Kd.C_below HL0.out HBW.out)
 have HS := Aside0.mk (Kd.C_below HS0.out HBW.out)
 replace HL : Aside0 (Kd.C (Kd.int .i64) (w2.drewN q3) A0 l.length l) := ⟨Kd.C_below HL.out (Drawn0.below ⟨⟨q3, rfl⟩⟩)⟩
 replace HS : Aside0 (Kd.C (Kd.int .i64) (w2.drewN q3) A1 l1.length l1) := ⟨Kd.C_below HS.out (Drawn0.below ⟨⟨q3, rfl⟩⟩)⟩
 replace HBW : Aside0 (Below w.heap.size w (w2.drewN q3)) := ⟨pw_below_drewN HBW.out _⟩
 obtain ⟨Wb, hWb⟩ : ∃ Wb, Wb = w2.drewN q3 := ⟨_, rfl⟩
 rw [← hWb]
 rw [← hWb] at HL HS HBW
 have hWs : Aside0 (w2.heap.size = Wb.heap.size) := ⟨by subst hWb; rfl⟩
 clear hWb
 go_loopw [7, 8] (fun v7 v8 wr => ∃ (i : Nat) (acc : List Int), i ≤ l1.length ∧ v8 = .int .i64 (i : Int) ∧ Aside0 (Kd.R (Kd.int .i64) 3 wr Wb.heap.size (fun _ => True) v7 acc ∧ Below Wb.heap.size Wb wr) ∧ Aside0 (imgO l acc (l1.drop i) = some o)) (fun _ v8 _ => (l1.length - (RowKit.intOf v8).toNat))
 case atStart => exact ⟨0, [], Nat.zero_le _, rfl, ⟨by first | exact lit_R _ | (rw [hWs.out]; exact lit_R _)⟩, HO⟩
 case round =>
  clear HO
  obtain ⟨i, acc, hi, rfl, HA, HO⟩ := hrel
  obtain ⟨A7, c7, hv7⟩ := Kd.R_slice HA.out.1
  subst hv7
  have hlen1 : (l1.length : Int) ≤ 9223372036854775807 := by have := HS.out.2.1; omega
  by_cases hlt : i < l1.length
  ·obtain ⟨ad1, hA1, hx⟩ := Kd.at_int (Kd.C_below HS.out HA.out.2) (i : Int) (by omega) (by omega)
   rw [Int.toNat_natCast] at hx
   have ho := HO.out
   rw [List.drop_eq_getElem_cons hlt, show l1[i] = rd l1 (i : Int) from (rd_at hlt).symm] at ho
   generalize rd l1 (i : Int) = x at *
   unfold imgO at ho
   by_cases h0 : 0 ≤ x
   rotate_left
   ·rw [if_neg h0] at ho; cases ho
   rw [if_pos h0] at ho
   by_cases h1 : x < (l.length : Int)
   rotate_left
   ·rw [if_neg h1] at ho; cases ho
   rw [if_pos h1] at ho
   by_cases h2 : acc.length < 17592186044416
   rotate_left
   ·rw [if_neg h2] at ho; cases ho
   rw [if_pos h2] at ho
   obtain ⟨ad6, hA6, hy⟩ := Kd.at_int (Kd.C_below HL.out HA.out.2) x h0 h1
   have HO' := Aside0.mk ho
   clear ho HO
   generalize rd l x = y at *
   cases hA1
   cases hA6
   go_wp2_with (first
    | ((with_reducible refine gate_dst (N := 60) rfl ?_); refine Kd.R_append (Kd.int .i64) Wb.heap.size rfl (.tmp 51) (.tmp 59) 26 3 (.int .i64 0) 8 rfl Tryd.underlying26 info3 rfl (by decide) (by decide) _ acc y [.int .i64 y] (fun _ => True) (fun _ => False) rfl rfl ?aP (fun _ hk => hk.elim) (fun _ _ => trivial) ?aO HA.out.2 ?aS ?aL ?_; (case aP => rfl); (case aO => exact HA.out.1); (case aS => exact HA.out.2.size); (case aL => omega); intro v3 w3 ho hb hg hat; (have HA3 := Aside0.mk (And.intro ho hb)); clear ho hb hg hat))
   go_roundw
   case rel => exact ⟨i + 1, acc ++ [y], by omega, by go_num, HA3, HO'⟩
   case measure => simp [RowKit.intOf]; omega
  ·have hie : i = l1.length := by omega
   subst hie
   have hacc : acc = o := by
    have := HO.out
    rw [List.drop_of_length_le (Nat.le_refl _)] at this
    exact Option.some.inj this
   subst hacc
   clear hlt hi HO
   go_wp2
   go_ret2
   exact ⟨_, rfl, Kd.R_lower HA.out.1 HBW.out.size, HBW.out.trans (HA.out.2.mono HBW.out.size)⟩
set_option maxHeartbeats 4000000 in
set_option maxRecDepth 100000 in
theorem rimg_6 (k : Nat) (a1 a2 a3 : Int) (A4 : Option Addr) (c4 : Nat) (l4 : List (List Int)) (A5 : Option Addr) (c5 : Nat) (l5 : List Mtr) (A1 : Option Addr) (c1 : Nat) (l1 : List Int) (w : World) (hr4 : Kd.C (Kd.slice 3 (Kd.int .i64)) w A4 l4.length l4) (hc4 : l4.length ≤ c4) (hr5 : Kd.C k25 w A5 l5.length l5) (hc5 : l5.length ≤ c5) (hr1 : Kd.C (Kd.int .i64) w A1 l1.length l1) (hc1 : l1.length ≤ c1) (hck : greenwoodref09_Check.f k 6 a1 a2 a3 l4 l5 = some 0) (hs : greenwoodref09_Set.f k l1 a1 = some true) (h0 : 0 < l4.length) (h05 : 0 < l5.length) (a l : List Int) (ha : greenwoodref02_All.f k (rd_T25 l5 0).f1 = some a) (hm : greenwoodref02_Minus.f k a (rd_L1 l4 0) = some l) (o : List Int) (ho : imgO l [] l1 = some o) :
 Calls Tryd.prog 11 #[.agg #[.int .i64 6, .int .i64 a1, .int .i64 a2, .int .i64 a3, .slice A4 l4.length c4, .slice A5 l5.length c5], .slice A1 l1.length c1] w fun e w' => ∃ v0_ : Value, e = .returned (.tuple #[v0_, .bool true]) ∧ Kd.R (Kd.int .i64) 3 w' w.heap.size (fun _ => True) v0_ o ∧ Below w.heap.size w w' := by
 obtain ⟨W1, hW1⟩ : ∃ W1, W1 = w.alloc (Obj.cells #[.int .i64 6, .int .i64 a1, .int .i64 a2, .int .i64 a3, .slice A4 l4.length c4, .slice A5 l5.length c5] 25) := ⟨_, rfl⟩
 have hB1 : Below w.heap.size w W1 := by subst hW1; exact (Below.refl _ _).alloc (Nat.le_refl _) _
 have hbx := mbox w 25 (.int .i64 6) (.int .i64 a1) (.int .i64 a2) (.int .i64 a3) (.slice A4 l4.length c4) (.slice A5 l5.length c5)
 have hsz : w.heap.size < W1.heap.size := by
  subst hW1
  rw [show (w.alloc (Obj.cells #[.int .i64 6, .int .i64 a1, .int .i64 a2, .int .i64 a3, .slice A4 l4.length c4, .slice A5 l5.length c5] 25)).heap.size = w.heap.size + 1 from Array.size_push ..]; omega
 rw [← hW1] at hbx
 have HB1 := Aside0.mk (And.intro hB1 (And.intro hbx hsz))
 have HW1 := Aside0.mk hW1
 have HCHK := Aside0.mk (greenwoodref09_Check.calls k 6 a1 a2 a3 A4 c4 l4 A5 c5 l5 0 W1 (Kd.C_below hr4 hB1) hc4 (Kd.C_below hr5 hB1) hc5 hck)
 have HSET := Aside0.mk (fun (W : World) (hW : Aside0 (Below w.heap.size w W)) => greenwoodref09_Set.calls k A1 c1 l1 a1 true W (Kd.C_below hr1 hW.out) hc1 hs)
 have HALL := Aside0.mk (fun (W : World) => greenwoodref02_All.calls k _ a W ha)
 obtain ⟨ad, A0, c0, hA, x0, hl0, hR0⟩ := at_L1 hr4 0 (by omega) (by omega)
 subst hA
 rw [show (0 : Int).toNat = 0 from rfl, Addr.add_zero'] at x0
 obtain ⟨ad5, _, _, _, _, hA5, _, y1, _, _, _, _, _, _, _, _⟩ := at_T25 hr5 0 (by omega) (by omega)
 subst hA5
 rw [show (0 : Int).toNat * 6 = 0 from rfl, Addr.add_zero'] at y1
 have HX0 := Aside0.mk x0
 have HY1 := Aside0.mk y1
 generalize rd_L1 l4 0 = l0 at *
 generalize (rd_T25 l5 0).f1 = m1 at *
 have HO := Aside0.mk ho
 have HL0 := Aside0.mk hR0
 have HLC := Aside0.mk hl0
 have HMN := Aside0.mk hm
 have HS0 := Aside0.mk hr1
 clear hB1 hbx hsz hr4 hc4 hr5 hc5 hr1 hc1 hck hW1 hs ho x0 y1 hR0 hl0 hm ha
 go_enter Tryd.func11, Tryd.ntmps11
 go_wp2_with (first | (go_at_call 24; refine (greenwoodref02_Minus.calls k _ _ a _ _ l0 l _ (Kd.R_reads' HA4.out).2.2 (Kd.R_reads' HA4.out).2.1 (Kd.C_below HL0.out HBW4.out) HLC.out HMN.out).mono ?_; rintro e w5 ⟨vl, rfl, hol, hb⟩; (obtain ⟨A6, c6, hvl⟩ := Kd.R_slice hol); subst hvl; (have HA5 := Aside0.mk hol); (have HBW5 : Aside0 (Below w.heap.size w w5) := at_step HBW4 hb); clear hol hb) | (go_at_call 25; refine (HALL.out _).mono ?_; rintro e w4 ⟨va, rfl, hoa, hb⟩; (obtain ⟨Aa, ca, hva⟩ := Kd.R_slice hoa); subst hva; (have HA4 := Aside0.mk hoa); (have HBW4 : Aside0 (Below w.heap.size w w4) := at_step (by first | exact HBW | exact ⟨pw_below_drewN HBW.out _⟩) hb); clear hoa hb) | (go_at_call 17; refine (HSET.out _ HBW).mono ?_; rintro e w' ⟨rfl, ⟨q3, rfl⟩⟩) | (go_at_call 13; rw [← HW1.out]; refine (HCHK.out).mono ?_; rintro e w2 ⟨rfl, hb⟩; (have HB2 := Aside0.mk hb); (have z0 := (HB2.out.cell (p := ⟨w.heap.size, 0, none⟩) HB1.out.2.2).trans HB1.out.2.1.1); (have z1 := (HB2.out.cell (p := ⟨w.heap.size, 1, none⟩) HB1.out.2.2).trans HB1.out.2.1.2.1); (have z4 := (HB2.out.cell (p := ⟨w.heap.size, 4, none⟩) HB1.out.2.2).trans HB1.out.2.1.2.2.2.2.1); (have z5 := (HB2.out.cell (p := ⟨w.heap.size, 5, none⟩) HB1.out.2.2).trans HB1.out.2.1.2.2.2.2.2); (have HBW : Aside0 (Below w.heap.size w w2) := ⟨HB1.out.1.trans (HB2.out.mono HB1.out.1.size)⟩); (have x0 := (HBW.out.cell (World.block_lt_of_cell? w _ HX0.out)).trans HX0.out); (have y1 := (HBW.out.cell (World.block_lt_of_cell? w _ HY1.out)).trans HY1.out); clear hb))
 have HL := Aside0.mk (Kd.R_reads' HA5.out).2.2
 have HS := Aside0.mk (Kd.C_below HS0.out HBW5.out)
 clear HBW
 have HBW := HBW5
 clear HBW5
 obtain ⟨Wb, hWb⟩ : ∃ Wb, Wb = w5 := ⟨_, rfl⟩
 rw [← hWb]
 rw [← hWb] at HL HS HBW
 have hWs : Aside0 (w5.heap.size = Wb.heap.size) := ⟨by subst hWb; rfl⟩
 clear hWb
 go_loopw [7, 8] (fun v7 v8 wr => ∃ (i : Nat) (acc : List Int), i ≤ l1.length ∧ v8 = .int .i64 (i : Int) ∧ Aside0 (Kd.R (Kd.int .i64) 3 wr Wb.heap.size (fun _ => True) v7 acc ∧ Below Wb.heap.size Wb wr) ∧ Aside0 (imgO l acc (l1.drop i) = some o)) (fun _ v8 _ => (l1.length - (RowKit.intOf v8).toNat))
 case atStart => exact ⟨0, [], Nat.zero_le _, rfl, ⟨by first | exact lit_R _ | (rw [hWs.out]; exact lit_R _)⟩, HO⟩
 case round =>
  clear HO
  obtain ⟨i, acc, hi, rfl, HA, HO⟩ := hrel
  obtain ⟨A7, c7, hv7⟩ := Kd.R_slice HA.out.1
  subst hv7
  have hlen1 : (l1.length : Int) ≤ 9223372036854775807 := by have := HS.out.2.1; omega
  by_cases hlt : i < l1.length
  ·obtain ⟨ad1, hA1, hx⟩ := Kd.at_int (Kd.C_below HS.out HA.out.2) (i : Int) (by omega) (by omega)
   rw [Int.toNat_natCast] at hx
   have ho := HO.out
   rw [List.drop_eq_getElem_cons hlt, show l1[i] = rd l1 (i : Int) from (rd_at hlt).symm] at ho
   generalize rd l1 (i : Int) = x at *
   unfold imgO at ho
   by_cases h0 : 0 ≤ x
   rotate_left
   ·rw [if_neg h0] at ho; cases ho
   rw [if_pos h0] at ho
   by_cases h1 : x < (l.length : Int)
   rotate_left
   ·rw [if_neg h1] at ho; cases ho
   rw [if_pos h1] at ho
   by_cases h2 : acc.length < 17592186044416
   rotate_left
   ·rw [if_neg h2] at ho; cases ho
   rw [if_pos h2] at ho
   obtain ⟨ad6, hA6, hy⟩ := Kd.at_int (Kd.C_below HL.out HA.out.2) x h0 h1
   have HO' := Aside0.mk ho
   clear ho HO
   generalize rd l x = y at *
   cases hA1
   cases hA6
   go_wp2_with (first
    | ((with_reducible refine gate_dst (N := 60) rfl ?_); refine Kd.R_append (Kd.int .i64) Wb.heap.size rfl (.tmp 51) (.tmp 59) 26 3 (.int .i64 0) 8 rfl Tryd.underlying26 info3 rfl (by decide) (by decide) _ acc y [.int .i64 y] (fun _ => True) (fun _ => False) rfl rfl ?aP (fun _ hk => hk.elim) (fun _ _ => trivial) ?aO HA.out.2 ?aS ?aL ?_; (case aP => rfl); (case aO => exact HA.out.1); (case aS => exact HA.out.2.size); (case aL => omega); intro v3 w3 ho hb hg hat; (have HA3 := Aside0.mk (And.intro ho hb)); clear ho hb hg hat))
   go_roundw
   case rel => exact ⟨i + 1, acc ++ [y], by omega, by go_num, HA3, HO'⟩
   case measure => simp [RowKit.intOf]; omega
  ·have hie : i = l1.length := by omega
   subst hie
   have hacc : acc = o := by
    have := HO.out
    rw [List.drop_of_length_le (Nat.le_refl _)] at this
    exact Option.some.inj this
   subst hacc
   clear hlt hi HO
   go_wp2
   go_ret2
   exact ⟨_, rfl, Kd.R_lower HA.out.1 HBW.out.size, HBW.out.trans (HA.out.2.mono HBW.out.size)⟩
theorem greenwoodref09_Image.calls (k : Nat) (a0_0 : Int) (a0_1 : Int) (a0_2 : Int) (a0_3 : Int) (A0_4 : Option Addr) (c0_4 : Nat) (l0_4 : List (List Int)) (A0_5 : Option Addr) (c0_5 : Nat) (l0_5 : List Mtr) (A1 : Option Addr) (c1 : Nat) (l1 : List Int) (r1 : List Int) (r2 : Bool) (w : World) (hr0_4 : Kd.C (Kd.slice 3 (Kd.int .i64)) w A0_4 l0_4.length l0_4) (hc0_4 : l0_4.length ≤ c0_4) (hr0_5 : Kd.C k25 w A0_5 l0_5.length l0_5) (hc0_5 : l0_5.length ≤ c0_5) (hr1 : Kd.C (Kd.int .i64) w A1 l1.length l1) (hc1 : l1.length ≤ c1) (h : greenwoodref09_Image.f k a0_0 a0_1 a0_2 a0_3 l0_4 l0_5 l1 = some (r1, r2)) :
 Calls Tryd.prog 11 #[.agg #[.int .i64 a0_0, .int .i64 a0_1, .int .i64 a0_2, .int .i64 a0_3, .slice A0_4 l0_4.length c0_4, .slice A0_5 l0_5.length c0_5], .slice A1 l1.length c1] w fun e w' => ∃ v0_ : Value, e = .returned (.tuple #[v0_, .bool r2]) ∧ Kd.R (Kd.int .i64) 3 w' w.heap.size (fun _ => True) v0_ r1 ∧ Below w.heap.size w w' := by
 unfold greenwoodref09_Image.f at h
 obtain ⟨c, hck, h⟩ := Option.bind_eq_some_iff.mp h
 by_cases h1 : c ≠ 0 ∨ (a0_0 ≠ 5 ∧ a0_0 ≠ 6)
 ·rw [if_pos h1] at h
  have hr := Option.some.inj h
  obtain ⟨rfl, rfl⟩ := Prod.mk.inj hr
  refine rimg_no k c a0_0 a0_1 a0_2 a0_3 A0_4 c0_4 l0_4 A0_5 c0_5 l0_5 A1 c1 l1 w hr0_4 hc0_4 hr0_5 hc0_5 hr1 hc1 hck true (.inr h1) ?_
  by_cases hc : c = 0
  ·rcases h1 with h1 | ⟨h5, h6⟩
   ·exact absurd hc h1
   ·exact .inr (.inl ⟨by simp [hc], by simp [h5], by simp [h6]⟩)
  ·exact .inl (by simp [hc])
 rw [if_neg h1] at h
 have hc : c = 0 := Decidable.byContradiction (fun e => h1 (.inl e))
 subst hc
 have h56 : a0_0 = 5 ∨ a0_0 = 6 := by
  by_cases e : a0_0 = 5
  ·exact .inl e
  ·exact .inr (Decidable.byContradiction (fun e' => h1 (.inr ⟨e, e'⟩)))
 obtain ⟨s, hs, h⟩ := Option.bind_eq_some_iff.mp h
 cases s with
 | false =>
  rw [if_pos rfl] at h
  have hr := Option.some.inj h
  obtain ⟨rfl, rfl⟩ := Prod.mk.inj hr
  refine rimg_no k 0 a0_0 a0_1 a0_2 a0_3 A0_4 c0_4 l0_4 A0_5 c0_5 l0_5 A1 c1 l1 w hr0_4 hc0_4 hr0_5 hc0_5 hr1 hc1 hck false (.inl hs) ?_
  rcases h56 with e | e
  ·exact .inr (.inr (.inl ⟨rfl, e, rfl⟩))
  ·exact .inr (.inr (.inr ⟨rfl, e, rfl⟩))
 | true =>
  rw [if_neg (by simp)] at h
  by_cases h4 : l0_4.length = 0
  ·rw [if_pos h4] at h; cases h
  rw [if_neg h4] at h
  rcases h56 with e | e
  ·subst e
   rw [if_neg (by decide)] at h
   obtain ⟨o, ho, h⟩ := Option.bind_eq_some_iff.mp h
   have hr := Option.some.inj h
   obtain ⟨rfl, rfl⟩ := Prod.mk.inj hr
   exact rimg_5 k a0_1 a0_2 a0_3 A0_4 c0_4 l0_4 A0_5 c0_5 l0_5 A1 c1 l1 w hr0_4 hc0_4 hr0_5 hc0_5 hr1 hc1 hck hs (by omega) o ho
  ·subst e
   rw [if_pos rfl] at h
   by_cases h5 : l0_5.length = 0
   ·rw [if_pos h5] at h; cases h
   rw [if_neg h5] at h
   obtain ⟨a, ha, h⟩ := Option.bind_eq_some_iff.mp h
   obtain ⟨l, hl, h⟩ := Option.bind_eq_some_iff.mp h
   obtain ⟨o, ho, h⟩ := Option.bind_eq_some_iff.mp h
   have hr := Option.some.inj h
   obtain ⟨rfl, rfl⟩ := Prod.mk.inj hr
   exact rimg_6 k a0_1 a0_2 a0_3 A0_4 c0_4 l0_4 A0_5 c0_5 l0_5 A1 c1 l1 w hr0_4 hc0_4 hr0_5 hc0_5 hr1 hc1 hck hs (by omega) (by omega) a l ha hl o ho
end Go.Proofs.YtgbmlkmkfigolaaDoor.P
/- Values of printed functions: general words, and Same. (Cut out of ElimV for the other layers.) -/
namespace Go.Proofs.YtgbmlkmkfigolaaDoor.P
open Go.RowKit Go.Proofs.YtgbmlkmkfigolaaDoorW.PrintWords Go.Proofs.YtgbmlkmkfigolaaDoorW.PrintLast Go.Proofs.YtgbmlkmkfigolaaDoorW.PrintMore
set_option linter.unusedVariables false
set_option linter.unusedSimpArgs false

/-! ### Same -/
theorem same_l0 (a b : List Int) (hl : a.length = b.length) (hn : a.length ≤ 1000000) : ∀ (d i : Nat), a.length - i = d → i ≤ a.length → Ev (fun k => greenwoodref01_Same.l0 k a b (i : Int)) (decide (a.drop i = b.drop i)) := by
 intro d
 induction d with
 | zero =>
  intro i h1 h2
  refine Ev.step (fun k => by rw [greenwoodref01_Same.l0]) ?_
  refine Ev.ifn (by omega) (Ev.val ?_)
  rw [List.drop_of_length_le (by omega), List.drop_of_length_le (by omega)]; rfl
 | succ d ih =>
  intro i h1 h2
  have hi : i < a.length := by omega
  have hj : i < b.length := by omega
  refine Ev.step (fun k => by rw [greenwoodref01_Same.l0]) ?_
  refine Ev.ifp (by omega) (Ev.ifp (by omega) (Ev.ifp (by omega) ?_))
  rw [rd_at hi, rd_at hj, List.drop_eq_getElem_cons hi, List.drop_eq_getElem_cons hj, w1 hi hn]
  by_cases he : a[i] = b[i]
  ·refine Ev.ifp he ?_
   have e : decide (a[i] :: a.drop (i + 1) = b[i] :: b.drop (i + 1)) = decide (a.drop (i + 1) = b.drop (i + 1)) := by
    apply decide_eq_decide.mpr; rw [List.cons.injEq]; exact ⟨fun h => h.2, fun h => ⟨he, h⟩⟩
   rw [e]
   exact ih (i + 1) (by omega) (by omega)
  ·refine Ev.ifn he (Ev.val ?_)
   exact (decide_eq_false (fun h => he (List.cons.inj h).1)).symm
theorem same_ev (a b : List Int) (hn : a.length ≤ 1000000) : Ev (fun k => greenwoodref01_Same.f k a b) (decide (a = b)) := by
 unfold greenwoodref01_Same.f
 by_cases hl : a.length = b.length
 ·refine Ev.ifp (by omega) ?_
  have := same_l0 a b hl hn a.length 0 (by omega) (by omega)
  simpa using this
 ·refine Ev.ifn (by omega) (Ev.val ?_)
  have : a ≠ b := fun h => hl (by rw [h])
  simp [this]
end Go.Proofs.YtgbmlkmkfigolaaDoor.P
namespace Go.Proofs.YtgbmlkmkfigolaaDoor.P
open Go.RowKit Go.Proofs.YtgbmlkmkfigolaaDoorW.PrintWords Go.Proofs.YtgbmlkmkfigolaaDoorW.PrintLast Go.Proofs.YtgbmlkmkfigolaaDoorW.PrintMore
attribute [local go_sem] max2_int min2_int max_two min_two max_three min_three max_four min_four   -- for this text's walks alone
set_option linter.unusedVariables false
set_option linter.unusedSimpArgs false

/-! ### greenwoodlaw09_MatroidTells: function 3 -/
def greenwoodlaw09_MatroidTells.j0 : Nat → List Int → Bool → Int → Int → Int → Int → List (List Int) → List (S25) → Option (Bool)
 | 0, _, _, _, _, _, _, _, _ => none
 | k + 1, x1, x16, x249000, x249001, x249002, x249003, x249004, x249005 => if x16 = true then ((greenwoodlaw09_fixed.f).bind fun t250 => (some t250)) else ((matroid_Image.f k x249000 x249001 x249002 x249003 x249004 x249005 x1).bind fun bt251 => ((greenwoodref09_Image.f k x249000 x249001 x249002 x249003 x249004 x249005 x1).bind fun bt255 => ((greenwoodlaw09_fixed.f).bind fun t259 => (if t259 = true then ((matroid_Check.f x249000 x249001 x249002 x249003 x249004 x249005).bind fun t260 => ((greenwoodref09_Check.f k x249000 x249001 x249002 x249003 x249004 x249005).bind fun t261 => (if t260 = t261 then ((matroid_Deep.f k x249000 x249001 x249002 x249003 x249004 x249005).bind fun t262 => ((greenwoodref09_Deep.f k x249000 x249001 x249002 x249003 x249004 x249005).bind fun t263 => (if t262 = t263 then ((greenwoodref01_Same.f k bt251.1 bt255.1).bind fun t264 => (if t264 = true then (some (bt251.2 == bt255.2)) else (some false))) else (some false)))) else (some false)))) else (some false)))))
def greenwoodlaw09_MatroidTells.f (k : Nat) (a0_0 : Int) (a0_1 : Int) (a0_2 : Int) (a0_3 : Int) (l0_4 : List (List Int)) (l0_5 : List (S25)) (l1 : List Int) : Option (Bool) := (greenwoodref09_Small.f k a0_0 a0_1 a0_2 a0_3 l0_4 l0_5).bind fun t249 => (if t249 = true then (greenwoodlaw09_MatroidTells.j0 k l1 (decide ((l1.length : Int) > 100)) a0_0 a0_1 a0_2 a0_3 l0_4 l0_5) else (greenwoodlaw09_MatroidTells.j0 k l1 true a0_0 a0_1 a0_2 a0_3 l0_4 l0_5))
def greenwoodlaw09_MatroidTells.T5 : Bool × List (List Nat × List Nat) := (true, [([], []), ([0, 0], [0]), ([1], [1]), ([2, 1, 1], [1, 2]), ([1], [1]), ([4, 3, 1], [1, 4]), ([3, 5, 1], [1, 3, 5]), ([1, 6], [1, 6]), ([7, 5], [7]), ([8], [8]), ([9, 8, 8], [8, 9]), ([8], [8]), ([11, 10, 8], [8, 11]), ([10, 12, 8], [8, 10, 12]), ([8, 13], [8, 13]), ([14, 12], [14]), ([15], [15]), ([15], [15]), ([16, 17, 15, 15], [15, 16, 17]), ([15, 18], [15, 18]), ([19, 18], [19]), ([20], [20]), ([20], [20]), ([21, 22, 20], [20, 21, 22]), ([20, 23], [20, 23]), ([24, 20, 0, 1, 2, 3, 4, 5, 6, 7, 8, 9, 10, 11, 12, 13, 14, 15, 16, 17, 18, 19, 20, 21, 22, 23, 24], [24])])
def greenwoodlaw09_MatroidTells.B5 : List Nat := [0, 1, 3, 7, 3, 31, 63, 127, 255, 511, 1023, 511, 4095, 8191, 16383, 32767, 65535, 65535, 262143, 524287, 1048575, 2097151, 2097151, 8388607, 16777215, 33554431]
theorem greenwoodlaw09_MatroidTells.tab5 : rtab .any (opsOf Tryd.f3 5) = greenwoodlaw09_MatroidTells.T5 := by kernel_rfl
theorem greenwoodlaw09_MatroidTells.bits5 : waitsOk greenwoodlaw09_MatroidTells.T5.2 greenwoodlaw09_MatroidTells.B5 = true := by kernel_rfl
set_option maxHeartbeats 8000000 in
set_option maxRecDepth 100000 in
theorem greenwoodlaw09_MatroidTells.callsT (k : Nat) (a0_0 : Int) (a0_1 : Int) (a0_2 : Int) (a0_3 : Int) (A0_4 : Option Addr) (c0_4 : Nat) (l0_4 : List (List Int)) (A0_5 : Option Addr) (c0_5 : Nat) (l0_5 : List (S25)) (A1 : Option Addr) (c1 : Nat) (l1 : List Int) (r : Bool) (w : World) (hEV : EV w) (hr0_4 : Kd.C (Kd.slice 3 (Kd.int .i64)) w A0_4 l0_4.length l0_4) (hc0_4 : l0_4.length ≤ c0_4) (hr0_5 : Kd.C k25 w A0_5 l0_5.length l0_5) (hc0_5 : l0_5.length ≤ c0_5) (hr1 : Kd.C (Kd.int .i64) w A1 l1.length l1) (hc1 : l1.length ≤ c1) (hrT : r = true) (h : greenwoodlaw09_MatroidTells.f k a0_0 a0_1 a0_2 a0_3 l0_4 l0_5 l1 = some r) :
 Calls Tryd.prog 3 #[.agg #[.int .i64 a0_0, .int .i64 a0_1, .int .i64 a0_2, .int .i64 a0_3, .slice A0_4 l0_4.length c0_4, .slice A0_5 l0_5.length c0_5], .slice A1 l1.length c1] w fun e w' => e = .returned (.bool r) ∧ Below w.heap.size w w' := by
 have HEV := Aside0.mk hEV
 clear hEV
 have hu25 := Tryd.underlying25
 have HR0_4 := Aside0.mk hr0_4
 have HC0_4 := Aside0.mk hc0_4
 clear hr0_4 hc0_4
 have HR0_5 := Aside0.mk hr0_5
 have HC0_5 := Aside0.mk hc0_5
 clear hr0_5 hc0_5
 have HR1 := Aside0.mk hr1
 have HC1 := Aside0.mk hc1
 clear hr1 hc1
 have HB := Aside0.mk (Below.refl w.heap.size w)
 have H : ((greenwoodref09_Small.f k a0_0 a0_1 a0_2 a0_3 l0_4 l0_5).bind fun t249 => (if t249 = true then (greenwoodlaw09_MatroidTells.j0 k l1 (decide ((l1.length : Int) > 100)) a0_0 a0_1 a0_2 a0_3 l0_4 l0_5) else (greenwoodlaw09_MatroidTells.j0 k l1 true a0_0 a0_1 a0_2 a0_3 l0_4 l0_5))) = some r := h
 clear h
 have HC3 := Aside0.mk H
 clear H
 go_enter Tryd.func3, Tryd.ntmps3
 go_upto_region 1 with (first | ((with_reducible refine gate_dst (N := 2) rfl ?_); (try (refine gate_guard (by rfl) ?_; dsimp only)); refine box_event ?hg (N := 2) ?hd (cs := #[.int .i64 a0_0, .int .i64 a0_1, .int .i64 a0_2, .int .i64 a0_3, .slice A0_4 l0_4.length c0_4, .slice A0_5 l0_5.length c0_5]) (t := 25) ?hr ?_; (case hd => rfl); (case hg => rfl); (case hr => first | (go_simp; done) | (go_simp; rfl)); intro gb248 hg w4 hbox hb; have n0_ := Aside0.mk (below_step (by repeat (first | (with_reducible first | exact HB.out | apply below_alloc | apply pw_below_drewN | apply below_drew1) | exact HB.out)) hb); have n1_ := Aside0.mk (hbox); have n2_ := Aside0.mk ((by rw [hg]; exact (below_size (by repeat (first | (with_reducible first | exact HB.out | apply below_alloc | apply pw_below_drewN | apply below_drew1) | exact HB.out))) : w.heap.size ≤ gb248)); have n3_ := Aside0.mk ((by rw [hg]; exact (below_size (by repeat (first | (with_reducible first | exact HB.out | apply below_alloc | apply pw_below_drewN | apply below_drew1) | exact HB.out))) : w.heap.size ≤ gb248)); clear HB; have HB := n0_; have BK248 := n1_; have GW248 := n2_; have GE248 := n3_; clear n0_ n1_ n2_ n3_; clear hb hbox hg))
 (try simp only [Act.put, List.setIfInBounds_toArray, List.set_cons_zero, List.set_cons_succ])
 go_cut [16] (fun v16 wc => ∃ (kq : Nat) (x16_2 : Bool), v16 = .bool x16_2 ∧ Aside0 (greenwoodlaw09_MatroidTells.j0 kq l1 x16_2 a0_0 a0_1 a0_2 a0_3 l0_4 l0_5 = some r) ∧ Aside0 (kq ≤ k) ∧ Aside0 (wc.heap[gb248]? = some (.cells #[.int .i64 a0_0, .int .i64 a0_1, .int .i64 a0_2, .int .i64 a0_3, (.slice A0_4 l0_4.length c0_4), (.slice A0_5 l0_5.length c0_5)] 25 (0, 0))) ∧ Aside0 (Below w.heap.size w wc))
 case first =>
  have H := HC3.out
  clear HC3
  replace H := Option.bind_eq_some_iff.mp H
  obtain ⟨t249, A50, H⟩ := H
  replace H : (if t249 = true then (greenwoodlaw09_MatroidTells.j0 k l1 (decide ((l1.length : Int) > 100)) a0_0 a0_1 a0_2 a0_3 l0_4 l0_5) else (greenwoodlaw09_MatroidTells.j0 k l1 true a0_0 a0_1 a0_2 a0_3 l0_4 l0_5)) = some r := H
  have A5 := Aside0.mk A50
  clear A50
  by_cases c6 : t249 = true
  ·subst c6
   have H1 : (greenwoodlaw09_MatroidTells.j0 k l1 (decide ((l1.length : Int) > 100)) a0_0 a0_1 a0_2 a0_3 l0_4 l0_5) = some r := by rw [if_pos rfl] at H; exact H
   clear H
   have H := H1
   clear H1
   have H' := Aside0.mk H
   clear H
   have hcz7_0 : w4.cell? ⟨gb248, 0, none⟩ = some (.int .i64 a0_0) := (blk_cell BK248.out 0).trans rfl
   have hcz7_1 : w4.cell? ⟨gb248, 1, none⟩ = some (.int .i64 a0_1) := (blk_cell BK248.out 1).trans rfl
   have hcz7_2 : w4.cell? ⟨gb248, 2, none⟩ = some (.int .i64 a0_2) := (blk_cell BK248.out 2).trans rfl
   have hcz7_3 : w4.cell? ⟨gb248, 3, none⟩ = some (.int .i64 a0_3) := (blk_cell BK248.out 3).trans rfl
   have hcz7_4 : w4.cell? ⟨gb248, 4, none⟩ = some (.slice A0_4 l0_4.length c0_4) := (blk_cell BK248.out 4).trans rfl
   have hcz7_5 : w4.cell? ⟨gb248, 5, none⟩ = some (.slice A0_5 l0_5.length c0_5) := (blk_cell BK248.out 5).trans rfl
   have hfz7_0 := blk_frozen BK248.out 0
   have hfz7_1 := blk_frozen BK248.out 1
   have hfz7_2 := blk_frozen BK248.out 2
   have hfz7_3 := blk_frozen BK248.out 3
   have hfz7_4 := blk_frozen BK248.out 4
   have hfz7_5 := blk_frozen BK248.out 5
   go_wp2_with (first | ((with_reducible refine gate_callee (f := 8) rfl ?_); refine goesL_ (some 10) rfl rfl Tryd.func8 (by kernel_rfl) rfl #[.agg #[.int .i64 a0_0, .int .i64 a0_1, .int .i64 a0_2, .int .i64 a0_3, .slice A0_4 l0_4.length c0_4, .slice A0_5 l0_5.length c0_5]] rfl (by (try simp only [List.map_toArray, List.map_cons, List.map_nil]); first | done | rfl | (simp only [List.length_drop, List.length_take]; rfl)) ?_; (with_reducible refine (greenwoodref09_Small.calls k a0_0 a0_1 a0_2 a0_3 _ _ l0_4 _ _ l0_5 true _ ?side1 ?side2 ?side3 ?side4 A5.out).mono ?_); (case side1 => repeat (first | exact (Kd.C_below HR0_4.out HB.out) | (with_reducible refine Kd.C_alloc ?_ _) | (with_reducible refine Kd.C_drewN ?_ _) | (with_reducible refine Kd.C_drew ?_))); (case side2 => exact HC0_4.out); (case side3 => repeat (first | exact (Kd.C_below HR0_5.out HB.out) | (with_reducible refine Kd.C_alloc ?_ _) | (with_reducible refine Kd.C_drewN ?_ _) | (with_reducible refine Kd.C_drew ?_))); (case side4 => exact HC0_5.out); rintro e w8 ⟨rfl, hb⟩; refine ⟨_, rfl, ?_⟩; have n0_ := Aside0.mk (blk_below (g := gb248) (o := .cells #[.int .i64 a0_0, .int .i64 a0_1, .int .i64 a0_2, .int .i64 a0_3, .slice A0_4 l0_4.length c0_4, .slice A0_5 l0_5.length c0_5] 25 (0, 0)) (by (with_reducible repeat (first | refine blk_drewN ?_ _ | refine blk_drew ?_ | refine blk_alloc ?_ _)); exact BK248.out) hb); have n1_ := Aside0.mk (below_step (by repeat (first | (with_reducible first | exact HB.out | apply below_alloc | apply pw_below_drewN | apply below_drew1 | refine below_set ?_ GE248.out) | exact HB.out)) hb); clear BK248; clear HB; have BK248 := n0_; have HB := n1_; clear n0_ n1_; (try clear hb); (try clear hb2); (try clear hk); (try clear hi)))
   go_meet
   case rel => exact ⟨_, (decide ((l1.length : Int) > 100)), (by first | rfl | (simp; done) | (simp [*]; done)), H', ⟨by first | omega | exact Nat.le_refl _⟩, ⟨by (with_reducible repeat (first | refine blk_drewN ?_ _ | refine blk_drew ?_ | refine blk_alloc ?_ _)); exact BK248.out⟩, ⟨by repeat (first | (with_reducible first | exact HB.out | apply below_alloc | apply pw_below_drewN | apply below_drew1 | refine below_set ?_ GE248.out) | exact HB.out)⟩⟩
  ·replace c6 := Bool.eq_false_iff.mpr c6
   subst c6
   have H1 : (greenwoodlaw09_MatroidTells.j0 k l1 true a0_0 a0_1 a0_2 a0_3 l0_4 l0_5) = some r := by rw [if_neg (show ¬ (false = true) by decide)] at H; exact H
   clear H
   have H := H1
   clear H1
   have H' := Aside0.mk H
   clear H
   have hcz9_0 : w4.cell? ⟨gb248, 0, none⟩ = some (.int .i64 a0_0) := (blk_cell BK248.out 0).trans rfl
   have hcz9_1 : w4.cell? ⟨gb248, 1, none⟩ = some (.int .i64 a0_1) := (blk_cell BK248.out 1).trans rfl
   have hcz9_2 : w4.cell? ⟨gb248, 2, none⟩ = some (.int .i64 a0_2) := (blk_cell BK248.out 2).trans rfl
   have hcz9_3 : w4.cell? ⟨gb248, 3, none⟩ = some (.int .i64 a0_3) := (blk_cell BK248.out 3).trans rfl
   have hcz9_4 : w4.cell? ⟨gb248, 4, none⟩ = some (.slice A0_4 l0_4.length c0_4) := (blk_cell BK248.out 4).trans rfl
   have hcz9_5 : w4.cell? ⟨gb248, 5, none⟩ = some (.slice A0_5 l0_5.length c0_5) := (blk_cell BK248.out 5).trans rfl
   have hfz9_0 := blk_frozen BK248.out 0
   have hfz9_1 := blk_frozen BK248.out 1
   have hfz9_2 := blk_frozen BK248.out 2
   have hfz9_3 := blk_frozen BK248.out 3
   have hfz9_4 := blk_frozen BK248.out 4
   have hfz9_5 := blk_frozen BK248.out 5
   go_wp2_with (first | ((with_reducible refine gate_callee (f := 8) rfl ?_); refine goesL_ (some 10) rfl rfl Tryd.func8 (by kernel_rfl) rfl #[.agg #[.int .i64 a0_0, .int .i64 a0_1, .int .i64 a0_2, .int .i64 a0_3, .slice A0_4 l0_4.length c0_4, .slice A0_5 l0_5.length c0_5]] rfl (by (try simp only [List.map_toArray, List.map_cons, List.map_nil]); first | done | rfl | (simp only [List.length_drop, List.length_take]; rfl)) ?_; (with_reducible refine (greenwoodref09_Small.calls k a0_0 a0_1 a0_2 a0_3 _ _ l0_4 _ _ l0_5 false _ ?side1 ?side2 ?side3 ?side4 A5.out).mono ?_); (case side1 => repeat (first | exact (Kd.C_below HR0_4.out HB.out) | (with_reducible refine Kd.C_alloc ?_ _) | (with_reducible refine Kd.C_drewN ?_ _) | (with_reducible refine Kd.C_drew ?_))); (case side2 => exact HC0_4.out); (case side3 => repeat (first | exact (Kd.C_below HR0_5.out HB.out) | (with_reducible refine Kd.C_alloc ?_ _) | (with_reducible refine Kd.C_drewN ?_ _) | (with_reducible refine Kd.C_drew ?_))); (case side4 => exact HC0_5.out); rintro e w10 ⟨rfl, hb⟩; refine ⟨_, rfl, ?_⟩; have n0_ := Aside0.mk (blk_below (g := gb248) (o := .cells #[.int .i64 a0_0, .int .i64 a0_1, .int .i64 a0_2, .int .i64 a0_3, .slice A0_4 l0_4.length c0_4, .slice A0_5 l0_5.length c0_5] 25 (0, 0)) (by (with_reducible repeat (first | refine blk_drewN ?_ _ | refine blk_drew ?_ | refine blk_alloc ?_ _)); exact BK248.out) hb); have n1_ := Aside0.mk (below_step (by repeat (first | (with_reducible first | exact HB.out | apply below_alloc | apply pw_below_drewN | apply below_drew1 | refine below_set ?_ GE248.out) | exact HB.out)) hb); clear BK248; clear HB; have BK248 := n0_; have HB := n1_; clear n0_ n1_; (try clear hb); (try clear hb2); (try clear hk); (try clear hi)))
   go_meet
   case rel => exact ⟨_, (true), (by first | rfl | (simp; done) | (simp [*]; done)), H', ⟨by first | omega | exact Nat.le_refl _⟩, ⟨by (with_reducible repeat (first | refine blk_drewN ?_ _ | refine blk_drew ?_ | refine blk_alloc ?_ _)); exact BK248.out⟩, ⟨by repeat (first | (with_reducible first | exact HB.out | apply below_alloc | apply pw_below_drewN | apply below_drew1 | refine below_set ?_ GE248.out) | exact HB.out)⟩⟩
 case rest =>
  clear HC3
  try clear c1
  try clear p2
  try clear c3
  try clear c6
  try clear c8
  try clear hcz7_0
  try clear hcz7_1
  try clear hcz7_2
  try clear hcz7_3
  try clear hcz7_4
  try clear hcz7_5
  try clear hcz9_0
  try clear hcz9_1
  try clear hcz9_2
  try clear hcz9_3
  try clear hcz9_4
  try clear hcz9_5
  try clear hfz7_0
  try clear hfz7_1
  try clear hfz7_2
  try clear hfz7_3
  try clear hfz7_4
  try clear hfz7_5
  try clear hfz9_0
  try clear hfz9_1
  try clear hfz9_2
  try clear hfz9_3
  try clear hfz9_4
  try clear hfz9_5
  obtain ⟨kq, x16_2, rfl, HA, HJ2, BK248, HB⟩ := hcut
  cases kq with
  | zero => exact absurd HA.out (by simp [greenwoodlaw09_MatroidTells.j0])
  | succ kj2 =>
   have H := HA.out
   clear HA
   simp only [greenwoodlaw09_MatroidTells.j0] at H
   by_cases c11 : x16_2 = true
   ·subst c11
    have H1 : ((greenwoodlaw09_fixed.f).bind fun t250 => (some t250)) = some r := by rw [if_pos rfl] at H; exact H
    clear H
    have H := H1
    clear H1
    replace H := Option.bind_eq_some_iff.mp H
    obtain ⟨t250, A120, H⟩ := H
    replace H : (some t250) = some r := H
    have A12 := Aside0.mk A120
    clear A120
    obtain rfl := Option.some.inj H
    go_wp2_with (first | ((with_reducible refine gate_callee (f := 9) rfl ?_); refine goesL_ (some 17) rfl rfl Tryd.func9 (by kernel_rfl) rfl #[] rfl (by (try simp only [List.map_toArray, List.map_cons, List.map_nil]); first | done | rfl | (simp only [List.length_drop, List.length_take]; rfl)) ?_; (with_reducible refine (greenwoodlaw09_fixed.calls  t250 _ ?side1 A12.out).mono ?_); (case side1 => exact EV.below HEV.out (by repeat (first | (with_reducible first | exact HB.out | apply below_alloc | apply pw_below_drewN | apply below_drew1 | refine below_set ?_ GE248.out) | exact HB.out)) (EV.pos HEV.out)); rintro e w13 ⟨rfl, hb⟩; refine ⟨_, rfl, ?_⟩; have n0_ := Aside0.mk (blk_below (g := gb248) (o := .cells #[.int .i64 a0_0, .int .i64 a0_1, .int .i64 a0_2, .int .i64 a0_3, .slice A0_4 l0_4.length c0_4, .slice A0_5 l0_5.length c0_5] 25 (0, 0)) (by (with_reducible repeat (first | refine blk_drewN ?_ _ | refine blk_drew ?_ | refine blk_alloc ?_ _)); exact BK248.out) hb); have n1_ := Aside0.mk (below_step (by repeat (first | (with_reducible first | exact HB.out | apply below_alloc | apply pw_below_drewN | apply below_drew1 | refine below_set ?_ GE248.out) | exact HB.out)) hb); clear BK248; clear HB; have BK248 := n0_; have HB := n1_; clear n0_ n1_; (try clear hb); (try clear hb2); (try clear hk); (try clear hi)))
    go_ret
    exact ⟨by first | rfl | (simp [errW_none, errW_some] <;> rfl) | (simp [*, errW_none, errW_some] <;> rfl), by repeat (first | (with_reducible first | exact HB.out | apply below_alloc | apply pw_below_drewN | apply below_drew1 | refine below_set ?_ GE248.out) | exact HB.out)⟩
   ·replace c11 := Bool.eq_false_iff.mpr c11
    subst c11
    have H1 : ((matroid_Image.f kj2 a0_0 a0_1 a0_2 a0_3 l0_4 l0_5 l1).bind fun bt251 => ((greenwoodref09_Image.f kj2 a0_0 a0_1 a0_2 a0_3 l0_4 l0_5 l1).bind fun bt255 => ((greenwoodlaw09_fixed.f).bind fun t259 => (if t259 = true then ((matroid_Check.f a0_0 a0_1 a0_2 a0_3 l0_4 l0_5).bind fun t260 => ((greenwoodref09_Check.f kj2 a0_0 a0_1 a0_2 a0_3 l0_4 l0_5).bind fun t261 => (if t260 = t261 then ((matroid_Deep.f kj2 a0_0 a0_1 a0_2 a0_3 l0_4 l0_5).bind fun t262 => ((greenwoodref09_Deep.f kj2 a0_0 a0_1 a0_2 a0_3 l0_4 l0_5).bind fun t263 => (if t262 = t263 then ((greenwoodref01_Same.f kj2 bt251.1 bt255.1).bind fun t264 => (if t264 = true then (some (bt251.2 == bt255.2)) else (some false))) else (some false)))) else (some false)))) else (some false))))) = some r := by rw [if_neg (show ¬ (false = true) by decide)] at H; exact H
    clear H
    have H := H1
    clear H1
    replace H := Option.bind_eq_some_iff.mp H
    obtain ⟨⟨t251, t254⟩, A140, H⟩ := H
    replace H : ((greenwoodref09_Image.f kj2 a0_0 a0_1 a0_2 a0_3 l0_4 l0_5 l1).bind fun bt255 => ((greenwoodlaw09_fixed.f).bind fun t259 => (if t259 = true then ((matroid_Check.f a0_0 a0_1 a0_2 a0_3 l0_4 l0_5).bind fun t260 => ((greenwoodref09_Check.f kj2 a0_0 a0_1 a0_2 a0_3 l0_4 l0_5).bind fun t261 => (if t260 = t261 then ((matroid_Deep.f kj2 a0_0 a0_1 a0_2 a0_3 l0_4 l0_5).bind fun t262 => ((greenwoodref09_Deep.f kj2 a0_0 a0_1 a0_2 a0_3 l0_4 l0_5).bind fun t263 => (if t262 = t263 then ((greenwoodref01_Same.f kj2 t251 bt255.1).bind fun t264 => (if t264 = true then (some (t254 == bt255.2)) else (some false))) else (some false)))) else (some false)))) else (some false)))) = some r := H
    have A14 := Aside0.mk A140
    clear A140
    replace H := Option.bind_eq_some_iff.mp H
    obtain ⟨⟨t255, t258⟩, A150, H⟩ := H
    replace H : ((greenwoodlaw09_fixed.f).bind fun t259 => (if t259 = true then ((matroid_Check.f a0_0 a0_1 a0_2 a0_3 l0_4 l0_5).bind fun t260 => ((greenwoodref09_Check.f kj2 a0_0 a0_1 a0_2 a0_3 l0_4 l0_5).bind fun t261 => (if t260 = t261 then ((matroid_Deep.f kj2 a0_0 a0_1 a0_2 a0_3 l0_4 l0_5).bind fun t262 => ((greenwoodref09_Deep.f kj2 a0_0 a0_1 a0_2 a0_3 l0_4 l0_5).bind fun t263 => (if t262 = t263 then ((greenwoodref01_Same.f kj2 t251 t255).bind fun t264 => (if t264 = true then (some (t254 == t258)) else (some false))) else (some false)))) else (some false)))) else (some false))) = some r := H
    have A15 := Aside0.mk A150
    clear A150
    replace H := Option.bind_eq_some_iff.mp H
    obtain ⟨t259, A160, H⟩ := H
    replace H : (if t259 = true then ((matroid_Check.f a0_0 a0_1 a0_2 a0_3 l0_4 l0_5).bind fun t260 => ((greenwoodref09_Check.f kj2 a0_0 a0_1 a0_2 a0_3 l0_4 l0_5).bind fun t261 => (if t260 = t261 then ((matroid_Deep.f kj2 a0_0 a0_1 a0_2 a0_3 l0_4 l0_5).bind fun t262 => ((greenwoodref09_Deep.f kj2 a0_0 a0_1 a0_2 a0_3 l0_4 l0_5).bind fun t263 => (if t262 = t263 then ((greenwoodref01_Same.f kj2 t251 t255).bind fun t264 => (if t264 = true then (some (t254 == t258)) else (some false))) else (some false)))) else (some false)))) else (some false)) = some r := H
    have A16 := Aside0.mk A160
    clear A160
    by_cases c17 : t259 = true
    ·subst c17
     have H1 : ((matroid_Check.f a0_0 a0_1 a0_2 a0_3 l0_4 l0_5).bind fun t260 => ((greenwoodref09_Check.f kj2 a0_0 a0_1 a0_2 a0_3 l0_4 l0_5).bind fun t261 => (if t260 = t261 then ((matroid_Deep.f kj2 a0_0 a0_1 a0_2 a0_3 l0_4 l0_5).bind fun t262 => ((greenwoodref09_Deep.f kj2 a0_0 a0_1 a0_2 a0_3 l0_4 l0_5).bind fun t263 => (if t262 = t263 then ((greenwoodref01_Same.f kj2 t251 t255).bind fun t264 => (if t264 = true then (some (t254 == t258)) else (some false))) else (some false)))) else (some false)))) = some r := by rw [if_pos rfl] at H; exact H
     clear H
     have H := H1
     clear H1
     replace H := Option.bind_eq_some_iff.mp H
     obtain ⟨t260, A180, H⟩ := H
     replace H : ((greenwoodref09_Check.f kj2 a0_0 a0_1 a0_2 a0_3 l0_4 l0_5).bind fun t261 => (if t260 = t261 then ((matroid_Deep.f kj2 a0_0 a0_1 a0_2 a0_3 l0_4 l0_5).bind fun t262 => ((greenwoodref09_Deep.f kj2 a0_0 a0_1 a0_2 a0_3 l0_4 l0_5).bind fun t263 => (if t262 = t263 then ((greenwoodref01_Same.f kj2 t251 t255).bind fun t264 => (if t264 = true then (some (t254 == t258)) else (some false))) else (some false)))) else (some false))) = some r := H
     have A18 := Aside0.mk A180
     clear A180
     replace H := Option.bind_eq_some_iff.mp H
     obtain ⟨t261, A190, H⟩ := H
     replace H : (if t260 = t261 then ((matroid_Deep.f kj2 a0_0 a0_1 a0_2 a0_3 l0_4 l0_5).bind fun t262 => ((greenwoodref09_Deep.f kj2 a0_0 a0_1 a0_2 a0_3 l0_4 l0_5).bind fun t263 => (if t262 = t263 then ((greenwoodref01_Same.f kj2 t251 t255).bind fun t264 => (if t264 = true then (some (t254 == t258)) else (some false))) else (some false)))) else (some false)) = some r := H
     have A19 := Aside0.mk A190
     clear A190
     by_cases c20 : t260 = t261
     ·rw [if_pos c20] at H
      have c20b0 : (t260 == t261) = true := beq_iff_eq.mpr c20
      have c20b1 : (t260 != t261) = false := bne_eq_false_iff_eq.mpr c20
      clear c20
      replace H := Option.bind_eq_some_iff.mp H
      obtain ⟨t262, A210, H⟩ := H
      replace H : ((greenwoodref09_Deep.f kj2 a0_0 a0_1 a0_2 a0_3 l0_4 l0_5).bind fun t263 => (if t262 = t263 then ((greenwoodref01_Same.f kj2 t251 t255).bind fun t264 => (if t264 = true then (some (t254 == t258)) else (some false))) else (some false))) = some r := H
      have A21 := Aside0.mk A210
      clear A210
      replace H := Option.bind_eq_some_iff.mp H
      obtain ⟨t263, A220, H⟩ := H
      replace H : (if t262 = t263 then ((greenwoodref01_Same.f kj2 t251 t255).bind fun t264 => (if t264 = true then (some (t254 == t258)) else (some false))) else (some false)) = some r := H
      have A22 := Aside0.mk A220
      clear A220
      by_cases c23 : t262 = t263
      ·rw [if_pos c23] at H
       have c23b0 : (t262 == t263) = true := beq_iff_eq.mpr c23
       have c23b1 : (t262 != t263) = false := bne_eq_false_iff_eq.mpr c23
       clear c23
       replace H := Option.bind_eq_some_iff.mp H
       obtain ⟨t264, A240, H⟩ := H
       replace H : (if t264 = true then (some (t254 == t258)) else (some false)) = some r := H
       have A24 := Aside0.mk A240
       clear A240
       by_cases c25 : t264 = true
       ·subst c25
        have H1 : (some (t254 == t258)) = some r := by rw [if_pos rfl] at H; exact H
        clear H
        have H := H1
        clear H1
        obtain rfl := Option.some.inj H
        have hcz26_0 : wc.cell? ⟨gb248, 0, none⟩ = some (.int .i64 a0_0) := (blk_cell BK248.out 0).trans rfl
        have hcz26_1 : wc.cell? ⟨gb248, 1, none⟩ = some (.int .i64 a0_1) := (blk_cell BK248.out 1).trans rfl
        have hcz26_2 : wc.cell? ⟨gb248, 2, none⟩ = some (.int .i64 a0_2) := (blk_cell BK248.out 2).trans rfl
        have hcz26_3 : wc.cell? ⟨gb248, 3, none⟩ = some (.int .i64 a0_3) := (blk_cell BK248.out 3).trans rfl
        have hcz26_4 : wc.cell? ⟨gb248, 4, none⟩ = some (.slice A0_4 l0_4.length c0_4) := (blk_cell BK248.out 4).trans rfl
        have hcz26_5 : wc.cell? ⟨gb248, 5, none⟩ = some (.slice A0_5 l0_5.length c0_5) := (blk_cell BK248.out 5).trans rfl
        have hfz26_0 := blk_frozen BK248.out 0
        have hfz26_1 := blk_frozen BK248.out 1
        have hfz26_2 := blk_frozen BK248.out 2
        have hfz26_3 := blk_frozen BK248.out 3
        have hfz26_4 := blk_frozen BK248.out 4
        have hfz26_5 := blk_frozen BK248.out 5
        try go_wp2_with (first | ((with_reducible refine gate_callee (f := 10) rfl ?_); refine goesL_ (some 21) rfl rfl Tryd.func10 (by kernel_rfl) rfl #[.agg #[.int .i64 a0_0, .int .i64 a0_1, .int .i64 a0_2, .int .i64 a0_3, .slice A0_4 l0_4.length c0_4, .slice A0_5 l0_5.length c0_5], .slice A1 l1.length c1] rfl (by (try simp only [List.map_toArray, List.map_cons, List.map_nil]); first | done | rfl | (simp only [List.length_drop, List.length_take]; rfl)) ?_; (with_reducible refine (matroid_Image.calls kj2 a0_0 a0_1 a0_2 a0_3 _ _ l0_4 _ _ l0_5 _ _ l1 t251 t254 _ ?side7 ?side1 ?side2 ?side3 ?side4 ?side5 ?side6 A14.out).mono ?_); (case side1 => repeat (first | exact (Kd.C_below HR0_4.out HB.out) | (with_reducible refine Kd.C_alloc ?_ _) | (with_reducible refine Kd.C_drewN ?_ _) | (with_reducible refine Kd.C_drew ?_))); (case side2 => exact HC0_4.out); (case side3 => repeat (first | exact (Kd.C_below HR0_5.out HB.out) | (with_reducible refine Kd.C_alloc ?_ _) | (with_reducible refine Kd.C_drewN ?_ _) | (with_reducible refine Kd.C_drew ?_))); (case side4 => exact HC0_5.out); (case side5 => repeat (first | exact (Kd.C_below HR1.out HB.out) | (with_reducible refine Kd.C_alloc ?_ _) | (with_reducible refine Kd.C_drewN ?_ _) | (with_reducible refine Kd.C_drew ?_))); (case side6 => exact HC1.out); (case side7 => exact EV.below HEV.out (by repeat (first | (with_reducible first | exact HB.out | apply below_alloc | apply pw_below_drewN | apply below_drew1 | refine below_set ?_ GE248.out) | exact HB.out)) (EV.pos HEV.out)); rintro e w27 ⟨v252, rfl, ho0, hb⟩; refine ⟨_, rfl, ?_⟩; have n0_ := Aside0.mk (Kd.R_lower ho0 (below_size (by repeat (first | (with_reducible first | exact HB.out | apply below_alloc | apply pw_below_drewN | apply below_drew1 | refine below_set ?_ GE248.out) | exact HB.out)))); have n1_ := Aside0.mk (blk_below (g := gb248) (o := .cells #[.int .i64 a0_0, .int .i64 a0_1, .int .i64 a0_2, .int .i64 a0_3, .slice A0_4 l0_4.length c0_4, .slice A0_5 l0_5.length c0_5] 25 (0, 0)) (by (with_reducible repeat (first | refine blk_drewN ?_ _ | refine blk_drew ?_ | refine blk_alloc ?_ _)); exact BK248.out) hb); have n2_ := Aside0.mk (below_step (by repeat (first | (with_reducible first | exact HB.out | apply below_alloc | apply pw_below_drewN | apply below_drew1 | refine below_set ?_ GE248.out) | exact HB.out)) hb); clear BK248; clear HB; have HO253 := n0_; have BK248 := n1_; have HB := n2_; clear n0_ n1_ n2_; (try clear hb); (try clear hb2); (try clear hk); (try clear hi); (try clear ho0); have hcz28_0 : w27.cell? ⟨gb248, 0, none⟩ = some (.int .i64 a0_0) := (blk_cell BK248.out 0).trans rfl; have hcz28_1 : w27.cell? ⟨gb248, 1, none⟩ = some (.int .i64 a0_1) := (blk_cell BK248.out 1).trans rfl; have hcz28_2 : w27.cell? ⟨gb248, 2, none⟩ = some (.int .i64 a0_2) := (blk_cell BK248.out 2).trans rfl; have hcz28_3 : w27.cell? ⟨gb248, 3, none⟩ = some (.int .i64 a0_3) := (blk_cell BK248.out 3).trans rfl; have hcz28_4 : w27.cell? ⟨gb248, 4, none⟩ = some (.slice A0_4 l0_4.length c0_4) := (blk_cell BK248.out 4).trans rfl; have hcz28_5 : w27.cell? ⟨gb248, 5, none⟩ = some (.slice A0_5 l0_5.length c0_5) := (blk_cell BK248.out 5).trans rfl; have hfz28_0 := blk_frozen BK248.out 0; have hfz28_1 := blk_frozen BK248.out 1; have hfz28_2 := blk_frozen BK248.out 2; have hfz28_3 := blk_frozen BK248.out 3; have hfz28_4 := blk_frozen BK248.out 4; have hfz28_5 := blk_frozen BK248.out 5) | ((with_reducible refine gate_callee (f := 11) rfl ?_); refine goesL_ (some 27) rfl rfl Tryd.func11 (by kernel_rfl) rfl #[.agg #[.int .i64 a0_0, .int .i64 a0_1, .int .i64 a0_2, .int .i64 a0_3, .slice A0_4 l0_4.length c0_4, .slice A0_5 l0_5.length c0_5], .slice A1 l1.length c1] rfl (by (try simp only [List.map_toArray, List.map_cons, List.map_nil]); first | done | rfl | (simp only [List.length_drop, List.length_take]; rfl)) ?_; (with_reducible refine (greenwoodref09_Image.calls kj2 a0_0 a0_1 a0_2 a0_3 _ _ l0_4 _ _ l0_5 _ _ l1 t255 t258 _ ?side1 ?side2 ?side3 ?side4 ?side5 ?side6 A15.out).mono ?_); (case side1 => repeat (first | exact (Kd.C_below HR0_4.out HB.out) | (with_reducible refine Kd.C_alloc ?_ _) | (with_reducible refine Kd.C_drewN ?_ _) | (with_reducible refine Kd.C_drew ?_))); (case side2 => exact HC0_4.out); (case side3 => repeat (first | exact (Kd.C_below HR0_5.out HB.out) | (with_reducible refine Kd.C_alloc ?_ _) | (with_reducible refine Kd.C_drewN ?_ _) | (with_reducible refine Kd.C_drew ?_))); (case side4 => exact HC0_5.out); (case side5 => repeat (first | exact (Kd.C_below HR1.out HB.out) | (with_reducible refine Kd.C_alloc ?_ _) | (with_reducible refine Kd.C_drewN ?_ _) | (with_reducible refine Kd.C_drew ?_))); (case side6 => exact HC1.out); rintro e w29 ⟨v256, rfl, ho0, hb⟩; refine ⟨_, rfl, ?_⟩; have n0_ := Aside0.mk (Kd.R_elder' (by (with_reducible repeat (first | apply Kd.R_alloc | apply Kd.R_drewN | apply Kd.R_drew)); exact HO253.out) (Kd.R_base ho0) hb); have n1_ := Aside0.mk (Kd.R_lower (Kd.R_new' ho0 (Kd.R_lt (by (with_reducible repeat (first | apply Kd.R_alloc | apply Kd.R_drewN | apply Kd.R_drew)); exact HO253.out))) (below_size (by repeat (first | (with_reducible first | exact HB.out | apply below_alloc | apply pw_below_drewN | apply below_drew1 | refine below_set ?_ GE248.out) | exact HB.out)))); have n2_ := Aside0.mk (blk_below (g := gb248) (o := .cells #[.int .i64 a0_0, .int .i64 a0_1, .int .i64 a0_2, .int .i64 a0_3, .slice A0_4 l0_4.length c0_4, .slice A0_5 l0_5.length c0_5] 25 (0, 0)) (by (with_reducible repeat (first | refine blk_drewN ?_ _ | refine blk_drew ?_ | refine blk_alloc ?_ _)); exact BK248.out) hb); have n3_ := Aside0.mk (below_step (by repeat (first | (with_reducible first | exact HB.out | apply below_alloc | apply pw_below_drewN | apply below_drew1 | refine below_set ?_ GE248.out) | exact HB.out)) hb); clear HO253; clear BK248; clear HB; have HO253 := n0_; have HO257 := n1_; have BK248 := n2_; have HB := n3_; clear n0_ n1_ n2_ n3_; (try clear hb); (try clear hb2); (try clear hk); (try clear hi); (try clear ho0)))
        have n0_ := Aside0.mk (Kd.R_drew HO253.out)
        have n1_ := Aside0.mk (Kd.R_drew HO257.out)
        have n2_ := Aside0.mk (blk_drew BK248.out)
        have n3_ := Aside0.mk (below_drew1 HB.out)
        clear HO253
        clear HO257
        clear BK248
        clear HB
        have HO253 := n0_
        have HO257 := n1_
        have BK248 := n2_
        have HB := n3_
        clear n0_ n1_ n2_ n3_
        refine start_ (n := 26) (S := fun w' => w'.cell? ⟨gb248, 0, none⟩ = some (.int .i64 a0_0) ∧ w'.cell? ⟨gb248, 1, none⟩ = some (.int .i64 a0_1) ∧ w'.cell? ⟨gb248, 2, none⟩ = some (.int .i64 a0_2) ∧ w'.cell? ⟨gb248, 3, none⟩ = some (.int .i64 a0_3) ∧ w'.cell? ⟨gb248, 4, none⟩ = some (.slice A0_4 l0_4.length c0_4) ∧ w'.cell? ⟨gb248, 5, none⟩ = some (.slice A0_5 l0_5.length c0_5)) (ds := []) #[false, false, false, false, false, false, false, false, false, false, false, false, false, false, false, false, false, false, false, false, false, false, false, false, false, false] (by kernel_rfl) rfl rfl ⟨(blk_cell BK248.out 0).trans rfl, (blk_cell BK248.out 1).trans rfl, (blk_cell BK248.out 2).trans rfl, (blk_cell BK248.out 3).trans rfl, (blk_cell BK248.out 4).trans rfl, (blk_cell BK248.out 5).trans rfl⟩ (fun hHeld => ?_); refine with_tabW greenwoodlaw09_MatroidTells.tab5 greenwoodlaw09_MatroidTells.bits5 (fun HT_ HW_ => ?_)
        generalize w29.drew = w30 at HO253 HO257 BK248 HB hHeld ⊢
        refine one_ (i := 0) (N := some 30) #[true, false, false, false, false, false, false, false, false, false, false, false, false, false, false, false, false, false, false, false, false, false, false, false, false, false] rfl rfl (one_of HT_.out (by kernel_rfl)) (by decide) (fun K hK => ?_)
        refine goes_ Tryd.func9 (by kernel_rfl) rfl #[] (by rfl) rfl rfl (by (try simp only [List.map_toArray, List.map_cons, List.map_nil]); first | done | rfl | (simp only [List.length_drop, List.length_take]; rfl)) ?_
        with_reducible refine (greenwoodlaw09_fixed.calls  true _ ?side1 A16.out).mono ?_
        (case side1 => exact EV.below HEV.out (by repeat (first | (with_reducible first | exact HB.out | apply below_alloc | apply pw_below_drewN | apply below_drew1 | refine below_set ?_ GE248.out) | exact HB.out)) (EV.pos HEV.out))
        rintro e w31 ⟨rfl, hb⟩
        refine ⟨_, rfl, ?_⟩
        have n0_ := Aside0.mk (Kd.R_below (by (with_reducible repeat (first | apply Kd.R_alloc | apply Kd.R_drewN | apply Kd.R_drew)); exact HO253.out) hb)
        have n1_ := Aside0.mk (Kd.R_below (by (with_reducible repeat (first | apply Kd.R_alloc | apply Kd.R_drewN | apply Kd.R_drew)); exact HO257.out) hb)
        have n2_ := Aside0.mk (blk_below (g := gb248) (o := .cells #[.int .i64 a0_0, .int .i64 a0_1, .int .i64 a0_2, .int .i64 a0_3, .slice A0_4 l0_4.length c0_4, .slice A0_5 l0_5.length c0_5] 25 (0, 0)) (by (with_reducible repeat (first | refine blk_drewN ?_ _ | refine blk_drew ?_ | refine blk_alloc ?_ _)); exact BK248.out) hb)
        have n3_ := Aside0.mk (below_step (by repeat (first | (with_reducible first | exact HB.out | apply below_alloc | apply pw_below_drewN | apply below_drew1 | refine below_set ?_ GE248.out) | exact HB.out)) hb)
        clear HO253
        clear HO257
        clear BK248
        clear HB
        have HO253 := n0_
        have HO257 := n1_
        have BK248 := n2_
        have HB := n3_
        clear n0_ n1_ n2_ n3_
        (try clear hb)
        (try clear hb2)
        (try clear hk)
        (try clear hi)
        refine hK.out _ _ ⟨(blk_cell BK248.out 0).trans rfl, (blk_cell BK248.out 1).trans rfl, (blk_cell BK248.out 2).trans rfl, (blk_cell BK248.out 3).trans rfl, (blk_cell BK248.out 4).trans rfl, (blk_cell BK248.out 5).trans rfl⟩ (fun hHeld => ?_)
        clear hK K
        refine norm_ (a' := ?_) ?_ ?_
        rotate_left
        ·show Act.put _ (some 30) _ = _
         simp only [Act.put, List.setIfInBounds_toArray, List.set_cons_zero, List.set_cons_succ, i64_w, i32_w]
         rfl
        refine pure_ (i := 1) (N := some 31) (v := ?_) (a' := ?_) #[true, true, false, false, false, false, false, false, false, false, false, false, false, false, false, false, false, false, false, false, false, false, false, false, false, false] rfl rfl (any_of HT_.out (by kernel_rfl)) (fun _ _ _ h => h) (Or.inl ⟨by rfl, ?_⟩) ?_ ?_
        rotate_left
        ·intro w'
         go_simp
         with_reducible rfl
        rotate_left
        ·simp only [Act.put, List.setIfInBounds_toArray, List.set_cons_zero, List.set_cons_succ, i64_w, i32_w]
         rfl
        refine take_ (i := 2) (N := some 32) (v := ?_) (a' := ?_) #[true, true, true, false, false, false, false, false, false, false, false, false, false, false, false, false, false, false, false, false, false, false, false, false, false, false] rfl rfl (take_ofW HT_.out HW_.out (by kernel_rfl)) (fun _ _ _ h => h) (Or.inl ⟨by rfl, ?_⟩) hHeld ?_ ?_
        rotate_left
        ·rintro w' ⟨s0, s1, s2, s3, s4, s5⟩
         go_simp
         with_reducible rfl
        rotate_left
        ·simp only [Act.put, List.setIfInBounds_toArray, List.set_cons_zero, List.set_cons_succ, i64_w, i32_w]
         rfl
        refine take_ (i := 4) (N := some 34) (v := ?_) (a' := ?_) #[true, true, true, false, true, false, false, false, false, false, false, false, false, false, false, false, false, false, false, false, false, false, false, false, false, false] rfl rfl (take_ofW HT_.out HW_.out (by kernel_rfl)) (fun _ _ _ h => h) (Or.inl ⟨by rfl, ?_⟩) hHeld ?_ ?_
        rotate_left
        ·rintro w' ⟨s0, s1, s2, s3, s4, s5⟩
         go_simp
         with_reducible rfl
        rotate_left
        ·simp only [Act.put, List.setIfInBounds_toArray, List.set_cons_zero, List.set_cons_succ, i64_w, i32_w]
         rfl
        refine one_ (i := 3) (N := some 33) #[true, true, true, true, true, false, false, false, false, false, false, false, false, false, false, false, false, false, false, false, false, false, false, false, false, false] rfl rfl (one_of HT_.out (by kernel_rfl)) (by decide) (fun K hK => ?_)
        refine goes_ Tryd.func12 (by kernel_rfl) rfl #[.agg #[.int .i64 a0_0, .int .i64 a0_1, .int .i64 a0_2, .int .i64 a0_3, .slice A0_4 l0_4.length c0_4, .slice A0_5 l0_5.length c0_5]] (by rfl) rfl rfl (by (try simp only [List.map_toArray, List.map_cons, List.map_nil]); first | done | rfl | (simp only [List.length_drop, List.length_take]; rfl)) ?_
        with_reducible refine (matroid_Check.calls a0_0 a0_1 a0_2 a0_3 _ _ l0_4 _ _ l0_5 t260 _ ?side5 ?side1 ?side2 ?side3 ?side4 A18.out).mono ?_
        (case side1 => repeat (first | exact (Kd.C_below HR0_4.out HB.out) | (with_reducible refine Kd.C_alloc ?_ _) | (with_reducible refine Kd.C_drewN ?_ _) | (with_reducible refine Kd.C_drew ?_)))
        (case side2 => exact HC0_4.out)
        (case side3 => repeat (first | exact (Kd.C_below HR0_5.out HB.out) | (with_reducible refine Kd.C_alloc ?_ _) | (with_reducible refine Kd.C_drewN ?_ _) | (with_reducible refine Kd.C_drew ?_)))
        (case side4 => exact HC0_5.out)
        (case side5 => exact EV.below HEV.out (by repeat (first | (with_reducible first | exact HB.out | apply below_alloc | apply pw_below_drewN | apply below_drew1 | refine below_set ?_ GE248.out) | exact HB.out)) (EV.pos HEV.out))
        rintro e w32 ⟨rfl, hb⟩
        refine ⟨_, rfl, ?_⟩
        have n0_ := Aside0.mk (Kd.R_below (by (with_reducible repeat (first | apply Kd.R_alloc | apply Kd.R_drewN | apply Kd.R_drew)); exact HO253.out) hb)
        have n1_ := Aside0.mk (Kd.R_below (by (with_reducible repeat (first | apply Kd.R_alloc | apply Kd.R_drewN | apply Kd.R_drew)); exact HO257.out) hb)
        have n2_ := Aside0.mk (blk_below (g := gb248) (o := .cells #[.int .i64 a0_0, .int .i64 a0_1, .int .i64 a0_2, .int .i64 a0_3, .slice A0_4 l0_4.length c0_4, .slice A0_5 l0_5.length c0_5] 25 (0, 0)) (by (with_reducible repeat (first | refine blk_drewN ?_ _ | refine blk_drew ?_ | refine blk_alloc ?_ _)); exact BK248.out) hb)
        have n3_ := Aside0.mk (below_step (by repeat (first | (with_reducible first | exact HB.out | apply below_alloc | apply pw_below_drewN | apply below_drew1 | refine below_set ?_ GE248.out) | exact HB.out)) hb)
        clear HO253
        clear HO257
        clear BK248
        clear HB
        have HO253 := n0_
        have HO257 := n1_
        have BK248 := n2_
        have HB := n3_
        clear n0_ n1_ n2_ n3_
        (try clear hb)
        (try clear hb2)
        (try clear hk)
        (try clear hi)
        refine hK.out _ _ ⟨(blk_cell BK248.out 0).trans rfl, (blk_cell BK248.out 1).trans rfl, (blk_cell BK248.out 2).trans rfl, (blk_cell BK248.out 3).trans rfl, (blk_cell BK248.out 4).trans rfl, (blk_cell BK248.out 5).trans rfl⟩ (fun hHeld => ?_)
        clear hK K
        refine norm_ (a' := ?_) ?_ ?_
        rotate_left
        ·show Act.put _ (some 33) _ = _
         simp only [Act.put, List.setIfInBounds_toArray, List.set_cons_zero, List.set_cons_succ, i64_w, i32_w]
         rfl
        refine one_ (i := 5) (N := some 35) #[true, true, true, true, true, true, false, false, false, false, false, false, false, false, false, false, false, false, false, false, false, false, false, false, false, false] rfl rfl (one_of HT_.out (by kernel_rfl)) (by decide) (fun K hK => ?_)
        refine goes_ Tryd.func13 (by kernel_rfl) rfl #[.agg #[.int .i64 a0_0, .int .i64 a0_1, .int .i64 a0_2, .int .i64 a0_3, .slice A0_4 l0_4.length c0_4, .slice A0_5 l0_5.length c0_5]] (by rfl) rfl rfl (by (try simp only [List.map_toArray, List.map_cons, List.map_nil]); first | done | rfl | (simp only [List.length_drop, List.length_take]; rfl)) ?_
        with_reducible refine (greenwoodref09_Check.calls kj2 a0_0 a0_1 a0_2 a0_3 _ _ l0_4 _ _ l0_5 t261 _ ?side1 ?side2 ?side3 ?side4 A19.out).mono ?_
        (case side1 => repeat (first | exact (Kd.C_below HR0_4.out HB.out) | (with_reducible refine Kd.C_alloc ?_ _) | (with_reducible refine Kd.C_drewN ?_ _) | (with_reducible refine Kd.C_drew ?_)))
        (case side2 => exact HC0_4.out)
        (case side3 => repeat (first | exact (Kd.C_below HR0_5.out HB.out) | (with_reducible refine Kd.C_alloc ?_ _) | (with_reducible refine Kd.C_drewN ?_ _) | (with_reducible refine Kd.C_drew ?_)))
        (case side4 => exact HC0_5.out)
        rintro e w33 ⟨rfl, hb⟩
        refine ⟨_, rfl, ?_⟩
        have n0_ := Aside0.mk (Kd.R_below (by (with_reducible repeat (first | apply Kd.R_alloc | apply Kd.R_drewN | apply Kd.R_drew)); exact HO253.out) hb)
        have n1_ := Aside0.mk (Kd.R_below (by (with_reducible repeat (first | apply Kd.R_alloc | apply Kd.R_drewN | apply Kd.R_drew)); exact HO257.out) hb)
        have n2_ := Aside0.mk (blk_below (g := gb248) (o := .cells #[.int .i64 a0_0, .int .i64 a0_1, .int .i64 a0_2, .int .i64 a0_3, .slice A0_4 l0_4.length c0_4, .slice A0_5 l0_5.length c0_5] 25 (0, 0)) (by (with_reducible repeat (first | refine blk_drewN ?_ _ | refine blk_drew ?_ | refine blk_alloc ?_ _)); exact BK248.out) hb)
        have n3_ := Aside0.mk (below_step (by repeat (first | (with_reducible first | exact HB.out | apply below_alloc | apply pw_below_drewN | apply below_drew1 | refine below_set ?_ GE248.out) | exact HB.out)) hb)
        clear HO253
        clear HO257
        clear BK248
        clear HB
        have HO253 := n0_
        have HO257 := n1_
        have BK248 := n2_
        have HB := n3_
        clear n0_ n1_ n2_ n3_
        (try clear hb)
        (try clear hb2)
        (try clear hk)
        (try clear hi)
        refine hK.out _ _ ⟨(blk_cell BK248.out 0).trans rfl, (blk_cell BK248.out 1).trans rfl, (blk_cell BK248.out 2).trans rfl, (blk_cell BK248.out 3).trans rfl, (blk_cell BK248.out 4).trans rfl, (blk_cell BK248.out 5).trans rfl⟩ (fun hHeld => ?_)
        clear hK K
        refine norm_ (a' := ?_) ?_ ?_
        rotate_left
        ·show Act.put _ (some 35) _ = _
         simp only [Act.put, List.setIfInBounds_toArray, List.set_cons_zero, List.set_cons_succ, i64_w, i32_w]
         rfl
        refine pure_ (i := 6) (N := some 36) (v := ?_) (a' := ?_) #[true, true, true, true, true, true, true, false, false, false, false, false, false, false, false, false, false, false, false, false, false, false, false, false, false, false] rfl rfl (any_of HT_.out (by kernel_rfl)) (fun _ _ _ h => h) (Or.inl ⟨by rfl, ?_⟩) ?_ ?_
        rotate_left
        ·intro w'
         go_simp
         with_reducible rfl
        rotate_left
        ·simp only [Act.put, List.setIfInBounds_toArray, List.set_cons_zero, List.set_cons_succ, i64_w, i32_w]
         rfl
        refine pure_ (i := 7) (N := some 37) (v := ?_) (a' := ?_) #[true, true, true, true, true, true, true, true, false, false, false, false, false, false, false, false, false, false, false, false, false, false, false, false, false, false] rfl rfl (any_of HT_.out (by kernel_rfl)) (fun _ _ _ h => h) (Or.inl ⟨by rfl, ?_⟩) ?_ ?_
        rotate_left
        ·intro w'
         go_simp
         with_reducible rfl
        rotate_left
        ·simp only [Act.put, List.setIfInBounds_toArray, List.set_cons_zero, List.set_cons_succ, i64_w, i32_w]
         rfl
        refine pure_ (i := 8) (N := some 38) (v := ?_) (a' := ?_) #[true, true, true, true, true, true, true, true, true, false, false, false, false, false, false, false, false, false, false, false, false, false, false, false, false, false] rfl rfl (any_of HT_.out (by kernel_rfl)) (fun _ _ _ h => h) (Or.inl ⟨by rfl, ?_⟩) ?_ ?_
        rotate_left
        ·intro w'
         go_simp
         with_reducible rfl
        rotate_left
        ·simp only [Act.put, List.setIfInBounds_toArray, List.set_cons_zero, List.set_cons_succ, i64_w, i32_w]
         rfl
        refine take_ (i := 9) (N := some 39) (v := ?_) (a' := ?_) #[true, true, true, true, true, true, true, true, true, true, false, false, false, false, false, false, false, false, false, false, false, false, false, false, false, false] rfl rfl (take_ofW HT_.out HW_.out (by kernel_rfl)) (fun _ _ _ h => h) (Or.inl ⟨by rfl, ?_⟩) hHeld ?_ ?_
        rotate_left
        ·rintro w' ⟨s0, s1, s2, s3, s4, s5⟩
         go_simp
         with_reducible rfl
        rotate_left
        ·simp only [Act.put, List.setIfInBounds_toArray, List.set_cons_zero, List.set_cons_succ, i64_w, i32_w]
         rfl
        refine take_ (i := 11) (N := some 41) (v := ?_) (a' := ?_) #[true, true, true, true, true, true, true, true, true, true, false, true, false, false, false, false, false, false, false, false, false, false, false, false, false, false] rfl rfl (take_ofW HT_.out HW_.out (by kernel_rfl)) (fun _ _ _ h => h) (Or.inl ⟨by rfl, ?_⟩) hHeld ?_ ?_
        rotate_left
        ·rintro w' ⟨s0, s1, s2, s3, s4, s5⟩
         go_simp
         with_reducible rfl
        rotate_left
        ·simp only [Act.put, List.setIfInBounds_toArray, List.set_cons_zero, List.set_cons_succ, i64_w, i32_w]
         rfl
        refine one_ (i := 10) (N := some 40) #[true, true, true, true, true, true, true, true, true, true, true, true, false, false, false, false, false, false, false, false, false, false, false, false, false, false] rfl rfl (one_of HT_.out (by kernel_rfl)) (by decide) (fun K hK => ?_)
        refine goes_ Tryd.func14 (by kernel_rfl) rfl #[.agg #[.int .i64 a0_0, .int .i64 a0_1, .int .i64 a0_2, .int .i64 a0_3, .slice A0_4 l0_4.length c0_4, .slice A0_5 l0_5.length c0_5]] (by rfl) rfl rfl (by (try simp only [List.map_toArray, List.map_cons, List.map_nil]); first | done | rfl | (simp only [List.length_drop, List.length_take]; rfl)) ?_
        with_reducible refine (matroid_Deep.calls kj2 a0_0 a0_1 a0_2 a0_3 _ _ l0_4 _ _ l0_5 t262 _ ?side1 ?side2 ?side3 ?side4 A21.out).mono ?_
        (case side1 => repeat (first | exact (Kd.C_below HR0_4.out HB.out) | (with_reducible refine Kd.C_alloc ?_ _) | (with_reducible refine Kd.C_drewN ?_ _) | (with_reducible refine Kd.C_drew ?_)))
        (case side2 => exact HC0_4.out)
        (case side3 => repeat (first | exact (Kd.C_below HR0_5.out HB.out) | (with_reducible refine Kd.C_alloc ?_ _) | (with_reducible refine Kd.C_drewN ?_ _) | (with_reducible refine Kd.C_drew ?_)))
        (case side4 => exact HC0_5.out)
        rintro e w34 ⟨rfl, hb⟩
        refine ⟨_, rfl, ?_⟩
        have n0_ := Aside0.mk (Kd.R_below (by (with_reducible repeat (first | apply Kd.R_alloc | apply Kd.R_drewN | apply Kd.R_drew)); exact HO253.out) hb)
        have n1_ := Aside0.mk (Kd.R_below (by (with_reducible repeat (first | apply Kd.R_alloc | apply Kd.R_drewN | apply Kd.R_drew)); exact HO257.out) hb)
        have n2_ := Aside0.mk (blk_below (g := gb248) (o := .cells #[.int .i64 a0_0, .int .i64 a0_1, .int .i64 a0_2, .int .i64 a0_3, .slice A0_4 l0_4.length c0_4, .slice A0_5 l0_5.length c0_5] 25 (0, 0)) (by (with_reducible repeat (first | refine blk_drewN ?_ _ | refine blk_drew ?_ | refine blk_alloc ?_ _)); exact BK248.out) hb)
        have n3_ := Aside0.mk (below_step (by repeat (first | (with_reducible first | exact HB.out | apply below_alloc | apply pw_below_drewN | apply below_drew1 | refine below_set ?_ GE248.out) | exact HB.out)) hb)
        clear HO253
        clear HO257
        clear BK248
        clear HB
        have HO253 := n0_
        have HO257 := n1_
        have BK248 := n2_
        have HB := n3_
        clear n0_ n1_ n2_ n3_
        (try clear hb)
        (try clear hb2)
        (try clear hk)
        (try clear hi)
        refine hK.out _ _ ⟨(blk_cell BK248.out 0).trans rfl, (blk_cell BK248.out 1).trans rfl, (blk_cell BK248.out 2).trans rfl, (blk_cell BK248.out 3).trans rfl, (blk_cell BK248.out 4).trans rfl, (blk_cell BK248.out 5).trans rfl⟩ (fun hHeld => ?_)
        clear hK K
        refine norm_ (a' := ?_) ?_ ?_
        rotate_left
        ·show Act.put _ (some 40) _ = _
         simp only [Act.put, List.setIfInBounds_toArray, List.set_cons_zero, List.set_cons_succ, i64_w, i32_w]
         rfl
        refine one_ (i := 12) (N := some 42) #[true, true, true, true, true, true, true, true, true, true, true, true, true, false, false, false, false, false, false, false, false, false, false, false, false, false] rfl rfl (one_of HT_.out (by kernel_rfl)) (by decide) (fun K hK => ?_)
        refine goes_ Tryd.func15 (by kernel_rfl) rfl #[.agg #[.int .i64 a0_0, .int .i64 a0_1, .int .i64 a0_2, .int .i64 a0_3, .slice A0_4 l0_4.length c0_4, .slice A0_5 l0_5.length c0_5]] (by rfl) rfl rfl (by (try simp only [List.map_toArray, List.map_cons, List.map_nil]); first | done | rfl | (simp only [List.length_drop, List.length_take]; rfl)) ?_
        with_reducible refine (greenwoodref09_Deep.calls kj2 a0_0 a0_1 a0_2 a0_3 _ _ l0_4 _ _ l0_5 t263 _ ?side1 ?side2 ?side3 ?side4 A22.out).mono ?_
        (case side1 => repeat (first | exact (Kd.C_below HR0_4.out HB.out) | (with_reducible refine Kd.C_alloc ?_ _) | (with_reducible refine Kd.C_drewN ?_ _) | (with_reducible refine Kd.C_drew ?_)))
        (case side2 => exact HC0_4.out)
        (case side3 => repeat (first | exact (Kd.C_below HR0_5.out HB.out) | (with_reducible refine Kd.C_alloc ?_ _) | (with_reducible refine Kd.C_drewN ?_ _) | (with_reducible refine Kd.C_drew ?_)))
        (case side4 => exact HC0_5.out)
        rintro e w35 ⟨rfl, hb⟩
        refine ⟨_, rfl, ?_⟩
        have n0_ := Aside0.mk (Kd.R_below (by (with_reducible repeat (first | apply Kd.R_alloc | apply Kd.R_drewN | apply Kd.R_drew)); exact HO253.out) hb)
        have n1_ := Aside0.mk (Kd.R_below (by (with_reducible repeat (first | apply Kd.R_alloc | apply Kd.R_drewN | apply Kd.R_drew)); exact HO257.out) hb)
        have n2_ := Aside0.mk (blk_below (g := gb248) (o := .cells #[.int .i64 a0_0, .int .i64 a0_1, .int .i64 a0_2, .int .i64 a0_3, .slice A0_4 l0_4.length c0_4, .slice A0_5 l0_5.length c0_5] 25 (0, 0)) (by (with_reducible repeat (first | refine blk_drewN ?_ _ | refine blk_drew ?_ | refine blk_alloc ?_ _)); exact BK248.out) hb)
        have n3_ := Aside0.mk (below_step (by repeat (first | (with_reducible first | exact HB.out | apply below_alloc | apply pw_below_drewN | apply below_drew1 | refine below_set ?_ GE248.out) | exact HB.out)) hb)
        clear HO253
        clear HO257
        clear BK248
        clear HB
        have HO253 := n0_
        have HO257 := n1_
        have BK248 := n2_
        have HB := n3_
        clear n0_ n1_ n2_ n3_
        (try clear hb)
        (try clear hb2)
        (try clear hk)
        (try clear hi)
        obtain ⟨Ao36, co36, eo36⟩ := Kd.R_slice HO253.out
        (first | subst eo36 | (injection eo36 with f1_ f2_ f3_; have f4_ := f1_.symm; have f5_ := f3_.symm; clear f1_ f2_ f3_; subst f4_; subst f5_))
        obtain ⟨Ao37, co37, eo37⟩ := Kd.R_slice HO257.out
        (first | subst eo37 | (injection eo37 with f1_ f2_ f3_; have f4_ := f1_.symm; have f5_ := f3_.symm; clear f1_ f2_ f3_; subst f4_; subst f5_))
        refine hK.out _ _ ⟨(blk_cell BK248.out 0).trans rfl, (blk_cell BK248.out 1).trans rfl, (blk_cell BK248.out 2).trans rfl, (blk_cell BK248.out 3).trans rfl, (blk_cell BK248.out 4).trans rfl, (blk_cell BK248.out 5).trans rfl⟩ (fun hHeld => ?_)
        clear hK K
        refine norm_ (a' := ?_) ?_ ?_
        rotate_left
        ·show Act.put _ (some 42) _ = _
         simp only [Act.put, List.setIfInBounds_toArray, List.set_cons_zero, List.set_cons_succ, i64_w, i32_w]
         rfl
        refine pure_ (i := 13) (N := some 43) (v := ?_) (a' := ?_) #[true, true, true, true, true, true, true, true, true, true, true, true, true, true, false, false, false, false, false, false, false, false, false, false, false, false] rfl rfl (any_of HT_.out (by kernel_rfl)) (fun _ _ _ h => h) (Or.inl ⟨by rfl, ?_⟩) ?_ ?_
        rotate_left
        ·intro w'
         go_simp
         with_reducible rfl
        rotate_left
        ·simp only [Act.put, List.setIfInBounds_toArray, List.set_cons_zero, List.set_cons_succ, i64_w, i32_w]
         rfl
        refine pure_ (i := 14) (N := some 44) (v := ?_) (a' := ?_) #[true, true, true, true, true, true, true, true, true, true, true, true, true, true, true, false, false, false, false, false, false, false, false, false, false, false] rfl rfl (any_of HT_.out (by kernel_rfl)) (fun _ _ _ h => h) (Or.inl ⟨by rfl, ?_⟩) ?_ ?_
        rotate_left
        ·intro w'
         go_simp
         with_reducible rfl
        rotate_left
        ·simp only [Act.put, List.setIfInBounds_toArray, List.set_cons_zero, List.set_cons_succ, i64_w, i32_w]
         rfl
        refine pure_ (i := 15) (N := some 45) (v := ?_) (a' := ?_) #[true, true, true, true, true, true, true, true, true, true, true, true, true, true, true, true, false, false, false, false, false, false, false, false, false, false] rfl rfl (any_of HT_.out (by kernel_rfl)) (fun _ _ _ h => h) (Or.inl ⟨by rfl, ?_⟩) ?_ ?_
        rotate_left
        ·intro w'
         go_simp
         with_reducible rfl
        rotate_left
        ·simp only [Act.put, List.setIfInBounds_toArray, List.set_cons_zero, List.set_cons_succ, i64_w, i32_w]
         rfl
        refine pure_ (i := 16) (N := some 46) (v := ?_) (a' := ?_) #[true, true, true, true, true, true, true, true, true, true, true, true, true, true, true, true, true, false, false, false, false, false, false, false, false, false] rfl rfl (any_of HT_.out (by kernel_rfl)) (fun _ _ _ h => h) (Or.inl ⟨by rfl, ?_⟩) ?_ ?_
        rotate_left
        ·intro w'
         go_simp
         with_reducible rfl
        rotate_left
        ·simp only [Act.put, List.setIfInBounds_toArray, List.set_cons_zero, List.set_cons_succ, i64_w, i32_w]
         rfl
        refine pure_ (i := 17) (N := some 47) (v := ?_) (a' := ?_) #[true, true, true, true, true, true, true, true, true, true, true, true, true, true, true, true, true, true, false, false, false, false, false, false, false, false] rfl rfl (any_of HT_.out (by kernel_rfl)) (fun _ _ _ h => h) (Or.inl ⟨by rfl, ?_⟩) ?_ ?_
        rotate_left
        ·intro w'
         go_simp
         with_reducible rfl
        rotate_left
        ·simp only [Act.put, List.setIfInBounds_toArray, List.set_cons_zero, List.set_cons_succ, i64_w, i32_w]
         rfl
        refine one_ (i := 18) (N := some 48) #[true, true, true, true, true, true, true, true, true, true, true, true, true, true, true, true, true, true, true, false, false, false, false, false, false, false] rfl rfl (one_of HT_.out (by kernel_rfl)) (by decide) (fun K hK => ?_)
        refine goes_ Tryd.func16 (by kernel_rfl) rfl #[.slice Ao36 t251.length co36, .slice Ao37 t255.length co37] (by rfl) rfl rfl (by (try simp only [List.map_toArray, List.map_cons, List.map_nil]); first | done | rfl | (simp only [List.length_drop, List.length_take]; rfl)) ?_
        with_reducible refine (greenwoodref01_Same.calls kj2 _ _ t251 _ _ t255 true _ ?side1 ?side2 ?side3 ?side4 A24.out).mono ?_
        (case side1 => repeat (first | exact (Kd.R_reads' HO253.out).2.2 | (with_reducible refine Kd.C_alloc ?_ _) | (with_reducible refine Kd.C_drewN ?_ _) | (with_reducible refine Kd.C_drew ?_)))
        (case side2 => exact (Kd.R_reads' HO253.out).2.1)
        (case side3 => repeat (first | exact (Kd.R_reads' HO257.out).2.2 | (with_reducible refine Kd.C_alloc ?_ _) | (with_reducible refine Kd.C_drewN ?_ _) | (with_reducible refine Kd.C_drew ?_)))
        (case side4 => exact (Kd.R_reads' HO257.out).2.1)
        rintro e w' ⟨rfl, ⟨nd, rfl⟩⟩
        refine ⟨_, rfl, ?_⟩
        refine hK.out _ _ ⟨(blk_cell BK248.out 0).trans rfl, (blk_cell BK248.out 1).trans rfl, (blk_cell BK248.out 2).trans rfl, (blk_cell BK248.out 3).trans rfl, (blk_cell BK248.out 4).trans rfl, (blk_cell BK248.out 5).trans rfl⟩ (fun hHeld => ?_)
        clear hK K
        refine norm_ (a' := ?_) ?_ ?_
        rotate_left
        ·show Act.put _ (some 48) _ = _
         simp only [Act.put, List.setIfInBounds_toArray, List.set_cons_zero, List.set_cons_succ, i64_w, i32_w]
         rfl
        refine pure_ (i := 19) (N := some 49) (v := ?_) (a' := ?_) #[true, true, true, true, true, true, true, true, true, true, true, true, true, true, true, true, true, true, true, true, false, false, false, false, false, false] rfl rfl (any_of HT_.out (by kernel_rfl)) (fun _ _ _ h => h) (Or.inl ⟨by rfl, ?_⟩) ?_ ?_
        rotate_left
        ·intro w'
         go_simp
         with_reducible rfl
        rotate_left
        ·simp only [Act.put, List.setIfInBounds_toArray, List.set_cons_zero, List.set_cons_succ, i64_w, i32_w]
         rfl
        refine pure_ (i := 20) (N := some 50) (v := ?_) (a' := ?_) #[true, true, true, true, true, true, true, true, true, true, true, true, true, true, true, true, true, true, true, true, true, false, false, false, false, false] rfl rfl (any_of HT_.out (by kernel_rfl)) (fun _ _ _ h => h) (Or.inl ⟨by rfl, ?_⟩) ?_ ?_
        rotate_left
        ·intro w'
         go_simp
         with_reducible rfl
        rotate_left
        ·simp only [Act.put, List.setIfInBounds_toArray, List.set_cons_zero, List.set_cons_succ, i64_w, i32_w]
         rfl
        refine pure_ (i := 21) (N := some 51) (v := ?_) (a' := ?_) #[true, true, true, true, true, true, true, true, true, true, true, true, true, true, true, true, true, true, true, true, true, true, false, false, false, false] rfl rfl (any_of HT_.out (by kernel_rfl)) (fun _ _ _ h => h) (Or.inl ⟨by rfl, ?_⟩) ?_ ?_
        rotate_left
        ·intro w'
         go_simp
         with_reducible rfl
        rotate_left
        ·simp only [Act.put, List.setIfInBounds_toArray, List.set_cons_zero, List.set_cons_succ, i64_w, i32_w]
         rfl
        refine pure_ (i := 22) (N := some 52) (v := ?_) (a' := ?_) #[true, true, true, true, true, true, true, true, true, true, true, true, true, true, true, true, true, true, true, true, true, true, true, false, false, false] rfl rfl (any_of HT_.out (by kernel_rfl)) (fun _ _ _ h => h) (Or.inl ⟨by rfl, ?_⟩) ?_ ?_
        rotate_left
        ·intro w'
         go_simp
         with_reducible rfl
        rotate_left
        ·simp only [Act.put, List.setIfInBounds_toArray, List.set_cons_zero, List.set_cons_succ, i64_w, i32_w]
         rfl
        refine pure_ (i := 23) (N := some 53) (v := ?_) (a' := ?_) #[true, true, true, true, true, true, true, true, true, true, true, true, true, true, true, true, true, true, true, true, true, true, true, true, false, false] rfl rfl (any_of HT_.out (by kernel_rfl)) (fun _ _ _ h => h) (Or.inl ⟨by rfl, ?_⟩) ?_ ?_
        rotate_left
        ·intro w'
         go_simp
         with_reducible rfl
        rotate_left
        ·simp only [Act.put, List.setIfInBounds_toArray, List.set_cons_zero, List.set_cons_succ, i64_w, i32_w]
         rfl
        refine pure_ (i := 24) (N := some 54) (v := ?_) (a' := ?_) #[true, true, true, true, true, true, true, true, true, true, true, true, true, true, true, true, true, true, true, true, true, true, true, true, true, false] rfl rfl (any_of HT_.out (by kernel_rfl)) (fun _ _ _ h => h) (Or.inl ⟨by rfl, ?_⟩) ?_ ?_
        rotate_left
        ·intro w'
         go_simp
         with_reducible rfl
        rotate_left
        ·simp only [Act.put, List.setIfInBounds_toArray, List.set_cons_zero, List.set_cons_succ, i64_w, i32_w]
         rfl
        refine pure_ (i := 25) (N := some 4) (v := ?_) (a' := ?_) #[true, true, true, true, true, true, true, true, true, true, true, true, true, true, true, true, true, true, true, true, true, true, true, true, true, true] rfl rfl (any_of HT_.out (by kernel_rfl)) (fun _ _ _ h => h) (Or.inl ⟨by rfl, ?_⟩) ?_ ?_
        rotate_left
        ·intro w'
         go_simp
         with_reducible rfl
        rotate_left
        ·simp only [Act.put, List.setIfInBounds_toArray, List.set_cons_zero, List.set_cons_succ, i64_w, i32_w]
         rfl
        refine done_ (done_of HT_.out (by kernel_rfl)) ?_
        try go_wp2
        go_ret
        exact ⟨by first | rfl | (simp [errW_none, errW_some] <;> rfl) | (simp [*, errW_none, errW_some] <;> rfl), by repeat (first | (with_reducible first | exact HB.out | apply below_alloc | apply pw_below_drewN | apply below_drew1 | refine below_set ?_ GE248.out) | exact HB.out)⟩
       ·replace c25 := Bool.eq_false_iff.mpr c25
        subst c25
        have H1 : (some false) = some r := by rw [if_neg (show ¬ (false = true) by decide)] at H; exact H
        clear H
        have H := H1
        clear H1
        exact absurd ((Option.some.inj H).trans hrT) (by decide)
      ·rw [if_neg c23] at H
       have c23b0 : (t262 == t263) = false := beq_eq_false_iff_ne.mpr c23
       have c23b1 : (t262 != t263) = true := bne_iff_ne.mpr c23
       exact absurd ((Option.some.inj H).trans hrT) (by decide)
     ·rw [if_neg c20] at H
      have c20b0 : (t260 == t261) = false := beq_eq_false_iff_ne.mpr c20
      have c20b1 : (t260 != t261) = true := bne_iff_ne.mpr c20
      exact absurd ((Option.some.inj H).trans hrT) (by decide)
    ·replace c17 := Bool.eq_false_iff.mpr c17
     subst c17
     have H1 : (some false) = some r := by rw [if_neg (show ¬ (false = true) by decide)] at H; exact H
     clear H
     have H := H1
     clear H1
     exact absurd ((Option.some.inj H).trans hrT) (by decide)

end Go.Proofs.YtgbmlkmkfigolaaDoor.P
