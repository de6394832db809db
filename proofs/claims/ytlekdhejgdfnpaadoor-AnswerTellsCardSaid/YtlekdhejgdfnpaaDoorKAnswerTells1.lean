/- Texts of this claim's own repository, merged by wip/tool/pack.py: Px2, Px3, Px5, WireIb, WireB, WireC, WireD, WirePb, QuietB, Px8. -/
import Derived.Lib.Bytes
import Derived.Lib.Builder
import Derived.Lib.AppendStr
import Derived.Lib.Strings
import Derived.Lib.Walk
import Derived.Lib.Hide
import Derived.Laws.Externs
import Derived.Laws.IdiomCopy
import Derived.Shelf.RegionOpenPlain
import Derived.Deep.LoopGhost
import Derived.Deep.QuietTactic
import Derived.BigQuiet
import Derived.BigRegion
import Derived.Outline
import Derived.IntWalk
import Derived.Test.YtlekdhejgdfnpaaDoorKAnswerTells0
set_option linter.unusedVariables false
set_option linter.unusedSimpArgs false
namespace Go.Proofs.YtlekdhejgdfnpaaDoor.P
open Go.RowKit Go.Proofs.YtlekdhejgdfnpaaDoorW.PrintWords Go.Proofs.YtlekdhejgdfnpaaDoorW.PrintLast Go.Proofs.YtlekdhejgdfnpaaDoorW.PrintMore
attribute [local go_sem] max2_int min2_int max_two min_two max_three min_three max_four min_four   -- for this text's walks alone

/-! ### answer_Check: function 11 -/
mutual
def answer_Check.l0 : Nat → List (List Int) → List (S41) → Int → Int → Int → Bool → List Int → List Int → List (List Int) → List (S41) → List (S43) → Option (Int)
 | 0, _, _, _, _, _, _, _, _, _, _, _ => none
 | k + 1, x3, x17, x18, x19, x108000, x108001, x108002, x108003, x108004, x108005, x108006 => if x19 < x18 then (if 0 ≤ x19 then (if x19 < (x17.length : Int) then ((some (([(rd_T41 x17 x19).f0, (rd_T41 x17 x19).f1, (rd_T41 x17 x19).f2] : List (List Int)) : List (List Int))).bind fun y116 => (if x3.length + y116.length < 5864062014805 then (answer_Check.l0 k (x3 ++ y116) x17 x18 (wrap64 (x19 + 1)) x108000 x108001 x108002 x108003 x108004 x108005 x108006) else (none))) else (none)) else (none)) else (answer_Check.l1 k x3 x108006 (x108006.length : Int) 0 x108000 x108001 x108002 x108003 x108004 x108005 x108006)
def answer_Check.l1 : Nat → List (List Int) → List (S43) → Int → Int → Int → Bool → List Int → List Int → List (List Int) → List (S41) → List (S43) → Option (Int)
 | 0, _, _, _, _, _, _, _, _, _, _, _ => none
 | k + 1, x3, x34, x35, x36, x108000, x108001, x108002, x108003, x108004, x108005, x108006 => if x36 < x35 then (if 0 ≤ x36 then (if x36 < (x34.length : Int) then ((some (([(rd_T43 x34 x36).f0, (([(rd_T43 x34 x36).f1] : List Int))] : List (List Int)) : List (List Int))).bind fun y127 => (if x3.length + y127.length < 5864062014805 then (answer_Check.l1 k (x3 ++ y127) x34 x35 (wrap64 (x36 + 1)) x108000 x108001 x108002 x108003 x108004 x108005 x108006) else (none))) else (none)) else (none)) else (if x108000 < 0 then (some 230) else (if x108000 ≥ 6 then (some 230) else (if (x108004.length : Int) > 200 then (some 230) else (if (x108005.length : Int) > 65 then (some 230) else (if (x108006.length : Int) > 200 then (some 230) else ((slices_ContainsFunc_int_int.f x3).bind fun t133 => (if t133 = true then (some 230) else (some 0))))))))
end
def answer_Check.f (k : Nat) (a0_0 : Int) (a0_1 : Bool) (l0_2 : List Int) (l0_3 : List Int) (l0_4 : List (List Int)) (l0_5 : List (S41)) (l0_6 : List (S43)) : Option (Int) := (some (([l0_2, l0_3] : List (List Int)) : List (List Int))).bind fun y108 => (if y108.length + l0_4.length < 5864062014805 then (answer_Check.l0 k (y108 ++ l0_4) l0_5 (l0_5.length : Int) 0 a0_0 a0_1 l0_2 l0_3 l0_4 l0_5 l0_6) else (none))
set_option maxHeartbeats 8000000 in
set_option maxRecDepth 100000 in
theorem answer_Check.calls (k : Nat) (a0_0 : Int) (a0_1 : Bool) (P0_2_ : Nat → Prop) (A0_2 : Option Addr) (c0_2 : Nat) (l0_2 : List Int) (P0_3_ : Nat → Prop) (A0_3 : Option Addr) (c0_3 : Nat) (l0_3 : List Int) (P0_4_ : Nat → Prop) (A0_4 : Option Addr) (c0_4 : Nat) (l0_4 : List (List Int)) (P0_5_ : Nat → Prop) (A0_5 : Option Addr) (c0_5 : Nat) (l0_5 : List (S41)) (P0_6_ : Nat → Prop) (A0_6 : Option Addr) (c0_6 : Nat) (l0_6 : List (S43)) (r : Int) (w : World) (hs0_2 : Kd.V (Kd.int .i64) 3 w w.heap.size (fun k_ => P0_2_ k_) (.slice A0_2 l0_2.length c0_2) l0_2) (hs0_3 : Kd.V (Kd.int .i64) 3 w w.heap.size (fun k_ => P0_3_ k_) (.slice A0_3 l0_3.length c0_3) l0_3) (hs0_4 : Kd.V (Kd.slice 3 (Kd.int .i64)) 22 w w.heap.size (fun k_ => P0_4_ k_) (.slice A0_4 l0_4.length c0_4) l0_4) (hs0_5 : Kd.V k41 41 w w.heap.size (fun k_ => P0_5_ k_) (.slice A0_5 l0_5.length c0_5) l0_5) (hs0_6 : Kd.V k43 43 w w.heap.size (fun k_ => P0_6_ k_) (.slice A0_6 l0_6.length c0_6) l0_6) (h : answer_Check.f k a0_0 a0_1 l0_2 l0_3 l0_4 l0_5 l0_6 = some r) :
 Calls Tryd.prog 11 #[.agg #[.int .i64 a0_0, .bool a0_1, .slice A0_2 l0_2.length c0_2, .slice A0_3 l0_3.length c0_3, .slice A0_4 l0_4.length c0_4, .slice A0_5 l0_5.length c0_5, .slice A0_6 l0_6.length c0_6]] w fun e w' => e = .returned (.int .i64 r) ∧ Below w.heap.size w w' := by
 have hu27 := Tryd.underlying27
 have hu41 := Tryd.underlying41
 have hu43 := Tryd.underlying43
 have HO0_2 := Aside0.mk (show Kd.V (Kd.int .i64) 3 w w.heap.size (fun k_ => ((P0_2_ k_ ∨ P0_3_ k_ ∨ P0_4_ k_ ∨ P0_5_ k_ ∨ P0_6_ k_) ∨ w.heap.size ≤ k_)) (.slice A0_2 l0_2.length c0_2) l0_2 from Kd.V_mono hs0_2 (fun k_ hk => .inl (.inl hk)))
 have HO0_3 := Aside0.mk (show Kd.V (Kd.int .i64) 3 w w.heap.size (fun k_ => ((P0_2_ k_ ∨ P0_3_ k_ ∨ P0_4_ k_ ∨ P0_5_ k_ ∨ P0_6_ k_) ∨ w.heap.size ≤ k_)) (.slice A0_3 l0_3.length c0_3) l0_3 from Kd.V_mono hs0_3 (fun k_ hk => .inl (.inr (.inl hk))))
 have HO0_4 := Aside0.mk (show Kd.V (Kd.slice 3 (Kd.int .i64)) 22 w w.heap.size (fun k_ => ((P0_2_ k_ ∨ P0_3_ k_ ∨ P0_4_ k_ ∨ P0_5_ k_ ∨ P0_6_ k_) ∨ w.heap.size ≤ k_)) (.slice A0_4 l0_4.length c0_4) l0_4 from Kd.V_mono hs0_4 (fun k_ hk => .inl (.inr (.inr (.inl hk)))))
 have HO0_5 := Aside0.mk (show Kd.V k41 41 w w.heap.size (fun k_ => ((P0_2_ k_ ∨ P0_3_ k_ ∨ P0_4_ k_ ∨ P0_5_ k_ ∨ P0_6_ k_) ∨ w.heap.size ≤ k_)) (.slice A0_5 l0_5.length c0_5) l0_5 from Kd.V_mono hs0_5 (fun k_ hk => .inl (.inr (.inr (.inr (.inl hk))))))
 have HO0_6 := Aside0.mk (show Kd.V k43 43 w w.heap.size (fun k_ => ((P0_2_ k_ ∨ P0_3_ k_ ∨ P0_4_ k_ ∨ P0_5_ k_ ∨ P0_6_ k_) ∨ w.heap.size ≤ k_)) (.slice A0_6 l0_6.length c0_6) l0_6 from Kd.V_mono hs0_6 (fun k_ hk => .inl (.inr (.inr (.inr (.inr hk))))))
 have HB := Aside0.mk (Below.refl w.heap.size w)
 have H : ((some (([l0_2, l0_3] : List (List Int)) : List (List Int))).bind fun y108 => (if y108.length + l0_4.length < 5864062014805 then (answer_Check.l0 k (y108 ++ l0_4) l0_5 (l0_5.length : Int) 0 a0_0 a0_1 l0_2 l0_3 l0_4 l0_5 l0_6) else (none))) = some r := h
 clear h
 obtain ⟨y108, hy108⟩ : ∃ y_ : List (List Int), y_ = (([l0_2, l0_3] : List (List Int))) := ⟨_, rfl⟩
 replace H : (if y108.length + l0_4.length < 5864062014805 then (answer_Check.l0 k (y108 ++ l0_4) l0_5 (l0_5.length : Int) 0 a0_0 a0_1 l0_2 l0_3 l0_4 l0_5 l0_6) else (none)) = some r := by first | (rw [hy108]; with_reducible exact H) | (have H2_ := (Option.bind_some _ _).symm.trans H; rw [hy108]; with_reducible exact H2_) | (have H2_ := (Option.bind_some _ _).symm.trans H; with_reducible exact H2_) | with_reducible exact H | (rw [hy108]; exact H) | exact H
 have Ny108 := Aside0.mk hy108
 clear hy108
 by_cases c2 : y108.length + l0_4.length < 5864062014805
 ·rw [if_pos c2] at H
  have LMc2 := Aside0.mk c2
  clear c2
  obtain ⟨y111, hy111⟩ : ∃ y_ : List (List Int), y_ = (y108 ++ l0_4) := ⟨_, rfl⟩
  replace H : (answer_Check.l0 k y111 l0_5 (l0_5.length : Int) 0 a0_0 a0_1 l0_2 l0_3 l0_4 l0_5 l0_6) = some r := by first | (rw [hy111]; with_reducible exact H) | (have H2_ := (Option.bind_some _ _).symm.trans H; rw [hy111]; with_reducible exact H2_) | (have H2_ := (Option.bind_some _ _).symm.trans H; with_reducible exact H2_) | with_reducible exact H | (rw [hy111]; exact H) | exact H
  have Ny111 := Aside0.mk hy111
  clear hy111
  have H' := Aside0.mk H
  clear H
  go_enter Tryd.func11, Tryd.ntmps11
  go_wp2_with (first | ((with_reducible refine gate_dst (N := 1) rfl ?_); (try (refine gate_guard (by rfl) ?_; dsimp only)); refine box_event ?hg (N := 1) ?hd (cs := #[.int .i64 a0_0, .bool a0_1, .slice A0_2 l0_2.length c0_2, .slice A0_3 l0_3.length c0_3, .slice A0_4 l0_4.length c0_4, .slice A0_5 l0_5.length c0_5, .slice A0_6 l0_6.length c0_6]) (t := 27) ?hr ?_; (case hd => rfl); (case hg => rfl); (case hr => first | (go_simp; done) | (go_simp; rfl)); intro gb107 hg w3 hbox hb; have n0_ := Aside0.mk (Kd.V_below (Kd.V_elderB (by (with_reducible repeat (first | apply Kd.V_alloc | apply Kd.V_drewN | apply Kd.V_drew)); exact HO0_2.out) gb107 (Nat.le_of_eq hg.symm)) hb); have n1_ := Aside0.mk (Kd.V_below (Kd.V_elderB (by (with_reducible repeat (first | apply Kd.V_alloc | apply Kd.V_drewN | apply Kd.V_drew)); exact HO0_3.out) gb107 (Nat.le_of_eq hg.symm)) hb); have n2_ := Aside0.mk (Kd.V_below (Kd.V_elderB (by (with_reducible repeat (first | apply Kd.V_alloc | apply Kd.V_drewN | apply Kd.V_drew)); exact HO0_4.out) gb107 (Nat.le_of_eq hg.symm)) hb); have n3_ := Aside0.mk (Kd.V_below (Kd.V_elderB (by (with_reducible repeat (first | apply Kd.V_alloc | apply Kd.V_drewN | apply Kd.V_drew)); exact HO0_5.out) gb107 (Nat.le_of_eq hg.symm)) hb); have n4_ := Aside0.mk (Kd.V_below (Kd.V_elderB (by (with_reducible repeat (first | apply Kd.V_alloc | apply Kd.V_drewN | apply Kd.V_drew)); exact HO0_6.out) gb107 (Nat.le_of_eq hg.symm)) hb); have n5_ := Aside0.mk (below_step (by repeat (first | (with_reducible first | exact HB.out | apply below_alloc | apply pw_below_drewN | apply below_drew1) | exact HB.out)) hb); have n6_ := Aside0.mk (hbox); have n7_ := Aside0.mk ((by rw [hg]; exact (below_size (by repeat (first | (with_reducible first | exact HB.out | apply below_alloc | apply pw_below_drewN | apply below_drew1) | exact HB.out))) : w.heap.size ≤ gb107)); have n8_ := Aside0.mk ((by rw [hg]; exact (below_size (by repeat (first | (with_reducible first | exact HB.out | apply below_alloc | apply pw_below_drewN | apply below_drew1) | exact HB.out))) : w.heap.size ≤ gb107)); clear HO0_2; clear HO0_3; clear HO0_4; clear HO0_5; clear HO0_6; clear HB; have HO0_2 := n0_; have HO0_3 := n1_; have HO0_4 := n2_; have HO0_5 := n3_; have HO0_6 := n4_; have HB := n5_; have BK107 := n6_; have GW107 := n7_; have GE107 := n8_; clear n0_ n1_ n2_ n3_ n4_ n5_ n6_ n7_ n8_; clear hb hbox hg; have hcz4_0 : w3.cell? ⟨gb107, 0, none⟩ = some (.int .i64 a0_0) := (blk_cell BK107.out 0).trans rfl; have hcz4_1 : w3.cell? ⟨gb107, 1, none⟩ = some (.bool a0_1) := (blk_cell BK107.out 1).trans rfl; have hcz4_2 : w3.cell? ⟨gb107, 2, none⟩ = some (.slice A0_2 l0_2.length c0_2) := (blk_cell BK107.out 2).trans rfl; have hcz4_3 : w3.cell? ⟨gb107, 3, none⟩ = some (.slice A0_3 l0_3.length c0_3) := (blk_cell BK107.out 3).trans rfl; have hcz4_4 : w3.cell? ⟨gb107, 4, none⟩ = some (.slice A0_4 l0_4.length c0_4) := (blk_cell BK107.out 4).trans rfl; have hcz4_5 : w3.cell? ⟨gb107, 5, none⟩ = some (.slice A0_5 l0_5.length c0_5) := (blk_cell BK107.out 5).trans rfl; have hcz4_6 : w3.cell? ⟨gb107, 6, none⟩ = some (.slice A0_6 l0_6.length c0_6) := (blk_cell BK107.out 6).trans rfl; have hfz4_0 := blk_frozen BK107.out 0; have hfz4_1 := blk_frozen BK107.out 1; have hfz4_2 := blk_frozen BK107.out 2; have hfz4_3 := blk_frozen BK107.out 3; have hfz4_4 := blk_frozen BK107.out 4; have hfz4_5 := blk_frozen BK107.out 5; have hfz4_6 := blk_frozen BK107.out 6) | ((with_reducible refine gate_dst (N := 12) rfl ?_); (try (refine gate_guard (by rfl) ?_; dsimp only)); refine Kd.N_lit (Kd.slice 3 (Kd.int .i64)) _ 22 ?hg (N' := 12) ?hd (xs := ([l0_2, l0_3] : List (List Int))) (inner := [.slice A0_2 l0_2.length c0_2, .slice A0_3 l0_3.length c0_3]) (ok := (fun k_ => ((P0_2_ k_ ∨ P0_3_ k_ ∨ P0_4_ k_ ∨ P0_5_ k_ ∨ P0_6_ k_) ∨ w.heap.size ≤ k_) ∧ k_ ≠ gb107)) (okp := (fun k_ => ((P0_2_ k_ ∨ P0_3_ k_ ∨ P0_4_ k_ ∨ P0_5_ k_ ∨ P0_6_ k_) ∨ w.heap.size ≤ k_) ∧ k_ ≠ gb107)) ?hr ?hp (fun _ hk => hk) ((show ∀ k_, w3.heap.size ≤ k_ → (fun k_ => ((P0_2_ k_ ∨ P0_3_ k_ ∨ P0_4_ k_ ∨ P0_5_ k_ ∨ P0_6_ k_) ∨ w.heap.size ≤ k_) ∧ k_ ≠ gb107) k_ from fun k_ hk => ⟨(.inr (Nat.le_trans (below_size (by repeat (first | (with_reducible first | exact HB.out | apply below_alloc | apply pw_below_drewN | apply below_drew1 | refine below_set ?_ GE107.out) | exact HB.out))) hk)), Kd.freshB (g := gb107) (o := .cells #[.int .i64 a0_0, .bool a0_1, .slice A0_2 l0_2.length c0_2, .slice A0_3 l0_3.length c0_3, .slice A0_4 l0_4.length c0_4, .slice A0_5 l0_5.length c0_5, .slice A0_6 l0_6.length c0_6] 27 (0, 0)) (by (with_reducible repeat (first | refine blk_drewN ?_ _ | refine blk_drew ?_ | refine blk_alloc ?_ _)); exact BK107.out) k_ hk⟩) _ (Nat.le_refl _)) (Below.refl _ _) (Nat.le_refl _) (by simp) ?_; (case hd => rfl); (case hg => rfl); (case hr => first | (go_simp; done) | (go_simp; rfl)); (case hp => exact (Reps.one (show Kd.FK (Kd.slice 3 (Kd.int .i64)) _ _ l0_2 [.slice A0_2 l0_2.length c0_2] from (Kd.FK_slice_mk (Kd.V_reads' (Kd.V_mono (ok' := (fun k_ => ((P0_2_ k_ ∨ P0_3_ k_ ∨ P0_4_ k_ ∨ P0_5_ k_ ∨ P0_6_ k_) ∨ w.heap.size ≤ k_) ∧ k_ ≠ gb107)) (HO0_2.out) (fun k_ hk => ⟨hk.1, hk.2⟩))).2.1 (Kd.V_F (Kd.V_mono (ok' := (fun k_ => ((P0_2_ k_ ∨ P0_3_ k_ ∨ P0_4_ k_ ∨ P0_5_ k_ ∨ P0_6_ k_) ∨ w.heap.size ≤ k_) ∧ k_ ≠ gb107)) (HO0_2.out) (fun k_ hk => ⟨hk.1, hk.2⟩))))) (Reps.one (show Kd.FK (Kd.slice 3 (Kd.int .i64)) _ _ l0_3 [.slice A0_3 l0_3.length c0_3] from (Kd.FK_slice_mk (Kd.V_reads' (Kd.V_mono (ok' := (fun k_ => ((P0_2_ k_ ∨ P0_3_ k_ ∨ P0_4_ k_ ∨ P0_5_ k_ ∨ P0_6_ k_) ∨ w.heap.size ≤ k_) ∧ k_ ≠ gb107)) (HO0_3.out) (fun k_ hk => ⟨hk.1, hk.2⟩))).2.1 (Kd.V_F (Kd.V_mono (ok' := (fun k_ => ((P0_2_ k_ ∨ P0_3_ k_ ∨ P0_4_ k_ ∨ P0_5_ k_ ∨ P0_6_ k_) ∨ w.heap.size ≤ k_) ∧ k_ ≠ gb107)) (HO0_3.out) (fun k_ hk => ⟨hk.1, hk.2⟩))))) (Reps.none _ _)))); intro v109 w5 ho6 hb hg_ hnew_; clear hg_ hnew_; (first | rw [← Ny108.out] at ho6 | (simp only [Int.reduceToNat] at ho6; rw [← Ny108.out] at ho6)); have n0_ := Aside0.mk (Kd.V_elder' (by (with_reducible repeat (first | apply Kd.V_alloc | apply Kd.V_drewN | apply Kd.V_drew)); exact HO0_2.out) (Kd.N_base ho6) hb); have n1_ := Aside0.mk (Kd.V_elder' (by (with_reducible repeat (first | apply Kd.V_alloc | apply Kd.V_drewN | apply Kd.V_drew)); exact HO0_3.out) (Kd.N_base ho6) hb); have n2_ := Aside0.mk (Kd.V_elder' (by (with_reducible repeat (first | apply Kd.V_alloc | apply Kd.V_drewN | apply Kd.V_drew)); exact HO0_4.out) (Kd.N_base ho6) hb); have n3_ := Aside0.mk (Kd.V_elder' (by (with_reducible repeat (first | apply Kd.V_alloc | apply Kd.V_drewN | apply Kd.V_drew)); exact HO0_5.out) (Kd.N_base ho6) hb); have n4_ := Aside0.mk (Kd.V_elder' (by (with_reducible repeat (first | apply Kd.V_alloc | apply Kd.V_drewN | apply Kd.V_drew)); exact HO0_6.out) (Kd.N_base ho6) hb); have n5_ := Aside0.mk (Kd.N_lower ho6 (below_size (by repeat (first | (with_reducible first | exact HB.out | apply below_alloc | apply pw_below_drewN | apply below_drew1 | refine below_set ?_ GE107.out) | exact HB.out)))); have n6_ := Aside0.mk (blk_below (g := gb107) (o := .cells #[.int .i64 a0_0, .bool a0_1, .slice A0_2 l0_2.length c0_2, .slice A0_3 l0_3.length c0_3, .slice A0_4 l0_4.length c0_4, .slice A0_5 l0_5.length c0_5, .slice A0_6 l0_6.length c0_6] 27 (0, 0)) (by (with_reducible repeat (first | refine blk_drewN ?_ _ | refine blk_drew ?_ | refine blk_alloc ?_ _)); exact BK107.out) hb); have n7_ := Aside0.mk (below_step (by repeat (first | (with_reducible first | exact HB.out | apply below_alloc | apply pw_below_drewN | apply below_drew1 | refine below_set ?_ GE107.out) | exact HB.out)) hb); clear HO0_2; clear HO0_3; clear HO0_4; clear HO0_5; clear HO0_6; clear BK107; clear HB; have HO0_2 := n0_; have HO0_3 := n1_; have HO0_4 := n2_; have HO0_5 := n3_; have HO0_6 := n4_; have HO110 := n5_; have BK107 := n6_; have HB := n7_; clear n0_ n1_ n2_ n3_ n4_ n5_ n6_ n7_; clear hb ho6; have hcz7_0 : w5.cell? ⟨gb107, 0, none⟩ = some (.int .i64 a0_0) := (blk_cell BK107.out 0).trans rfl; have hcz7_1 : w5.cell? ⟨gb107, 1, none⟩ = some (.bool a0_1) := (blk_cell BK107.out 1).trans rfl; have hcz7_2 : w5.cell? ⟨gb107, 2, none⟩ = some (.slice A0_2 l0_2.length c0_2) := (blk_cell BK107.out 2).trans rfl; have hcz7_3 : w5.cell? ⟨gb107, 3, none⟩ = some (.slice A0_3 l0_3.length c0_3) := (blk_cell BK107.out 3).trans rfl; have hcz7_4 : w5.cell? ⟨gb107, 4, none⟩ = some (.slice A0_4 l0_4.length c0_4) := (blk_cell BK107.out 4).trans rfl; have hcz7_5 : w5.cell? ⟨gb107, 5, none⟩ = some (.slice A0_5 l0_5.length c0_5) := (blk_cell BK107.out 5).trans rfl; have hcz7_6 : w5.cell? ⟨gb107, 6, none⟩ = some (.slice A0_6 l0_6.length c0_6) := (blk_cell BK107.out 6).trans rfl; have hfz7_0 := blk_frozen BK107.out 0; have hfz7_1 := blk_frozen BK107.out 1; have hfz7_2 := blk_frozen BK107.out 2; have hfz7_3 := blk_frozen BK107.out 3; have hfz7_4 := blk_frozen BK107.out 4; have hfz7_5 := blk_frozen BK107.out 5; have hfz7_6 := blk_frozen BK107.out 6) | ((with_reducible refine gate_builtin (b := .append) (xs := #[.tmp 12, .tmp 14]) rfl ?_); (try (refine gate_guard (by rfl) ?_; dsimp only)); at_builtin; refine Kd.N_append_rows (Kd.slice 3 (Kd.int .i64)) (w0 := w) w.heap.size rfl (.tmp 12) (.tmp 14) 23 22 (.slice none 0 0) 24 rfl Tryd.underlying23 info22 rfl (by decide) (by omega) v109 y108 l0_4 _ _ _ (fun k_ => ((P0_2_ k_ ∨ P0_3_ k_ ∨ P0_4_ k_ ∨ P0_5_ k_ ∨ P0_6_ k_) ∨ w.heap.size ≤ k_) ∧ k_ ≠ gb107) (fun k_ => ((fun k_ => ((P0_2_ k_ ∨ P0_3_ k_ ∨ P0_4_ k_ ∨ P0_5_ k_ ∨ P0_6_ k_) ∨ w.heap.size ≤ k_) ∧ k_ ≠ gb107)) k_ ∧ some k_ ≠ (v109 : Value).ownBlock) rfl rfl ?aO ?aR (fun _ hk => hk) ?aF ?aB ?aS ?aL ?_; (case aR => exact (by skip; exact Kd.V_F (Kd.V_mono (ok' := (fun k_ => ((fun k_ => ((P0_2_ k_ ∨ P0_3_ k_ ∨ P0_4_ k_ ∨ P0_5_ k_ ∨ P0_6_ k_) ∨ w.heap.size ≤ k_) ∧ k_ ≠ gb107)) k_ ∧ some k_ ≠ (v109 : Value).ownBlock)) (HO0_4.out) (fun k_ hk => ⟨⟨hk.1.1, hk.1.2⟩, hk.2⟩)))); (case aB => exact (by repeat (first | (with_reducible first | exact HB.out | apply below_alloc | apply pw_below_drewN | apply below_drew1 | refine below_set ?_ GE107.out) | exact HB.out))); (case aF => exact (fun k_ hk => ⟨(.inr (Nat.le_trans (below_size (by repeat (first | (with_reducible first | exact HB.out | apply below_alloc | apply pw_below_drewN | apply below_drew1 | refine below_set ?_ GE107.out) | exact HB.out))) hk)), Kd.freshB (g := gb107) (o := .cells #[.int .i64 a0_0, .bool a0_1, .slice A0_2 l0_2.length c0_2, .slice A0_3 l0_3.length c0_3, .slice A0_4 l0_4.length c0_4, .slice A0_5 l0_5.length c0_5, .slice A0_6 l0_6.length c0_6] 27 (0, 0)) (by (with_reducible repeat (first | refine blk_drewN ?_ _ | refine blk_drew ?_ | refine blk_alloc ?_ _)); exact BK107.out) k_ hk⟩)); (case aO => exact (by (with_reducible repeat (first | apply Kd.N_alloc | apply Kd.N_drewN | apply Kd.N_drew)); exact HO110.out)); (case aS => exact (below_size (by repeat (first | (with_reducible first | exact HB.out | apply below_alloc | apply pw_below_drewN | apply below_drew1 | refine below_set ?_ GE107.out) | exact HB.out)))); (case aL => have := LMc2.out; omega); intro v112 w8 ho hb hg hat; rw [← Ny111.out] at ho; have n0_ := Aside0.mk (Kd.V_afterv (ok := (fun k_ => ((P0_2_ k_ ∨ P0_3_ k_ ∨ P0_4_ k_ ∨ P0_5_ k_ ∨ P0_6_ k_) ∨ w.heap.size ≤ k_) ∧ k_ ≠ gb107)) (by (with_reducible repeat (first | apply Kd.V_alloc | apply Kd.V_drewN | apply Kd.V_drew)); exact HO0_2.out) hg hat); have n1_ := Aside0.mk (Kd.V_afterv (ok := (fun k_ => ((P0_2_ k_ ∨ P0_3_ k_ ∨ P0_4_ k_ ∨ P0_5_ k_ ∨ P0_6_ k_) ∨ w.heap.size ≤ k_) ∧ k_ ≠ gb107)) (by (with_reducible repeat (first | apply Kd.V_alloc | apply Kd.V_drewN | apply Kd.V_drew)); exact HO0_3.out) hg hat); have n2_ := Aside0.mk (Kd.V_afterv (ok := (fun k_ => ((P0_2_ k_ ∨ P0_3_ k_ ∨ P0_4_ k_ ∨ P0_5_ k_ ∨ P0_6_ k_) ∨ w.heap.size ≤ k_) ∧ k_ ≠ gb107)) (by (with_reducible repeat (first | apply Kd.V_alloc | apply Kd.V_drewN | apply Kd.V_drew)); exact HO0_4.out) hg hat); have n3_ := Aside0.mk (Kd.V_afterv (ok := (fun k_ => ((P0_2_ k_ ∨ P0_3_ k_ ∨ P0_4_ k_ ∨ P0_5_ k_ ∨ P0_6_ k_) ∨ w.heap.size ≤ k_) ∧ k_ ≠ gb107)) (by (with_reducible repeat (first | apply Kd.V_alloc | apply Kd.V_drewN | apply Kd.V_drew)); exact HO0_5.out) hg hat); have n4_ := Aside0.mk (Kd.V_afterv (ok := (fun k_ => ((P0_2_ k_ ∨ P0_3_ k_ ∨ P0_4_ k_ ∨ P0_5_ k_ ∨ P0_6_ k_) ∨ w.heap.size ≤ k_) ∧ k_ ≠ gb107)) (by (with_reducible repeat (first | apply Kd.V_alloc | apply Kd.V_drewN | apply Kd.V_drew)); exact HO0_6.out) hg hat); have n5_ := Aside0.mk (blk_grown (g := gb107) (o := .cells #[.int .i64 a0_0, .bool a0_1, .slice A0_2 l0_2.length c0_2, .slice A0_3 l0_3.length c0_3, .slice A0_4 l0_4.length c0_4, .slice A0_5 l0_5.length c0_5, .slice A0_6 l0_6.length c0_6] 27 (0, 0)) (by (with_reducible repeat (first | refine blk_drewN ?_ _ | refine blk_drew ?_ | refine blk_alloc ?_ _)); exact BK107.out) hg (Kd.N_ne HO110.out BK107.out (by decide))); have n6_ := Aside0.mk (hb); have n7_ := Aside0.mk (ho); clear HO0_2; clear HO0_3; clear HO0_4; clear HO0_5; clear HO0_6; clear BK107; clear HB; clear HO110; have HO0_2 := n0_; have HO0_3 := n1_; have HO0_4 := n2_; have HO0_5 := n3_; have HO0_6 := n4_; have BK107 := n5_; have HB := n6_; have HO113 := n7_; clear n0_ n1_ n2_ n3_ n4_ n5_ n6_ n7_; clear ho hb hg hat; have hcz9_0 : w8.cell? ⟨gb107, 0, none⟩ = some (.int .i64 a0_0) := (blk_cell BK107.out 0).trans rfl; have hcz9_1 : w8.cell? ⟨gb107, 1, none⟩ = some (.bool a0_1) := (blk_cell BK107.out 1).trans rfl; have hcz9_2 : w8.cell? ⟨gb107, 2, none⟩ = some (.slice A0_2 l0_2.length c0_2) := (blk_cell BK107.out 2).trans rfl; have hcz9_3 : w8.cell? ⟨gb107, 3, none⟩ = some (.slice A0_3 l0_3.length c0_3) := (blk_cell BK107.out 3).trans rfl; have hcz9_4 : w8.cell? ⟨gb107, 4, none⟩ = some (.slice A0_4 l0_4.length c0_4) := (blk_cell BK107.out 4).trans rfl; have hcz9_5 : w8.cell? ⟨gb107, 5, none⟩ = some (.slice A0_5 l0_5.length c0_5) := (blk_cell BK107.out 5).trans rfl; have hcz9_6 : w8.cell? ⟨gb107, 6, none⟩ = some (.slice A0_6 l0_6.length c0_6) := (blk_cell BK107.out 6).trans rfl; have hfz9_0 := blk_frozen BK107.out 0; have hfz9_1 := blk_frozen BK107.out 1; have hfz9_2 := blk_frozen BK107.out 2; have hfz9_3 := blk_frozen BK107.out 3; have hfz9_4 := blk_frozen BK107.out 4; have hfz9_5 := blk_frozen BK107.out 5; have hfz9_6 := blk_frozen BK107.out 6))
  go_loopg [3, 19] k (fun kq v3 v19 w' => ∃ (x3_1 : List (List Int)) (x19_1 : Int), v19 = .int .i64 x19_1 ∧ Aside0 (answer_Check.l0 kq x3_1 l0_5 (l0_5.length : Int) x19_1 a0_0 a0_1 l0_2 l0_3 l0_4 l0_5 l0_6 = some r) ∧ Aside0 (kq ≤ k) ∧ Aside0 (Kd.N (Kd.slice 3 (Kd.int .i64)) 22 w' w.heap.size (fun k_ => ((P0_2_ k_ ∨ P0_3_ k_ ∨ P0_4_ k_ ∨ P0_5_ k_ ∨ P0_6_ k_) ∨ w.heap.size ≤ k_) ∧ k_ ≠ gb107) v3 x3_1) ∧ Aside0 (Kd.V k41 41 w' w.heap.size (fun k_ => ((P0_2_ k_ ∨ P0_3_ k_ ∨ P0_4_ k_ ∨ P0_5_ k_ ∨ P0_6_ k_) ∨ w.heap.size ≤ k_) ∧ some k_ ≠ (v3 : Value).ownBlock ∧ k_ ≠ gb107) (.slice A0_5 l0_5.length c0_5) l0_5) ∧ Aside0 (Kd.V (Kd.int .i64) 3 w' w.heap.size (fun k_ => ((P0_2_ k_ ∨ P0_3_ k_ ∨ P0_4_ k_ ∨ P0_5_ k_ ∨ P0_6_ k_) ∨ w.heap.size ≤ k_) ∧ some k_ ≠ (v3 : Value).ownBlock ∧ k_ ≠ gb107) (.slice A0_2 l0_2.length c0_2) l0_2) ∧ Aside0 (Kd.V (Kd.int .i64) 3 w' w.heap.size (fun k_ => ((P0_2_ k_ ∨ P0_3_ k_ ∨ P0_4_ k_ ∨ P0_5_ k_ ∨ P0_6_ k_) ∨ w.heap.size ≤ k_) ∧ some k_ ≠ (v3 : Value).ownBlock ∧ k_ ≠ gb107) (.slice A0_3 l0_3.length c0_3) l0_3) ∧ Aside0 (Kd.V (Kd.slice 3 (Kd.int .i64)) 22 w' w.heap.size (fun k_ => ((P0_2_ k_ ∨ P0_3_ k_ ∨ P0_4_ k_ ∨ P0_5_ k_ ∨ P0_6_ k_) ∨ w.heap.size ≤ k_) ∧ some k_ ≠ (v3 : Value).ownBlock ∧ k_ ≠ gb107) (.slice A0_4 l0_4.length c0_4) l0_4) ∧ Aside0 (Kd.V k41 41 w' w.heap.size (fun k_ => ((P0_2_ k_ ∨ P0_3_ k_ ∨ P0_4_ k_ ∨ P0_5_ k_ ∨ P0_6_ k_) ∨ w.heap.size ≤ k_) ∧ some k_ ≠ (v3 : Value).ownBlock ∧ k_ ≠ gb107) (.slice A0_5 l0_5.length c0_5) l0_5) ∧ Aside0 (Kd.V k43 43 w' w.heap.size (fun k_ => ((P0_2_ k_ ∨ P0_3_ k_ ∨ P0_4_ k_ ∨ P0_5_ k_ ∨ P0_6_ k_) ∨ w.heap.size ≤ k_) ∧ some k_ ≠ (v3 : Value).ownBlock ∧ k_ ≠ gb107) (.slice A0_6 l0_6.length c0_6) l0_6) ∧ Aside0 (w'.heap[gb107]? = some (.cells #[.int .i64 a0_0, .bool a0_1, (.slice A0_2 l0_2.length c0_2), (.slice A0_3 l0_3.length c0_3), (.slice A0_4 l0_4.length c0_4), (.slice A0_5 l0_5.length c0_5), (.slice A0_6 l0_6.length c0_6)] 27 (0, 0))) ∧ Aside0 (Below w.heap.size w w'))
  case atStart => exact ⟨(y111), (0), (by first | rfl | (simp; done) | (simp [*]; done)), H', ⟨Nat.le_refl _⟩, ⟨by (with_reducible repeat (first | apply Kd.N_alloc | apply Kd.N_drewN | apply Kd.N_drew)); exact HO113.out⟩, ⟨by (with_reducible repeat (first | apply Kd.V_alloc | apply Kd.V_drewN | apply Kd.V_drew)); exact Kd.V_mono HO0_5.out (fun _ hk => ⟨hk.1.1, ⟨hk.2, hk.1.2⟩⟩)⟩, ⟨by (with_reducible repeat (first | apply Kd.V_alloc | apply Kd.V_drewN | apply Kd.V_drew)); exact Kd.V_mono HO0_2.out (fun _ hk => ⟨hk.1.1, ⟨hk.2, hk.1.2⟩⟩)⟩, ⟨by (with_reducible repeat (first | apply Kd.V_alloc | apply Kd.V_drewN | apply Kd.V_drew)); exact Kd.V_mono HO0_3.out (fun _ hk => ⟨hk.1.1, ⟨hk.2, hk.1.2⟩⟩)⟩, ⟨by (with_reducible repeat (first | apply Kd.V_alloc | apply Kd.V_drewN | apply Kd.V_drew)); exact Kd.V_mono HO0_4.out (fun _ hk => ⟨hk.1.1, ⟨hk.2, hk.1.2⟩⟩)⟩, ⟨by (with_reducible repeat (first | apply Kd.V_alloc | apply Kd.V_drewN | apply Kd.V_drew)); exact Kd.V_mono HO0_5.out (fun _ hk => ⟨hk.1.1, ⟨hk.2, hk.1.2⟩⟩)⟩, ⟨by (with_reducible repeat (first | apply Kd.V_alloc | apply Kd.V_drewN | apply Kd.V_drew)); exact Kd.V_mono HO0_6.out (fun _ hk => ⟨hk.1.1, ⟨hk.2, hk.1.2⟩⟩)⟩, ⟨by (with_reducible repeat (first | refine blk_drewN ?_ _ | refine blk_drew ?_ | refine blk_alloc ?_ _)); exact BK107.out⟩, ⟨by repeat (first | (with_reducible first | exact HB.out | apply below_alloc | apply pw_below_drewN | apply below_drew1 | refine below_set ?_ GE107.out) | exact HB.out)⟩⟩
  case round =>
   clear H'
   try clear c1
   try clear c2
   try clear p2
   try clear hcz4_0
   try clear hcz4_1
   try clear hcz4_2
   try clear hcz4_3
   try clear hcz4_4
   try clear hcz4_5
   try clear hcz4_6
   try clear hcz7_0
   try clear hcz7_1
   try clear hcz7_2
   try clear hcz7_3
   try clear hcz7_4
   try clear hcz7_5
   try clear hcz7_6
   try clear hcz9_0
   try clear hcz9_1
   try clear hcz9_2
   try clear hcz9_3
   try clear hcz9_4
   try clear hcz9_5
   try clear hcz9_6
   try clear hfz4_0
   try clear hfz4_1
   try clear hfz4_2
   try clear hfz4_3
   try clear hfz4_4
   try clear hfz4_5
   try clear hfz4_6
   try clear hfz7_0
   try clear hfz7_1
   try clear hfz7_2
   try clear hfz7_3
   try clear hfz7_4
   try clear hfz7_5
   try clear hfz7_6
   try clear hfz9_0
   try clear hfz9_1
   try clear hfz9_2
   try clear hfz9_3
   try clear hfz9_4
   try clear hfz9_5
   try clear hfz9_6
   obtain ⟨x3_1, x19_1, rfl, HA, HK1, HO_3, HO_17, HO_108002, HO_108003, HO_108004, HO_108005, HO_108006, BK107, HB⟩ := hrel
   cases gk with
   | zero => exact absurd HA.out (by simp [answer_Check.l0])
   | succ k1 =>
    have H := HA.out
    clear HA
    simp only [answer_Check.l0] at H
    by_cases c10 : x19_1 < (l0_5.length : Int)
    ·rw [if_pos c10] at H
     have c10b0 : decide (x19_1 < (l0_5.length : Int)) = true := decide_eq_true c10
     clear c10
     by_cases c11 : 0 ≤ x19_1
     ·rw [if_pos c11] at H
      have c11b0 : decide (0 ≤ x19_1) = true := decide_eq_true c11
      clear c11
      by_cases c12 : x19_1 < (l0_5.length : Int)
      ·rw [if_pos c12] at H
       have c12b0 : decide (x19_1 < (l0_5.length : Int)) = true := decide_eq_true c12
       clear c12
       obtain ⟨y116, hy116⟩ : ∃ y_ : List (List Int), y_ = (([(rd_T41 l0_5 x19_1).f0, (rd_T41 l0_5 x19_1).f1, (rd_T41 l0_5 x19_1).f2] : List (List Int))) := ⟨_, rfl⟩
       replace H : (if x3_1.length + y116.length < 5864062014805 then (answer_Check.l0 k1 (x3_1 ++ y116) l0_5 (l0_5.length : Int) (wrap64 (x19_1 + 1)) a0_0 a0_1 l0_2 l0_3 l0_4 l0_5 l0_6) else (none)) = some r := by first | (rw [hy116]; with_reducible exact H) | (have H2_ := (Option.bind_some _ _).symm.trans H; rw [hy116]; with_reducible exact H2_) | (have H2_ := (Option.bind_some _ _).symm.trans H; with_reducible exact H2_) | with_reducible exact H | (rw [hy116]; exact H) | exact H
       have Ny116 := Aside0.mk hy116
       clear hy116
       by_cases c13 : x3_1.length + y116.length < 5864062014805
       ·rw [if_pos c13] at H
        have LMc13 := Aside0.mk c13
        clear c13
        obtain ⟨y119, hy119⟩ : ∃ y_ : List (List Int), y_ = (x3_1 ++ y116) := ⟨_, rfl⟩
        replace H : (answer_Check.l0 k1 y119 l0_5 (l0_5.length : Int) (wrap64 (x19_1 + 1)) a0_0 a0_1 l0_2 l0_3 l0_4 l0_5 l0_6) = some r := by first | (rw [hy119]; with_reducible exact H) | (have H2_ := (Option.bind_some _ _).symm.trans H; rw [hy119]; with_reducible exact H2_) | (have H2_ := (Option.bind_some _ _).symm.trans H; with_reducible exact H2_) | with_reducible exact H | (rw [hy119]; exact H) | exact H
        have Ny119 := Aside0.mk hy119
        clear hy119
        have H' := Aside0.mk H
        clear H
        have p114 : 0 ≤ (x19_1 : Int) := of_decide_eq_true (by first | (with_reducible assumption) | assumption)
        have q114 : x19_1 < (l0_5.length : Int) := of_decide_eq_true (by first | (with_reducible assumption) | assumption)
        obtain ⟨ad114, A114_0, c114_0, A114_1, c114_1, A114_2, c114_2, e114, hx114_0, hx114_1, hx114_2, hl114_0, hi114_0, hl114_1, hi114_1, hl114_2, hi114_2⟩ := at_T41 (Kd.V_reads' HO_17.out).2.2 x19_1 p114 q114
        cases e114
        obtain ⟨ce114, hce114, hMe114, hcc114⟩ := Kd.V_get HO_17.out z41 x19_1 p114 (by first | exact q114 | exact of_decide_eq_true (by first | (with_reducible assumption) | assumption) | (have e_ := (Kd.V_reads' HO_17.out).1; omega))
        obtain ⟨ua114_0, uc114_0, ua114_1, uc114_1, ua114_2, uc114_2, rfl, ul114_0, ge114_0, ul114_1, ge114_1, ul114_2, ge114_2⟩ := k41_openF hMe114
        have hv114_0 := hcc114 0 _ rfl
        rw [Nat.add_zero] at hv114_0
        replace hv114_0 := Option.some.inj (hv114_0.symm.trans hx114_0)
        injection hv114_0 with hva_ hvn_ hvc_
        rw [hva_] at ge114_0
        rw [hvc_] at ul114_0
        have HL114_0 := Aside0.mk (show Kd.V (Kd.int .i64) 3 _ w.heap.size _ _ ((rd_T41 l0_5 x19_1).f0) from Kd.V_mk ul114_0 ge114_0)
        clear hva_ hvn_ hvc_ ge114_0 ul114_0
        have hv114_1 := hcc114 1 _ rfl
        rw [add_field _ _ 1 (by omega)] at hv114_1
        replace hv114_1 := Option.some.inj (hv114_1.symm.trans hx114_1)
        injection hv114_1 with hva_ hvn_ hvc_
        rw [hva_] at ge114_1
        rw [hvc_] at ul114_1
        have HL114_1 := Aside0.mk (show Kd.V (Kd.int .i64) 3 _ w.heap.size _ _ ((rd_T41 l0_5 x19_1).f1) from Kd.V_mk ul114_1 ge114_1)
        clear hva_ hvn_ hvc_ ge114_1 ul114_1
        have hv114_2 := hcc114 2 _ rfl
        rw [add_field _ _ 2 (by omega)] at hv114_2
        replace hv114_2 := Option.some.inj (hv114_2.symm.trans hx114_2)
        injection hv114_2 with hva_ hvn_ hvc_
        rw [hva_] at ge114_2
        rw [hvc_] at ul114_2
        have HL114_2 := Aside0.mk (show Kd.V (Kd.int .i64) 3 _ w.heap.size _ _ ((rd_T41 l0_5 x19_1).f2) from Kd.V_mk ul114_2 ge114_2)
        clear hva_ hvn_ hvc_ ge114_2 ul114_2
        clear hcc114 hce114
        have HR114_0 := Aside0.mk hi114_0
        have HC114_0 := Aside0.mk hl114_0
        clear hi114_0 hl114_0
        have HR114_1 := Aside0.mk hi114_1
        have HC114_1 := Aside0.mk hl114_1
        clear hi114_1 hl114_1
        have HR114_2 := Aside0.mk hi114_2
        have HC114_2 := Aside0.mk hl114_2
        clear hi114_2 hl114_2
        replace p114 := eq_true p114
        replace q114 := eq_true q114
        go_wp2_with (first | ((with_reducible refine gate_dst (N := 5) rfl ?_); (try (refine gate_guard (by rfl) ?_; dsimp only)); refine box_event ?hg (N := 5) ?hd (cs := #[.slice none 0 0, .slice none 0 0, .slice none 0 0]) (t := 41) ?hr ?_; (case hd => rfl); (case hg => rfl); (case hr => first | (go_simp; done) | (go_simp; rfl)); intro gb115 hg w14 hbox hb; have n0_ := Aside0.mk (Kd.N_below (Kd.N_elderB (by (with_reducible repeat (first | apply Kd.N_alloc | apply Kd.N_drewN | apply Kd.N_drew)); exact HO_3.out) gb115 (Nat.le_of_eq hg.symm)) hb); have n1_ := Aside0.mk (Kd.V_below (Kd.V_elderB (by (with_reducible repeat (first | apply Kd.V_alloc | apply Kd.V_drewN | apply Kd.V_drew)); exact HO_17.out) gb115 (Nat.le_of_eq hg.symm)) hb); have n2_ := Aside0.mk (Kd.V_below (Kd.V_elderB (by (with_reducible repeat (first | apply Kd.V_alloc | apply Kd.V_drewN | apply Kd.V_drew)); exact HO_108002.out) gb115 (Nat.le_of_eq hg.symm)) hb); have n3_ := Aside0.mk (Kd.V_below (Kd.V_elderB (by (with_reducible repeat (first | apply Kd.V_alloc | apply Kd.V_drewN | apply Kd.V_drew)); exact HO_108003.out) gb115 (Nat.le_of_eq hg.symm)) hb); have n4_ := Aside0.mk (Kd.V_below (Kd.V_elderB (by (with_reducible repeat (first | apply Kd.V_alloc | apply Kd.V_drewN | apply Kd.V_drew)); exact HO_108004.out) gb115 (Nat.le_of_eq hg.symm)) hb); have n5_ := Aside0.mk (Kd.V_below (Kd.V_elderB (by (with_reducible repeat (first | apply Kd.V_alloc | apply Kd.V_drewN | apply Kd.V_drew)); exact HO_108005.out) gb115 (Nat.le_of_eq hg.symm)) hb); have n6_ := Aside0.mk (Kd.V_below (Kd.V_elderB (by (with_reducible repeat (first | apply Kd.V_alloc | apply Kd.V_drewN | apply Kd.V_drew)); exact HO_108006.out) gb115 (Nat.le_of_eq hg.symm)) hb); have n7_ := Aside0.mk (Kd.V_below (Kd.V_elderB (by (with_reducible repeat (first | apply Kd.V_alloc | apply Kd.V_drewN | apply Kd.V_drew)); exact HL114_0.out) gb115 (Nat.le_of_eq hg.symm)) hb); have n8_ := Aside0.mk (Kd.V_below (Kd.V_elderB (by (with_reducible repeat (first | apply Kd.V_alloc | apply Kd.V_drewN | apply Kd.V_drew)); exact HL114_1.out) gb115 (Nat.le_of_eq hg.symm)) hb); have n9_ := Aside0.mk (Kd.V_below (Kd.V_elderB (by (with_reducible repeat (first | apply Kd.V_alloc | apply Kd.V_drewN | apply Kd.V_drew)); exact HL114_2.out) gb115 (Nat.le_of_eq hg.symm)) hb); have n10_ := Aside0.mk (blk_below (g := gb107) (o := .cells #[.int .i64 a0_0, .bool a0_1, .slice A0_2 l0_2.length c0_2, .slice A0_3 l0_3.length c0_3, .slice A0_4 l0_4.length c0_4, .slice (some ad114) l0_5.length c0_5, .slice A0_6 l0_6.length c0_6] 27 (0, 0)) (by (with_reducible repeat (first | refine blk_drewN ?_ _ | refine blk_drew ?_ | refine blk_alloc ?_ _)); exact BK107.out) hb); have n11_ := Aside0.mk (Kd.C_below (by repeat (first | (with_reducible exact HR114_0.out) | (with_reducible refine Kd.C_alloc ?_ _) | (with_reducible refine Kd.C_drewN ?_ _) | (with_reducible refine Kd.C_drew ?_) | exact HR114_0.out)) hb); have n12_ := Aside0.mk (Kd.C_below (by repeat (first | (with_reducible exact HR114_1.out) | (with_reducible refine Kd.C_alloc ?_ _) | (with_reducible refine Kd.C_drewN ?_ _) | (with_reducible refine Kd.C_drew ?_) | exact HR114_1.out)) hb); have n13_ := Aside0.mk (Kd.C_below (by repeat (first | (with_reducible exact HR114_2.out) | (with_reducible refine Kd.C_alloc ?_ _) | (with_reducible refine Kd.C_drewN ?_ _) | (with_reducible refine Kd.C_drew ?_) | exact HR114_2.out)) hb); have n14_ := Aside0.mk (below_step (by repeat (first | (with_reducible first | exact HB.out | apply below_alloc | apply pw_below_drewN | apply below_drew1 | refine below_set ?_ GE107.out) | exact HB.out)) hb); have n15_ := Aside0.mk (hbox); have n16_ := Aside0.mk ((by rw [hg]; exact (below_size (by repeat (first | (with_reducible first | exact HB.out | apply below_alloc | apply pw_below_drewN | apply below_drew1 | refine below_set ?_ GE107.out) | exact HB.out))) : w.heap.size ≤ gb115)); have n17_ := Aside0.mk ((by rw [hg]; exact (below_size (by repeat (first | (with_reducible first | exact HB.out | apply below_alloc | apply pw_below_drewN | apply below_drew1 | refine below_set ?_ GE107.out) | exact HB.out))) : w.heap.size ≤ gb115)); have n18_ := Aside0.mk ((by rw [hg]; exact Nat.ne_of_lt (blk_lt (g := gb107) (o := .cells #[.int .i64 a0_0, .bool a0_1, .slice A0_2 l0_2.length c0_2, .slice A0_3 l0_3.length c0_3, .slice A0_4 l0_4.length c0_4, .slice (some ad114) l0_5.length c0_5, .slice A0_6 l0_6.length c0_6] 27 (0, 0)) (by (with_reducible repeat (first | refine blk_drewN ?_ _ | refine blk_drew ?_ | refine blk_alloc ?_ _)); exact BK107.out)) : gb107 ≠ gb115)); have n19_ := Aside0.mk ((by rw [hg]; exact Nat.ne_of_gt (blk_lt (g := gb107) (o := .cells #[.int .i64 a0_0, .bool a0_1, .slice A0_2 l0_2.length c0_2, .slice A0_3 l0_3.length c0_3, .slice A0_4 l0_4.length c0_4, .slice (some ad114) l0_5.length c0_5, .slice A0_6 l0_6.length c0_6] 27 (0, 0)) (by (with_reducible repeat (first | refine blk_drewN ?_ _ | refine blk_drew ?_ | refine blk_alloc ?_ _)); exact BK107.out)) : gb115 ≠ gb107)); clear HO_3; clear HO_17; clear HO_108002; clear HO_108003; clear HO_108004; clear HO_108005; clear HO_108006; clear HL114_0; clear HL114_1; clear HL114_2; clear BK107; clear HR114_0; clear HR114_1; clear HR114_2; clear HB; have HO_3 := n0_; have HO_17 := n1_; have HO_108002 := n2_; have HO_108003 := n3_; have HO_108004 := n4_; have HO_108005 := n5_; have HO_108006 := n6_; have HL114_0 := n7_; have HL114_1 := n8_; have HL114_2 := n9_; have BK107 := n10_; have HR114_0 := n11_; have HR114_1 := n12_; have HR114_2 := n13_; have HB := n14_; have BK115 := n15_; have GW115 := n16_; have GE115 := n17_; have NB107_115 := n18_; have NB115_107 := n19_; clear n0_ n1_ n2_ n3_ n4_ n5_ n6_ n7_ n8_ n9_ n10_ n11_ n12_ n13_ n14_ n15_ n16_ n17_ n18_ n19_; clear hb hbox hg; have hnb15 := NB115_107.out; have hnc15 := NB107_115.out; have hcz16_0 : w14.cell? ⟨gb115, 0, none⟩ = some (.slice none 0 0) := (blk_cell BK115.out 0).trans rfl; have hcz16_1 : w14.cell? ⟨gb115, 1, none⟩ = some (.slice none 0 0) := (blk_cell BK115.out 1).trans rfl; have hcz16_2 : w14.cell? ⟨gb115, 2, none⟩ = some (.slice none 0 0) := (blk_cell BK115.out 2).trans rfl; have hfz16_0 := blk_frozen BK115.out 0; have hfz16_1 := blk_frozen BK115.out 1; have hfz16_2 := blk_frozen BK115.out 2) | ((with_reducible refine gate_store (t := 41) (p := 5) rfl ?_); refine store_event (t := 41) (p := 5) (v := ?vo_w17) (w1 := (((w14.setCell ⟨gb115, 0, none⟩ (.slice A114_0 ((rd_T41 l0_5 x19_1).f0).length c114_0)).setCell ⟨gb115, 1, none⟩ (.slice A114_1 ((rd_T41 l0_5 x19_1).f1).length c114_1)).setCell ⟨gb115, 2, none⟩ (.slice A114_2 ((rd_T41 l0_5 x19_1).f2).length c114_2))) ?hg ?ho ?hn ?hr ?_; (case ho => rfl); (case hg => rfl); (case hn => rfl); (case hr => first | (go_simp; done) | (go_simp; rfl)); intro w17 hw; have n0_ : Aside0 (Kd.N (Kd.slice 3 (Kd.int .i64)) 22 w17 w.heap.size (fun k_ => ((P0_2_ k_ ∨ P0_3_ k_ ∨ P0_4_ k_ ∨ P0_5_ k_ ∨ P0_6_ k_) ∨ w.heap.size ≤ k_) ∧ k_ ≠ gb107 ∧ k_ ≠ gb115) u3 x3_1) := ⟨(by rw [hw]; exact (by (with_reducible repeat (first | apply Kd.N_alloc | apply Kd.N_drewN | apply Kd.N_drew)); exact Kd.N_mono (Kd.N_far (p := ⟨gb115, 2, none⟩) (Kd.N_far (p := ⟨gb115, 1, none⟩) (Kd.N_far (p := ⟨gb115, 0, none⟩) (Kd.N_mono HO_3.out (fun k_ hk => (⟨hk, hk.2⟩ : _ ∧ k_ ≠ gb115))) (fun _ hk => hk.2) (.slice A114_0 ((rd_T41 l0_5 x19_1).f0).length c114_0)) (fun _ hk => hk.2) (.slice A114_1 ((rd_T41 l0_5 x19_1).f1).length c114_1)) (fun _ hk => hk.2) (.slice A114_2 ((rd_T41 l0_5 x19_1).f2).length c114_2)) (fun _ hk => ⟨hk.1.1.1, ⟨hk.1.1.2, hk.1.2⟩⟩)))⟩; have n1_ : Aside0 (Kd.V k41 41 w17 w.heap.size (fun k_ => ((P0_2_ k_ ∨ P0_3_ k_ ∨ P0_4_ k_ ∨ P0_5_ k_ ∨ P0_6_ k_) ∨ w.heap.size ≤ k_) ∧ some k_ ≠ (u3 : Value).ownBlock ∧ k_ ≠ gb107 ∧ k_ ≠ gb115) (.slice (some ad114) l0_5.length c0_5) l0_5) := ⟨(by rw [hw]; exact (by (with_reducible repeat (first | apply Kd.V_alloc | apply Kd.V_drewN | apply Kd.V_drew)); exact Kd.V_mono (Kd.V_far (p := ⟨gb115, 2, none⟩) (Kd.V_far (p := ⟨gb115, 1, none⟩) (Kd.V_far (p := ⟨gb115, 0, none⟩) (Kd.V_mono HO_17.out (fun k_ hk => (⟨hk, hk.2⟩ : _ ∧ k_ ≠ gb115))) (fun _ hk => hk.2) (.slice A114_0 ((rd_T41 l0_5 x19_1).f0).length c114_0)) (fun _ hk => hk.2) (.slice A114_1 ((rd_T41 l0_5 x19_1).f1).length c114_1)) (fun _ hk => hk.2) (.slice A114_2 ((rd_T41 l0_5 x19_1).f2).length c114_2)) (fun _ hk => ⟨hk.1.1.1, ⟨hk.1.1.2.1, ⟨hk.1.1.2.2, hk.1.2⟩⟩⟩)))⟩; have n2_ : Aside0 (Kd.V (Kd.int .i64) 3 w17 w.heap.size (fun k_ => ((P0_2_ k_ ∨ P0_3_ k_ ∨ P0_4_ k_ ∨ P0_5_ k_ ∨ P0_6_ k_) ∨ w.heap.size ≤ k_) ∧ some k_ ≠ (u3 : Value).ownBlock ∧ k_ ≠ gb107 ∧ k_ ≠ gb115) (.slice A0_2 l0_2.length c0_2) l0_2) := ⟨(by rw [hw]; exact (by (with_reducible repeat (first | apply Kd.V_alloc | apply Kd.V_drewN | apply Kd.V_drew)); exact Kd.V_mono (Kd.V_far (p := ⟨gb115, 2, none⟩) (Kd.V_far (p := ⟨gb115, 1, none⟩) (Kd.V_far (p := ⟨gb115, 0, none⟩) (Kd.V_mono HO_108002.out (fun k_ hk => (⟨hk, hk.2⟩ : _ ∧ k_ ≠ gb115))) (fun _ hk => hk.2) (.slice A114_0 ((rd_T41 l0_5 x19_1).f0).length c114_0)) (fun _ hk => hk.2) (.slice A114_1 ((rd_T41 l0_5 x19_1).f1).length c114_1)) (fun _ hk => hk.2) (.slice A114_2 ((rd_T41 l0_5 x19_1).f2).length c114_2)) (fun _ hk => ⟨hk.1.1.1, ⟨hk.1.1.2.1, ⟨hk.1.1.2.2, hk.1.2⟩⟩⟩)))⟩; have n3_ : Aside0 (Kd.V (Kd.int .i64) 3 w17 w.heap.size (fun k_ => ((P0_2_ k_ ∨ P0_3_ k_ ∨ P0_4_ k_ ∨ P0_5_ k_ ∨ P0_6_ k_) ∨ w.heap.size ≤ k_) ∧ some k_ ≠ (u3 : Value).ownBlock ∧ k_ ≠ gb107 ∧ k_ ≠ gb115) (.slice A0_3 l0_3.length c0_3) l0_3) := ⟨(by rw [hw]; exact (by (with_reducible repeat (first | apply Kd.V_alloc | apply Kd.V_drewN | apply Kd.V_drew)); exact Kd.V_mono (Kd.V_far (p := ⟨gb115, 2, none⟩) (Kd.V_far (p := ⟨gb115, 1, none⟩) (Kd.V_far (p := ⟨gb115, 0, none⟩) (Kd.V_mono HO_108003.out (fun k_ hk => (⟨hk, hk.2⟩ : _ ∧ k_ ≠ gb115))) (fun _ hk => hk.2) (.slice A114_0 ((rd_T41 l0_5 x19_1).f0).length c114_0)) (fun _ hk => hk.2) (.slice A114_1 ((rd_T41 l0_5 x19_1).f1).length c114_1)) (fun _ hk => hk.2) (.slice A114_2 ((rd_T41 l0_5 x19_1).f2).length c114_2)) (fun _ hk => ⟨hk.1.1.1, ⟨hk.1.1.2.1, ⟨hk.1.1.2.2, hk.1.2⟩⟩⟩)))⟩; have n4_ : Aside0 (Kd.V (Kd.slice 3 (Kd.int .i64)) 22 w17 w.heap.size (fun k_ => ((P0_2_ k_ ∨ P0_3_ k_ ∨ P0_4_ k_ ∨ P0_5_ k_ ∨ P0_6_ k_) ∨ w.heap.size ≤ k_) ∧ some k_ ≠ (u3 : Value).ownBlock ∧ k_ ≠ gb107 ∧ k_ ≠ gb115) (.slice A0_4 l0_4.length c0_4) l0_4) := ⟨(by rw [hw]; exact (by (with_reducible repeat (first | apply Kd.V_alloc | apply Kd.V_drewN | apply Kd.V_drew)); exact Kd.V_mono (Kd.V_far (p := ⟨gb115, 2, none⟩) (Kd.V_far (p := ⟨gb115, 1, none⟩) (Kd.V_far (p := ⟨gb115, 0, none⟩) (Kd.V_mono HO_108004.out (fun k_ hk => (⟨hk, hk.2⟩ : _ ∧ k_ ≠ gb115))) (fun _ hk => hk.2) (.slice A114_0 ((rd_T41 l0_5 x19_1).f0).length c114_0)) (fun _ hk => hk.2) (.slice A114_1 ((rd_T41 l0_5 x19_1).f1).length c114_1)) (fun _ hk => hk.2) (.slice A114_2 ((rd_T41 l0_5 x19_1).f2).length c114_2)) (fun _ hk => ⟨hk.1.1.1, ⟨hk.1.1.2.1, ⟨hk.1.1.2.2, hk.1.2⟩⟩⟩)))⟩; have n5_ : Aside0 (Kd.V k41 41 w17 w.heap.size (fun k_ => ((P0_2_ k_ ∨ P0_3_ k_ ∨ P0_4_ k_ ∨ P0_5_ k_ ∨ P0_6_ k_) ∨ w.heap.size ≤ k_) ∧ some k_ ≠ (u3 : Value).ownBlock ∧ k_ ≠ gb107 ∧ k_ ≠ gb115) (.slice (some ad114) l0_5.length c0_5) l0_5) := ⟨(by rw [hw]; exact (by (with_reducible repeat (first | apply Kd.V_alloc | apply Kd.V_drewN | apply Kd.V_drew)); exact Kd.V_mono (Kd.V_far (p := ⟨gb115, 2, none⟩) (Kd.V_far (p := ⟨gb115, 1, none⟩) (Kd.V_far (p := ⟨gb115, 0, none⟩) (Kd.V_mono HO_108005.out (fun k_ hk => (⟨hk, hk.2⟩ : _ ∧ k_ ≠ gb115))) (fun _ hk => hk.2) (.slice A114_0 ((rd_T41 l0_5 x19_1).f0).length c114_0)) (fun _ hk => hk.2) (.slice A114_1 ((rd_T41 l0_5 x19_1).f1).length c114_1)) (fun _ hk => hk.2) (.slice A114_2 ((rd_T41 l0_5 x19_1).f2).length c114_2)) (fun _ hk => ⟨hk.1.1.1, ⟨hk.1.1.2.1, ⟨hk.1.1.2.2, hk.1.2⟩⟩⟩)))⟩; have n6_ : Aside0 (Kd.V k43 43 w17 w.heap.size (fun k_ => ((P0_2_ k_ ∨ P0_3_ k_ ∨ P0_4_ k_ ∨ P0_5_ k_ ∨ P0_6_ k_) ∨ w.heap.size ≤ k_) ∧ some k_ ≠ (u3 : Value).ownBlock ∧ k_ ≠ gb107 ∧ k_ ≠ gb115) (.slice A0_6 l0_6.length c0_6) l0_6) := ⟨(by rw [hw]; exact (by (with_reducible repeat (first | apply Kd.V_alloc | apply Kd.V_drewN | apply Kd.V_drew)); exact Kd.V_mono (Kd.V_far (p := ⟨gb115, 2, none⟩) (Kd.V_far (p := ⟨gb115, 1, none⟩) (Kd.V_far (p := ⟨gb115, 0, none⟩) (Kd.V_mono HO_108006.out (fun k_ hk => (⟨hk, hk.2⟩ : _ ∧ k_ ≠ gb115))) (fun _ hk => hk.2) (.slice A114_0 ((rd_T41 l0_5 x19_1).f0).length c114_0)) (fun _ hk => hk.2) (.slice A114_1 ((rd_T41 l0_5 x19_1).f1).length c114_1)) (fun _ hk => hk.2) (.slice A114_2 ((rd_T41 l0_5 x19_1).f2).length c114_2)) (fun _ hk => ⟨hk.1.1.1, ⟨hk.1.1.2.1, ⟨hk.1.1.2.2, hk.1.2⟩⟩⟩)))⟩; have n7_ : Aside0 (Kd.V (Kd.int .i64) 3 w17 w.heap.size (fun k_ => ((P0_2_ k_ ∨ P0_3_ k_ ∨ P0_4_ k_ ∨ P0_5_ k_ ∨ P0_6_ k_) ∨ w.heap.size ≤ k_) ∧ some k_ ≠ (u3 : Value).ownBlock ∧ k_ ≠ gb107 ∧ k_ ≠ gb115) (.slice A114_0 ((rd_T41 l0_5 x19_1).f0).length c114_0) ((rd_T41 l0_5 x19_1).f0)) := ⟨(by rw [hw]; exact (by (with_reducible repeat (first | apply Kd.V_alloc | apply Kd.V_drewN | apply Kd.V_drew)); exact Kd.V_mono (Kd.V_far (p := ⟨gb115, 2, none⟩) (Kd.V_far (p := ⟨gb115, 1, none⟩) (Kd.V_far (p := ⟨gb115, 0, none⟩) (Kd.V_mono HL114_0.out (fun k_ hk => (⟨hk, hk.2⟩ : _ ∧ k_ ≠ gb115))) (fun _ hk => hk.2) (.slice A114_0 ((rd_T41 l0_5 x19_1).f0).length c114_0)) (fun _ hk => hk.2) (.slice A114_1 ((rd_T41 l0_5 x19_1).f1).length c114_1)) (fun _ hk => hk.2) (.slice A114_2 ((rd_T41 l0_5 x19_1).f2).length c114_2)) (fun _ hk => ⟨hk.1.1.1, ⟨hk.1.1.2.1, ⟨hk.1.1.2.2, hk.1.2⟩⟩⟩)))⟩; have n8_ : Aside0 (Kd.V (Kd.int .i64) 3 w17 w.heap.size (fun k_ => ((P0_2_ k_ ∨ P0_3_ k_ ∨ P0_4_ k_ ∨ P0_5_ k_ ∨ P0_6_ k_) ∨ w.heap.size ≤ k_) ∧ some k_ ≠ (u3 : Value).ownBlock ∧ k_ ≠ gb107 ∧ k_ ≠ gb115) (.slice A114_1 ((rd_T41 l0_5 x19_1).f1).length c114_1) ((rd_T41 l0_5 x19_1).f1)) := ⟨(by rw [hw]; exact (by (with_reducible repeat (first | apply Kd.V_alloc | apply Kd.V_drewN | apply Kd.V_drew)); exact Kd.V_mono (Kd.V_far (p := ⟨gb115, 2, none⟩) (Kd.V_far (p := ⟨gb115, 1, none⟩) (Kd.V_far (p := ⟨gb115, 0, none⟩) (Kd.V_mono HL114_1.out (fun k_ hk => (⟨hk, hk.2⟩ : _ ∧ k_ ≠ gb115))) (fun _ hk => hk.2) (.slice A114_0 ((rd_T41 l0_5 x19_1).f0).length c114_0)) (fun _ hk => hk.2) (.slice A114_1 ((rd_T41 l0_5 x19_1).f1).length c114_1)) (fun _ hk => hk.2) (.slice A114_2 ((rd_T41 l0_5 x19_1).f2).length c114_2)) (fun _ hk => ⟨hk.1.1.1, ⟨hk.1.1.2.1, ⟨hk.1.1.2.2, hk.1.2⟩⟩⟩)))⟩; have n9_ : Aside0 (Kd.V (Kd.int .i64) 3 w17 w.heap.size (fun k_ => ((P0_2_ k_ ∨ P0_3_ k_ ∨ P0_4_ k_ ∨ P0_5_ k_ ∨ P0_6_ k_) ∨ w.heap.size ≤ k_) ∧ some k_ ≠ (u3 : Value).ownBlock ∧ k_ ≠ gb107 ∧ k_ ≠ gb115) (.slice A114_2 ((rd_T41 l0_5 x19_1).f2).length c114_2) ((rd_T41 l0_5 x19_1).f2)) := ⟨(by rw [hw]; exact (by (with_reducible repeat (first | apply Kd.V_alloc | apply Kd.V_drewN | apply Kd.V_drew)); exact Kd.V_mono (Kd.V_far (p := ⟨gb115, 2, none⟩) (Kd.V_far (p := ⟨gb115, 1, none⟩) (Kd.V_far (p := ⟨gb115, 0, none⟩) (Kd.V_mono HL114_2.out (fun k_ hk => (⟨hk, hk.2⟩ : _ ∧ k_ ≠ gb115))) (fun _ hk => hk.2) (.slice A114_0 ((rd_T41 l0_5 x19_1).f0).length c114_0)) (fun _ hk => hk.2) (.slice A114_1 ((rd_T41 l0_5 x19_1).f1).length c114_1)) (fun _ hk => hk.2) (.slice A114_2 ((rd_T41 l0_5 x19_1).f2).length c114_2)) (fun _ hk => ⟨hk.1.1.1, ⟨hk.1.1.2.1, ⟨hk.1.1.2.2, hk.1.2⟩⟩⟩)))⟩; have n10_ : Aside0 (w17.heap[gb107]? = some (.cells #[.int .i64 a0_0, .bool a0_1, .slice A0_2 l0_2.length c0_2, .slice A0_3 l0_3.length c0_3, .slice A0_4 l0_4.length c0_4, .slice (some ad114) l0_5.length c0_5, .slice A0_6 l0_6.length c0_6] 27 (0, 0))) := ⟨(by rw [hw]; exact (by (with_reducible repeat (first | refine blk_drewN ?_ _ | refine blk_drew ?_ | refine blk_alloc ?_ _)); refine blk_far ?_ NB107_115.out _; (with_reducible repeat (first | refine blk_drewN ?_ _ | refine blk_drew ?_ | refine blk_alloc ?_ _)); refine blk_far ?_ NB107_115.out _; (with_reducible repeat (first | refine blk_drewN ?_ _ | refine blk_drew ?_ | refine blk_alloc ?_ _)); refine blk_far ?_ NB107_115.out _; (with_reducible repeat (first | refine blk_drewN ?_ _ | refine blk_drew ?_ | refine blk_alloc ?_ _)); exact BK107.out))⟩; have n11_ : Aside0 (w17.heap[gb115]? = some (.cells #[.slice A114_0 ((rd_T41 l0_5 x19_1).f0).length c114_0, .slice A114_1 ((rd_T41 l0_5 x19_1).f1).length c114_1, .slice A114_2 ((rd_T41 l0_5 x19_1).f2).length c114_2] 41 (0, 0))) := ⟨(by rw [hw]; exact (by (with_reducible repeat (first | refine blk_drewN ?_ _ | refine blk_drew ?_ | refine blk_alloc ?_ _)); refine blk_put (cs := #[.slice A114_0 ((rd_T41 l0_5 x19_1).f0).length c114_0, .slice A114_1 ((rd_T41 l0_5 x19_1).f1).length c114_1, .slice none 0 0]) ?_ 2 _ rfl; (with_reducible repeat (first | refine blk_drewN ?_ _ | refine blk_drew ?_ | refine blk_alloc ?_ _)); refine blk_put (cs := #[.slice A114_0 ((rd_T41 l0_5 x19_1).f0).length c114_0, .slice none 0 0, .slice none 0 0]) ?_ 1 _ rfl; (with_reducible repeat (first | refine blk_drewN ?_ _ | refine blk_drew ?_ | refine blk_alloc ?_ _)); refine blk_put (cs := #[.slice none 0 0, .slice none 0 0, .slice none 0 0]) ?_ 0 _ rfl; (with_reducible repeat (first | refine blk_drewN ?_ _ | refine blk_drew ?_ | refine blk_alloc ?_ _)); exact BK115.out))⟩; have n12_ : Aside0 (Below w.heap.size w w17) := ⟨(by rw [hw]; exact (by repeat (first | (with_reducible first | exact HB.out | apply below_alloc | apply pw_below_drewN | apply below_drew1 | refine below_set ?_ GE107.out | refine below_set ?_ GE115.out) | exact HB.out)))⟩; clear hw; clear HO_3; clear HO_17; clear HO_108002; clear HO_108003; clear HO_108004; clear HO_108005; clear HO_108006; clear HL114_0; clear HL114_1; clear HL114_2; clear BK107; clear BK115; clear HB; have HO_3 := n0_; have HO_17 := n1_; have HO_108002 := n2_; have HO_108003 := n3_; have HO_108004 := n4_; have HO_108005 := n5_; have HO_108006 := n6_; have HL114_0 := n7_; have HL114_1 := n8_; have HL114_2 := n9_; have BK107 := n10_; have BK115 := n11_; have HB := n12_; clear n0_ n1_ n2_ n3_ n4_ n5_ n6_ n7_ n8_ n9_ n10_ n11_ n12_; have hcz18_0 : w17.cell? ⟨gb115, 0, none⟩ = some (.slice A114_0 ((rd_T41 l0_5 x19_1).f0).length c114_0) := (blk_cell BK115.out 0).trans rfl; have hcz18_1 : w17.cell? ⟨gb115, 1, none⟩ = some (.slice A114_1 ((rd_T41 l0_5 x19_1).f1).length c114_1) := (blk_cell BK115.out 1).trans rfl; have hcz18_2 : w17.cell? ⟨gb115, 2, none⟩ = some (.slice A114_2 ((rd_T41 l0_5 x19_1).f2).length c114_2) := (blk_cell BK115.out 2).trans rfl; have hfz18_0 := blk_frozen BK115.out 0; have hfz18_1 := blk_frozen BK115.out 1; have hfz18_2 := blk_frozen BK115.out 2) | ((with_reducible refine gate_dst (N := 30) rfl ?_); (try (refine gate_guard (by rfl) ?_; dsimp only)); refine Kd.N_lit (Kd.slice 3 (Kd.int .i64)) _ 22 ?hg (N' := 30) ?hd (xs := ([(rd_T41 l0_5 x19_1).f0, (rd_T41 l0_5 x19_1).f1, (rd_T41 l0_5 x19_1).f2] : List (List Int))) (inner := [.slice A114_0 ((rd_T41 l0_5 x19_1).f0).length c114_0, .slice A114_1 ((rd_T41 l0_5 x19_1).f1).length c114_1, .slice A114_2 ((rd_T41 l0_5 x19_1).f2).length c114_2]) (ok := (fun k_ => ((P0_2_ k_ ∨ P0_3_ k_ ∨ P0_4_ k_ ∨ P0_5_ k_ ∨ P0_6_ k_) ∨ w.heap.size ≤ k_) ∧ some k_ ≠ (u3 : Value).ownBlock ∧ k_ ≠ gb107 ∧ k_ ≠ gb115)) (okp := (fun k_ => ((P0_2_ k_ ∨ P0_3_ k_ ∨ P0_4_ k_ ∨ P0_5_ k_ ∨ P0_6_ k_) ∨ w.heap.size ≤ k_) ∧ some k_ ≠ (u3 : Value).ownBlock ∧ k_ ≠ gb107 ∧ k_ ≠ gb115)) ?hr ?hp (fun _ hk => hk) ((show ∀ k_, w17.heap.size ≤ k_ → (fun k_ => ((P0_2_ k_ ∨ P0_3_ k_ ∨ P0_4_ k_ ∨ P0_5_ k_ ∨ P0_6_ k_) ∨ w.heap.size ≤ k_) ∧ some k_ ≠ (u3 : Value).ownBlock ∧ k_ ≠ gb107 ∧ k_ ≠ gb115) k_ from fun k_ hk => ⟨(.inr (Nat.le_trans (below_size (by repeat (first | (with_reducible first | exact HB.out | apply below_alloc | apply pw_below_drewN | apply below_drew1 | refine below_set ?_ GE107.out | refine below_set ?_ GE115.out) | exact HB.out))) hk)), Kd.fresh' (Kd.N_lt (by (with_reducible repeat (first | apply Kd.N_alloc | apply Kd.N_drewN | apply Kd.N_drew)); exact HO_3.out)) k_ hk, Kd.freshB (g := gb107) (o := .cells #[.int .i64 a0_0, .bool a0_1, .slice A0_2 l0_2.length c0_2, .slice A0_3 l0_3.length c0_3, .slice A0_4 l0_4.length c0_4, .slice (some ad114) l0_5.length c0_5, .slice A0_6 l0_6.length c0_6] 27 (0, 0)) (by (with_reducible repeat (first | refine blk_drewN ?_ _ | refine blk_drew ?_ | refine blk_alloc ?_ _)); exact BK107.out) k_ hk, Kd.freshB (g := gb115) (o := .cells #[.slice A114_0 ((rd_T41 l0_5 x19_1).f0).length c114_0, .slice A114_1 ((rd_T41 l0_5 x19_1).f1).length c114_1, .slice A114_2 ((rd_T41 l0_5 x19_1).f2).length c114_2] 41 (0, 0)) (by (with_reducible repeat (first | refine blk_drewN ?_ _ | refine blk_drew ?_ | refine blk_alloc ?_ _)); exact BK115.out) k_ hk⟩) _ (Nat.le_refl _)) (Below.refl _ _) (Nat.le_refl _) (by simp) ?_; (case hd => rfl); (case hg => rfl); (case hr => first | (go_simp; done) | (go_simp; rfl)); (case hp => exact (Reps.one (show Kd.FK (Kd.slice 3 (Kd.int .i64)) _ _ ((rd_T41 l0_5 x19_1).f0) [.slice A114_0 ((rd_T41 l0_5 x19_1).f0).length c114_0] from (Kd.FK_slice_mk (Kd.V_reads' (Kd.V_mono (ok' := (fun k_ => ((P0_2_ k_ ∨ P0_3_ k_ ∨ P0_4_ k_ ∨ P0_5_ k_ ∨ P0_6_ k_) ∨ w.heap.size ≤ k_) ∧ some k_ ≠ (u3 : Value).ownBlock ∧ k_ ≠ gb107 ∧ k_ ≠ gb115)) (HL114_0.out) (fun k_ hk => ⟨hk.1, ⟨hk.2.1, ⟨hk.2.2.1, hk.2.2.2⟩⟩⟩))).2.1 (Kd.V_F (Kd.V_mono (ok' := (fun k_ => ((P0_2_ k_ ∨ P0_3_ k_ ∨ P0_4_ k_ ∨ P0_5_ k_ ∨ P0_6_ k_) ∨ w.heap.size ≤ k_) ∧ some k_ ≠ (u3 : Value).ownBlock ∧ k_ ≠ gb107 ∧ k_ ≠ gb115)) (HL114_0.out) (fun k_ hk => ⟨hk.1, ⟨hk.2.1, ⟨hk.2.2.1, hk.2.2.2⟩⟩⟩))))) (Reps.one (show Kd.FK (Kd.slice 3 (Kd.int .i64)) _ _ ((rd_T41 l0_5 x19_1).f1) [.slice A114_1 ((rd_T41 l0_5 x19_1).f1).length c114_1] from (Kd.FK_slice_mk (Kd.V_reads' (Kd.V_mono (ok' := (fun k_ => ((P0_2_ k_ ∨ P0_3_ k_ ∨ P0_4_ k_ ∨ P0_5_ k_ ∨ P0_6_ k_) ∨ w.heap.size ≤ k_) ∧ some k_ ≠ (u3 : Value).ownBlock ∧ k_ ≠ gb107 ∧ k_ ≠ gb115)) (HL114_1.out) (fun k_ hk => ⟨hk.1, ⟨hk.2.1, ⟨hk.2.2.1, hk.2.2.2⟩⟩⟩))).2.1 (Kd.V_F (Kd.V_mono (ok' := (fun k_ => ((P0_2_ k_ ∨ P0_3_ k_ ∨ P0_4_ k_ ∨ P0_5_ k_ ∨ P0_6_ k_) ∨ w.heap.size ≤ k_) ∧ some k_ ≠ (u3 : Value).ownBlock ∧ k_ ≠ gb107 ∧ k_ ≠ gb115)) (HL114_1.out) (fun k_ hk => ⟨hk.1, ⟨hk.2.1, ⟨hk.2.2.1, hk.2.2.2⟩⟩⟩))))) (Reps.one (show Kd.FK (Kd.slice 3 (Kd.int .i64)) _ _ ((rd_T41 l0_5 x19_1).f2) [.slice A114_2 ((rd_T41 l0_5 x19_1).f2).length c114_2] from (Kd.FK_slice_mk (Kd.V_reads' (Kd.V_mono (ok' := (fun k_ => ((P0_2_ k_ ∨ P0_3_ k_ ∨ P0_4_ k_ ∨ P0_5_ k_ ∨ P0_6_ k_) ∨ w.heap.size ≤ k_) ∧ some k_ ≠ (u3 : Value).ownBlock ∧ k_ ≠ gb107 ∧ k_ ≠ gb115)) (HL114_2.out) (fun k_ hk => ⟨hk.1, ⟨hk.2.1, ⟨hk.2.2.1, hk.2.2.2⟩⟩⟩))).2.1 (Kd.V_F (Kd.V_mono (ok' := (fun k_ => ((P0_2_ k_ ∨ P0_3_ k_ ∨ P0_4_ k_ ∨ P0_5_ k_ ∨ P0_6_ k_) ∨ w.heap.size ≤ k_) ∧ some k_ ≠ (u3 : Value).ownBlock ∧ k_ ≠ gb107 ∧ k_ ≠ gb115)) (HL114_2.out) (fun k_ hk => ⟨hk.1, ⟨hk.2.1, ⟨hk.2.2.1, hk.2.2.2⟩⟩⟩))))) (Reps.none _ _))))); intro v117 w19 ho20 hb hg_ hnew_; clear hg_ hnew_; (first | rw [← Ny116.out] at ho20 | (simp only [Int.reduceToNat] at ho20; rw [← Ny116.out] at ho20)); have n0_ := Aside0.mk (Kd.N_elder' (by (with_reducible repeat (first | apply Kd.N_alloc | apply Kd.N_drewN | apply Kd.N_drew)); exact HO_3.out) (Kd.N_base ho20) hb); have n1_ := Aside0.mk (Kd.V_elder' (by (with_reducible repeat (first | apply Kd.V_alloc | apply Kd.V_drewN | apply Kd.V_drew)); exact HO_17.out) (Kd.N_base ho20) hb); have n2_ := Aside0.mk (Kd.V_elder' (by (with_reducible repeat (first | apply Kd.V_alloc | apply Kd.V_drewN | apply Kd.V_drew)); exact HO_108002.out) (Kd.N_base ho20) hb); have n3_ := Aside0.mk (Kd.V_elder' (by (with_reducible repeat (first | apply Kd.V_alloc | apply Kd.V_drewN | apply Kd.V_drew)); exact HO_108003.out) (Kd.N_base ho20) hb); have n4_ := Aside0.mk (Kd.V_elder' (by (with_reducible repeat (first | apply Kd.V_alloc | apply Kd.V_drewN | apply Kd.V_drew)); exact HO_108004.out) (Kd.N_base ho20) hb); have n5_ := Aside0.mk (Kd.V_elder' (by (with_reducible repeat (first | apply Kd.V_alloc | apply Kd.V_drewN | apply Kd.V_drew)); exact HO_108005.out) (Kd.N_base ho20) hb); have n6_ := Aside0.mk (Kd.V_elder' (by (with_reducible repeat (first | apply Kd.V_alloc | apply Kd.V_drewN | apply Kd.V_drew)); exact HO_108006.out) (Kd.N_base ho20) hb); have n7_ := Aside0.mk (Kd.V_elder' (by (with_reducible repeat (first | apply Kd.V_alloc | apply Kd.V_drewN | apply Kd.V_drew)); exact HL114_0.out) (Kd.N_base ho20) hb); have n8_ := Aside0.mk (Kd.V_elder' (by (with_reducible repeat (first | apply Kd.V_alloc | apply Kd.V_drewN | apply Kd.V_drew)); exact HL114_1.out) (Kd.N_base ho20) hb); have n9_ := Aside0.mk (Kd.V_elder' (by (with_reducible repeat (first | apply Kd.V_alloc | apply Kd.V_drewN | apply Kd.V_drew)); exact HL114_2.out) (Kd.N_base ho20) hb); have n10_ := Aside0.mk (Kd.N_lower ho20 (below_size (by repeat (first | (with_reducible first | exact HB.out | apply below_alloc | apply pw_below_drewN | apply below_drew1 | refine below_set ?_ GE107.out | refine below_set ?_ GE115.out) | exact HB.out)))); have n11_ := Aside0.mk (blk_below (g := gb107) (o := .cells #[.int .i64 a0_0, .bool a0_1, .slice A0_2 l0_2.length c0_2, .slice A0_3 l0_3.length c0_3, .slice A0_4 l0_4.length c0_4, .slice (some ad114) l0_5.length c0_5, .slice A0_6 l0_6.length c0_6] 27 (0, 0)) (by (with_reducible repeat (first | refine blk_drewN ?_ _ | refine blk_drew ?_ | refine blk_alloc ?_ _)); exact BK107.out) hb); have n12_ := Aside0.mk (blk_below (g := gb115) (o := .cells #[.slice A114_0 ((rd_T41 l0_5 x19_1).f0).length c114_0, .slice A114_1 ((rd_T41 l0_5 x19_1).f1).length c114_1, .slice A114_2 ((rd_T41 l0_5 x19_1).f2).length c114_2] 41 (0, 0)) (by (with_reducible repeat (first | refine blk_drewN ?_ _ | refine blk_drew ?_ | refine blk_alloc ?_ _)); exact BK115.out) hb); have n13_ := Aside0.mk (below_step (by repeat (first | (with_reducible first | exact HB.out | apply below_alloc | apply pw_below_drewN | apply below_drew1 | refine below_set ?_ GE107.out | refine below_set ?_ GE115.out) | exact HB.out)) hb); clear HO_3; clear HO_17; clear HO_108002; clear HO_108003; clear HO_108004; clear HO_108005; clear HO_108006; clear HL114_0; clear HL114_1; clear HL114_2; clear BK107; clear BK115; clear HB; have HO_3 := n0_; have HO_17 := n1_; have HO_108002 := n2_; have HO_108003 := n3_; have HO_108004 := n4_; have HO_108005 := n5_; have HO_108006 := n6_; have HL114_0 := n7_; have HL114_1 := n8_; have HL114_2 := n9_; have HO118 := n10_; have BK107 := n11_; have BK115 := n12_; have HB := n13_; clear n0_ n1_ n2_ n3_ n4_ n5_ n6_ n7_ n8_ n9_ n10_ n11_ n12_ n13_; clear hb ho20; obtain ⟨Ao22, co22, eo22⟩ := Kd.N_slice HO118.out; subst eo22) | ((with_reducible refine gate_builtin (b := .append) (xs := #[.tmp 23, .tmp 30]) rfl ?_); (try (refine gate_guard (by rfl) ?_; dsimp only)); at_builtin; refine Kd.N_append_rows (Kd.slice 3 (Kd.int .i64)) (w0 := w) w.heap.size rfl (.tmp 23) (.tmp 30) 23 22 (.slice none 0 0) 24 rfl Tryd.underlying23 info22 rfl (by decide) (by omega) u3 x3_1 y116 _ _ _ (fun k_ => ((P0_2_ k_ ∨ P0_3_ k_ ∨ P0_4_ k_ ∨ P0_5_ k_ ∨ P0_6_ k_) ∨ w.heap.size ≤ k_) ∧ k_ ≠ gb107 ∧ k_ ≠ gb115) (fun k_ => ((fun k_ => ((P0_2_ k_ ∨ P0_3_ k_ ∨ P0_4_ k_ ∨ P0_5_ k_ ∨ P0_6_ k_) ∨ w.heap.size ≤ k_) ∧ k_ ≠ gb107 ∧ k_ ≠ gb115)) k_ ∧ some k_ ≠ (u3 : Value).ownBlock) rfl rfl ?aO ?aR (fun _ hk => hk) ?aF ?aB ?aS ?aL ?_; (case aR => exact (by skip; exact Kd.N_F (Kd.N_mono (ok' := (fun k_ => ((fun k_ => ((P0_2_ k_ ∨ P0_3_ k_ ∨ P0_4_ k_ ∨ P0_5_ k_ ∨ P0_6_ k_) ∨ w.heap.size ≤ k_) ∧ k_ ≠ gb107 ∧ k_ ≠ gb115)) k_ ∧ some k_ ≠ (u3 : Value).ownBlock)) (HO118.out) (fun k_ hk => ⟨⟨hk.1, ⟨hk.2.2.1, hk.2.2.2⟩⟩, hk.2.1⟩)))); (case aB => exact (by repeat (first | (with_reducible first | exact HB.out | apply below_alloc | apply pw_below_drewN | apply below_drew1 | refine below_set ?_ GE107.out | refine below_set ?_ GE115.out) | exact HB.out))); (case aF => exact (fun k_ hk => ⟨(.inr (Nat.le_trans (below_size (by repeat (first | (with_reducible first | exact HB.out | apply below_alloc | apply pw_below_drewN | apply below_drew1 | refine below_set ?_ GE107.out | refine below_set ?_ GE115.out) | exact HB.out))) hk)), Kd.freshB (g := gb107) (o := .cells #[.int .i64 a0_0, .bool a0_1, .slice A0_2 l0_2.length c0_2, .slice A0_3 l0_3.length c0_3, .slice A0_4 l0_4.length c0_4, .slice (some ad114) l0_5.length c0_5, .slice A0_6 l0_6.length c0_6] 27 (0, 0)) (by (with_reducible repeat (first | refine blk_drewN ?_ _ | refine blk_drew ?_ | refine blk_alloc ?_ _)); exact BK107.out) k_ hk, Kd.freshB (g := gb115) (o := .cells #[.slice A114_0 ((rd_T41 l0_5 x19_1).f0).length c114_0, .slice A114_1 ((rd_T41 l0_5 x19_1).f1).length c114_1, .slice A114_2 ((rd_T41 l0_5 x19_1).f2).length c114_2] 41 (0, 0)) (by (with_reducible repeat (first | refine blk_drewN ?_ _ | refine blk_drew ?_ | refine blk_alloc ?_ _)); exact BK115.out) k_ hk⟩)); (case aO => exact (by (with_reducible repeat (first | apply Kd.N_alloc | apply Kd.N_drewN | apply Kd.N_drew)); exact Kd.N_mono HO_3.out (fun _ hk => ⟨hk.1.1, ⟨hk.1.2.1, hk.1.2.2⟩⟩))); (case aS => exact (below_size (by repeat (first | (with_reducible first | exact HB.out | apply below_alloc | apply pw_below_drewN | apply below_drew1 | refine below_set ?_ GE107.out | refine below_set ?_ GE115.out) | exact HB.out)))); (case aL => have := LMc13.out; omega); intro v120 w21 ho hb hg hat; rw [← Ny119.out] at ho; have n0_ := Aside0.mk (Kd.V_afterv (ok := (fun k_ => ((P0_2_ k_ ∨ P0_3_ k_ ∨ P0_4_ k_ ∨ P0_5_ k_ ∨ P0_6_ k_) ∨ w.heap.size ≤ k_) ∧ some k_ ≠ (.slice Ao22 y116.length co22 : Value).ownBlock ∧ k_ ≠ gb107 ∧ k_ ≠ gb115)) (by (with_reducible repeat (first | apply Kd.V_alloc | apply Kd.V_drewN | apply Kd.V_drew)); exact Kd.V_mono HO_17.out (fun _ hk => ⟨⟨hk.1.1, ⟨hk.2, ⟨hk.1.2.2.1, hk.1.2.2.2⟩⟩⟩, hk.1.2.1⟩)) hg hat); have n1_ := Aside0.mk (Kd.V_afterv (ok := (fun k_ => ((P0_2_ k_ ∨ P0_3_ k_ ∨ P0_4_ k_ ∨ P0_5_ k_ ∨ P0_6_ k_) ∨ w.heap.size ≤ k_) ∧ some k_ ≠ (.slice Ao22 y116.length co22 : Value).ownBlock ∧ k_ ≠ gb107 ∧ k_ ≠ gb115)) (by (with_reducible repeat (first | apply Kd.V_alloc | apply Kd.V_drewN | apply Kd.V_drew)); exact Kd.V_mono HO_108002.out (fun _ hk => ⟨⟨hk.1.1, ⟨hk.2, ⟨hk.1.2.2.1, hk.1.2.2.2⟩⟩⟩, hk.1.2.1⟩)) hg hat); have n2_ := Aside0.mk (Kd.V_afterv (ok := (fun k_ => ((P0_2_ k_ ∨ P0_3_ k_ ∨ P0_4_ k_ ∨ P0_5_ k_ ∨ P0_6_ k_) ∨ w.heap.size ≤ k_) ∧ some k_ ≠ (.slice Ao22 y116.length co22 : Value).ownBlock ∧ k_ ≠ gb107 ∧ k_ ≠ gb115)) (by (with_reducible repeat (first | apply Kd.V_alloc | apply Kd.V_drewN | apply Kd.V_drew)); exact Kd.V_mono HO_108003.out (fun _ hk => ⟨⟨hk.1.1, ⟨hk.2, ⟨hk.1.2.2.1, hk.1.2.2.2⟩⟩⟩, hk.1.2.1⟩)) hg hat); have n3_ := Aside0.mk (Kd.V_afterv (ok := (fun k_ => ((P0_2_ k_ ∨ P0_3_ k_ ∨ P0_4_ k_ ∨ P0_5_ k_ ∨ P0_6_ k_) ∨ w.heap.size ≤ k_) ∧ some k_ ≠ (.slice Ao22 y116.length co22 : Value).ownBlock ∧ k_ ≠ gb107 ∧ k_ ≠ gb115)) (by (with_reducible repeat (first | apply Kd.V_alloc | apply Kd.V_drewN | apply Kd.V_drew)); exact Kd.V_mono HO_108004.out (fun _ hk => ⟨⟨hk.1.1, ⟨hk.2, ⟨hk.1.2.2.1, hk.1.2.2.2⟩⟩⟩, hk.1.2.1⟩)) hg hat); have n4_ := Aside0.mk (Kd.V_afterv (ok := (fun k_ => ((P0_2_ k_ ∨ P0_3_ k_ ∨ P0_4_ k_ ∨ P0_5_ k_ ∨ P0_6_ k_) ∨ w.heap.size ≤ k_) ∧ some k_ ≠ (.slice Ao22 y116.length co22 : Value).ownBlock ∧ k_ ≠ gb107 ∧ k_ ≠ gb115)) (by (with_reducible repeat (first | apply Kd.V_alloc | apply Kd.V_drewN | apply Kd.V_drew)); exact Kd.V_mono HO_108005.out (fun _ hk => ⟨⟨hk.1.1, ⟨hk.2, ⟨hk.1.2.2.1, hk.1.2.2.2⟩⟩⟩, hk.1.2.1⟩)) hg hat); have n5_ := Aside0.mk (Kd.V_afterv (ok := (fun k_ => ((P0_2_ k_ ∨ P0_3_ k_ ∨ P0_4_ k_ ∨ P0_5_ k_ ∨ P0_6_ k_) ∨ w.heap.size ≤ k_) ∧ some k_ ≠ (.slice Ao22 y116.length co22 : Value).ownBlock ∧ k_ ≠ gb107 ∧ k_ ≠ gb115)) (by (with_reducible repeat (first | apply Kd.V_alloc | apply Kd.V_drewN | apply Kd.V_drew)); exact Kd.V_mono HO_108006.out (fun _ hk => ⟨⟨hk.1.1, ⟨hk.2, ⟨hk.1.2.2.1, hk.1.2.2.2⟩⟩⟩, hk.1.2.1⟩)) hg hat); have n6_ := Aside0.mk (blk_grown (g := gb107) (o := .cells #[.int .i64 a0_0, .bool a0_1, .slice A0_2 l0_2.length c0_2, .slice A0_3 l0_3.length c0_3, .slice A0_4 l0_4.length c0_4, .slice (some ad114) l0_5.length c0_5, .slice A0_6 l0_6.length c0_6] 27 (0, 0)) (by (with_reducible repeat (first | refine blk_drewN ?_ _ | refine blk_drew ?_ | refine blk_alloc ?_ _)); exact BK107.out) hg (Kd.N_ne HO_3.out BK107.out (by decide))); have n7_ := Aside0.mk (Kd.V_afterv (ok := (fun k_ => ((P0_2_ k_ ∨ P0_3_ k_ ∨ P0_4_ k_ ∨ P0_5_ k_ ∨ P0_6_ k_) ∨ w.heap.size ≤ k_) ∧ some k_ ≠ (.slice Ao22 y116.length co22 : Value).ownBlock ∧ k_ ≠ gb107 ∧ k_ ≠ gb115)) (by (with_reducible repeat (first | apply Kd.V_alloc | apply Kd.V_drewN | apply Kd.V_drew)); exact Kd.V_mono HL114_0.out (fun _ hk => ⟨⟨hk.1.1, ⟨hk.2, ⟨hk.1.2.2.1, hk.1.2.2.2⟩⟩⟩, hk.1.2.1⟩)) hg hat); have n8_ := Aside0.mk (Kd.V_afterv (ok := (fun k_ => ((P0_2_ k_ ∨ P0_3_ k_ ∨ P0_4_ k_ ∨ P0_5_ k_ ∨ P0_6_ k_) ∨ w.heap.size ≤ k_) ∧ some k_ ≠ (.slice Ao22 y116.length co22 : Value).ownBlock ∧ k_ ≠ gb107 ∧ k_ ≠ gb115)) (by (with_reducible repeat (first | apply Kd.V_alloc | apply Kd.V_drewN | apply Kd.V_drew)); exact Kd.V_mono HL114_1.out (fun _ hk => ⟨⟨hk.1.1, ⟨hk.2, ⟨hk.1.2.2.1, hk.1.2.2.2⟩⟩⟩, hk.1.2.1⟩)) hg hat); have n9_ := Aside0.mk (Kd.V_afterv (ok := (fun k_ => ((P0_2_ k_ ∨ P0_3_ k_ ∨ P0_4_ k_ ∨ P0_5_ k_ ∨ P0_6_ k_) ∨ w.heap.size ≤ k_) ∧ some k_ ≠ (.slice Ao22 y116.length co22 : Value).ownBlock ∧ k_ ≠ gb107 ∧ k_ ≠ gb115)) (by (with_reducible repeat (first | apply Kd.V_alloc | apply Kd.V_drewN | apply Kd.V_drew)); exact Kd.V_mono HL114_2.out (fun _ hk => ⟨⟨hk.1.1, ⟨hk.2, ⟨hk.1.2.2.1, hk.1.2.2.2⟩⟩⟩, hk.1.2.1⟩)) hg hat); have n10_ := Aside0.mk (blk_grown (g := gb115) (o := .cells #[.slice A114_0 ((rd_T41 l0_5 x19_1).f0).length c114_0, .slice A114_1 ((rd_T41 l0_5 x19_1).f1).length c114_1, .slice A114_2 ((rd_T41 l0_5 x19_1).f2).length c114_2] 41 (0, 0)) (by (with_reducible repeat (first | refine blk_drewN ?_ _ | refine blk_drew ?_ | refine blk_alloc ?_ _)); exact BK115.out) hg (Kd.N_ne HO_3.out BK115.out (by decide))); have n11_ := Aside0.mk (Kd.N_afterv (ok := (fun k_ => ((P0_2_ k_ ∨ P0_3_ k_ ∨ P0_4_ k_ ∨ P0_5_ k_ ∨ P0_6_ k_) ∨ w.heap.size ≤ k_) ∧ k_ ≠ gb107 ∧ k_ ≠ gb115)) (by (with_reducible repeat (first | apply Kd.N_alloc | apply Kd.N_drewN | apply Kd.N_drew)); exact Kd.N_mono HO118.out (fun _ hk => ⟨⟨hk.1, ⟨hk.2.2.1, hk.2.2.2⟩⟩, hk.2.1⟩)) hg hat); have n12_ := Aside0.mk (hb); have n13_ := Aside0.mk (ho); clear HO_17; clear HO_108002; clear HO_108003; clear HO_108004; clear HO_108005; clear HO_108006; clear BK107; clear HL114_0; clear HL114_1; clear HL114_2; clear BK115; clear HO118; clear HB; clear HO_3; have HO_17 := n0_; have HO_108002 := n1_; have HO_108003 := n2_; have HO_108004 := n3_; have HO_108005 := n4_; have HO_108006 := n5_; have BK107 := n6_; have HL114_0 := n7_; have HL114_1 := n8_; have HL114_2 := n9_; have BK115 := n10_; have HO118 := n11_; have HB := n12_; have HO121 := n13_; clear n0_ n1_ n2_ n3_ n4_ n5_ n6_ n7_ n8_ n9_ n10_ n11_ n12_ n13_; clear ho hb hg hat))
        go_roundg k1
        case measure => have := HK1.out; omega
        case rel => exact ⟨(y119), (wrap64 (x19_1 + 1)), (by first | rfl | (simp; done) | (simp [*]; done)), H', ⟨by have := HK1.out; omega⟩, ⟨by (with_reducible repeat (first | apply Kd.N_alloc | apply Kd.N_drewN | apply Kd.N_drew)); exact Kd.N_mono HO121.out (fun _ hk => ⟨hk.1, hk.2.1⟩)⟩, ⟨by (with_reducible repeat (first | apply Kd.V_alloc | apply Kd.V_drewN | apply Kd.V_drew)); exact Kd.V_mono HO_17.out (fun _ hk => ⟨hk.1.1, ⟨hk.2, hk.1.2.2.1⟩⟩)⟩, ⟨by (with_reducible repeat (first | apply Kd.V_alloc | apply Kd.V_drewN | apply Kd.V_drew)); exact Kd.V_mono HO_108002.out (fun _ hk => ⟨hk.1.1, ⟨hk.2, hk.1.2.2.1⟩⟩)⟩, ⟨by (with_reducible repeat (first | apply Kd.V_alloc | apply Kd.V_drewN | apply Kd.V_drew)); exact Kd.V_mono HO_108003.out (fun _ hk => ⟨hk.1.1, ⟨hk.2, hk.1.2.2.1⟩⟩)⟩, ⟨by (with_reducible repeat (first | apply Kd.V_alloc | apply Kd.V_drewN | apply Kd.V_drew)); exact Kd.V_mono HO_108004.out (fun _ hk => ⟨hk.1.1, ⟨hk.2, hk.1.2.2.1⟩⟩)⟩, ⟨by (with_reducible repeat (first | apply Kd.V_alloc | apply Kd.V_drewN | apply Kd.V_drew)); exact Kd.V_mono HO_108005.out (fun _ hk => ⟨hk.1.1, ⟨hk.2, hk.1.2.2.1⟩⟩)⟩, ⟨by (with_reducible repeat (first | apply Kd.V_alloc | apply Kd.V_drewN | apply Kd.V_drew)); exact Kd.V_mono HO_108006.out (fun _ hk => ⟨hk.1.1, ⟨hk.2, hk.1.2.2.1⟩⟩)⟩, ⟨by (with_reducible repeat (first | refine blk_drewN ?_ _ | refine blk_drew ?_ | refine blk_alloc ?_ _)); exact BK107.out⟩, ⟨by repeat (first | (with_reducible first | exact HB.out | apply below_alloc | apply pw_below_drewN | apply below_drew1 | refine below_set ?_ GE107.out | refine below_set ?_ GE115.out) | exact HB.out)⟩⟩
       ·rw [if_neg c13] at H
        exact absurd H (by simp)
      ·rw [if_neg c12] at H
       exact absurd H (by simp)
     ·rw [if_neg c11] at H
      exact absurd H (by simp)
    ·rw [if_neg c10] at H
     have c10b0 : decide (x19_1 < (l0_5.length : Int)) = false := decide_eq_false c10
     clear c10
     have H' := Aside0.mk H
     clear H
     have hcz23_0 : wr.cell? ⟨gb107, 0, none⟩ = some (.int .i64 a0_0) := (blk_cell BK107.out 0).trans rfl
     have hcz23_1 : wr.cell? ⟨gb107, 1, none⟩ = some (.bool a0_1) := (blk_cell BK107.out 1).trans rfl
     have hcz23_2 : wr.cell? ⟨gb107, 2, none⟩ = some (.slice A0_2 l0_2.length c0_2) := (blk_cell BK107.out 2).trans rfl
     have hcz23_3 : wr.cell? ⟨gb107, 3, none⟩ = some (.slice A0_3 l0_3.length c0_3) := (blk_cell BK107.out 3).trans rfl
     have hcz23_4 : wr.cell? ⟨gb107, 4, none⟩ = some (.slice A0_4 l0_4.length c0_4) := (blk_cell BK107.out 4).trans rfl
     have hcz23_5 : wr.cell? ⟨gb107, 5, none⟩ = some (.slice A0_5 l0_5.length c0_5) := (blk_cell BK107.out 5).trans rfl
     have hcz23_6 : wr.cell? ⟨gb107, 6, none⟩ = some (.slice A0_6 l0_6.length c0_6) := (blk_cell BK107.out 6).trans rfl
     have hfz23_0 := blk_frozen BK107.out 0
     have hfz23_1 := blk_frozen BK107.out 1
     have hfz23_2 := blk_frozen BK107.out 2
     have hfz23_3 := blk_frozen BK107.out 3
     have hfz23_4 := blk_frozen BK107.out 4
     have hfz23_5 := blk_frozen BK107.out 5
     have hfz23_6 := blk_frozen BK107.out 6
     go_wp2
     go_loopg [3, 36] k1 (fun kq v3 v36 w' => ∃ (x3_2 : List (List Int)) (x36_2 : Int), v36 = .int .i64 x36_2 ∧ Aside0 (answer_Check.l1 kq x3_2 l0_6 (l0_6.length : Int) x36_2 a0_0 a0_1 l0_2 l0_3 l0_4 l0_5 l0_6 = some r) ∧ Aside0 (kq ≤ k1) ∧ Aside0 (Kd.N (Kd.slice 3 (Kd.int .i64)) 22 w' w.heap.size (fun k_ => ((P0_2_ k_ ∨ P0_3_ k_ ∨ P0_4_ k_ ∨ P0_5_ k_ ∨ P0_6_ k_) ∨ w.heap.size ≤ k_) ∧ k_ ≠ gb107) v3 x3_2) ∧ Aside0 (Kd.V k43 43 w' w.heap.size (fun k_ => ((P0_2_ k_ ∨ P0_3_ k_ ∨ P0_4_ k_ ∨ P0_5_ k_ ∨ P0_6_ k_) ∨ w.heap.size ≤ k_) ∧ some k_ ≠ (v3 : Value).ownBlock ∧ k_ ≠ gb107) (.slice A0_6 l0_6.length c0_6) l0_6) ∧ Aside0 (Kd.V (Kd.int .i64) 3 w' w.heap.size (fun k_ => ((P0_2_ k_ ∨ P0_3_ k_ ∨ P0_4_ k_ ∨ P0_5_ k_ ∨ P0_6_ k_) ∨ w.heap.size ≤ k_) ∧ some k_ ≠ (v3 : Value).ownBlock ∧ k_ ≠ gb107) (.slice A0_2 l0_2.length c0_2) l0_2) ∧ Aside0 (Kd.V (Kd.int .i64) 3 w' w.heap.size (fun k_ => ((P0_2_ k_ ∨ P0_3_ k_ ∨ P0_4_ k_ ∨ P0_5_ k_ ∨ P0_6_ k_) ∨ w.heap.size ≤ k_) ∧ some k_ ≠ (v3 : Value).ownBlock ∧ k_ ≠ gb107) (.slice A0_3 l0_3.length c0_3) l0_3) ∧ Aside0 (Kd.V (Kd.slice 3 (Kd.int .i64)) 22 w' w.heap.size (fun k_ => ((P0_2_ k_ ∨ P0_3_ k_ ∨ P0_4_ k_ ∨ P0_5_ k_ ∨ P0_6_ k_) ∨ w.heap.size ≤ k_) ∧ some k_ ≠ (v3 : Value).ownBlock ∧ k_ ≠ gb107) (.slice A0_4 l0_4.length c0_4) l0_4) ∧ Aside0 (Kd.V k41 41 w' w.heap.size (fun k_ => ((P0_2_ k_ ∨ P0_3_ k_ ∨ P0_4_ k_ ∨ P0_5_ k_ ∨ P0_6_ k_) ∨ w.heap.size ≤ k_) ∧ some k_ ≠ (v3 : Value).ownBlock ∧ k_ ≠ gb107) (.slice A0_5 l0_5.length c0_5) l0_5) ∧ Aside0 (Kd.V k43 43 w' w.heap.size (fun k_ => ((P0_2_ k_ ∨ P0_3_ k_ ∨ P0_4_ k_ ∨ P0_5_ k_ ∨ P0_6_ k_) ∨ w.heap.size ≤ k_) ∧ some k_ ≠ (v3 : Value).ownBlock ∧ k_ ≠ gb107) (.slice A0_6 l0_6.length c0_6) l0_6) ∧ Aside0 (w'.heap[gb107]? = some (.cells #[.int .i64 a0_0, .bool a0_1, (.slice A0_2 l0_2.length c0_2), (.slice A0_3 l0_3.length c0_3), (.slice A0_4 l0_4.length c0_4), (.slice A0_5 l0_5.length c0_5), (.slice A0_6 l0_6.length c0_6)] 27 (0, 0))) ∧ Aside0 (Below w.heap.size w w'))
     case atStart => exact ⟨(x3_1), (0), (by first | rfl | (simp; done) | (simp [*]; done)), H', ⟨Nat.le_refl _⟩, ⟨by (with_reducible repeat (first | apply Kd.N_alloc | apply Kd.N_drewN | apply Kd.N_drew)); exact HO_3.out⟩, ⟨by (with_reducible repeat (first | apply Kd.V_alloc | apply Kd.V_drewN | apply Kd.V_drew)); exact HO_108006.out⟩, ⟨by (with_reducible repeat (first | apply Kd.V_alloc | apply Kd.V_drewN | apply Kd.V_drew)); exact HO_108002.out⟩, ⟨by (with_reducible repeat (first | apply Kd.V_alloc | apply Kd.V_drewN | apply Kd.V_drew)); exact HO_108003.out⟩, ⟨by (with_reducible repeat (first | apply Kd.V_alloc | apply Kd.V_drewN | apply Kd.V_drew)); exact HO_108004.out⟩, ⟨by (with_reducible repeat (first | apply Kd.V_alloc | apply Kd.V_drewN | apply Kd.V_drew)); exact HO_108005.out⟩, ⟨by (with_reducible repeat (first | apply Kd.V_alloc | apply Kd.V_drewN | apply Kd.V_drew)); exact HO_108006.out⟩, ⟨by (with_reducible repeat (first | refine blk_drewN ?_ _ | refine blk_drew ?_ | refine blk_alloc ?_ _)); exact BK107.out⟩, ⟨by repeat (first | (with_reducible first | exact HB.out | apply below_alloc | apply pw_below_drewN | apply below_drew1 | refine below_set ?_ GE107.out) | exact HB.out)⟩⟩
     case round =>
      clear H'
      try clear c1
      try clear p1
      try clear q1
      try clear hx1
      try clear c2
      try clear p2
      try clear p6
      try clear c10
      try clear c10b0
      try clear c11
      try clear c11b0
      try clear p11
      try clear q11
      try clear hx11
      try clear c12
      try clear c12b0
      try clear c13
      try clear c15
      try clear hcz16_0
      try clear hcz16_1
      try clear hcz16_2
      try clear hcz18_0
      try clear hcz18_1
      try clear hcz18_2
      try clear hcz23_0
      try clear hcz23_1
      try clear hcz23_2
      try clear hcz23_3
      try clear hcz23_4
      try clear hcz23_5
      try clear hcz23_6
      try clear hcz4_0
      try clear hcz4_1
      try clear hcz4_2
      try clear hcz4_3
      try clear hcz4_4
      try clear hcz4_5
      try clear hcz4_6
      try clear hcz7_0
      try clear hcz7_1
      try clear hcz7_2
      try clear hcz7_3
      try clear hcz7_4
      try clear hcz7_5
      try clear hcz7_6
      try clear hcz9_0
      try clear hcz9_1
      try clear hcz9_2
      try clear hcz9_3
      try clear hcz9_4
      try clear hcz9_5
      try clear hcz9_6
      try clear hfz16_0
      try clear hfz16_1
      try clear hfz16_2
      try clear hfz18_0
      try clear hfz18_1
      try clear hfz18_2
      try clear hfz23_0
      try clear hfz23_1
      try clear hfz23_2
      try clear hfz23_3
      try clear hfz23_4
      try clear hfz23_5
      try clear hfz23_6
      try clear hfz4_0
      try clear hfz4_1
      try clear hfz4_2
      try clear hfz4_3
      try clear hfz4_4
      try clear hfz4_5
      try clear hfz4_6
      try clear hfz7_0
      try clear hfz7_1
      try clear hfz7_2
      try clear hfz7_3
      try clear hfz7_4
      try clear hfz7_5
      try clear hfz7_6
      try clear hfz9_0
      try clear hfz9_1
      try clear hfz9_2
      try clear hfz9_3
      try clear hfz9_4
      try clear hfz9_5
      try clear hfz9_6
      try clear hx114_0
      try clear hx114_1
      try clear hx114_2
      try clear p114
      try clear p2
      try clear q114
      obtain ⟨x3_2, x36_2, rfl, HA, HK2, HO_3, HO_34, HO_108002, HO_108003, HO_108004, HO_108005, HO_108006, BK107, HB⟩ := hrel
      cases gk with
      | zero => exact absurd HA.out (by simp [answer_Check.l1])
      | succ k2 =>
       have H := HA.out
       clear HA
       simp only [answer_Check.l1] at H
       by_cases c24 : x36_2 < (l0_6.length : Int)
       ·rw [if_pos c24] at H
        have c24b0 : decide (x36_2 < (l0_6.length : Int)) = true := decide_eq_true c24
        clear c24
        by_cases c25 : 0 ≤ x36_2
        ·rw [if_pos c25] at H
         have c25b0 : decide (0 ≤ x36_2) = true := decide_eq_true c25
         clear c25
         by_cases c26 : x36_2 < (l0_6.length : Int)
         ·rw [if_pos c26] at H
          have c26b0 : decide (x36_2 < (l0_6.length : Int)) = true := decide_eq_true c26
          clear c26
          obtain ⟨y124, hy124⟩ : ∃ y_ : List Int, y_ = (([(rd_T43 l0_6 x36_2).f1] : List Int)) := ⟨_, rfl⟩
          replace H : ((some (([(rd_T43 l0_6 x36_2).f0, y124] : List (List Int)) : List (List Int))).bind fun y127 => (if x3_2.length + y127.length < 5864062014805 then (answer_Check.l1 k2 (x3_2 ++ y127) l0_6 (l0_6.length : Int) (wrap64 (x36_2 + 1)) a0_0 a0_1 l0_2 l0_3 l0_4 l0_5 l0_6) else (none))) = some r := by first | (rw [hy124]; with_reducible exact H) | (have H2_ := (Option.bind_some _ _).symm.trans H; rw [hy124]; with_reducible exact H2_) | (have H2_ := (Option.bind_some _ _).symm.trans H; with_reducible exact H2_) | with_reducible exact H | (rw [hy124]; exact H) | exact H
          have Ny124 := Aside0.mk hy124
          clear hy124
          obtain ⟨y127, hy127⟩ : ∃ y_ : List (List Int), y_ = (([(rd_T43 l0_6 x36_2).f0, y124] : List (List Int))) := ⟨_, rfl⟩
          replace H : (if x3_2.length + y127.length < 5864062014805 then (answer_Check.l1 k2 (x3_2 ++ y127) l0_6 (l0_6.length : Int) (wrap64 (x36_2 + 1)) a0_0 a0_1 l0_2 l0_3 l0_4 l0_5 l0_6) else (none)) = some r := by first | (rw [hy127]; with_reducible exact H) | (have H2_ := (Option.bind_some _ _).symm.trans H; rw [hy127]; with_reducible exact H2_) | (have H2_ := (Option.bind_some _ _).symm.trans H; with_reducible exact H2_) | with_reducible exact H | (rw [hy127]; exact H) | exact H
          have Ny127 := Aside0.mk hy127
          clear hy127
          by_cases c27 : x3_2.length + y127.length < 5864062014805
          ·rw [if_pos c27] at H
           have LMc27 := Aside0.mk c27
           clear c27
           obtain ⟨y130, hy130⟩ : ∃ y_ : List (List Int), y_ = (x3_2 ++ y127) := ⟨_, rfl⟩
           replace H : (answer_Check.l1 k2 y130 l0_6 (l0_6.length : Int) (wrap64 (x36_2 + 1)) a0_0 a0_1 l0_2 l0_3 l0_4 l0_5 l0_6) = some r := by first | (rw [hy130]; with_reducible exact H) | (have H2_ := (Option.bind_some _ _).symm.trans H; rw [hy130]; with_reducible exact H2_) | (have H2_ := (Option.bind_some _ _).symm.trans H; with_reducible exact H2_) | with_reducible exact H | (rw [hy130]; exact H) | exact H
           have Ny130 := Aside0.mk hy130
           clear hy130
           have H' := Aside0.mk H
           clear H
           have p122 : 0 ≤ (x36_2 : Int) := of_decide_eq_true (by first | (with_reducible assumption) | assumption)
           have q122 : x36_2 < (l0_6.length : Int) := of_decide_eq_true (by first | (with_reducible assumption) | assumption)
           obtain ⟨ad122, A122_0, c122_0, e122, hx122_0, hx122_1, hl122_0, hi122_0⟩ := at_T43 (Kd.V_reads' HO_34.out).2.2 x36_2 p122 q122
           cases e122
           obtain ⟨ce122, hce122, hMe122, hcc122⟩ := Kd.V_get HO_34.out z43 x36_2 p122 (by first | exact q122 | exact of_decide_eq_true (by first | (with_reducible assumption) | assumption) | (have e_ := (Kd.V_reads' HO_34.out).1; omega))
           obtain ⟨ua122_0, uc122_0, rfl, ul122_0, ge122_0⟩ := k43_openF hMe122
           have hv122_0 := hcc122 0 _ rfl
           rw [Nat.add_zero] at hv122_0
           replace hv122_0 := Option.some.inj (hv122_0.symm.trans hx122_0)
           injection hv122_0 with hva_ hvn_ hvc_
           rw [hva_] at ge122_0
           rw [hvc_] at ul122_0
           have HL122_0 := Aside0.mk (show Kd.V (Kd.int .i64) 3 _ w.heap.size _ _ ((rd_T43 l0_6 x36_2).f0) from Kd.V_mk ul122_0 ge122_0)
           clear hva_ hvn_ hvc_ ge122_0 ul122_0
           clear hcc122 hce122
           have HR122_0 := Aside0.mk hi122_0
           have HC122_0 := Aside0.mk hl122_0
           clear hi122_0 hl122_0
           replace p122 := eq_true p122
           replace q122 := eq_true q122
           go_wp2_with (first | ((with_reducible refine gate_dst (N := 7) rfl ?_); (try (refine gate_guard (by rfl) ?_; dsimp only)); refine box_event ?hg (N := 7) ?hd (cs := #[.slice none 0 0, .int .i64 0]) (t := 43) ?hr ?_; (case hd => rfl); (case hg => rfl); (case hr => first | (go_simp; done) | (go_simp; rfl)); intro gb123 hg w28 hbox hb; have n0_ := Aside0.mk (Kd.N_below (Kd.N_elderB (by (with_reducible repeat (first | apply Kd.N_alloc | apply Kd.N_drewN | apply Kd.N_drew)); exact HO_3.out) gb123 (Nat.le_of_eq hg.symm)) hb); have n1_ := Aside0.mk (Kd.V_below (Kd.V_elderB (by (with_reducible repeat (first | apply Kd.V_alloc | apply Kd.V_drewN | apply Kd.V_drew)); exact HO_34.out) gb123 (Nat.le_of_eq hg.symm)) hb); have n2_ := Aside0.mk (Kd.V_below (Kd.V_elderB (by (with_reducible repeat (first | apply Kd.V_alloc | apply Kd.V_drewN | apply Kd.V_drew)); exact HO_108002.out) gb123 (Nat.le_of_eq hg.symm)) hb); have n3_ := Aside0.mk (Kd.V_below (Kd.V_elderB (by (with_reducible repeat (first | apply Kd.V_alloc | apply Kd.V_drewN | apply Kd.V_drew)); exact HO_108003.out) gb123 (Nat.le_of_eq hg.symm)) hb); have n4_ := Aside0.mk (Kd.V_below (Kd.V_elderB (by (with_reducible repeat (first | apply Kd.V_alloc | apply Kd.V_drewN | apply Kd.V_drew)); exact HO_108004.out) gb123 (Nat.le_of_eq hg.symm)) hb); have n5_ := Aside0.mk (Kd.V_below (Kd.V_elderB (by (with_reducible repeat (first | apply Kd.V_alloc | apply Kd.V_drewN | apply Kd.V_drew)); exact HO_108005.out) gb123 (Nat.le_of_eq hg.symm)) hb); have n6_ := Aside0.mk (Kd.V_below (Kd.V_elderB (by (with_reducible repeat (first | apply Kd.V_alloc | apply Kd.V_drewN | apply Kd.V_drew)); exact HO_108006.out) gb123 (Nat.le_of_eq hg.symm)) hb); have n7_ := Aside0.mk (Kd.V_below (Kd.V_elderB (by (with_reducible repeat (first | apply Kd.V_alloc | apply Kd.V_drewN | apply Kd.V_drew)); exact HL122_0.out) gb123 (Nat.le_of_eq hg.symm)) hb); have n8_ := Aside0.mk (blk_below (g := gb107) (o := .cells #[.int .i64 a0_0, .bool a0_1, .slice A0_2 l0_2.length c0_2, .slice A0_3 l0_3.length c0_3, .slice A0_4 l0_4.length c0_4, .slice A0_5 l0_5.length c0_5, .slice (some ad122) l0_6.length c0_6] 27 (0, 0)) (by (with_reducible repeat (first | refine blk_drewN ?_ _ | refine blk_drew ?_ | refine blk_alloc ?_ _)); exact BK107.out) hb); have n9_ := Aside0.mk (Kd.C_below (by repeat (first | (with_reducible exact HR122_0.out) | (with_reducible refine Kd.C_alloc ?_ _) | (with_reducible refine Kd.C_drewN ?_ _) | (with_reducible refine Kd.C_drew ?_) | exact HR122_0.out)) hb); have n10_ := Aside0.mk (below_step (by repeat (first | (with_reducible first | exact HB.out | apply below_alloc | apply pw_below_drewN | apply below_drew1 | refine below_set ?_ GE107.out) | exact HB.out)) hb); have n11_ := Aside0.mk (hbox); have n12_ := Aside0.mk ((by rw [hg]; exact (below_size (by repeat (first | (with_reducible first | exact HB.out | apply below_alloc | apply pw_below_drewN | apply below_drew1 | refine below_set ?_ GE107.out) | exact HB.out))) : w.heap.size ≤ gb123)); have n13_ := Aside0.mk ((by rw [hg]; exact (below_size (by repeat (first | (with_reducible first | exact HB.out | apply below_alloc | apply pw_below_drewN | apply below_drew1 | refine below_set ?_ GE107.out) | exact HB.out))) : w.heap.size ≤ gb123)); have n14_ := Aside0.mk ((by rw [hg]; exact Nat.ne_of_lt (blk_lt (g := gb107) (o := .cells #[.int .i64 a0_0, .bool a0_1, .slice A0_2 l0_2.length c0_2, .slice A0_3 l0_3.length c0_3, .slice A0_4 l0_4.length c0_4, .slice A0_5 l0_5.length c0_5, .slice (some ad122) l0_6.length c0_6] 27 (0, 0)) (by (with_reducible repeat (first | refine blk_drewN ?_ _ | refine blk_drew ?_ | refine blk_alloc ?_ _)); exact BK107.out)) : gb107 ≠ gb123)); have n15_ := Aside0.mk ((by rw [hg]; exact Nat.ne_of_gt (blk_lt (g := gb107) (o := .cells #[.int .i64 a0_0, .bool a0_1, .slice A0_2 l0_2.length c0_2, .slice A0_3 l0_3.length c0_3, .slice A0_4 l0_4.length c0_4, .slice A0_5 l0_5.length c0_5, .slice (some ad122) l0_6.length c0_6] 27 (0, 0)) (by (with_reducible repeat (first | refine blk_drewN ?_ _ | refine blk_drew ?_ | refine blk_alloc ?_ _)); exact BK107.out)) : gb123 ≠ gb107)); clear HO_3; clear HO_34; clear HO_108002; clear HO_108003; clear HO_108004; clear HO_108005; clear HO_108006; clear HL122_0; clear BK107; clear HR122_0; clear HB; have HO_3 := n0_; have HO_34 := n1_; have HO_108002 := n2_; have HO_108003 := n3_; have HO_108004 := n4_; have HO_108005 := n5_; have HO_108006 := n6_; have HL122_0 := n7_; have BK107 := n8_; have HR122_0 := n9_; have HB := n10_; have BK123 := n11_; have GW123 := n12_; have GE123 := n13_; have NB107_123 := n14_; have NB123_107 := n15_; clear n0_ n1_ n2_ n3_ n4_ n5_ n6_ n7_ n8_ n9_ n10_ n11_ n12_ n13_ n14_ n15_; clear hb hbox hg; have hnb29 := NB123_107.out; have hnc29 := NB107_123.out; have hcz30_0 : w28.cell? ⟨gb123, 0, none⟩ = some (.slice none 0 0) := (blk_cell BK123.out 0).trans rfl; have hcz30_1 : w28.cell? ⟨gb123, 1, none⟩ = some (.int .i64 0) := (blk_cell BK123.out 1).trans rfl; have hfz30_0 := blk_frozen BK123.out 0; have hfz30_1 := blk_frozen BK123.out 1) | ((with_reducible refine gate_store (t := 43) (p := 7) rfl ?_); refine store_event (t := 43) (p := 7) (v := ?vo_w31) (w1 := ((w28.setCell ⟨gb123, 0, none⟩ (.slice A122_0 ((rd_T43 l0_6 x36_2).f0).length c122_0)).setCell ⟨gb123, 1, none⟩ (.int .i64 ((rd_T43 l0_6 x36_2).f1)))) ?hg ?ho ?hn ?hr ?_; (case ho => rfl); (case hg => rfl); (case hn => rfl); (case hr => first | (go_simp; done) | (go_simp; rfl)); intro w31 hw; have n0_ : Aside0 (Kd.N (Kd.slice 3 (Kd.int .i64)) 22 w31 w.heap.size (fun k_ => ((P0_2_ k_ ∨ P0_3_ k_ ∨ P0_4_ k_ ∨ P0_5_ k_ ∨ P0_6_ k_) ∨ w.heap.size ≤ k_) ∧ k_ ≠ gb107 ∧ k_ ≠ gb123) u3 x3_2) := ⟨(by rw [hw]; exact (by (with_reducible repeat (first | apply Kd.N_alloc | apply Kd.N_drewN | apply Kd.N_drew)); exact Kd.N_mono (Kd.N_far (p := ⟨gb123, 1, none⟩) (Kd.N_far (p := ⟨gb123, 0, none⟩) (Kd.N_mono HO_3.out (fun k_ hk => (⟨hk, hk.2⟩ : _ ∧ k_ ≠ gb123))) (fun _ hk => hk.2) (.slice A122_0 ((rd_T43 l0_6 x36_2).f0).length c122_0)) (fun _ hk => hk.2) (.int .i64 ((rd_T43 l0_6 x36_2).f1))) (fun _ hk => ⟨hk.1.1.1, ⟨hk.1.1.2, hk.1.2⟩⟩)))⟩; have n1_ : Aside0 (Kd.V k43 43 w31 w.heap.size (fun k_ => ((P0_2_ k_ ∨ P0_3_ k_ ∨ P0_4_ k_ ∨ P0_5_ k_ ∨ P0_6_ k_) ∨ w.heap.size ≤ k_) ∧ some k_ ≠ (u3 : Value).ownBlock ∧ k_ ≠ gb107 ∧ k_ ≠ gb123) (.slice (some ad122) l0_6.length c0_6) l0_6) := ⟨(by rw [hw]; exact (by (with_reducible repeat (first | apply Kd.V_alloc | apply Kd.V_drewN | apply Kd.V_drew)); exact Kd.V_mono (Kd.V_far (p := ⟨gb123, 1, none⟩) (Kd.V_far (p := ⟨gb123, 0, none⟩) (Kd.V_mono HO_34.out (fun k_ hk => (⟨hk, hk.2⟩ : _ ∧ k_ ≠ gb123))) (fun _ hk => hk.2) (.slice A122_0 ((rd_T43 l0_6 x36_2).f0).length c122_0)) (fun _ hk => hk.2) (.int .i64 ((rd_T43 l0_6 x36_2).f1))) (fun _ hk => ⟨hk.1.1.1, ⟨hk.1.1.2.1, ⟨hk.1.1.2.2, hk.1.2⟩⟩⟩)))⟩; have n2_ : Aside0 (Kd.V (Kd.int .i64) 3 w31 w.heap.size (fun k_ => ((P0_2_ k_ ∨ P0_3_ k_ ∨ P0_4_ k_ ∨ P0_5_ k_ ∨ P0_6_ k_) ∨ w.heap.size ≤ k_) ∧ some k_ ≠ (u3 : Value).ownBlock ∧ k_ ≠ gb107 ∧ k_ ≠ gb123) (.slice A0_2 l0_2.length c0_2) l0_2) := ⟨(by rw [hw]; exact (by (with_reducible repeat (first | apply Kd.V_alloc | apply Kd.V_drewN | apply Kd.V_drew)); exact Kd.V_mono (Kd.V_far (p := ⟨gb123, 1, none⟩) (Kd.V_far (p := ⟨gb123, 0, none⟩) (Kd.V_mono HO_108002.out (fun k_ hk => (⟨hk, hk.2⟩ : _ ∧ k_ ≠ gb123))) (fun _ hk => hk.2) (.slice A122_0 ((rd_T43 l0_6 x36_2).f0).length c122_0)) (fun _ hk => hk.2) (.int .i64 ((rd_T43 l0_6 x36_2).f1))) (fun _ hk => ⟨hk.1.1.1, ⟨hk.1.1.2.1, ⟨hk.1.1.2.2, hk.1.2⟩⟩⟩)))⟩; have n3_ : Aside0 (Kd.V (Kd.int .i64) 3 w31 w.heap.size (fun k_ => ((P0_2_ k_ ∨ P0_3_ k_ ∨ P0_4_ k_ ∨ P0_5_ k_ ∨ P0_6_ k_) ∨ w.heap.size ≤ k_) ∧ some k_ ≠ (u3 : Value).ownBlock ∧ k_ ≠ gb107 ∧ k_ ≠ gb123) (.slice A0_3 l0_3.length c0_3) l0_3) := ⟨(by rw [hw]; exact (by (with_reducible repeat (first | apply Kd.V_alloc | apply Kd.V_drewN | apply Kd.V_drew)); exact Kd.V_mono (Kd.V_far (p := ⟨gb123, 1, none⟩) (Kd.V_far (p := ⟨gb123, 0, none⟩) (Kd.V_mono HO_108003.out (fun k_ hk => (⟨hk, hk.2⟩ : _ ∧ k_ ≠ gb123))) (fun _ hk => hk.2) (.slice A122_0 ((rd_T43 l0_6 x36_2).f0).length c122_0)) (fun _ hk => hk.2) (.int .i64 ((rd_T43 l0_6 x36_2).f1))) (fun _ hk => ⟨hk.1.1.1, ⟨hk.1.1.2.1, ⟨hk.1.1.2.2, hk.1.2⟩⟩⟩)))⟩; have n4_ : Aside0 (Kd.V (Kd.slice 3 (Kd.int .i64)) 22 w31 w.heap.size (fun k_ => ((P0_2_ k_ ∨ P0_3_ k_ ∨ P0_4_ k_ ∨ P0_5_ k_ ∨ P0_6_ k_) ∨ w.heap.size ≤ k_) ∧ some k_ ≠ (u3 : Value).ownBlock ∧ k_ ≠ gb107 ∧ k_ ≠ gb123) (.slice A0_4 l0_4.length c0_4) l0_4) := ⟨(by rw [hw]; exact (by (with_reducible repeat (first | apply Kd.V_alloc | apply Kd.V_drewN | apply Kd.V_drew)); exact Kd.V_mono (Kd.V_far (p := ⟨gb123, 1, none⟩) (Kd.V_far (p := ⟨gb123, 0, none⟩) (Kd.V_mono HO_108004.out (fun k_ hk => (⟨hk, hk.2⟩ : _ ∧ k_ ≠ gb123))) (fun _ hk => hk.2) (.slice A122_0 ((rd_T43 l0_6 x36_2).f0).length c122_0)) (fun _ hk => hk.2) (.int .i64 ((rd_T43 l0_6 x36_2).f1))) (fun _ hk => ⟨hk.1.1.1, ⟨hk.1.1.2.1, ⟨hk.1.1.2.2, hk.1.2⟩⟩⟩)))⟩; have n5_ : Aside0 (Kd.V k41 41 w31 w.heap.size (fun k_ => ((P0_2_ k_ ∨ P0_3_ k_ ∨ P0_4_ k_ ∨ P0_5_ k_ ∨ P0_6_ k_) ∨ w.heap.size ≤ k_) ∧ some k_ ≠ (u3 : Value).ownBlock ∧ k_ ≠ gb107 ∧ k_ ≠ gb123) (.slice A0_5 l0_5.length c0_5) l0_5) := ⟨(by rw [hw]; exact (by (with_reducible repeat (first | apply Kd.V_alloc | apply Kd.V_drewN | apply Kd.V_drew)); exact Kd.V_mono (Kd.V_far (p := ⟨gb123, 1, none⟩) (Kd.V_far (p := ⟨gb123, 0, none⟩) (Kd.V_mono HO_108005.out (fun k_ hk => (⟨hk, hk.2⟩ : _ ∧ k_ ≠ gb123))) (fun _ hk => hk.2) (.slice A122_0 ((rd_T43 l0_6 x36_2).f0).length c122_0)) (fun _ hk => hk.2) (.int .i64 ((rd_T43 l0_6 x36_2).f1))) (fun _ hk => ⟨hk.1.1.1, ⟨hk.1.1.2.1, ⟨hk.1.1.2.2, hk.1.2⟩⟩⟩)))⟩; have n6_ : Aside0 (Kd.V k43 43 w31 w.heap.size (fun k_ => ((P0_2_ k_ ∨ P0_3_ k_ ∨ P0_4_ k_ ∨ P0_5_ k_ ∨ P0_6_ k_) ∨ w.heap.size ≤ k_) ∧ some k_ ≠ (u3 : Value).ownBlock ∧ k_ ≠ gb107 ∧ k_ ≠ gb123) (.slice (some ad122) l0_6.length c0_6) l0_6) := ⟨(by rw [hw]; exact (by (with_reducible repeat (first | apply Kd.V_alloc | apply Kd.V_drewN | apply Kd.V_drew)); exact Kd.V_mono (Kd.V_far (p := ⟨gb123, 1, none⟩) (Kd.V_far (p := ⟨gb123, 0, none⟩) (Kd.V_mono HO_108006.out (fun k_ hk => (⟨hk, hk.2⟩ : _ ∧ k_ ≠ gb123))) (fun _ hk => hk.2) (.slice A122_0 ((rd_T43 l0_6 x36_2).f0).length c122_0)) (fun _ hk => hk.2) (.int .i64 ((rd_T43 l0_6 x36_2).f1))) (fun _ hk => ⟨hk.1.1.1, ⟨hk.1.1.2.1, ⟨hk.1.1.2.2, hk.1.2⟩⟩⟩)))⟩; have n7_ : Aside0 (Kd.V (Kd.int .i64) 3 w31 w.heap.size (fun k_ => ((P0_2_ k_ ∨ P0_3_ k_ ∨ P0_4_ k_ ∨ P0_5_ k_ ∨ P0_6_ k_) ∨ w.heap.size ≤ k_) ∧ some k_ ≠ (u3 : Value).ownBlock ∧ k_ ≠ gb107 ∧ k_ ≠ gb123) (.slice A122_0 ((rd_T43 l0_6 x36_2).f0).length c122_0) ((rd_T43 l0_6 x36_2).f0)) := ⟨(by rw [hw]; exact (by (with_reducible repeat (first | apply Kd.V_alloc | apply Kd.V_drewN | apply Kd.V_drew)); exact Kd.V_mono (Kd.V_far (p := ⟨gb123, 1, none⟩) (Kd.V_far (p := ⟨gb123, 0, none⟩) (Kd.V_mono HL122_0.out (fun k_ hk => (⟨hk, hk.2⟩ : _ ∧ k_ ≠ gb123))) (fun _ hk => hk.2) (.slice A122_0 ((rd_T43 l0_6 x36_2).f0).length c122_0)) (fun _ hk => hk.2) (.int .i64 ((rd_T43 l0_6 x36_2).f1))) (fun _ hk => ⟨hk.1.1.1, ⟨hk.1.1.2.1, ⟨hk.1.1.2.2, hk.1.2⟩⟩⟩)))⟩; have n8_ : Aside0 (w31.heap[gb107]? = some (.cells #[.int .i64 a0_0, .bool a0_1, .slice A0_2 l0_2.length c0_2, .slice A0_3 l0_3.length c0_3, .slice A0_4 l0_4.length c0_4, .slice A0_5 l0_5.length c0_5, .slice (some ad122) l0_6.length c0_6] 27 (0, 0))) := ⟨(by rw [hw]; exact (by (with_reducible repeat (first | refine blk_drewN ?_ _ | refine blk_drew ?_ | refine blk_alloc ?_ _)); refine blk_far ?_ NB107_123.out _; (with_reducible repeat (first | refine blk_drewN ?_ _ | refine blk_drew ?_ | refine blk_alloc ?_ _)); refine blk_far ?_ NB107_123.out _; (with_reducible repeat (first | refine blk_drewN ?_ _ | refine blk_drew ?_ | refine blk_alloc ?_ _)); exact BK107.out))⟩; have n9_ : Aside0 (w31.heap[gb123]? = some (.cells #[.slice A122_0 ((rd_T43 l0_6 x36_2).f0).length c122_0, .int .i64 ((rd_T43 l0_6 x36_2).f1)] 43 (0, 0))) := ⟨(by rw [hw]; exact (by (with_reducible repeat (first | refine blk_drewN ?_ _ | refine blk_drew ?_ | refine blk_alloc ?_ _)); refine blk_put (cs := #[.slice A122_0 ((rd_T43 l0_6 x36_2).f0).length c122_0, .int .i64 0]) ?_ 1 _ rfl; (with_reducible repeat (first | refine blk_drewN ?_ _ | refine blk_drew ?_ | refine blk_alloc ?_ _)); refine blk_put (cs := #[.slice none 0 0, .int .i64 0]) ?_ 0 _ rfl; (with_reducible repeat (first | refine blk_drewN ?_ _ | refine blk_drew ?_ | refine blk_alloc ?_ _)); exact BK123.out))⟩; have n10_ : Aside0 (Below w.heap.size w w31) := ⟨(by rw [hw]; exact (by repeat (first | (with_reducible first | exact HB.out | apply below_alloc | apply pw_below_drewN | apply below_drew1 | refine below_set ?_ GE107.out | refine below_set ?_ GE123.out) | exact HB.out)))⟩; clear hw; clear HO_3; clear HO_34; clear HO_108002; clear HO_108003; clear HO_108004; clear HO_108005; clear HO_108006; clear HL122_0; clear BK107; clear BK123; clear HB; have HO_3 := n0_; have HO_34 := n1_; have HO_108002 := n2_; have HO_108003 := n3_; have HO_108004 := n4_; have HO_108005 := n5_; have HO_108006 := n6_; have HL122_0 := n7_; have BK107 := n8_; have BK123 := n9_; have HB := n10_; clear n0_ n1_ n2_ n3_ n4_ n5_ n6_ n7_ n8_ n9_ n10_; have hcz32_0 : w31.cell? ⟨gb123, 0, none⟩ = some (.slice A122_0 ((rd_T43 l0_6 x36_2).f0).length c122_0) := (blk_cell BK123.out 0).trans rfl; have hcz32_1 : w31.cell? ⟨gb123, 1, none⟩ = some (.int .i64 ((rd_T43 l0_6 x36_2).f1)) := (blk_cell BK123.out 1).trans rfl; have hfz32_0 := blk_frozen BK123.out 0; have hfz32_1 := blk_frozen BK123.out 1) | ((with_reducible refine gate_dst (N := 45) rfl ?_); (try (refine gate_guard (by rfl) ?_; dsimp only)); refine Kd.R_lit (Kd.int .i64) _ 3 ?hg (N := 45) ?hd (xs := ([(rd_T43 l0_6 x36_2).f1] : List Int)) (inner := [.int .i64 ((rd_T43 l0_6 x36_2).f1)]) (ok := fun _ => True) (okp := fun _ => True) ?hr ?hp (fun _ hk => hk) trivial (Below.refl _ _) (Nat.le_refl _) (by simp) ?_; (case hd => rfl); (case hg => rfl); (case hr => first | (go_simp; done) | (go_simp; rfl)); (case hp => exact (Reps.one (show Kd.M (Kd.int .i64) _ _ _ ((rd_T43 l0_6 x36_2).f1) [.int .i64 ((rd_T43 l0_6 x36_2).f1)] from rfl) (Reps.none _ _))); intro v125 w33 ho34 hb hg_ hnew_; clear hg_ hnew_; (first | rw [← Ny124.out] at ho34 | (simp only [Int.reduceToNat] at ho34; rw [← Ny124.out] at ho34)); have n0_ := Aside0.mk (Kd.N_elder' (by (with_reducible repeat (first | apply Kd.N_alloc | apply Kd.N_drewN | apply Kd.N_drew)); exact HO_3.out) (Kd.R_base ho34) hb); have n1_ := Aside0.mk (Kd.V_elder' (by (with_reducible repeat (first | apply Kd.V_alloc | apply Kd.V_drewN | apply Kd.V_drew)); exact HO_34.out) (Kd.R_base ho34) hb); have n2_ := Aside0.mk (Kd.V_elder' (by (with_reducible repeat (first | apply Kd.V_alloc | apply Kd.V_drewN | apply Kd.V_drew)); exact HO_108002.out) (Kd.R_base ho34) hb); have n3_ := Aside0.mk (Kd.V_elder' (by (with_reducible repeat (first | apply Kd.V_alloc | apply Kd.V_drewN | apply Kd.V_drew)); exact HO_108003.out) (Kd.R_base ho34) hb); have n4_ := Aside0.mk (Kd.V_elder' (by (with_reducible repeat (first | apply Kd.V_alloc | apply Kd.V_drewN | apply Kd.V_drew)); exact HO_108004.out) (Kd.R_base ho34) hb); have n5_ := Aside0.mk (Kd.V_elder' (by (with_reducible repeat (first | apply Kd.V_alloc | apply Kd.V_drewN | apply Kd.V_drew)); exact HO_108005.out) (Kd.R_base ho34) hb); have n6_ := Aside0.mk (Kd.V_elder' (by (with_reducible repeat (first | apply Kd.V_alloc | apply Kd.V_drewN | apply Kd.V_drew)); exact HO_108006.out) (Kd.R_base ho34) hb); have n7_ := Aside0.mk (Kd.V_elder' (by (with_reducible repeat (first | apply Kd.V_alloc | apply Kd.V_drewN | apply Kd.V_drew)); exact HL122_0.out) (Kd.R_base ho34) hb); have n8_ := Aside0.mk (Kd.R_lower (Kd.R_newM (M := fun k_ => (w.heap.size ≤ k_)) ho34 (below_size (by repeat (first | (with_reducible first | exact HB.out | apply below_alloc | apply pw_below_drewN | apply below_drew1 | refine below_set ?_ GE107.out | refine below_set ?_ GE123.out) | exact HB.out))) (fun k_ h_ => h_)) (below_size (by repeat (first | (with_reducible first | exact HB.out | apply below_alloc | apply pw_below_drewN | apply below_drew1 | refine below_set ?_ GE107.out | refine below_set ?_ GE123.out) | exact HB.out)))); have n9_ := Aside0.mk (blk_below (g := gb107) (o := .cells #[.int .i64 a0_0, .bool a0_1, .slice A0_2 l0_2.length c0_2, .slice A0_3 l0_3.length c0_3, .slice A0_4 l0_4.length c0_4, .slice A0_5 l0_5.length c0_5, .slice (some ad122) l0_6.length c0_6] 27 (0, 0)) (by (with_reducible repeat (first | refine blk_drewN ?_ _ | refine blk_drew ?_ | refine blk_alloc ?_ _)); exact BK107.out) hb); have n10_ := Aside0.mk (blk_below (g := gb123) (o := .cells #[.slice A122_0 ((rd_T43 l0_6 x36_2).f0).length c122_0, .int .i64 ((rd_T43 l0_6 x36_2).f1)] 43 (0, 0)) (by (with_reducible repeat (first | refine blk_drewN ?_ _ | refine blk_drew ?_ | refine blk_alloc ?_ _)); exact BK123.out) hb); have n11_ := Aside0.mk (below_step (by repeat (first | (with_reducible first | exact HB.out | apply below_alloc | apply pw_below_drewN | apply below_drew1 | refine below_set ?_ GE107.out | refine below_set ?_ GE123.out) | exact HB.out)) hb); clear HO_3; clear HO_34; clear HO_108002; clear HO_108003; clear HO_108004; clear HO_108005; clear HO_108006; clear HL122_0; clear BK107; clear BK123; clear HB; have HO_3 := n0_; have HO_34 := n1_; have HO_108002 := n2_; have HO_108003 := n3_; have HO_108004 := n4_; have HO_108005 := n5_; have HO_108006 := n6_; have HL122_0 := n7_; have HO126 := n8_; have BK107 := n9_; have BK123 := n10_; have HB := n11_; clear n0_ n1_ n2_ n3_ n4_ n5_ n6_ n7_ n8_ n9_ n10_ n11_; clear hb ho34; obtain ⟨Ao35, co35, eo35⟩ := Kd.R_slice HO126.out; subst eo35) | ((with_reducible refine gate_dst (N := 46) rfl ?_); (try (refine gate_guard (by rfl) ?_; dsimp only)); refine Kd.N_lit (Kd.slice 3 (Kd.int .i64)) _ 22 ?hg (N' := 46) ?hd (xs := ([(rd_T43 l0_6 x36_2).f0, y124] : List (List Int))) (inner := [.slice A122_0 ((rd_T43 l0_6 x36_2).f0).length c122_0, .slice Ao35 y124.length co35]) (ok := (fun k_ => ((P0_2_ k_ ∨ P0_3_ k_ ∨ P0_4_ k_ ∨ P0_5_ k_ ∨ P0_6_ k_) ∨ w.heap.size ≤ k_) ∧ some k_ ≠ (u3 : Value).ownBlock ∧ k_ ≠ gb107 ∧ k_ ≠ gb123)) (okp := (fun k_ => ((P0_2_ k_ ∨ P0_3_ k_ ∨ P0_4_ k_ ∨ P0_5_ k_ ∨ P0_6_ k_) ∨ w.heap.size ≤ k_) ∧ some k_ ≠ (u3 : Value).ownBlock ∧ k_ ≠ gb107 ∧ k_ ≠ gb123)) ?hr ?hp (fun _ hk => hk) ((show ∀ k_, w33.heap.size ≤ k_ → (fun k_ => ((P0_2_ k_ ∨ P0_3_ k_ ∨ P0_4_ k_ ∨ P0_5_ k_ ∨ P0_6_ k_) ∨ w.heap.size ≤ k_) ∧ some k_ ≠ (u3 : Value).ownBlock ∧ k_ ≠ gb107 ∧ k_ ≠ gb123) k_ from fun k_ hk => ⟨(.inr (Nat.le_trans (below_size (by repeat (first | (with_reducible first | exact HB.out | apply below_alloc | apply pw_below_drewN | apply below_drew1 | refine below_set ?_ GE107.out | refine below_set ?_ GE123.out) | exact HB.out))) hk)), Kd.fresh' (Kd.N_lt (by (with_reducible repeat (first | apply Kd.N_alloc | apply Kd.N_drewN | apply Kd.N_drew)); exact HO_3.out)) k_ hk, Kd.freshB (g := gb107) (o := .cells #[.int .i64 a0_0, .bool a0_1, .slice A0_2 l0_2.length c0_2, .slice A0_3 l0_3.length c0_3, .slice A0_4 l0_4.length c0_4, .slice A0_5 l0_5.length c0_5, .slice (some ad122) l0_6.length c0_6] 27 (0, 0)) (by (with_reducible repeat (first | refine blk_drewN ?_ _ | refine blk_drew ?_ | refine blk_alloc ?_ _)); exact BK107.out) k_ hk, Kd.freshB (g := gb123) (o := .cells #[.slice A122_0 ((rd_T43 l0_6 x36_2).f0).length c122_0, .int .i64 ((rd_T43 l0_6 x36_2).f1)] 43 (0, 0)) (by (with_reducible repeat (first | refine blk_drewN ?_ _ | refine blk_drew ?_ | refine blk_alloc ?_ _)); exact BK123.out) k_ hk⟩) _ (Nat.le_refl _)) (Below.refl _ _) (Nat.le_refl _) (by simp) ?_; (case hd => rfl); (case hg => rfl); (case hr => first | (go_simp; done) | (go_simp; rfl)); (case hp => exact (Reps.one (show Kd.FK (Kd.slice 3 (Kd.int .i64)) _ _ ((rd_T43 l0_6 x36_2).f0) [.slice A122_0 ((rd_T43 l0_6 x36_2).f0).length c122_0] from (Kd.FK_slice_mk (Kd.V_reads' (Kd.V_mono (ok' := (fun k_ => ((P0_2_ k_ ∨ P0_3_ k_ ∨ P0_4_ k_ ∨ P0_5_ k_ ∨ P0_6_ k_) ∨ w.heap.size ≤ k_) ∧ some k_ ≠ (u3 : Value).ownBlock ∧ k_ ≠ gb107 ∧ k_ ≠ gb123)) (HL122_0.out) (fun k_ hk => ⟨hk.1.1, ⟨hk.1.2.1, ⟨hk.1.2.2.1, hk.1.2.2.2⟩⟩⟩))).2.1 (Kd.V_F (Kd.V_mono (ok' := (fun k_ => ((P0_2_ k_ ∨ P0_3_ k_ ∨ P0_4_ k_ ∨ P0_5_ k_ ∨ P0_6_ k_) ∨ w.heap.size ≤ k_) ∧ some k_ ≠ (u3 : Value).ownBlock ∧ k_ ≠ gb107 ∧ k_ ≠ gb123)) (HL122_0.out) (fun k_ hk => ⟨hk.1.1, ⟨hk.1.2.1, ⟨hk.1.2.2.1, hk.1.2.2.2⟩⟩⟩))))) (Reps.one (show Kd.FK (Kd.slice 3 (Kd.int .i64)) _ _ y124 [.slice Ao35 y124.length co35] from (FKR2 (Kd.R_mono (ok' := (fun k_ => ((P0_2_ k_ ∨ P0_3_ k_ ∨ P0_4_ k_ ∨ P0_5_ k_ ∨ P0_6_ k_) ∨ w.heap.size ≤ k_) ∧ some k_ ≠ (u3 : Value).ownBlock ∧ k_ ≠ gb107 ∧ k_ ≠ gb123)) (Kd.R_types (Kd.R_types (Kd.R_apart' (HO126.out) (Kd.N_typed HO_3.out) (by decide)) BK107.out (by decide)) BK123.out (by decide)) (fun k_ hk => ⟨(.inr (hk.1.1.1.1)), ⟨hk.1.1.2, ⟨hk.1.2, hk.2⟩⟩⟩)))) (Reps.none _ _)))); intro v128 w36 ho37 hb hg_ hnew_; clear hg_ hnew_; (first | rw [← Ny127.out] at ho37 | (simp only [Int.reduceToNat] at ho37; rw [← Ny127.out] at ho37)); have n0_ := Aside0.mk (Kd.N_elder' (by (with_reducible repeat (first | apply Kd.N_alloc | apply Kd.N_drewN | apply Kd.N_drew)); exact HO_3.out) (Kd.N_base ho37) hb); have n1_ := Aside0.mk (Kd.V_elder' (by (with_reducible repeat (first | apply Kd.V_alloc | apply Kd.V_drewN | apply Kd.V_drew)); exact HO_34.out) (Kd.N_base ho37) hb); have n2_ := Aside0.mk (Kd.V_elder' (by (with_reducible repeat (first | apply Kd.V_alloc | apply Kd.V_drewN | apply Kd.V_drew)); exact HO_108002.out) (Kd.N_base ho37) hb); have n3_ := Aside0.mk (Kd.V_elder' (by (with_reducible repeat (first | apply Kd.V_alloc | apply Kd.V_drewN | apply Kd.V_drew)); exact HO_108003.out) (Kd.N_base ho37) hb); have n4_ := Aside0.mk (Kd.V_elder' (by (with_reducible repeat (first | apply Kd.V_alloc | apply Kd.V_drewN | apply Kd.V_drew)); exact HO_108004.out) (Kd.N_base ho37) hb); have n5_ := Aside0.mk (Kd.V_elder' (by (with_reducible repeat (first | apply Kd.V_alloc | apply Kd.V_drewN | apply Kd.V_drew)); exact HO_108005.out) (Kd.N_base ho37) hb); have n6_ := Aside0.mk (Kd.V_elder' (by (with_reducible repeat (first | apply Kd.V_alloc | apply Kd.V_drewN | apply Kd.V_drew)); exact HO_108006.out) (Kd.N_base ho37) hb); have n7_ := Aside0.mk (Kd.V_elder' (by (with_reducible repeat (first | apply Kd.V_alloc | apply Kd.V_drewN | apply Kd.V_drew)); exact HL122_0.out) (Kd.N_base ho37) hb); have n8_ := Aside0.mk (Kd.N_lower ho37 (below_size (by repeat (first | (with_reducible first | exact HB.out | apply below_alloc | apply pw_below_drewN | apply below_drew1 | refine below_set ?_ GE107.out | refine below_set ?_ GE123.out) | exact HB.out)))); have n9_ := Aside0.mk (blk_below (g := gb107) (o := .cells #[.int .i64 a0_0, .bool a0_1, .slice A0_2 l0_2.length c0_2, .slice A0_3 l0_3.length c0_3, .slice A0_4 l0_4.length c0_4, .slice A0_5 l0_5.length c0_5, .slice (some ad122) l0_6.length c0_6] 27 (0, 0)) (by (with_reducible repeat (first | refine blk_drewN ?_ _ | refine blk_drew ?_ | refine blk_alloc ?_ _)); exact BK107.out) hb); have n10_ := Aside0.mk (blk_below (g := gb123) (o := .cells #[.slice A122_0 ((rd_T43 l0_6 x36_2).f0).length c122_0, .int .i64 ((rd_T43 l0_6 x36_2).f1)] 43 (0, 0)) (by (with_reducible repeat (first | refine blk_drewN ?_ _ | refine blk_drew ?_ | refine blk_alloc ?_ _)); exact BK123.out) hb); have n11_ := Aside0.mk (below_step (by repeat (first | (with_reducible first | exact HB.out | apply below_alloc | apply pw_below_drewN | apply below_drew1 | refine below_set ?_ GE107.out | refine below_set ?_ GE123.out) | exact HB.out)) hb); clear HO_3; clear HO_34; clear HO_108002; clear HO_108003; clear HO_108004; clear HO_108005; clear HO_108006; clear HL122_0; clear BK107; clear BK123; clear HB; clear HO126; have HO_3 := n0_; have HO_34 := n1_; have HO_108002 := n2_; have HO_108003 := n3_; have HO_108004 := n4_; have HO_108005 := n5_; have HO_108006 := n6_; have HL122_0 := n7_; have HO129 := n8_; have BK107 := n9_; have BK123 := n10_; have HB := n11_; clear n0_ n1_ n2_ n3_ n4_ n5_ n6_ n7_ n8_ n9_ n10_ n11_; clear hb ho37; obtain ⟨Ao39, co39, eo39⟩ := Kd.N_slice HO129.out; subst eo39) | ((with_reducible refine gate_builtin (b := .append) (xs := #[.tmp 40, .tmp 46]) rfl ?_); (try (refine gate_guard (by rfl) ?_; dsimp only)); at_builtin; refine Kd.N_append_rows (Kd.slice 3 (Kd.int .i64)) (w0 := w) w.heap.size rfl (.tmp 40) (.tmp 46) 23 22 (.slice none 0 0) 24 rfl Tryd.underlying23 info22 rfl (by decide) (by omega) u3 x3_2 y127 _ _ _ (fun k_ => ((P0_2_ k_ ∨ P0_3_ k_ ∨ P0_4_ k_ ∨ P0_5_ k_ ∨ P0_6_ k_) ∨ w.heap.size ≤ k_) ∧ k_ ≠ gb107 ∧ k_ ≠ gb123) (fun k_ => ((fun k_ => ((P0_2_ k_ ∨ P0_3_ k_ ∨ P0_4_ k_ ∨ P0_5_ k_ ∨ P0_6_ k_) ∨ w.heap.size ≤ k_) ∧ k_ ≠ gb107 ∧ k_ ≠ gb123)) k_ ∧ some k_ ≠ (u3 : Value).ownBlock) rfl rfl ?aO ?aR (fun _ hk => hk) ?aF ?aB ?aS ?aL ?_; (case aR => exact (by skip; exact Kd.N_F (Kd.N_mono (ok' := (fun k_ => ((fun k_ => ((P0_2_ k_ ∨ P0_3_ k_ ∨ P0_4_ k_ ∨ P0_5_ k_ ∨ P0_6_ k_) ∨ w.heap.size ≤ k_) ∧ k_ ≠ gb107 ∧ k_ ≠ gb123)) k_ ∧ some k_ ≠ (u3 : Value).ownBlock)) (HO129.out) (fun k_ hk => ⟨⟨hk.1, ⟨hk.2.2.1, hk.2.2.2⟩⟩, hk.2.1⟩)))); (case aB => exact (by repeat (first | (with_reducible first | exact HB.out | apply below_alloc | apply pw_below_drewN | apply below_drew1 | refine below_set ?_ GE107.out | refine below_set ?_ GE123.out) | exact HB.out))); (case aF => exact (fun k_ hk => ⟨(.inr (Nat.le_trans (below_size (by repeat (first | (with_reducible first | exact HB.out | apply below_alloc | apply pw_below_drewN | apply below_drew1 | refine below_set ?_ GE107.out | refine below_set ?_ GE123.out) | exact HB.out))) hk)), Kd.freshB (g := gb107) (o := .cells #[.int .i64 a0_0, .bool a0_1, .slice A0_2 l0_2.length c0_2, .slice A0_3 l0_3.length c0_3, .slice A0_4 l0_4.length c0_4, .slice A0_5 l0_5.length c0_5, .slice (some ad122) l0_6.length c0_6] 27 (0, 0)) (by (with_reducible repeat (first | refine blk_drewN ?_ _ | refine blk_drew ?_ | refine blk_alloc ?_ _)); exact BK107.out) k_ hk, Kd.freshB (g := gb123) (o := .cells #[.slice A122_0 ((rd_T43 l0_6 x36_2).f0).length c122_0, .int .i64 ((rd_T43 l0_6 x36_2).f1)] 43 (0, 0)) (by (with_reducible repeat (first | refine blk_drewN ?_ _ | refine blk_drew ?_ | refine blk_alloc ?_ _)); exact BK123.out) k_ hk⟩)); (case aO => exact (by (with_reducible repeat (first | apply Kd.N_alloc | apply Kd.N_drewN | apply Kd.N_drew)); exact Kd.N_mono HO_3.out (fun _ hk => ⟨hk.1.1.1, ⟨hk.1.1.2.1, hk.1.1.2.2⟩⟩))); (case aS => exact (below_size (by repeat (first | (with_reducible first | exact HB.out | apply below_alloc | apply pw_below_drewN | apply below_drew1 | refine below_set ?_ GE107.out | refine below_set ?_ GE123.out) | exact HB.out)))); (case aL => have := LMc27.out; omega); intro v131 w38 ho hb hg hat; rw [← Ny130.out] at ho; have n0_ := Aside0.mk (Kd.V_afterv (ok := (fun k_ => ((P0_2_ k_ ∨ P0_3_ k_ ∨ P0_4_ k_ ∨ P0_5_ k_ ∨ P0_6_ k_) ∨ w.heap.size ≤ k_) ∧ some k_ ≠ (.slice Ao39 y127.length co39 : Value).ownBlock ∧ k_ ≠ gb107 ∧ k_ ≠ gb123)) (by (with_reducible repeat (first | apply Kd.V_alloc | apply Kd.V_drewN | apply Kd.V_drew)); exact Kd.V_mono HO_34.out (fun _ hk => ⟨⟨hk.1.1.1, ⟨hk.2, ⟨hk.1.1.2.2.1, hk.1.1.2.2.2⟩⟩⟩, hk.1.1.2.1⟩)) hg hat); have n1_ := Aside0.mk (Kd.V_afterv (ok := (fun k_ => ((P0_2_ k_ ∨ P0_3_ k_ ∨ P0_4_ k_ ∨ P0_5_ k_ ∨ P0_6_ k_) ∨ w.heap.size ≤ k_) ∧ some k_ ≠ (.slice Ao39 y127.length co39 : Value).ownBlock ∧ k_ ≠ gb107 ∧ k_ ≠ gb123)) (by (with_reducible repeat (first | apply Kd.V_alloc | apply Kd.V_drewN | apply Kd.V_drew)); exact Kd.V_mono HO_108002.out (fun _ hk => ⟨⟨hk.1.1.1, ⟨hk.2, ⟨hk.1.1.2.2.1, hk.1.1.2.2.2⟩⟩⟩, hk.1.1.2.1⟩)) hg hat); have n2_ := Aside0.mk (Kd.V_afterv (ok := (fun k_ => ((P0_2_ k_ ∨ P0_3_ k_ ∨ P0_4_ k_ ∨ P0_5_ k_ ∨ P0_6_ k_) ∨ w.heap.size ≤ k_) ∧ some k_ ≠ (.slice Ao39 y127.length co39 : Value).ownBlock ∧ k_ ≠ gb107 ∧ k_ ≠ gb123)) (by (with_reducible repeat (first | apply Kd.V_alloc | apply Kd.V_drewN | apply Kd.V_drew)); exact Kd.V_mono HO_108003.out (fun _ hk => ⟨⟨hk.1.1.1, ⟨hk.2, ⟨hk.1.1.2.2.1, hk.1.1.2.2.2⟩⟩⟩, hk.1.1.2.1⟩)) hg hat); have n3_ := Aside0.mk (Kd.V_afterv (ok := (fun k_ => ((P0_2_ k_ ∨ P0_3_ k_ ∨ P0_4_ k_ ∨ P0_5_ k_ ∨ P0_6_ k_) ∨ w.heap.size ≤ k_) ∧ some k_ ≠ (.slice Ao39 y127.length co39 : Value).ownBlock ∧ k_ ≠ gb107 ∧ k_ ≠ gb123)) (by (with_reducible repeat (first | apply Kd.V_alloc | apply Kd.V_drewN | apply Kd.V_drew)); exact Kd.V_mono HO_108004.out (fun _ hk => ⟨⟨hk.1.1.1, ⟨hk.2, ⟨hk.1.1.2.2.1, hk.1.1.2.2.2⟩⟩⟩, hk.1.1.2.1⟩)) hg hat); have n4_ := Aside0.mk (Kd.V_afterv (ok := (fun k_ => ((P0_2_ k_ ∨ P0_3_ k_ ∨ P0_4_ k_ ∨ P0_5_ k_ ∨ P0_6_ k_) ∨ w.heap.size ≤ k_) ∧ some k_ ≠ (.slice Ao39 y127.length co39 : Value).ownBlock ∧ k_ ≠ gb107 ∧ k_ ≠ gb123)) (by (with_reducible repeat (first | apply Kd.V_alloc | apply Kd.V_drewN | apply Kd.V_drew)); exact Kd.V_mono HO_108005.out (fun _ hk => ⟨⟨hk.1.1.1, ⟨hk.2, ⟨hk.1.1.2.2.1, hk.1.1.2.2.2⟩⟩⟩, hk.1.1.2.1⟩)) hg hat); have n5_ := Aside0.mk (Kd.V_afterv (ok := (fun k_ => ((P0_2_ k_ ∨ P0_3_ k_ ∨ P0_4_ k_ ∨ P0_5_ k_ ∨ P0_6_ k_) ∨ w.heap.size ≤ k_) ∧ some k_ ≠ (.slice Ao39 y127.length co39 : Value).ownBlock ∧ k_ ≠ gb107 ∧ k_ ≠ gb123)) (by (with_reducible repeat (first | apply Kd.V_alloc | apply Kd.V_drewN | apply Kd.V_drew)); exact Kd.V_mono HO_108006.out (fun _ hk => ⟨⟨hk.1.1.1, ⟨hk.2, ⟨hk.1.1.2.2.1, hk.1.1.2.2.2⟩⟩⟩, hk.1.1.2.1⟩)) hg hat); have n6_ := Aside0.mk (blk_grown (g := gb107) (o := .cells #[.int .i64 a0_0, .bool a0_1, .slice A0_2 l0_2.length c0_2, .slice A0_3 l0_3.length c0_3, .slice A0_4 l0_4.length c0_4, .slice A0_5 l0_5.length c0_5, .slice (some ad122) l0_6.length c0_6] 27 (0, 0)) (by (with_reducible repeat (first | refine blk_drewN ?_ _ | refine blk_drew ?_ | refine blk_alloc ?_ _)); exact BK107.out) hg (Kd.N_ne HO_3.out BK107.out (by decide))); have n7_ := Aside0.mk (Kd.V_afterv (ok := (fun k_ => ((P0_2_ k_ ∨ P0_3_ k_ ∨ P0_4_ k_ ∨ P0_5_ k_ ∨ P0_6_ k_) ∨ w.heap.size ≤ k_) ∧ some k_ ≠ (.slice Ao39 y127.length co39 : Value).ownBlock ∧ k_ ≠ gb107 ∧ k_ ≠ gb123)) (by (with_reducible repeat (first | apply Kd.V_alloc | apply Kd.V_drewN | apply Kd.V_drew)); exact Kd.V_mono HL122_0.out (fun _ hk => ⟨⟨hk.1.1.1, ⟨hk.2, ⟨hk.1.1.2.2.1, hk.1.1.2.2.2⟩⟩⟩, hk.1.1.2.1⟩)) hg hat); have n8_ := Aside0.mk (blk_grown (g := gb123) (o := .cells #[.slice A122_0 ((rd_T43 l0_6 x36_2).f0).length c122_0, .int .i64 ((rd_T43 l0_6 x36_2).f1)] 43 (0, 0)) (by (with_reducible repeat (first | refine blk_drewN ?_ _ | refine blk_drew ?_ | refine blk_alloc ?_ _)); exact BK123.out) hg (Kd.N_ne HO_3.out BK123.out (by decide))); have n9_ := Aside0.mk (Kd.N_afterv (ok := (fun k_ => ((P0_2_ k_ ∨ P0_3_ k_ ∨ P0_4_ k_ ∨ P0_5_ k_ ∨ P0_6_ k_) ∨ w.heap.size ≤ k_) ∧ k_ ≠ gb107 ∧ k_ ≠ gb123)) (by (with_reducible repeat (first | apply Kd.N_alloc | apply Kd.N_drewN | apply Kd.N_drew)); exact Kd.N_mono HO129.out (fun _ hk => ⟨⟨hk.1, ⟨hk.2.2.1, hk.2.2.2⟩⟩, hk.2.1⟩)) hg hat); have n10_ := Aside0.mk (hb); have n11_ := Aside0.mk (ho); clear HO_34; clear HO_108002; clear HO_108003; clear HO_108004; clear HO_108005; clear HO_108006; clear BK107; clear HL122_0; clear BK123; clear HO129; clear HB; clear HO_3; have HO_34 := n0_; have HO_108002 := n1_; have HO_108003 := n2_; have HO_108004 := n3_; have HO_108005 := n4_; have HO_108006 := n5_; have BK107 := n6_; have HL122_0 := n7_; have BK123 := n8_; have HO129 := n9_; have HB := n10_; have HO132 := n11_; clear n0_ n1_ n2_ n3_ n4_ n5_ n6_ n7_ n8_ n9_ n10_ n11_; clear ho hb hg hat))
           go_roundg k2
           case measure => have := HK1.out; have := HK2.out; omega
           case rel => exact ⟨(y130), (wrap64 (x36_2 + 1)), (by first | rfl | (simp; done) | (simp [*]; done)), H', ⟨by have := HK1.out; have := HK2.out; omega⟩, ⟨by (with_reducible repeat (first | apply Kd.N_alloc | apply Kd.N_drewN | apply Kd.N_drew)); exact Kd.N_mono HO132.out (fun _ hk => ⟨hk.1, hk.2.1⟩)⟩, ⟨by (with_reducible repeat (first | apply Kd.V_alloc | apply Kd.V_drewN | apply Kd.V_drew)); exact Kd.V_mono HO_34.out (fun _ hk => ⟨hk.1.1, ⟨hk.2, hk.1.2.2.1⟩⟩)⟩, ⟨by (with_reducible repeat (first | apply Kd.V_alloc | apply Kd.V_drewN | apply Kd.V_drew)); exact Kd.V_mono HO_108002.out (fun _ hk => ⟨hk.1.1, ⟨hk.2, hk.1.2.2.1⟩⟩)⟩, ⟨by (with_reducible repeat (first | apply Kd.V_alloc | apply Kd.V_drewN | apply Kd.V_drew)); exact Kd.V_mono HO_108003.out (fun _ hk => ⟨hk.1.1, ⟨hk.2, hk.1.2.2.1⟩⟩)⟩, ⟨by (with_reducible repeat (first | apply Kd.V_alloc | apply Kd.V_drewN | apply Kd.V_drew)); exact Kd.V_mono HO_108004.out (fun _ hk => ⟨hk.1.1, ⟨hk.2, hk.1.2.2.1⟩⟩)⟩, ⟨by (with_reducible repeat (first | apply Kd.V_alloc | apply Kd.V_drewN | apply Kd.V_drew)); exact Kd.V_mono HO_108005.out (fun _ hk => ⟨hk.1.1, ⟨hk.2, hk.1.2.2.1⟩⟩)⟩, ⟨by (with_reducible repeat (first | apply Kd.V_alloc | apply Kd.V_drewN | apply Kd.V_drew)); exact Kd.V_mono HO_108006.out (fun _ hk => ⟨hk.1.1, ⟨hk.2, hk.1.2.2.1⟩⟩)⟩, ⟨by (with_reducible repeat (first | refine blk_drewN ?_ _ | refine blk_drew ?_ | refine blk_alloc ?_ _)); exact BK107.out⟩, ⟨by repeat (first | (with_reducible first | exact HB.out | apply below_alloc | apply pw_below_drewN | apply below_drew1 | refine below_set ?_ GE107.out | refine below_set ?_ GE123.out) | exact HB.out)⟩⟩
          ·rw [if_neg c27] at H
           exact absurd H (by simp)
         ·rw [if_neg c26] at H
          exact absurd H (by simp)
        ·rw [if_neg c25] at H
         exact absurd H (by simp)
       ·rw [if_neg c24] at H
        have c24b0 : decide (x36_2 < (l0_6.length : Int)) = false := decide_eq_false c24
        clear c24
        by_cases c40 : a0_0 < 0
        ·rw [if_pos c40] at H
         have c40b0 : decide (a0_0 < 0) = true := decide_eq_true c40
         clear c40
         obtain rfl := Option.some.inj H
         have hcz41_0 : wr.cell? ⟨gb107, 0, none⟩ = some (.int .i64 a0_0) := (blk_cell BK107.out 0).trans rfl
         have hcz41_1 : wr.cell? ⟨gb107, 1, none⟩ = some (.bool a0_1) := (blk_cell BK107.out 1).trans rfl
         have hcz41_2 : wr.cell? ⟨gb107, 2, none⟩ = some (.slice A0_2 l0_2.length c0_2) := (blk_cell BK107.out 2).trans rfl
         have hcz41_3 : wr.cell? ⟨gb107, 3, none⟩ = some (.slice A0_3 l0_3.length c0_3) := (blk_cell BK107.out 3).trans rfl
         have hcz41_4 : wr.cell? ⟨gb107, 4, none⟩ = some (.slice A0_4 l0_4.length c0_4) := (blk_cell BK107.out 4).trans rfl
         have hcz41_5 : wr.cell? ⟨gb107, 5, none⟩ = some (.slice A0_5 l0_5.length c0_5) := (blk_cell BK107.out 5).trans rfl
         have hcz41_6 : wr.cell? ⟨gb107, 6, none⟩ = some (.slice A0_6 l0_6.length c0_6) := (blk_cell BK107.out 6).trans rfl
         have hfz41_0 := blk_frozen BK107.out 0
         have hfz41_1 := blk_frozen BK107.out 1
         have hfz41_2 := blk_frozen BK107.out 2
         have hfz41_3 := blk_frozen BK107.out 3
         have hfz41_4 := blk_frozen BK107.out 4
         have hfz41_5 := blk_frozen BK107.out 5
         have hfz41_6 := blk_frozen BK107.out 6
         go_wp2
         go_ret
         exact ⟨by first | rfl | (simp [errW_none, errW_some] <;> rfl) | (simp [*, errW_none, errW_some] <;> rfl), by repeat (first | (with_reducible first | exact HB.out | apply below_alloc | apply pw_below_drewN | apply below_drew1 | refine below_set ?_ GE107.out) | exact HB.out)⟩
        ·rw [if_neg c40] at H
         have c40b0 : decide (a0_0 < 0) = false := decide_eq_false c40
         clear c40
         by_cases c42 : a0_0 ≥ 6
         ·rw [if_pos c42] at H
          have c42b0 : decide (6 ≤ a0_0) = true := decide_eq_true c42
          clear c42
          obtain rfl := Option.some.inj H
          have hcz43_0 : wr.cell? ⟨gb107, 0, none⟩ = some (.int .i64 a0_0) := (blk_cell BK107.out 0).trans rfl
          have hcz43_1 : wr.cell? ⟨gb107, 1, none⟩ = some (.bool a0_1) := (blk_cell BK107.out 1).trans rfl
          have hcz43_2 : wr.cell? ⟨gb107, 2, none⟩ = some (.slice A0_2 l0_2.length c0_2) := (blk_cell BK107.out 2).trans rfl
          have hcz43_3 : wr.cell? ⟨gb107, 3, none⟩ = some (.slice A0_3 l0_3.length c0_3) := (blk_cell BK107.out 3).trans rfl
          have hcz43_4 : wr.cell? ⟨gb107, 4, none⟩ = some (.slice A0_4 l0_4.length c0_4) := (blk_cell BK107.out 4).trans rfl
          have hcz43_5 : wr.cell? ⟨gb107, 5, none⟩ = some (.slice A0_5 l0_5.length c0_5) := (blk_cell BK107.out 5).trans rfl
          have hcz43_6 : wr.cell? ⟨gb107, 6, none⟩ = some (.slice A0_6 l0_6.length c0_6) := (blk_cell BK107.out 6).trans rfl
          have hfz43_0 := blk_frozen BK107.out 0
          have hfz43_1 := blk_frozen BK107.out 1
          have hfz43_2 := blk_frozen BK107.out 2
          have hfz43_3 := blk_frozen BK107.out 3
          have hfz43_4 := blk_frozen BK107.out 4
          have hfz43_5 := blk_frozen BK107.out 5
          have hfz43_6 := blk_frozen BK107.out 6
          go_wp2
          go_ret
          exact ⟨by first | rfl | (simp [errW_none, errW_some] <;> rfl) | (simp [*, errW_none, errW_some] <;> rfl), by repeat (first | (with_reducible first | exact HB.out | apply below_alloc | apply pw_below_drewN | apply below_drew1 | refine below_set ?_ GE107.out) | exact HB.out)⟩
         ·rw [if_neg c42] at H
          have c42b0 : decide (6 ≤ a0_0) = false := decide_eq_false c42
          clear c42
          by_cases c44 : (l0_4.length : Int) > 200
          ·rw [if_pos c44] at H
           have c44b0 : decide (200 < (l0_4.length : Int)) = true := decide_eq_true c44
           have c44b1 : decide (200 < l0_4.length) = true := decide_eq_true (by omega)
           clear c44
           obtain rfl := Option.some.inj H
           have hcz45_0 : wr.cell? ⟨gb107, 0, none⟩ = some (.int .i64 a0_0) := (blk_cell BK107.out 0).trans rfl
           have hcz45_1 : wr.cell? ⟨gb107, 1, none⟩ = some (.bool a0_1) := (blk_cell BK107.out 1).trans rfl
           have hcz45_2 : wr.cell? ⟨gb107, 2, none⟩ = some (.slice A0_2 l0_2.length c0_2) := (blk_cell BK107.out 2).trans rfl
           have hcz45_3 : wr.cell? ⟨gb107, 3, none⟩ = some (.slice A0_3 l0_3.length c0_3) := (blk_cell BK107.out 3).trans rfl
           have hcz45_4 : wr.cell? ⟨gb107, 4, none⟩ = some (.slice A0_4 l0_4.length c0_4) := (blk_cell BK107.out 4).trans rfl
           have hcz45_5 : wr.cell? ⟨gb107, 5, none⟩ = some (.slice A0_5 l0_5.length c0_5) := (blk_cell BK107.out 5).trans rfl
           have hcz45_6 : wr.cell? ⟨gb107, 6, none⟩ = some (.slice A0_6 l0_6.length c0_6) := (blk_cell BK107.out 6).trans rfl
           have hfz45_0 := blk_frozen BK107.out 0
           have hfz45_1 := blk_frozen BK107.out 1
           have hfz45_2 := blk_frozen BK107.out 2
           have hfz45_3 := blk_frozen BK107.out 3
           have hfz45_4 := blk_frozen BK107.out 4
           have hfz45_5 := blk_frozen BK107.out 5
           have hfz45_6 := blk_frozen BK107.out 6
           go_wp2
           go_ret
           exact ⟨by first | rfl | (simp [errW_none, errW_some] <;> rfl) | (simp [*, errW_none, errW_some] <;> rfl), by repeat (first | (with_reducible first | exact HB.out | apply below_alloc | apply pw_below_drewN | apply below_drew1 | refine below_set ?_ GE107.out) | exact HB.out)⟩
          ·rw [if_neg c44] at H
           have c44b0 : decide (200 < (l0_4.length : Int)) = false := decide_eq_false c44
           have c44b1 : decide (200 < l0_4.length) = false := decide_eq_false (by omega)
           clear c44
           by_cases c46 : (l0_5.length : Int) > 65
           ·rw [if_pos c46] at H
            have c46b0 : decide (65 < (l0_5.length : Int)) = true := decide_eq_true c46
            have c46b1 : decide (65 < l0_5.length) = true := decide_eq_true (by omega)
            clear c46
            obtain rfl := Option.some.inj H
            have hcz47_0 : wr.cell? ⟨gb107, 0, none⟩ = some (.int .i64 a0_0) := (blk_cell BK107.out 0).trans rfl
            have hcz47_1 : wr.cell? ⟨gb107, 1, none⟩ = some (.bool a0_1) := (blk_cell BK107.out 1).trans rfl
            have hcz47_2 : wr.cell? ⟨gb107, 2, none⟩ = some (.slice A0_2 l0_2.length c0_2) := (blk_cell BK107.out 2).trans rfl
            have hcz47_3 : wr.cell? ⟨gb107, 3, none⟩ = some (.slice A0_3 l0_3.length c0_3) := (blk_cell BK107.out 3).trans rfl
            have hcz47_4 : wr.cell? ⟨gb107, 4, none⟩ = some (.slice A0_4 l0_4.length c0_4) := (blk_cell BK107.out 4).trans rfl
            have hcz47_5 : wr.cell? ⟨gb107, 5, none⟩ = some (.slice A0_5 l0_5.length c0_5) := (blk_cell BK107.out 5).trans rfl
            have hcz47_6 : wr.cell? ⟨gb107, 6, none⟩ = some (.slice A0_6 l0_6.length c0_6) := (blk_cell BK107.out 6).trans rfl
            have hfz47_0 := blk_frozen BK107.out 0
            have hfz47_1 := blk_frozen BK107.out 1
            have hfz47_2 := blk_frozen BK107.out 2
            have hfz47_3 := blk_frozen BK107.out 3
            have hfz47_4 := blk_frozen BK107.out 4
            have hfz47_5 := blk_frozen BK107.out 5
            have hfz47_6 := blk_frozen BK107.out 6
            go_wp2
            go_ret
            exact ⟨by first | rfl | (simp [errW_none, errW_some] <;> rfl) | (simp [*, errW_none, errW_some] <;> rfl), by repeat (first | (with_reducible first | exact HB.out | apply below_alloc | apply pw_below_drewN | apply below_drew1 | refine below_set ?_ GE107.out) | exact HB.out)⟩
           ·rw [if_neg c46] at H
            have c46b0 : decide (65 < (l0_5.length : Int)) = false := decide_eq_false c46
            have c46b1 : decide (65 < l0_5.length) = false := decide_eq_false (by omega)
            clear c46
            by_cases c48 : (l0_6.length : Int) > 200
            ·rw [if_pos c48] at H
             have c48b0 : decide (200 < (l0_6.length : Int)) = true := decide_eq_true c48
             have c48b1 : decide (200 < l0_6.length) = true := decide_eq_true (by omega)
             clear c48
             obtain rfl := Option.some.inj H
             have hcz49_0 : wr.cell? ⟨gb107, 0, none⟩ = some (.int .i64 a0_0) := (blk_cell BK107.out 0).trans rfl
             have hcz49_1 : wr.cell? ⟨gb107, 1, none⟩ = some (.bool a0_1) := (blk_cell BK107.out 1).trans rfl
             have hcz49_2 : wr.cell? ⟨gb107, 2, none⟩ = some (.slice A0_2 l0_2.length c0_2) := (blk_cell BK107.out 2).trans rfl
             have hcz49_3 : wr.cell? ⟨gb107, 3, none⟩ = some (.slice A0_3 l0_3.length c0_3) := (blk_cell BK107.out 3).trans rfl
             have hcz49_4 : wr.cell? ⟨gb107, 4, none⟩ = some (.slice A0_4 l0_4.length c0_4) := (blk_cell BK107.out 4).trans rfl
             have hcz49_5 : wr.cell? ⟨gb107, 5, none⟩ = some (.slice A0_5 l0_5.length c0_5) := (blk_cell BK107.out 5).trans rfl
             have hcz49_6 : wr.cell? ⟨gb107, 6, none⟩ = some (.slice A0_6 l0_6.length c0_6) := (blk_cell BK107.out 6).trans rfl
             have hfz49_0 := blk_frozen BK107.out 0
             have hfz49_1 := blk_frozen BK107.out 1
             have hfz49_2 := blk_frozen BK107.out 2
             have hfz49_3 := blk_frozen BK107.out 3
             have hfz49_4 := blk_frozen BK107.out 4
             have hfz49_5 := blk_frozen BK107.out 5
             have hfz49_6 := blk_frozen BK107.out 6
             go_wp2
             go_ret
             exact ⟨by first | rfl | (simp [errW_none, errW_some] <;> rfl) | (simp [*, errW_none, errW_some] <;> rfl), by repeat (first | (with_reducible first | exact HB.out | apply below_alloc | apply pw_below_drewN | apply below_drew1 | refine below_set ?_ GE107.out) | exact HB.out)⟩
            ·rw [if_neg c48] at H
             have c48b0 : decide (200 < (l0_6.length : Int)) = false := decide_eq_false c48
             have c48b1 : decide (200 < l0_6.length) = false := decide_eq_false (by omega)
             clear c48
             replace H := Option.bind_eq_some_iff.mp H
             obtain ⟨t133, A500, H⟩ := H
             replace H : (if t133 = true then (some 230) else (some 0)) = some r := H
             have A50 := Aside0.mk A500
             clear A500
             by_cases c51 : t133 = true
             ·subst c51
              have H1 : (some 230) = some r := by rw [if_pos rfl] at H; exact H
              clear H
              have H := H1
              clear H1
              obtain rfl := Option.some.inj H
              have hcz52_0 : wr.cell? ⟨gb107, 0, none⟩ = some (.int .i64 a0_0) := (blk_cell BK107.out 0).trans rfl
              have hcz52_1 : wr.cell? ⟨gb107, 1, none⟩ = some (.bool a0_1) := (blk_cell BK107.out 1).trans rfl
              have hcz52_2 : wr.cell? ⟨gb107, 2, none⟩ = some (.slice A0_2 l0_2.length c0_2) := (blk_cell BK107.out 2).trans rfl
              have hcz52_3 : wr.cell? ⟨gb107, 3, none⟩ = some (.slice A0_3 l0_3.length c0_3) := (blk_cell BK107.out 3).trans rfl
              have hcz52_4 : wr.cell? ⟨gb107, 4, none⟩ = some (.slice A0_4 l0_4.length c0_4) := (blk_cell BK107.out 4).trans rfl
              have hcz52_5 : wr.cell? ⟨gb107, 5, none⟩ = some (.slice A0_5 l0_5.length c0_5) := (blk_cell BK107.out 5).trans rfl
              have hcz52_6 : wr.cell? ⟨gb107, 6, none⟩ = some (.slice A0_6 l0_6.length c0_6) := (blk_cell BK107.out 6).trans rfl
              have hfz52_0 := blk_frozen BK107.out 0
              have hfz52_1 := blk_frozen BK107.out 1
              have hfz52_2 := blk_frozen BK107.out 2
              have hfz52_3 := blk_frozen BK107.out 3
              have hfz52_4 := blk_frozen BK107.out 4
              have hfz52_5 := blk_frozen BK107.out 5
              have hfz52_6 := blk_frozen BK107.out 6
              obtain ⟨Ao53, co53, eo53⟩ := Kd.N_slice HO_3.out
              subst eo53
              go_wp2_with (first | (go_at_call 24; (with_reducible refine (slices_ContainsFunc_int_int.calls _ _ x3_2 true _ ?side1 ?side2 A50.out).mono ?_); (case side1 => repeat (first | exact (Kd.N_reads' HO_3.out).2.2 | (with_reducible refine Kd.C_alloc ?_ _) | (with_reducible refine Kd.C_drewN ?_ _) | (with_reducible refine Kd.C_drew ?_))); (case side2 => exact (Kd.N_reads' HO_3.out).2.1); rintro e w' ⟨rfl, ⟨nd, rfl⟩⟩))
              go_ret
              exact ⟨by first | rfl | (simp [errW_none, errW_some] <;> rfl) | (simp [*, errW_none, errW_some] <;> rfl), by repeat (first | (with_reducible first | exact HB.out | apply below_alloc | apply pw_below_drewN | apply below_drew1 | refine below_set ?_ GE107.out) | exact HB.out)⟩
             ·replace c51 := Bool.eq_false_iff.mpr c51
              subst c51
              have H1 : (some 0) = some r := by rw [if_neg (show ¬ (false = true) by decide)] at H; exact H
              clear H
              have H := H1
              clear H1
              obtain rfl := Option.some.inj H
              have hcz54_0 : wr.cell? ⟨gb107, 0, none⟩ = some (.int .i64 a0_0) := (blk_cell BK107.out 0).trans rfl
              have hcz54_1 : wr.cell? ⟨gb107, 1, none⟩ = some (.bool a0_1) := (blk_cell BK107.out 1).trans rfl
              have hcz54_2 : wr.cell? ⟨gb107, 2, none⟩ = some (.slice A0_2 l0_2.length c0_2) := (blk_cell BK107.out 2).trans rfl
              have hcz54_3 : wr.cell? ⟨gb107, 3, none⟩ = some (.slice A0_3 l0_3.length c0_3) := (blk_cell BK107.out 3).trans rfl
              have hcz54_4 : wr.cell? ⟨gb107, 4, none⟩ = some (.slice A0_4 l0_4.length c0_4) := (blk_cell BK107.out 4).trans rfl
              have hcz54_5 : wr.cell? ⟨gb107, 5, none⟩ = some (.slice A0_5 l0_5.length c0_5) := (blk_cell BK107.out 5).trans rfl
              have hcz54_6 : wr.cell? ⟨gb107, 6, none⟩ = some (.slice A0_6 l0_6.length c0_6) := (blk_cell BK107.out 6).trans rfl
              have hfz54_0 := blk_frozen BK107.out 0
              have hfz54_1 := blk_frozen BK107.out 1
              have hfz54_2 := blk_frozen BK107.out 2
              have hfz54_3 := blk_frozen BK107.out 3
              have hfz54_4 := blk_frozen BK107.out 4
              have hfz54_5 := blk_frozen BK107.out 5
              have hfz54_6 := blk_frozen BK107.out 6
              obtain ⟨Ao55, co55, eo55⟩ := Kd.N_slice HO_3.out
              subst eo55
              go_wp2_with (first | (go_at_call 24; (with_reducible refine (slices_ContainsFunc_int_int.calls _ _ x3_2 false _ ?side1 ?side2 A50.out).mono ?_); (case side1 => repeat (first | exact (Kd.N_reads' HO_3.out).2.2 | (with_reducible refine Kd.C_alloc ?_ _) | (with_reducible refine Kd.C_drewN ?_ _) | (with_reducible refine Kd.C_drew ?_))); (case side2 => exact (Kd.N_reads' HO_3.out).2.1); rintro e w' ⟨rfl, ⟨nd, rfl⟩⟩))
              go_ret
              exact ⟨by first | rfl | (simp [errW_none, errW_some] <;> rfl) | (simp [*, errW_none, errW_some] <;> rfl), by repeat (first | (with_reducible first | exact HB.out | apply below_alloc | apply pw_below_drewN | apply below_drew1 | refine below_set ?_ GE107.out) | exact HB.out)⟩
 ·rw [if_neg c2] at H
  exact absurd H (by simp)









/-! ### wire_Num: function 30 -/
mutual
def wire_Num.j0 : Nat → Int → Bool → Option (ByteArray)
 | 0, _, _ => none
 | k + 1, x0, x9 => if x9 = true then (some (⟨#[]⟩ : ByteArray)) else (wire_Num.l0 k x0 ([] : List Int))
def wire_Num.l0 : Nat → Int → List Int → Option (ByteArray)
 | 0, _, _ => none
 | k + 1, x0, x3 => if x0 ≥ 128 then (if x3.length < 140737488355328 then (wire_Num.l0 k (x0 / 128) (x3 ++ [(wrap64 ((Int.tmod x0 128) + 128)) % 256])) else (none)) else (if x3.length < 140737488355328 then (some (strOfNums (x3 ++ [(x0) % 256]))) else (none))
end
def wire_Num.f (k : Nat) (a0 : Int) : Option (ByteArray) := if a0 < 0 then (wire_Num.j0 k a0 true) else (wire_Num.j0 k a0 (decide (a0 > 1125899906842624)))
set_option maxHeartbeats 8000000 in
set_option maxRecDepth 100000 in
theorem wire_Num.calls (k : Nat) (a0 : Int) (r : ByteArray) (w : World) (h : wire_Num.f k a0 = some r) :
 Calls Tryd.prog 30 #[.int .i64 a0] w fun e w' => e = .returned (.string r) ∧ Below w.heap.size w w' := by
 have HB := Aside0.mk (Below.refl w.heap.size w)
 have H : (if a0 < 0 then (wire_Num.j0 k a0 true) else (wire_Num.j0 k a0 (decide (a0 > 1125899906842624)))) = some r := h
 clear h
 have HC2 := Aside0.mk H
 clear H
 go_enter Tryd.func30, Tryd.ntmps30
 go_upto_region 1 with (fail)
 go_cut [9] (fun v9 wc => ∃ (kq : Nat) (x9_1 : Bool), v9 = .bool x9_1 ∧ Aside0 (wire_Num.j0 kq a0 x9_1 = some r) ∧ Aside0 (kq ≤ k) ∧ Aside0 (Below w.heap.size w wc))
 case first =>
  have H := HC2.out
  clear HC2
  by_cases c3 : a0 < 0
  ·rw [if_pos c3] at H
   have c3b0 : decide (a0 < 0) = true := decide_eq_true c3
   clear c3
   (first | rw [c3b0] | (simp only [i64_w, i32_w]; rw [c3b0]) | skip)
   have H' := Aside0.mk H
   clear H
   go_wp2
   go_meet
   case rel => exact ⟨_, (true), (by first | rfl | (simp; done) | (simp [*]; done)), H', ⟨by first | omega | exact Nat.le_refl _⟩, ⟨by repeat (first | (with_reducible first | exact HB.out | apply below_alloc | apply pw_below_drewN | apply below_drew1) | exact HB.out)⟩⟩
  ·rw [if_neg c3] at H
   have c3b0 : decide (a0 < 0) = false := decide_eq_false c3
   clear c3
   (first | rw [c3b0] | (simp only [i64_w, i32_w]; rw [c3b0]) | skip)
   have H' := Aside0.mk H
   clear H
   go_wp2
   go_meet
   case rel => exact ⟨_, (decide (a0 > 1125899906842624)), (by first | rfl | (simp; done) | (simp [*]; done)), H', ⟨by first | omega | exact Nat.le_refl _⟩, ⟨by repeat (first | (with_reducible first | exact HB.out | apply below_alloc | apply pw_below_drewN | apply below_drew1) | exact HB.out)⟩⟩
 case rest =>
  clear HC2
  try clear p2
  try clear c3
  try clear c3b0
  obtain ⟨kq, x9_1, rfl, HA, HJ1, HB⟩ := hcut
  cases kq with
  | zero => exact absurd HA.out (by simp [wire_Num.j0])
  | succ kj1 =>
   have H := HA.out
   clear HA
   simp only [wire_Num.j0] at H
   by_cases c4 : x9_1 = true
   ·subst c4
    have H1 : (some (⟨#[]⟩ : ByteArray)) = some r := by rw [if_pos rfl] at H; exact H
    clear H
    have H := H1
    clear H1
    obtain rfl := Option.some.inj H
    go_wp2
    go_ret
    exact ⟨by first | rfl | (simp [errW_none, errW_some] <;> rfl) | (simp [*, errW_none, errW_some] <;> rfl), by repeat (first | (with_reducible first | exact HB.out | apply below_alloc | apply pw_below_drewN | apply below_drew1) | exact HB.out)⟩
   ·replace c4 := Bool.eq_false_iff.mpr c4
    subst c4
    have H1 : (wire_Num.l0 kj1 a0 ([] : List Int)) = some r := by rw [if_neg (show ¬ (false = true) by decide)] at H; exact H
    clear H
    have H := H1
    clear H1
    have H' := Aside0.mk H
    clear H
    go_wp2
    go_loopg [0, 3] kj1 (fun kq v0 v3 w' => ∃ (x0_2 : Int) (x3_2 : List Int), v0 = .int .i64 x0_2 ∧ Aside0 (wire_Num.l0 kq x0_2 x3_2 = some r) ∧ Aside0 (kq ≤ kj1) ∧ Aside0 (Kd.R (Kd.int .u8) 5 w' w.heap.size (fun _ => True) v3 x3_2) ∧ Aside0 (Below w.heap.size w w'))
    case atStart => exact ⟨(a0), (([] : List Int)), (by first | rfl | (simp; done) | (simp [*]; done)), H', ⟨Nat.le_refl _⟩, ⟨by first | exact Kd.R_nil _ _ _ _ _ | exact Kd.N_nil _ _ _ _ _ | exact Kd.V_nil _ _ _ _ _ | exact Kd.Q_nil _ _ _ _ _ | exact Kd.S_nil _ _ _ _ _⟩, ⟨by repeat (first | (with_reducible first | exact HB.out | apply below_alloc | apply pw_below_drewN | apply below_drew1) | exact HB.out)⟩⟩
    case round =>
     clear H'
     try clear p2
     try clear c3
     try clear c3b0
     try clear c4
     try clear p2
     obtain ⟨x0_2, x3_2, rfl, HA, HK2, HO_3, HB⟩ := hrel
     cases gk with
     | zero => exact absurd HA.out (by simp [wire_Num.l0])
     | succ k2 =>
      have H := HA.out
      clear HA
      simp only [wire_Num.l0] at H
      by_cases c5 : x0_2 ≥ 128
      ·rw [if_pos c5] at H
       have c5b0 : decide (128 ≤ x0_2) = true := decide_eq_true c5
       clear c5
       by_cases c6 : x3_2.length < 140737488355328
       ·rw [if_pos c6] at H
        have LMc6 := Aside0.mk c6
        clear c6
        obtain ⟨y134, hy134⟩ : ∃ y_ : List Int, y_ = (x3_2 ++ [(wrap64 ((Int.tmod x0_2 128) + 128)) % 256]) := ⟨_, rfl⟩
        replace H : (wire_Num.l0 k2 (x0_2 / 128) y134) = some r := by first | (rw [hy134]; with_reducible exact H) | (have H2_ := (Option.bind_some _ _).symm.trans H; rw [hy134]; with_reducible exact H2_) | (have H2_ := (Option.bind_some _ _).symm.trans H; with_reducible exact H2_) | with_reducible exact H | (rw [hy134]; exact H) | exact H
        have Ny134 := Aside0.mk hy134
        clear hy134
        have H' := Aside0.mk H
        clear H
        go_wp2_with (first | ((with_reducible refine gate_builtin (b := .append) (xs := #[.tmp 14, .tmp 19]) rfl ?_); at_builtin; refine Kd.R_append (Kd.int .u8) (w0 := w) w.heap.size rfl (.tmp 14) (.tmp 19) 62 5 (.int .u8 0) 1 rfl Tryd.underlying62 info5 rfl (by decide) (by omega) u3 x3_2 ((wrap64 ((Int.tmod x0_2 128) + 128)) % 256) [.int .u8 ((wrap64 ((Int.tmod x0_2 128) + 128)) % 256)] (fun _ => True) (fun _ => False) rfl rfl ?aP (fun _ hk => hk.elim) ?aF ?aO ?aB ?aS ?aL ?_; (case aP => exact rfl); (case aB => exact (by repeat (first | (with_reducible first | exact HB.out | apply below_alloc | apply pw_below_drewN | apply below_drew1) | exact HB.out))); (case aF => exact (fun _ _ => trivial)); (case aO => exact (by (with_reducible repeat (first | apply Kd.R_alloc | apply Kd.R_drewN | apply Kd.R_drew)); exact HO_3.out)); (case aS => exact (below_size (by repeat (first | (with_reducible first | exact HB.out | apply below_alloc | apply pw_below_drewN | apply below_drew1) | exact HB.out)))); (case aL => have := LMc6.out; omega); intro v135 w7 ho hb hg hat; rw [← Ny134.out] at ho; have n0_ := Aside0.mk (hb); have n1_ := Aside0.mk (ho); clear HB; clear HO_3; have HB := n0_; have HO136 := n1_; clear n0_ n1_; clear ho hb hg hat))
        go_roundg k2
        case measure => have := HJ1.out; have := HK2.out; omega
        case rel => exact ⟨(x0_2 / 128), (y134), (by first | rfl | (simp; done) | (simp [*]; done)), H', ⟨by have := HJ1.out; have := HK2.out; omega⟩, ⟨by (with_reducible repeat (first | apply Kd.R_alloc | apply Kd.R_drewN | apply Kd.R_drew)); exact HO136.out⟩, ⟨by repeat (first | (with_reducible first | exact HB.out | apply below_alloc | apply pw_below_drewN | apply below_drew1) | exact HB.out)⟩⟩
       ·rw [if_neg c6] at H
        exact absurd H (by simp)
      ·rw [if_neg c5] at H
       have c5b0 : decide (128 ≤ x0_2) = false := decide_eq_false c5
       clear c5
       by_cases c8 : x3_2.length < 140737488355328
       ·rw [if_pos c8] at H
        have LMc8 := Aside0.mk c8
        clear c8
        obtain ⟨y137, hy137⟩ : ∃ y_ : List Int, y_ = (x3_2 ++ [(x0_2) % 256]) := ⟨_, rfl⟩
        replace H : (some (strOfNums y137)) = some r := by first | (rw [hy137]; with_reducible exact H) | (have H2_ := (Option.bind_some _ _).symm.trans H; rw [hy137]; with_reducible exact H2_) | (have H2_ := (Option.bind_some _ _).symm.trans H; with_reducible exact H2_) | with_reducible exact H | (rw [hy137]; exact H) | exact H
        have Ny137 := Aside0.mk hy137
        clear hy137
        obtain rfl := Option.some.inj H
        go_wp2_with (first | ((with_reducible refine gate_builtin (b := .append) (xs := #[.tmp 21, .tmp 24]) rfl ?_); at_builtin; refine Kd.R_append (Kd.int .u8) (w0 := w) w.heap.size rfl (.tmp 21) (.tmp 24) 62 5 (.int .u8 0) 1 rfl Tryd.underlying62 info5 rfl (by decide) (by omega) u3 x3_2 ((x0_2) % 256) [.int .u8 ((x0_2) % 256)] (fun _ => True) (fun _ => False) rfl rfl ?aP (fun _ hk => hk.elim) ?aF ?aO ?aB ?aS ?aL ?_; (case aP => exact rfl); (case aB => exact (by repeat (first | (with_reducible first | exact HB.out | apply below_alloc | apply pw_below_drewN | apply below_drew1) | exact HB.out))); (case aF => exact (fun _ _ => trivial)); (case aO => exact (by (with_reducible repeat (first | apply Kd.R_alloc | apply Kd.R_drewN | apply Kd.R_drew)); exact HO_3.out)); (case aS => exact (below_size (by repeat (first | (with_reducible first | exact HB.out | apply below_alloc | apply pw_below_drewN | apply below_drew1) | exact HB.out)))); (case aL => have := LMc8.out; omega); intro v138 w9 ho hb hg hat; rw [← Ny137.out] at ho; have n0_ := Aside0.mk (hb); have n1_ := Aside0.mk (ho); clear HB; clear HO_3; have HB := n0_; have HO139 := n1_; clear n0_ n1_; clear ho hb hg hat; have hcv10 := own_string (P := Tryd.prog) Tryd.underlying62 Tryd.underlying5 Tryd.underlying9 (Kd.own_of_R HO139.out)))
        go_ret
        exact ⟨by first | rfl | (simp [errW_none, errW_some] <;> rfl) | (simp [*, errW_none, errW_some] <;> rfl), by repeat (first | (with_reducible first | exact HB.out | apply below_alloc | apply pw_below_drewN | apply below_drew1) | exact HB.out)⟩
       ·rw [if_neg c8] at H
        exact absurd H (by simp)
end Go.Proofs.YtlekdhejgdfnpaaDoor.P
namespace Go.Proofs.YtlekdhejgdfnpaaDoor.P
open Go.RowKit Go.Proofs.YtlekdhejgdfnpaaDoorW.PrintWords Go.Proofs.YtlekdhejgdfnpaaDoorW.PrintLast Go.Proofs.YtlekdhejgdfnpaaDoorW.PrintMore
attribute [local go_sem] max2_int min2_int max_two min_two max_three min_three max_four min_four   -- for this text's walks alone

/-! ### wire_Int: function 33 -/
def wire_Int.j0 : Nat → Int → Bool → Option (ByteArray)
 | 0, _, _ => none
 | k + 1, x0, x8 => if x8 = true then (some (⟨#[]⟩ : ByteArray)) else (if x0 < 0 then ((wire_Num.f k (wrap64 ((wrap64 ((-2) * x0)) - 1))).bind fun t140 => (some t140)) else ((wire_Num.f k (wrap64 (2 * x0))).bind fun t141 => (some t141)))
def wire_Int.f (k : Nat) (a0 : Int) : Option (ByteArray) := if a0 < (-1125899906842624) then (wire_Int.j0 k a0 true) else (wire_Int.j0 k a0 (decide (a0 > 1125899906842624)))
set_option maxHeartbeats 8000000 in
set_option maxRecDepth 100000 in
theorem wire_Int.calls (k : Nat) (a0 : Int) (r : ByteArray) (w : World) (h : wire_Int.f k a0 = some r) :
 Calls Tryd.prog 33 #[.int .i64 a0] w fun e w' => e = .returned (.string r) ∧ Below w.heap.size w w' := by
 have HB := Aside0.mk (Below.refl w.heap.size w)
 have H : (if a0 < (-1125899906842624) then (wire_Int.j0 k a0 true) else (wire_Int.j0 k a0 (decide (a0 > 1125899906842624)))) = some r := h
 clear h
 have HC2 := Aside0.mk H
 clear H
 go_enter Tryd.func33, Tryd.ntmps33
 go_upto_region 1 with (fail)
 go_cut [8] (fun v8 wc => ∃ (kq : Nat) (x8_1 : Bool), v8 = .bool x8_1 ∧ Aside0 (wire_Int.j0 kq a0 x8_1 = some r) ∧ Aside0 (kq ≤ k) ∧ Aside0 (Below w.heap.size w wc))
 case first =>
  have H := HC2.out
  clear HC2
  by_cases c3 : a0 < (-1125899906842624)
  ·rw [if_pos c3] at H
   have c3b0 : decide (a0 < (-1125899906842624)) = true := decide_eq_true c3
   clear c3
   (first | rw [c3b0] | (simp only [i64_w, i32_w]; rw [c3b0]) | skip)
   have H' := Aside0.mk H
   clear H
   go_wp2
   go_meet
   case rel => exact ⟨_, (true), (by first | rfl | (simp; done) | (simp [*]; done)), H', ⟨by first | omega | exact Nat.le_refl _⟩, ⟨by repeat (first | (with_reducible first | exact HB.out | apply below_alloc | apply pw_below_drewN | apply below_drew1) | exact HB.out)⟩⟩
  ·rw [if_neg c3] at H
   have c3b0 : decide (a0 < (-1125899906842624)) = false := decide_eq_false c3
   clear c3
   (first | rw [c3b0] | (simp only [i64_w, i32_w]; rw [c3b0]) | skip)
   have H' := Aside0.mk H
   clear H
   go_wp2
   go_meet
   case rel => exact ⟨_, (decide (a0 > 1125899906842624)), (by first | rfl | (simp; done) | (simp [*]; done)), H', ⟨by first | omega | exact Nat.le_refl _⟩, ⟨by repeat (first | (with_reducible first | exact HB.out | apply below_alloc | apply pw_below_drewN | apply below_drew1) | exact HB.out)⟩⟩
 case rest =>
  clear HC2
  try clear p2
  try clear c3
  try clear c3b0
  obtain ⟨kq, x8_1, rfl, HA, HJ1, HB⟩ := hcut
  cases kq with
  | zero => exact absurd HA.out (by simp [wire_Int.j0])
  | succ kj1 =>
   have H := HA.out
   clear HA
   simp only [wire_Int.j0] at H
   by_cases c4 : x8_1 = true
   ·subst c4
    have H1 : (some (⟨#[]⟩ : ByteArray)) = some r := by rw [if_pos rfl] at H; exact H
    clear H
    have H := H1
    clear H1
    obtain rfl := Option.some.inj H
    go_wp2
    go_ret
    exact ⟨by first | rfl | (simp [errW_none, errW_some] <;> rfl) | (simp [*, errW_none, errW_some] <;> rfl), by repeat (first | (with_reducible first | exact HB.out | apply below_alloc | apply pw_below_drewN | apply below_drew1) | exact HB.out)⟩
   ·replace c4 := Bool.eq_false_iff.mpr c4
    subst c4
    have H1 : (if a0 < 0 then ((wire_Num.f kj1 (wrap64 ((wrap64 ((-2) * a0)) - 1))).bind fun t140 => (some t140)) else ((wire_Num.f kj1 (wrap64 (2 * a0))).bind fun t141 => (some t141))) = some r := by rw [if_neg (show ¬ (false = true) by decide)] at H; exact H
    clear H
    have H := H1
    clear H1
    by_cases c5 : a0 < 0
    ·rw [if_pos c5] at H
     have c5b0 : decide (a0 < 0) = true := decide_eq_true c5
     clear c5
     replace H := Option.bind_eq_some_iff.mp H
     obtain ⟨t140, A60, H⟩ := H
     replace H : (some t140) = some r := H
     have A6 := Aside0.mk A60
     clear A60
     obtain rfl := Option.some.inj H
     go_wp2_with (first | ((with_reducible refine gate_callee (f := 30) rfl ?_); refine goesL_ (some 14) rfl rfl Tryd.func30 (by kernel_rfl) rfl #[.int .i64 (wrap64 ((wrap64 ((-2) * a0)) - 1))] rfl (by (try simp only [List.map_toArray, List.map_cons, List.map_nil]); first | done | rfl | (simp only [List.length_drop, List.length_take]; rfl)) ?_; (with_reducible refine (wire_Num.calls kj1 (wrap64 ((wrap64 ((-2) * a0)) - 1)) t140 _ A6.out).mono ?_); rintro e w7 ⟨rfl, hb⟩; refine ⟨_, rfl, ?_⟩; have n0_ := Aside0.mk (below_step (by repeat (first | (with_reducible first | exact HB.out | apply below_alloc | apply pw_below_drewN | apply below_drew1) | exact HB.out)) hb); clear HB; have HB := n0_; clear n0_; (try clear hb); (try clear hb2); (try clear hk); (try clear hi)))
     go_ret
     exact ⟨by first | rfl | (simp [errW_none, errW_some] <;> rfl) | (simp [*, errW_none, errW_some] <;> rfl), by repeat (first | (with_reducible first | exact HB.out | apply below_alloc | apply pw_below_drewN | apply below_drew1) | exact HB.out)⟩
    ·rw [if_neg c5] at H
     have c5b0 : decide (a0 < 0) = false := decide_eq_false c5
     clear c5
     replace H := Option.bind_eq_some_iff.mp H
     obtain ⟨t141, A80, H⟩ := H
     replace H : (some t141) = some r := H
     have A8 := Aside0.mk A80
     clear A80
     obtain rfl := Option.some.inj H
     go_wp2_with (first | ((with_reducible refine gate_callee (f := 30) rfl ?_); refine goesL_ (some 17) rfl rfl Tryd.func30 (by kernel_rfl) rfl #[.int .i64 (wrap64 (2 * a0))] rfl (by (try simp only [List.map_toArray, List.map_cons, List.map_nil]); first | done | rfl | (simp only [List.length_drop, List.length_take]; rfl)) ?_; (with_reducible refine (wire_Num.calls kj1 (wrap64 (2 * a0)) t141 _ A8.out).mono ?_); rintro e w9 ⟨rfl, hb⟩; refine ⟨_, rfl, ?_⟩; have n0_ := Aside0.mk (below_step (by repeat (first | (with_reducible first | exact HB.out | apply below_alloc | apply pw_below_drewN | apply below_drew1) | exact HB.out)) hb); clear HB; have HB := n0_; clear n0_; (try clear hb); (try clear hb2); (try clear hk); (try clear hi)))
     go_ret
     exact ⟨by first | rfl | (simp [errW_none, errW_some] <;> rfl) | (simp [*, errW_none, errW_some] <;> rfl), by repeat (first | (with_reducible first | exact HB.out | apply below_alloc | apply pw_below_drewN | apply below_drew1) | exact HB.out)⟩


/-! ### greenwoodref23_few: function 27 -/
def greenwoodref23_few.l0 : Nat → List Int → Int → Option (Bool)
 | 0, _, _ => none
 | k + 1, x0, x3 => if x3 < (x0.length : Int) then (if 0 ≤ x3 then (if (rd x0 x3) < (-562949953421312) then (some false) else (if (rd x0 x3) > 562949953421312 then (some false) else (greenwoodref23_few.l0 k x0 (wrap64 (x3 + 1))))) else (none)) else (some (decide ((x0.length : Int) ≤ 64)))
def greenwoodref23_few.f (k : Nat) (l0 : List Int) : Option (Bool) := greenwoodref23_few.l0 k l0 0
set_option maxHeartbeats 8000000 in
set_option maxRecDepth 100000 in
theorem greenwoodref23_few.calls (k : Nat) (A0 : Option Addr) (c0 : Nat) (l0 : List Int) (r : Bool) (w : World) (hr0 : Kd.C (Kd.int .i64) w A0 l0.length l0) (hc0 : l0.length ≤ c0) (h : greenwoodref23_few.f k l0 = some r) :
 Calls Tryd.prog 27 #[.slice A0 l0.length c0] w fun e w' => e = .returned (.bool r) ∧ Drawn0 w w' := by
 have HR0 := Aside0.mk hr0
 have HC0 := Aside0.mk hc0
 clear hr0 hc0
 have H : (greenwoodref23_few.l0 k l0 0) = some r := h
 clear h
 have H' := Aside0.mk H
 clear H
 go_enter Tryd.func27, Tryd.ntmps27
 go_wp2
 go_loopg [3] k (fun kq v3 w' => ∃ (x3_1 : Int), v3 = .int .i64 x3_1 ∧ Aside0 (greenwoodref23_few.l0 kq l0 x3_1 = some r) ∧ Aside0 (kq ≤ k) ∧ Drawn0 w w')
 case atStart => exact ⟨(0), (by first | rfl | (simp; done) | (simp [*]; done)), H', ⟨Nat.le_refl _⟩, by repeat (first | exact Drawn0.refl _ | apply Drawn0.step)⟩
 case round =>
  clear H'
  obtain ⟨x3_1, rfl, HA, HK1, ⟨m1, rfl⟩⟩ := hrel
  cases gk with
  | zero => exact absurd HA.out (by simp [greenwoodref23_few.l0])
  | succ k1 =>
   have H := HA.out
   clear HA
   simp only [greenwoodref23_few.l0] at H
   by_cases c2 : x3_1 < (l0.length : Int)
   ·rw [if_pos c2] at H
    have c2b0 : decide (x3_1 < (l0.length : Int)) = true := decide_eq_true c2
    clear c2
    by_cases c3 : 0 ≤ x3_1
    ·rw [if_pos c3] at H
     have c3b0 : decide (0 ≤ x3_1) = true := decide_eq_true c3
     clear c3
     by_cases c4 : (rd l0 x3_1) < (-562949953421312)
     ·rw [if_pos c4] at H
      have c4b0 : decide ((rd l0 x3_1) < (-562949953421312)) = true := decide_eq_true c4
      clear c4
      obtain rfl := Option.some.inj H
      have p142 : 0 ≤ (x3_1 : Int) := of_decide_eq_true (by first | (with_reducible assumption) | assumption)
      have q142 : x3_1 < (l0.length : Int) := of_decide_eq_true (by first | (with_reducible assumption) | assumption)
      obtain ⟨ad142, e142, hx142_0⟩ := Kd.at_int HR0.out x3_1 p142 q142
      cases e142
      replace p142 := eq_true p142
      replace q142 := eq_true q142
      go_wp2
      go_ret
      exact ⟨by first | rfl | (simp; done) | (simp [*]; done), by repeat (first | exact Drawn0.refl _ | apply Drawn0.step)⟩
     ·rw [if_neg c4] at H
      have c4b0 : decide ((rd l0 x3_1) < (-562949953421312)) = false := decide_eq_false c4
      clear c4
      by_cases c5 : (rd l0 x3_1) > 562949953421312
      ·rw [if_pos c5] at H
       have c5b0 : decide (562949953421312 < (rd l0 x3_1)) = true := decide_eq_true c5
       clear c5
       obtain rfl := Option.some.inj H
       have p142 : 0 ≤ (x3_1 : Int) := of_decide_eq_true (by first | (with_reducible assumption) | assumption)
       have q142 : x3_1 < (l0.length : Int) := of_decide_eq_true (by first | (with_reducible assumption) | assumption)
       obtain ⟨ad142, e142, hx142_0⟩ := Kd.at_int HR0.out x3_1 p142 q142
       cases e142
       replace p142 := eq_true p142
       replace q142 := eq_true q142
       have p143 : 0 ≤ (x3_1 : Int) := of_decide_eq_true (by first | (with_reducible assumption) | assumption)
       have q143 : x3_1 < (l0.length : Int) := of_decide_eq_true (by first | (with_reducible assumption) | assumption)
       obtain ⟨ad143, e143, hx143_0⟩ := Kd.at_int HR0.out x3_1 p143 q143
       obtain rfl : ad142 = ad143 := (by injection e143)
       replace p143 := eq_true p143
       replace q143 := eq_true q143
       go_wp2
       go_ret
       exact ⟨by first | rfl | (simp; done) | (simp [*]; done), by repeat (first | exact Drawn0.refl _ | apply Drawn0.step)⟩
      ·rw [if_neg c5] at H
       have c5b0 : decide (562949953421312 < (rd l0 x3_1)) = false := decide_eq_false c5
       clear c5
       have H' := Aside0.mk H
       clear H
       have p142 : 0 ≤ (x3_1 : Int) := of_decide_eq_true (by first | (with_reducible assumption) | assumption)
       have q142 : x3_1 < (l0.length : Int) := of_decide_eq_true (by first | (with_reducible assumption) | assumption)
       obtain ⟨ad142, e142, hx142_0⟩ := Kd.at_int HR0.out x3_1 p142 q142
       cases e142
       replace p142 := eq_true p142
       replace q142 := eq_true q142
       have p143 : 0 ≤ (x3_1 : Int) := of_decide_eq_true (by first | (with_reducible assumption) | assumption)
       have q143 : x3_1 < (l0.length : Int) := of_decide_eq_true (by first | (with_reducible assumption) | assumption)
       obtain ⟨ad143, e143, hx143_0⟩ := Kd.at_int HR0.out x3_1 p143 q143
       obtain rfl : ad142 = ad143 := (by injection e143)
       replace p143 := eq_true p143
       replace q143 := eq_true q143
       go_wp2
       go_roundg k1
       case measure => have := HK1.out; omega
       case rel => exact ⟨(wrap64 (x3_1 + 1)), (by first | rfl | (simp; done) | (simp [*]; done)), H', ⟨by have := HK1.out; omega⟩, by repeat (first | exact Drawn0.refl _ | apply Drawn0.step)⟩
    ·rw [if_neg c3] at H
     exact absurd H (by simp)
   ·rw [if_neg c2] at H
    have c2b0 : decide (x3_1 < (l0.length : Int)) = false := decide_eq_false c2
    clear c2
    obtain rfl := Option.some.inj H
    go_wp2
    go_ret
    exact ⟨by first | rfl | (simp; done) | (simp [*]; done), by repeat (first | exact Drawn0.refl _ | apply Drawn0.step)⟩

end Go.Proofs.YtlekdhejgdfnpaaDoor.P
namespace Go.Proofs.YtlekdhejgdfnpaaDoor.P
open Go.RowKit Go.Proofs.YtlekdhejgdfnpaaDoorW.PrintWords Go.Proofs.YtlekdhejgdfnpaaDoorW.PrintLast Go.Proofs.YtlekdhejgdfnpaaDoorW.PrintMore
attribute [local go_sem] max2_int min2_int max_two min_two max_three min_three max_four min_four   -- for this text's walks alone

/-! ### greenwoodref01_Num: function 35 -/
mutual
def greenwoodref01_Num.j0 : Nat → Int → Bool → Option (ByteArray)
 | 0, _, _ => none
 | k + 1, x0, x9 => if x9 = true then (some (⟨#[]⟩ : ByteArray)) else (greenwoodref01_Num.l0 k x0 (⟨#[]⟩ : ByteArray))
def greenwoodref01_Num.l0 : Nat → Int → ByteArray → Option (ByteArray)
 | 0, _, _ => none
 | k + 1, x0, x3 => if x0 ≥ 128 then ((some (([(wrap64 ((Int.tmod x0 128) + 128)) % 256] : List Int) : List Int)).bind fun y162 => (if x3.size + (strOfNums y162).size ≤ 9223372036854775807 then (greenwoodref01_Num.l0 k (wrap64 (Int.tdiv x0 128)) (x3 ++ (strOfNums y162))) else (none))) else ((some (([(x0) % 256] : List Int) : List Int)).bind fun y165 => (if x3.size + (strOfNums y165).size ≤ 9223372036854775807 then (some (x3 ++ (strOfNums y165))) else (none)))
end
def greenwoodref01_Num.f (k : Nat) (a0 : Int) : Option (ByteArray) := if a0 < 0 then (greenwoodref01_Num.j0 k a0 true) else (greenwoodref01_Num.j0 k a0 (decide (a0 > 1125899906842624)))
set_option maxHeartbeats 8000000 in
set_option maxRecDepth 100000 in
theorem greenwoodref01_Num.calls (k : Nat) (a0 : Int) (r : ByteArray) (w : World) (h : greenwoodref01_Num.f k a0 = some r) :
 Calls Tryd.prog 35 #[.int .i64 a0] w fun e w' => e = .returned (.string r) ∧ Below w.heap.size w w' := by
 have HB := Aside0.mk (Below.refl w.heap.size w)
 have H : (if a0 < 0 then (greenwoodref01_Num.j0 k a0 true) else (greenwoodref01_Num.j0 k a0 (decide (a0 > 1125899906842624)))) = some r := h
 clear h
 have HC2 := Aside0.mk H
 clear H
 go_enter Tryd.func35, Tryd.ntmps35
 go_upto_region 1 with (fail)
 go_cut [9] (fun v9 wc => ∃ (kq : Nat) (x9_1 : Bool), v9 = .bool x9_1 ∧ Aside0 (greenwoodref01_Num.j0 kq a0 x9_1 = some r) ∧ Aside0 (kq ≤ k) ∧ Aside0 (Below w.heap.size w wc))
 case first =>
  have H := HC2.out
  clear HC2
  by_cases c3 : a0 < 0
  ·rw [if_pos c3] at H
   have c3b0 : decide (a0 < 0) = true := decide_eq_true c3
   clear c3
   (first | rw [c3b0] | (simp only [i64_w, i32_w]; rw [c3b0]) | skip)
   have H' := Aside0.mk H
   clear H
   go_wp2
   go_meet
   case rel => exact ⟨_, (true), (by first | rfl | (simp; done) | (simp [*]; done)), H', ⟨by first | omega | exact Nat.le_refl _⟩, ⟨by repeat (first | (with_reducible first | exact HB.out | apply below_alloc | apply pw_below_drewN | apply below_drew1) | exact HB.out)⟩⟩
  ·rw [if_neg c3] at H
   have c3b0 : decide (a0 < 0) = false := decide_eq_false c3
   clear c3
   (first | rw [c3b0] | (simp only [i64_w, i32_w]; rw [c3b0]) | skip)
   have H' := Aside0.mk H
   clear H
   go_wp2
   go_meet
   case rel => exact ⟨_, (decide (a0 > 1125899906842624)), (by first | rfl | (simp; done) | (simp [*]; done)), H', ⟨by first | omega | exact Nat.le_refl _⟩, ⟨by repeat (first | (with_reducible first | exact HB.out | apply below_alloc | apply pw_below_drewN | apply below_drew1) | exact HB.out)⟩⟩
 case rest =>
  clear HC2
  try clear p2
  try clear c3
  try clear c3b0
  obtain ⟨kq, x9_1, rfl, HA, HJ1, HB⟩ := hcut
  cases kq with
  | zero => exact absurd HA.out (by simp [greenwoodref01_Num.j0])
  | succ kj1 =>
   have H := HA.out
   clear HA
   simp only [greenwoodref01_Num.j0] at H
   by_cases c4 : x9_1 = true
   ·subst c4
    have H1 : (some (⟨#[]⟩ : ByteArray)) = some r := by rw [if_pos rfl] at H; exact H
    clear H
    have H := H1
    clear H1
    obtain rfl := Option.some.inj H
    go_wp2
    go_ret
    exact ⟨by first | rfl | (simp [errW_none, errW_some] <;> rfl) | (simp [*, errW_none, errW_some] <;> rfl), by repeat (first | (with_reducible first | exact HB.out | apply below_alloc | apply pw_below_drewN | apply below_drew1) | exact HB.out)⟩
   ·replace c4 := Bool.eq_false_iff.mpr c4
    subst c4
    have H1 : (greenwoodref01_Num.l0 kj1 a0 (⟨#[]⟩ : ByteArray)) = some r := by rw [if_neg (show ¬ (false = true) by decide)] at H; exact H
    clear H
    have H := H1
    clear H1
    have H' := Aside0.mk H
    clear H
    go_wp2
    go_loopg [0, 3] kj1 (fun kq v0 v3 w' => ∃ (x0_2 : Int) (x3_2 : ByteArray), v0 = .int .i64 x0_2 ∧ v3 = .string x3_2 ∧ Aside0 (greenwoodref01_Num.l0 kq x0_2 x3_2 = some r) ∧ Aside0 (kq ≤ kj1) ∧ Aside0 (Below w.heap.size w w'))
    case atStart => exact ⟨(a0), ((⟨#[]⟩ : ByteArray)), (by first | rfl | (simp; done) | (simp [*]; done)), (by first | rfl | (simp; done) | (simp [*]; done)), H', ⟨Nat.le_refl _⟩, ⟨by repeat (first | (with_reducible first | exact HB.out | apply below_alloc | apply pw_below_drewN | apply below_drew1) | exact HB.out)⟩⟩
    case round =>
     clear H'
     try clear p2
     try clear c3
     try clear c3b0
     try clear c4
     try clear p2
     obtain ⟨x0_2, x3_2, rfl, rfl, HA, HK2, HB⟩ := hrel
     cases gk with
     | zero => exact absurd HA.out (by simp [greenwoodref01_Num.l0])
     | succ k2 =>
      have H := HA.out
      clear HA
      simp only [greenwoodref01_Num.l0] at H
      by_cases c5 : x0_2 ≥ 128
      ·rw [if_pos c5] at H
       have c5b0 : decide (128 ≤ x0_2) = true := decide_eq_true c5
       clear c5
       obtain ⟨y162, hy162⟩ : ∃ y_ : List Int, y_ = (([(wrap64 ((Int.tmod x0_2 128) + 128)) % 256] : List Int)) := ⟨_, rfl⟩
       replace H : (if x3_2.size + (strOfNums y162).size ≤ 9223372036854775807 then (greenwoodref01_Num.l0 k2 (wrap64 (Int.tdiv x0_2 128)) (x3_2 ++ (strOfNums y162))) else (none)) = some r := by first | (rw [hy162]; with_reducible exact H) | (have H2_ := (Option.bind_some _ _).symm.trans H; rw [hy162]; with_reducible exact H2_) | (have H2_ := (Option.bind_some _ _).symm.trans H; with_reducible exact H2_) | with_reducible exact H | (rw [hy162]; exact H) | exact H
       have Ny162 := Aside0.mk hy162
       clear hy162
       by_cases c6 : x3_2.size + (strOfNums y162).size ≤ 9223372036854775807
       ·rw [if_pos c6] at H
        have c6b0 := eq_true c6
        have c6b1 : decide (x3_2.size + (strOfNums y162).size ≤ 9223372036854775807) = true := decide_eq_true c6
        try have c6b2 : (9223372036854775807 < x3_2.size + (strOfNums y162).size) = False := eq_false (Nat.not_lt.2 c6)
        have H' := Aside0.mk H
        clear H
        go_wp2_with (first | ((with_reducible refine gate_dst (N := 17) rfl ?_); refine Kd.R_lit (Kd.int .u8) _ 5 ?hg (N := 17) ?hd (xs := ([(wrap64 ((Int.tmod x0_2 128) + 128)) % 256] : List Int)) (inner := [.int .u8 ((wrap64 ((Int.tmod x0_2 128) + 128)) % 256)]) (ok := fun _ => True) (okp := fun _ => True) ?hr ?hp (fun _ hk => hk) trivial (Below.refl _ _) (Nat.le_refl _) (by simp) ?_; (case hd => rfl); (case hg => rfl); (case hr => first | (go_simp; done) | (go_simp; rfl)); (case hp => exact (Reps.one (show Kd.M (Kd.int .u8) _ _ _ ((wrap64 ((Int.tmod x0_2 128) + 128)) % 256) [.int .u8 ((wrap64 ((Int.tmod x0_2 128) + 128)) % 256)] from rfl) (Reps.none _ _))); intro v163 w7 ho8 hb hg_ hnew_; clear hg_ hnew_; (first | rw [← Ny162.out] at ho8 | (simp only [Int.reduceToNat] at ho8; rw [← Ny162.out] at ho8)); have n0_ := Aside0.mk (Kd.R_lower ho8 (below_size (by repeat (first | (with_reducible first | exact HB.out | apply below_alloc | apply pw_below_drewN | apply below_drew1) | exact HB.out)))); have n1_ := Aside0.mk (below_step (by repeat (first | (with_reducible first | exact HB.out | apply below_alloc | apply pw_below_drewN | apply below_drew1) | exact HB.out)) hb); clear HB; have HO164 := n0_; have HB := n1_; clear n0_ n1_; clear hb ho8; have hcv9 := own_string (P := Tryd.prog) Tryd.underlying62 Tryd.underlying5 Tryd.underlying9 (Kd.own_of_R HO164.out)))
        go_roundg k2
        case measure => have := HJ1.out; have := HK2.out; omega
        case rel => exact ⟨(wrap64 (Int.tdiv x0_2 128)), (x3_2 ++ (strOfNums y162)), (by first | rfl | (simp; done) | (simp [*]; done)), (by first | rfl | (simp; done) | (simp [*]; done)), H', ⟨by have := HJ1.out; have := HK2.out; omega⟩, ⟨by repeat (first | (with_reducible first | exact HB.out | apply below_alloc | apply pw_below_drewN | apply below_drew1) | exact HB.out)⟩⟩
       ·rw [if_neg c6] at H
        exact absurd H (by simp)
      ·rw [if_neg c5] at H
       have c5b0 : decide (128 ≤ x0_2) = false := decide_eq_false c5
       clear c5
       obtain ⟨y165, hy165⟩ : ∃ y_ : List Int, y_ = (([(x0_2) % 256] : List Int)) := ⟨_, rfl⟩
       replace H : (if x3_2.size + (strOfNums y165).size ≤ 9223372036854775807 then (some (x3_2 ++ (strOfNums y165))) else (none)) = some r := by first | (rw [hy165]; with_reducible exact H) | (have H2_ := (Option.bind_some _ _).symm.trans H; rw [hy165]; with_reducible exact H2_) | (have H2_ := (Option.bind_some _ _).symm.trans H; with_reducible exact H2_) | with_reducible exact H | (rw [hy165]; exact H) | exact H
       have Ny165 := Aside0.mk hy165
       clear hy165
       by_cases c10 : x3_2.size + (strOfNums y165).size ≤ 9223372036854775807
       ·rw [if_pos c10] at H
        have c10b0 := eq_true c10
        have c10b1 : decide (x3_2.size + (strOfNums y165).size ≤ 9223372036854775807) = true := decide_eq_true c10
        try have c10b2 : (9223372036854775807 < x3_2.size + (strOfNums y165).size) = False := eq_false (Nat.not_lt.2 c10)
        obtain rfl := Option.some.inj H
        go_wp2_with (first | ((with_reducible refine gate_dst (N := 25) rfl ?_); refine Kd.R_lit (Kd.int .u8) _ 5 ?hg (N := 25) ?hd (xs := ([(x0_2) % 256] : List Int)) (inner := [.int .u8 ((x0_2) % 256)]) (ok := fun _ => True) (okp := fun _ => True) ?hr ?hp (fun _ hk => hk) trivial (Below.refl _ _) (Nat.le_refl _) (by simp) ?_; (case hd => rfl); (case hg => rfl); (case hr => first | (go_simp; done) | (go_simp; rfl)); (case hp => exact (Reps.one (show Kd.M (Kd.int .u8) _ _ _ ((x0_2) % 256) [.int .u8 ((x0_2) % 256)] from rfl) (Reps.none _ _))); intro v166 w11 ho12 hb hg_ hnew_; clear hg_ hnew_; (first | rw [← Ny165.out] at ho12 | (simp only [Int.reduceToNat] at ho12; rw [← Ny165.out] at ho12)); have n0_ := Aside0.mk (Kd.R_lower ho12 (below_size (by repeat (first | (with_reducible first | exact HB.out | apply below_alloc | apply pw_below_drewN | apply below_drew1) | exact HB.out)))); have n1_ := Aside0.mk (below_step (by repeat (first | (with_reducible first | exact HB.out | apply below_alloc | apply pw_below_drewN | apply below_drew1) | exact HB.out)) hb); clear HB; have HO167 := n0_; have HB := n1_; clear n0_ n1_; clear hb ho12; have hcv13 := own_string (P := Tryd.prog) Tryd.underlying62 Tryd.underlying5 Tryd.underlying9 (Kd.own_of_R HO167.out)))
        go_ret
        exact ⟨by first | rfl | (simp [errW_none, errW_some] <;> rfl) | (simp [*, errW_none, errW_some] <;> rfl), by repeat (first | (with_reducible first | exact HB.out | apply below_alloc | apply pw_below_drewN | apply below_drew1) | exact HB.out)⟩
       ·rw [if_neg c10] at H
        exact absurd H (by simp)

/-! ### greenwoodref01_Int: function 37 -/
def greenwoodref01_Int.j0 : Nat → Int → Bool → Option (ByteArray)
 | 0, _, _ => none
 | k + 1, x0, x8 => if x8 = true then (some (⟨#[]⟩ : ByteArray)) else (if x0 < 0 then ((greenwoodref01_Num.f k (wrap64 ((wrap64 ((-2) * x0)) - 1))).bind fun t168 => (some t168)) else ((greenwoodref01_Num.f k (wrap64 (2 * x0))).bind fun t169 => (some t169)))
def greenwoodref01_Int.f (k : Nat) (a0 : Int) : Option (ByteArray) := if a0 < (-1125899906842624) then (greenwoodref01_Int.j0 k a0 true) else (greenwoodref01_Int.j0 k a0 (decide (a0 > 1125899906842624)))
set_option maxHeartbeats 8000000 in
set_option maxRecDepth 100000 in
theorem greenwoodref01_Int.calls (k : Nat) (a0 : Int) (r : ByteArray) (w : World) (h : greenwoodref01_Int.f k a0 = some r) :
 Calls Tryd.prog 37 #[.int .i64 a0] w fun e w' => e = .returned (.string r) ∧ Below w.heap.size w w' := by
 have HB := Aside0.mk (Below.refl w.heap.size w)
 have H : (if a0 < (-1125899906842624) then (greenwoodref01_Int.j0 k a0 true) else (greenwoodref01_Int.j0 k a0 (decide (a0 > 1125899906842624)))) = some r := h
 clear h
 have HC2 := Aside0.mk H
 clear H
 go_enter Tryd.func37, Tryd.ntmps37
 go_upto_region 1 with (fail)
 go_cut [8] (fun v8 wc => ∃ (kq : Nat) (x8_1 : Bool), v8 = .bool x8_1 ∧ Aside0 (greenwoodref01_Int.j0 kq a0 x8_1 = some r) ∧ Aside0 (kq ≤ k) ∧ Aside0 (Below w.heap.size w wc))
 case first =>
  have H := HC2.out
  clear HC2
  by_cases c3 : a0 < (-1125899906842624)
  ·rw [if_pos c3] at H
   have c3b0 : decide (a0 < (-1125899906842624)) = true := decide_eq_true c3
   clear c3
   (first | rw [c3b0] | (simp only [i64_w, i32_w]; rw [c3b0]) | skip)
   have H' := Aside0.mk H
   clear H
   go_wp2
   go_meet
   case rel => exact ⟨_, (true), (by first | rfl | (simp; done) | (simp [*]; done)), H', ⟨by first | omega | exact Nat.le_refl _⟩, ⟨by repeat (first | (with_reducible first | exact HB.out | apply below_alloc | apply pw_below_drewN | apply below_drew1) | exact HB.out)⟩⟩
  ·rw [if_neg c3] at H
   have c3b0 : decide (a0 < (-1125899906842624)) = false := decide_eq_false c3
   clear c3
   (first | rw [c3b0] | (simp only [i64_w, i32_w]; rw [c3b0]) | skip)
   have H' := Aside0.mk H
   clear H
   go_wp2
   go_meet
   case rel => exact ⟨_, (decide (a0 > 1125899906842624)), (by first | rfl | (simp; done) | (simp [*]; done)), H', ⟨by first | omega | exact Nat.le_refl _⟩, ⟨by repeat (first | (with_reducible first | exact HB.out | apply below_alloc | apply pw_below_drewN | apply below_drew1) | exact HB.out)⟩⟩
 case rest =>
  clear HC2
  try clear p2
  try clear c3
  try clear c3b0
  obtain ⟨kq, x8_1, rfl, HA, HJ1, HB⟩ := hcut
  cases kq with
  | zero => exact absurd HA.out (by simp [greenwoodref01_Int.j0])
  | succ kj1 =>
   have H := HA.out
   clear HA
   simp only [greenwoodref01_Int.j0] at H
   by_cases c4 : x8_1 = true
   ·subst c4
    have H1 : (some (⟨#[]⟩ : ByteArray)) = some r := by rw [if_pos rfl] at H; exact H
    clear H
    have H := H1
    clear H1
    obtain rfl := Option.some.inj H
    go_wp2
    go_ret
    exact ⟨by first | rfl | (simp [errW_none, errW_some] <;> rfl) | (simp [*, errW_none, errW_some] <;> rfl), by repeat (first | (with_reducible first | exact HB.out | apply below_alloc | apply pw_below_drewN | apply below_drew1) | exact HB.out)⟩
   ·replace c4 := Bool.eq_false_iff.mpr c4
    subst c4
    have H1 : (if a0 < 0 then ((greenwoodref01_Num.f kj1 (wrap64 ((wrap64 ((-2) * a0)) - 1))).bind fun t168 => (some t168)) else ((greenwoodref01_Num.f kj1 (wrap64 (2 * a0))).bind fun t169 => (some t169))) = some r := by rw [if_neg (show ¬ (false = true) by decide)] at H; exact H
    clear H
    have H := H1
    clear H1
    by_cases c5 : a0 < 0
    ·rw [if_pos c5] at H
     have c5b0 : decide (a0 < 0) = true := decide_eq_true c5
     clear c5
     replace H := Option.bind_eq_some_iff.mp H
     obtain ⟨t168, A60, H⟩ := H
     replace H : (some t168) = some r := H
     have A6 := Aside0.mk A60
     clear A60
     obtain rfl := Option.some.inj H
     go_wp2_with (first | ((with_reducible refine gate_callee (f := 35) rfl ?_); refine goesL_ (some 14) rfl rfl Tryd.func35 (by kernel_rfl) rfl #[.int .i64 (wrap64 ((wrap64 ((-2) * a0)) - 1))] rfl (by (try simp only [List.map_toArray, List.map_cons, List.map_nil]); first | done | rfl | (simp only [List.length_drop, List.length_take]; rfl)) ?_; (with_reducible refine (greenwoodref01_Num.calls kj1 (wrap64 ((wrap64 ((-2) * a0)) - 1)) t168 _ A6.out).mono ?_); rintro e w7 ⟨rfl, hb⟩; refine ⟨_, rfl, ?_⟩; have n0_ := Aside0.mk (below_step (by repeat (first | (with_reducible first | exact HB.out | apply below_alloc | apply pw_below_drewN | apply below_drew1) | exact HB.out)) hb); clear HB; have HB := n0_; clear n0_; (try clear hb); (try clear hb2); (try clear hk); (try clear hi)))
     go_ret
     exact ⟨by first | rfl | (simp [errW_none, errW_some] <;> rfl) | (simp [*, errW_none, errW_some] <;> rfl), by repeat (first | (with_reducible first | exact HB.out | apply below_alloc | apply pw_below_drewN | apply below_drew1) | exact HB.out)⟩
    ·rw [if_neg c5] at H
     have c5b0 : decide (a0 < 0) = false := decide_eq_false c5
     clear c5
     replace H := Option.bind_eq_some_iff.mp H
     obtain ⟨t169, A80, H⟩ := H
     replace H : (some t169) = some r := H
     have A8 := Aside0.mk A80
     clear A80
     obtain rfl := Option.some.inj H
     go_wp2_with (first | ((with_reducible refine gate_callee (f := 35) rfl ?_); refine goesL_ (some 17) rfl rfl Tryd.func35 (by kernel_rfl) rfl #[.int .i64 (wrap64 (2 * a0))] rfl (by (try simp only [List.map_toArray, List.map_cons, List.map_nil]); first | done | rfl | (simp only [List.length_drop, List.length_take]; rfl)) ?_; (with_reducible refine (greenwoodref01_Num.calls kj1 (wrap64 (2 * a0)) t169 _ A8.out).mono ?_); rintro e w9 ⟨rfl, hb⟩; refine ⟨_, rfl, ?_⟩; have n0_ := Aside0.mk (below_step (by repeat (first | (with_reducible first | exact HB.out | apply below_alloc | apply pw_below_drewN | apply below_drew1) | exact HB.out)) hb); clear HB; have HB := n0_; clear n0_; (try clear hb); (try clear hb2); (try clear hk); (try clear hi)))
     go_ret
     exact ⟨by first | rfl | (simp [errW_none, errW_some] <;> rfl) | (simp [*, errW_none, errW_some] <;> rfl), by repeat (first | (with_reducible first | exact HB.out | apply below_alloc | apply pw_below_drewN | apply below_drew1) | exact HB.out)⟩

/-! ### greenwoodref01_Ints: function 36 -/
def greenwoodref01_Ints.l0 : Nat → List Int → ByteArray → Int → Option (ByteArray)
 | 0, _, _, _ => none
 | k + 1, x0, x3, x4 => if x4 < (x0.length : Int) then (if 0 ≤ x4 then ((greenwoodref01_Int.f k (rd x0 x4)).bind fun t172 => (if t172.toList = ([] : List UInt8) then (some (⟨#[]⟩ : ByteArray)) else (if x3.size + t172.size ≤ 9223372036854775807 then (greenwoodref01_Ints.l0 k x0 (x3 ++ t172) (wrap64 (x4 + 1))) else (none)))) else (none)) else (some x3)
def greenwoodref01_Ints.f (k : Nat) (l0 : List Int) : Option (ByteArray) := (greenwoodref01_Num.f k (l0.length : Int)).bind fun t170 => (greenwoodref01_Ints.l0 k l0 t170 0)
set_option maxHeartbeats 8000000 in
set_option maxRecDepth 100000 in
theorem greenwoodref01_Ints.calls (k : Nat) (A0 : Option Addr) (c0 : Nat) (l0 : List Int) (r : ByteArray) (w : World) (hr0 : Kd.C (Kd.int .i64) w A0 l0.length l0) (hc0 : l0.length ≤ c0) (h : greenwoodref01_Ints.f k l0 = some r) :
 Calls Tryd.prog 36 #[.slice A0 l0.length c0] w fun e w' => e = .returned (.string r) ∧ Below w.heap.size w w' := by
 have HR0 := Aside0.mk hr0
 have HC0 := Aside0.mk hc0
 clear hr0 hc0
 have HB := Aside0.mk (Below.refl w.heap.size w)
 have H : ((greenwoodref01_Num.f k (l0.length : Int)).bind fun t170 => (greenwoodref01_Ints.l0 k l0 t170 0)) = some r := h
 clear h
 replace H := Option.bind_eq_some_iff.mp H
 obtain ⟨t170, A20, H⟩ := H
 replace H : (greenwoodref01_Ints.l0 k l0 t170 0) = some r := H
 have A2 := Aside0.mk A20
 clear A20
 have H' := Aside0.mk H
 clear H
 go_enter Tryd.func36, Tryd.ntmps36
 go_wp2_with (first | ((with_reducible refine gate_callee (f := 35) rfl ?_); refine goesL_ (some 8) rfl rfl Tryd.func35 (by kernel_rfl) rfl #[.int .i64 (l0.length : Int)] rfl (by (try simp only [List.map_toArray, List.map_cons, List.map_nil]); first | done | rfl | (simp only [List.length_drop, List.length_take]; rfl)) ?_; (with_reducible refine (greenwoodref01_Num.calls k (l0.length : Int) t170 _ A2.out).mono ?_); rintro e w3 ⟨rfl, hb⟩; refine ⟨_, rfl, ?_⟩; have n0_ := Aside0.mk (below_step (by repeat (first | (with_reducible first | exact HB.out | apply below_alloc | apply pw_below_drewN | apply below_drew1) | exact HB.out)) hb); clear HB; have HB := n0_; clear n0_; (try clear hb); (try clear hb2); (try clear hk); (try clear hi)))
 go_loopg [3, 4] k (fun kq v3 v4 w' => ∃ (x3_1 : ByteArray) (x4_1 : Int), v3 = .string x3_1 ∧ v4 = .int .i64 x4_1 ∧ Aside0 (greenwoodref01_Ints.l0 kq l0 x3_1 x4_1 = some r) ∧ Aside0 (kq ≤ k) ∧ Aside0 (Below w.heap.size w w'))
 case atStart => exact ⟨(t170), (0), (by first | rfl | (simp; done) | (simp [*]; done)), (by first | rfl | (simp; done) | (simp [*]; done)), H', ⟨Nat.le_refl _⟩, ⟨by repeat (first | (with_reducible first | exact HB.out | apply below_alloc | apply pw_below_drewN | apply below_drew1) | exact HB.out)⟩⟩
 case round =>
  clear H'
  try clear p2
  try clear c3
  obtain ⟨x3_1, x4_1, rfl, rfl, HA, HK1, HB⟩ := hrel
  cases gk with
  | zero => exact absurd HA.out (by simp [greenwoodref01_Ints.l0])
  | succ k1 =>
   have H := HA.out
   clear HA
   simp only [greenwoodref01_Ints.l0] at H
   by_cases c4 : x4_1 < (l0.length : Int)
   ·rw [if_pos c4] at H
    have c4b0 : decide (x4_1 < (l0.length : Int)) = true := decide_eq_true c4
    clear c4
    by_cases c5 : 0 ≤ x4_1
    ·rw [if_pos c5] at H
     have c5b0 : decide (0 ≤ x4_1) = true := decide_eq_true c5
     clear c5
     replace H := Option.bind_eq_some_iff.mp H
     obtain ⟨t172, A60, H⟩ := H
     replace H : (if t172.toList = ([] : List UInt8) then (some (⟨#[]⟩ : ByteArray)) else (if x3_1.size + t172.size ≤ 9223372036854775807 then (greenwoodref01_Ints.l0 k1 l0 (x3_1 ++ t172) (wrap64 (x4_1 + 1))) else (none))) = some r := H
     have A6 := Aside0.mk A60
     clear A60
     by_cases c7 : t172.toList = ([] : List UInt8)
     ·rw [if_pos c7] at H
      have c7b0 : (t172.toList == ([] : List UInt8)) = true := beq_iff_eq.mpr c7
      have c7b1 : (t172.toList != ([] : List UInt8)) = false := bne_eq_false_iff_eq.mpr c7
      clear c7
      obtain rfl := Option.some.inj H
      have p171 : 0 ≤ (x4_1 : Int) := of_decide_eq_true (by first | (with_reducible assumption) | assumption)
      have q171 : x4_1 < (l0.length : Int) := of_decide_eq_true (by first | (with_reducible assumption) | assumption)
      obtain ⟨ad171, e171, hx171_0⟩ := Kd.at_int HR0.out x4_1 p171 q171
      cases e171
      replace hx171_0 := (HB.out.cell (World.block_lt_of_cell? w _ hx171_0)).trans hx171_0
      replace p171 := eq_true p171
      replace q171 := eq_true q171
      go_wp2_with (first | ((with_reducible refine gate_callee (f := 37) rfl ?_); refine goesL_ (some 19) rfl rfl Tryd.func37 (by kernel_rfl) rfl #[.int .i64 (rd l0 x4_1)] rfl (by (try simp only [List.map_toArray, List.map_cons, List.map_nil]); first | done | rfl | (simp only [List.length_drop, List.length_take]; rfl)) ?_; (with_reducible refine (greenwoodref01_Int.calls k1 (rd l0 x4_1) t172 _ A6.out).mono ?_); rintro e w8 ⟨rfl, hb⟩; refine ⟨_, rfl, ?_⟩; have n0_ := Aside0.mk (below_step (by repeat (first | (with_reducible first | exact HB.out | apply below_alloc | apply pw_below_drewN | apply below_drew1) | exact HB.out)) hb); clear HB; have HB := n0_; clear n0_; (try clear hb); (try clear hb2); (try clear hk); (try clear hi)))
      go_ret
      exact ⟨by first | rfl | (simp [errW_none, errW_some] <;> rfl) | (simp [*, errW_none, errW_some] <;> rfl), by repeat (first | (with_reducible first | exact HB.out | apply below_alloc | apply pw_below_drewN | apply below_drew1) | exact HB.out)⟩
     ·rw [if_neg c7] at H
      have c7b0 : (t172.toList == ([] : List UInt8)) = false := beq_eq_false_iff_ne.mpr c7
      have c7b1 : (t172.toList != ([] : List UInt8)) = true := bne_iff_ne.mpr c7
      by_cases c9 : x3_1.size + t172.size ≤ 9223372036854775807
      ·rw [if_pos c9] at H
       have c9b0 := eq_true c9
       have c9b1 : decide (x3_1.size + t172.size ≤ 9223372036854775807) = true := decide_eq_true c9
       try have c9b2 : (9223372036854775807 < x3_1.size + t172.size) = False := eq_false (Nat.not_lt.2 c9)
       have H' := Aside0.mk H
       clear H
       have p171 : 0 ≤ (x4_1 : Int) := of_decide_eq_true (by first | (with_reducible assumption) | assumption)
       have q171 : x4_1 < (l0.length : Int) := of_decide_eq_true (by first | (with_reducible assumption) | assumption)
       obtain ⟨ad171, e171, hx171_0⟩ := Kd.at_int HR0.out x4_1 p171 q171
       cases e171
       replace hx171_0 := (HB.out.cell (World.block_lt_of_cell? w _ hx171_0)).trans hx171_0
       replace p171 := eq_true p171
       replace q171 := eq_true q171
       go_wp2_with (first | ((with_reducible refine gate_callee (f := 37) rfl ?_); refine goesL_ (some 19) rfl rfl Tryd.func37 (by kernel_rfl) rfl #[.int .i64 (rd l0 x4_1)] rfl (by (try simp only [List.map_toArray, List.map_cons, List.map_nil]); first | done | rfl | (simp only [List.length_drop, List.length_take]; rfl)) ?_; (with_reducible refine (greenwoodref01_Int.calls k1 (rd l0 x4_1) t172 _ A6.out).mono ?_); rintro e w10 ⟨rfl, hb⟩; refine ⟨_, rfl, ?_⟩; have n0_ := Aside0.mk (below_step (by repeat (first | (with_reducible first | exact HB.out | apply below_alloc | apply pw_below_drewN | apply below_drew1) | exact HB.out)) hb); clear HB; have HB := n0_; clear n0_; (try clear hb); (try clear hb2); (try clear hk); (try clear hi)))
       go_roundg k1
       case measure => have := HK1.out; omega
       case rel => exact ⟨(x3_1 ++ t172), (wrap64 (x4_1 + 1)), (by first | rfl | (simp; done) | (simp [*]; done)), (by first | rfl | (simp; done) | (simp [*]; done)), H', ⟨by have := HK1.out; omega⟩, ⟨by repeat (first | (with_reducible first | exact HB.out | apply below_alloc | apply pw_below_drewN | apply below_drew1) | exact HB.out)⟩⟩
      ·rw [if_neg c9] at H
       exact absurd H (by simp)
    ·rw [if_neg c5] at H
     exact absurd H (by simp)
   ·rw [if_neg c4] at H
    have c4b0 : decide (x4_1 < (l0.length : Int)) = false := decide_eq_false c4
    clear c4
    obtain rfl := Option.some.inj H
    go_wp2
    go_ret
    exact ⟨by first | rfl | (simp [errW_none, errW_some] <;> rfl) | (simp [*, errW_none, errW_some] <;> rfl), by repeat (first | (with_reducible first | exact HB.out | apply below_alloc | apply pw_below_drewN | apply below_drew1) | exact HB.out)⟩

end Go.Proofs.YtlekdhejgdfnpaaDoor.P
/- What the wire's writers come to: Num, Int, and the document's, likewise. -/
namespace Go.Proofs.YtlekdhejgdfnpaaDoor.P
open Go.RowKit Go.Proofs.YtlekdhejgdfnpaaDoorW.PrintWords Go.Proofs.YtlekdhejgdfnpaaDoorW.PrintLast Go.Proofs.YtlekdhejgdfnpaaDoorW.PrintMore
open Wr

theorem sn_app (a b : List Int) : strOfNums a ++ strOfNums b = strOfNums (a ++ b) := by
 apply ByteArray.ext
 rw [ByteArray.data_append]
 simp [strOfNums]
theorem sn_toList (a : List Int) : (strOfNums a).toList = [] ↔ a = [] := by
 rw [Lib.toList_data]
 simp [strOfNums]
theorem wnum_l0 : ∀ (n : Nat) (acc : List Int), (n : Int) ≤ MX → acc.length + (vb n).length ≤ 1000 → Ev (fun k => wire_Num.l0 k (n : Int) acc) (strOfNums (acc ++ vb n)) := by
 intro n
 induction n using Nat.strongRecOn with
 | ind n ih =>
  intro acc hn hl
  simp only [MX] at hn
  have hv := vb_len_pos n
  refine Ev.step (fun k => by rw [wire_Num.l0]) ?_
  by_cases h : n < 128
  ·refine Ev.ifn (by omega) (Ev.ifp (by omega) (Ev.val ?_))
   rw [vb_lo h, show ((n : Int) % 256) = (n : Int) by omega]
  ·refine Ev.ifp (by omega) (Ev.ifp (by omega) ?_)
   have e : (wrap64 (Int.tmod (n : Int) 128 + 128)) % 256 = ((n % 128 + 128 : Nat) : Int) := by
    rw [Int.tmod_eq_emod_of_nonneg (by omega)]
    unfold wrap64
    omega
   rw [e, show ((n : Int) / 128) = ((n / 128 : Nat) : Int) by omega]
   have hv2 : (vb n).length = (vb (n / 128)).length + 1 := by rw [vb_hi h]; rfl
   have := ih (n / 128) (by omega) (acc ++ [((n % 128 + 128 : Nat) : Int)]) (by simp only [MX]; omega) (by rw [List.length_append, List.length_singleton]; omega)
   rw [vb_hi h]
   simpa using this
theorem wnum_ev (n : Int) : Ev (fun k => wire_Num.f k n) (strOfNums (encN n)) := by
 unfold wire_Num.f
 by_cases h0 : n < 0
 ·refine Ev.ifp h0 (Ev.step (fun k => by rw [wire_Num.j0]) (Ev.ifp rfl (Ev.val ?_)))
  rw [encN_nil.2 (.inl h0)]; rfl
 ·refine Ev.ifn h0 (Ev.step (fun k => by rw [wire_Num.j0]) ?_)
  by_cases h1 : n > 1125899906842624
  ·refine Ev.ifp (decide_eq_true h1) (Ev.val ?_)
   rw [encN_nil.2 (.inr h1)]; rfl
  ·refine Ev.ifn (by simpa using h1) ?_
   obtain ⟨m, rfl⟩ : ∃ m : Nat, n = (m : Int) := ⟨n.toNat, by omega⟩
   have hm : (m : Int) ≤ MX := by simp only [MX]; omega
   rw [encN_nat hm]
   have := wnum_l0 m [] hm (by have := vb_len8 hm; simp; omega)
   simpa using this
theorem wint_ev (n : Int) : Ev (fun k => wire_Int.f k n) (strOfNums (encI n)) := by
 unfold wire_Int.f encI
 by_cases h0 : n < -1125899906842624
 ·rw [if_pos (.inl h0)]
  refine Ev.ifp h0 (Ev.step (fun k => by rw [wire_Int.j0]) ?_)
  exact Ev.ifp rfl (Ev.val rfl)
 ·refine Ev.ifn h0 (Ev.step (fun k => by rw [wire_Int.j0]) ?_)
  by_cases h1 : n > 1125899906842624
  ·rw [if_pos (.inr h1)]
   exact Ev.ifp (decide_eq_true h1) (Ev.val rfl)
  ·rw [if_neg (by simp only [MX]; omega)]
   refine Ev.ifn (by simpa using h1) ?_
   by_cases h2 : n < 0
   ·refine Ev.ifp h2 ?_
    rw [if_pos h2, show wrap64 (wrap64 (-2 * n) - 1) = -2 * n - 1 by unfold wrap64; omega]
    exact Ev.bind (wnum_ev _) (Ev.val rfl)
   ·refine Ev.ifn h2 ?_
    rw [if_neg h2, show wrap64 (2 * n) = 2 * n by unfold wrap64; omega]
    exact Ev.bind (wnum_ev _) (Ev.val rfl)
theorem rnum_l0 : ∀ (n : Nat) (acc : List Int), (n : Int) ≤ MX → acc.length + (vb n).length ≤ 1000 → Ev (fun k => greenwoodref01_Num.l0 k (n : Int) (strOfNums acc)) (strOfNums (acc ++ vb n)) := by
 intro n
 induction n using Nat.strongRecOn with
 | ind n ih =>
  intro acc hn hl
  simp only [MX] at hn
  have hv := vb_len_pos n
  refine Ev.step (fun k => by rw [greenwoodref01_Num.l0]) ?_
  by_cases h : n < 128
  ·refine Ev.ifn (by omega) (Ev.bnd (Ev.ifp (by rw [strOfNums_size, strOfNums_size]; simp; omega) (Ev.val ?_)))
   rw [sn_app, vb_lo h, show ((n : Int) % 256) = (n : Int) by omega]
  ·refine Ev.ifp (by omega) (Ev.bnd (Ev.ifp (by rw [strOfNums_size, strOfNums_size]; simp; omega) ?_))
   have e : (wrap64 (Int.tmod (n : Int) 128 + 128)) % 256 = ((n % 128 + 128 : Nat) : Int) := by
    rw [Int.tmod_eq_emod_of_nonneg (by omega)]
    unfold wrap64
    omega
   have e2 : wrap64 (Int.tdiv (n : Int) 128) = ((n / 128 : Nat) : Int) := by
    rw [Int.tdiv_eq_ediv_of_nonneg (by omega)]
    unfold wrap64
    omega
   rw [e, e2, sn_app]
   have hv2 : (vb n).length = (vb (n / 128)).length + 1 := by rw [vb_hi h]; rfl
   have := ih (n / 128) (by omega) (acc ++ [((n % 128 + 128 : Nat) : Int)]) (by simp only [MX]; omega) (by rw [List.length_append, List.length_singleton]; omega)
   rw [vb_hi h]
   simpa using this
theorem rnum_ev (n : Int) : Ev (fun k => greenwoodref01_Num.f k n) (strOfNums (encN n)) := by
 unfold greenwoodref01_Num.f
 by_cases h0 : n < 0
 ·refine Ev.ifp h0 (Ev.step (fun k => by rw [greenwoodref01_Num.j0]) (Ev.ifp rfl (Ev.val ?_)))
  rw [encN_nil.2 (.inl h0)]; rfl
 ·refine Ev.ifn h0 (Ev.step (fun k => by rw [greenwoodref01_Num.j0]) ?_)
  by_cases h1 : n > 1125899906842624
  ·refine Ev.ifp (decide_eq_true h1) (Ev.val ?_)
   rw [encN_nil.2 (.inr h1)]; rfl
  ·refine Ev.ifn (by simpa using h1) ?_
   obtain ⟨m, rfl⟩ : ∃ m : Nat, n = (m : Int) := ⟨n.toNat, by omega⟩
   have hm : (m : Int) ≤ MX := by simp only [MX]; omega
   rw [encN_nat hm]
   have := rnum_l0 m [] hm (by have := vb_len8 hm; simp; omega)
   rw [List.nil_append] at this
   exact this
theorem rint_ev (n : Int) : Ev (fun k => greenwoodref01_Int.f k n) (strOfNums (encI n)) := by
 unfold greenwoodref01_Int.f encI
 by_cases h0 : n < -1125899906842624
 ·rw [if_pos (.inl h0)]
  refine Ev.ifp h0 (Ev.step (fun k => by rw [greenwoodref01_Int.j0]) ?_)
  exact Ev.ifp rfl (Ev.val rfl)
 ·refine Ev.ifn h0 (Ev.step (fun k => by rw [greenwoodref01_Int.j0]) ?_)
  by_cases h1 : n > 1125899906842624
  ·rw [if_pos (.inr h1)]
   exact Ev.ifp (decide_eq_true h1) (Ev.val rfl)
  ·rw [if_neg (by simp only [MX]; omega)]
   refine Ev.ifn (by simpa using h1) ?_
   by_cases h2 : n < 0
   ·refine Ev.ifp h2 ?_
    rw [if_pos h2, show wrap64 (wrap64 (-2 * n) - 1) = -2 * n - 1 by unfold wrap64; omega]
    exact Ev.bind (rnum_ev _) (Ev.val rfl)
   ·refine Ev.ifn h2 ?_
    rw [if_neg h2, show wrap64 (2 * n) = 2 * n by unfold wrap64; omega]
    exact Ev.bind (rnum_ev _) (Ev.val rfl)
theorem encN_len (n : Int) : (encN n).length ≤ 8 := by
 by_cases h : n < 0 ∨ n > MX
 ·rw [encN_nil.2 h]; simp
 ·rw [encN_in (by omega) (by omega)]
  exact vb_len8 (by omega)
theorem encI_len (n : Int) : (encI n).length ≤ 8 := by
 unfold encI
 split
 ·simp
 ·split <;> exact encN_len _
theorem rints_l0 (l : List Int) (hl : l.length ≤ 1000000) : ∀ (d i : Nat) (acc : List Int), l.length - i = d → i ≤ l.length → acc.length ≤ 8 * (i + 1) → Ev (fun k => greenwoodref01_Ints.l0 k l (strOfNums acc) (i : Int)) (strOfNums (encA encI acc (l.drop i))) := by
 intro d
 induction d with
 | zero =>
  intro i acc hd hi ha
  have e : l.drop i = [] := List.drop_eq_nil_of_le (by omega)
  rw [e]
  refine Ev.step (fun k => by rw [greenwoodref01_Ints.l0]) ?_
  exact Ev.ifn (by omega) (Ev.val rfl)
 | succ d ih =>
  intro i acc hd hi ha
  have hlt : i < l.length := by omega
  refine Ev.step (fun k => by rw [greenwoodref01_Ints.l0]) ?_
  refine Ev.ifp (by omega) (Ev.ifp (by omega) ?_)
  rw [rd_at hlt, List.drop_eq_getElem_cons hlt]
  refine Ev.bind (rint_ev _) ?_
  unfold encA
  have h8 := encI_len l[i]
  by_cases he : encI l[i] = []
  ·rw [if_pos he]
   exact Ev.ifp ((sn_toList _).2 he) (Ev.val rfl)
  ·rw [if_neg he]
   refine Ev.ifn (fun h => he ((sn_toList _).1 h)) (Ev.ifp (by rw [strOfNums_size, strOfNums_size]; omega) ?_)
   rw [sn_app, w1 hlt (by omega)]
   exact ih (i + 1) _ (by omega) (by omega) (by rw [List.length_append]; omega)
theorem rints_ev (l : List Int) (hl : l.length ≤ 1000000) : Ev (fun k => greenwoodref01_Ints.f k l) (strOfNums (encL encI l)) := by
 unfold greenwoodref01_Ints.f encL
 refine Ev.bind (rnum_ev _) ?_
 have := rints_l0 l hl l.length 0 (encN (l.length : Int)) rfl (Nat.zero_le _) (by have := encN_len (l.length : Int); omega)
 simpa using this
/-- contracts with closed values -/
theorem wnum_c (n : Int) (w : World) : Calls Tryd.prog 30 #[.int .i64 n] w fun e w' => e = .returned (.string (strOfNums (encN n))) ∧ Below w.heap.size w w' := by
 obtain ⟨k, hk⟩ := (wnum_ev n).rounds
 exact wire_Num.calls k n _ w hk
theorem wint_c (n : Int) (w : World) : Calls Tryd.prog 33 #[.int .i64 n] w fun e w' => e = .returned (.string (strOfNums (encI n))) ∧ Below w.heap.size w w' := by
 obtain ⟨k, hk⟩ := (wint_ev n).rounds
 exact wire_Int.calls k n _ w hk
end Go.Proofs.YtlekdhejgdfnpaaDoor.P
/- strings.Builder as a call of the wire's own makes it: copyCheck, WriteString. -/
namespace Go.Proofs.YtlekdhejgdfnpaaDoor.P
open Go.RowKit Go.Lib Go.Proofs.YtlekdhejgdfnpaaDoorW.PrintWords Go.Proofs.YtlekdhejgdfnpaaDoorW.PrintLast Go.Proofs.YtlekdhejgdfnpaaDoorW.PrintMore

theorem infoBd : (Tryd.prog.info? 64).map (·.size) = some 2 := by kernel_rfl
theorem infoBy : (Tryd.prog.info? 5).map (fun i => (i.zero, i.size, i.bytes)) = some (some (.int .u8 0), 1, 1) := by kernel_rfl
set_option maxHeartbeats 1000000 in
set_option maxRecDepth 100000 in
theorem bcheck_used (b : Nat) (w : World) (h0 : w.cell? ⟨b, 0, none⟩ = some (.pointer (some ⟨b, 0, none⟩))) :
 Calls Tryd.prog 55 #[.pointer (some ⟨b, 0, none⟩)] w fun e w' => e = .returned (.tuple #[]) ∧ w' = w := by
 obtain ⟨j, hj, _⟩ := Option.map_eq_some_iff.1 infoBd
 go_enter Tryd.func55, Tryd.ntmps55
 go_wp2
 rw [Lib.run_neq_ptr_same w _ Tryd.underlying61 hj]
 go_wp2
 go_end0
 exact ⟨rfl, rfl⟩
set_option maxHeartbeats 1000000 in
set_option maxRecDepth 100000 in
theorem bcheck_fresh (b : Nat) (w : World) (h0 : w.cell? ⟨b, 0, none⟩ = some (.pointer none)) (hsh : w.shape? b = some (64, 2)) (hfz : w.frozen? ⟨b, 0, none⟩ = false) :
 Calls Tryd.prog 55 #[.pointer (some ⟨b, 0, none⟩)] w fun e w' => e = .returned (.tuple #[]) ∧ w' = w.setCell ⟨b, 0, none⟩ (.pointer (some ⟨b, 0, none⟩)) := by
 obtain ⟨j, hj, hjs⟩ := Option.map_eq_some_iff.1 infoBd
 go_enter Tryd.func55, Tryd.ntmps55
 go_wp2
 rw [Lib.run_to_unsafe w ⟨b, 0, none⟩ Tryd.underlying61 Tryd.underlying98 hj (by rw [hjs]; decide) hsh (Nat.zero_lt_succ 1)]
 simp only [Result.andThen]
 rw [Oper.upon_value]
 go_wp2
 rw [run_callFunc_extern Tryd.func67 (by kernel_rfl) (by kernel_rfl) (by kernel_rfl) (e := Extern.AbiNoEscape.same) (by kernel_rfl)]
 rw [Lib.run_noEscape]
 simp only [Result.andThen]
 rw [Oper.upon_value]
 go_wp2
 rw [Lib.run_from_unsafe w ⟨b, 0, none⟩ Tryd.underlying98 Tryd.underlying61 hj hsh (by kernel_rfl)]
 simp only [Result.andThen]
 rw [Oper.upon_value]
 go_wp2
 go_end0
 exact ⟨rfl, rfl⟩
theorem bcheck_c (B b : Nat) (bs : List Value) (w : World) (h : Lib.IsBuilder 64 5 B b bs w) :
 Calls Tryd.prog 55 #[.pointer (some ⟨b, 0, none⟩)] w fun e w' => e = .returned (.tuple #[]) ∧ (Lib.BuilderAt 64 5 B b (.pointer (some ⟨b, 0, none⟩)) bs w' ∧ Below B w w') := by
 rcases h with h | h
 ·refine (bcheck_fresh b w h.cell0 h.shape h.frozen0).mono ?_
  rintro e w' ⟨rfl, rfl⟩
  exact ⟨rfl, h.used _, (Below.refl B w).setCell (p := ⟨b, 0, none⟩) h.1 _⟩
 ·refine (bcheck_used b w h.cell0).mono ?_
  rintro e w' ⟨rfl, rfl⟩
  exact ⟨rfl, h, Below.refl B _⟩
set_option maxHeartbeats 2000000 in
set_option maxRecDepth 100000 in
theorem bwrite_c (B b : Nat) (bs : List Value) (s : ByteArray) (w : World) (h : Lib.IsBuilder 64 5 B b bs w) (hlen : bs.length + s.size ≤ 140737488355328) (hBw : B ≤ w.heap.size) :
 Calls Tryd.prog 29 #[.pointer (some ⟨b, 0, none⟩), .string s] w fun e w' => e = .returned (.tuple #[.int .i64 s.size, .nilIface]) ∧ (Lib.BuilderAt 64 5 B b (.pointer (some ⟨b, 0, none⟩)) (bs ++ Lib.strCells s) w' ∧ Below B w w') := by
 obtain ⟨i0, hi, hz0, hz1, hz2⟩ := info_parts infoBy
 go_enter Tryd.func29, Tryd.ntmps29
 go_wp2_with (go_at_call 55; refine (bcheck_c B b bs _ h).mono ?_)
 rintro e w1 ⟨rfl, h1, hb1⟩
 obtain ⟨hB, v, hbk, hown, hne⟩ := h1
 have c0 : w1.cell? ⟨b, 0, none⟩ = some (.pointer (some ⟨b, 0, none⟩)) := by rw [Lib.cell_of_heap hbk]; rfl
 have c1 : w1.cell? ⟨b, 1, none⟩ = some v := by rw [Lib.cell_of_heap hbk]; rfl
 go_wp2_with (at_builtin; refine Lib.wpList_append_own_string _ rfl _ _ 62 9 rfl B 5 i0 Tryd.underlying62 Tryd.underlying9 hi hz0 hz1 hz2 _ _ _ rfl hown s rfl ?c3 ?c4 ?c5 ?_)
 case c3 => unfold maxLen; omega
 case c4 => omega
 case c5 => have := hb1.size; omega
 intro v' w2 hown' hgrow _
 have hlt : b < w1.heap.size := by
  rcases Nat.lt_or_ge b w1.heap.size with h' | h'
  ·exact h'
  ·simp [Array.getElem?_eq_none h'] at hbk
 have hb2 : w2.heap[b]? = some (.cells #[.pointer (some ⟨b, 0, none⟩), v] 64 (0, 0)) := by
  rw [hgrow.block b hlt (fun e => hne e.symm)]
  exact hbk
 have d0 : w2.cell? ⟨b, 0, none⟩ = some (.pointer (some ⟨b, 0, none⟩)) := by rw [Lib.cell_of_heap hb2]; rfl
 have d1 : w2.cell? ⟨b, 1, none⟩ = some v := by rw [Lib.cell_of_heap hb2]; rfl
 have f1 : w2.frozen? ⟨b, 1, none⟩ = false := Lib.frozen_of_heap hb2 1
 obtain ⟨ao, n', cap, rfl⟩ : ∃ ao n' cap, v' = .slice ao n' cap := by
  rcases hown'.2 with ⟨hv, _⟩ | ⟨g, cap, cur, hv, _⟩
  ·exact ⟨_, _, _, hv⟩
  ·exact ⟨_, _, _, hv⟩
 go_wp2
 go_ret2
 refine ⟨rfl, ?_, ?_⟩
 ·exact Lib.BuilderAt.put (T := 64) (e := 5) hB hb2 (bs' := bs ++ Lib.strCells s) (by simpa [Lib.strCells_length] using hown') (by decide)
 ·exact (hb1.grown hgrow (by have := hb1.size; omega) (fun k hk => (hown.lt k hk).1)).setCell (p := ⟨b, 1, none⟩) hB _
end Go.Proofs.YtlekdhejgdfnpaaDoor.P
/- The wire's reader, walked: take, Num, Int, Read. -/
namespace Go.Proofs.YtlekdhejgdfnpaaDoor.P
open Go.RowKit Go.Proofs.YtlekdhejgdfnpaaDoorW.PrintWords Go.Proofs.YtlekdhejgdfnpaaDoorW.PrintLast Go.Proofs.YtlekdhejgdfnpaaDoorW.PrintMore
open Wr

theorem grown_drewN {w wr : World} {row : Option Nat} (h : w.grownBy wr row) (q : Nat) : w.grownBy (wr.drewN q) row := ⟨h.os, h.tape, h.output, h.size, h.block⟩
/-- a reader's three cells -/
def RC (w : World) (B : Nat) (s : ByteArray) (p : Nat) (ev : Value) : Prop := w.heap[B]? = some (.cells #[.string s, .int .i64 (p : Int), ev] 79 (0, 0))
theorem RC.cells {w : World} {B : Nat} {s : ByteArray} {p : Nat} {ev : Value} (h : RC w B s p ev) : w.cell? ⟨B, 0, none⟩ = some (.string s) ∧ w.cell? ⟨B, 1, none⟩ = some (.int .i64 (p : Int)) ∧ w.cell? ⟨B, 2, none⟩ = some ev ∧ w.frozen? ⟨B, 1, none⟩ = false ∧ w.frozen? ⟨B, 2, none⟩ = false := by
 unfold RC at h
 refine ⟨?_, ?_, ?_, ?_, ?_⟩ <;> simp [World.cell?, World.frozen?, h]
theorem RC.lt {w : World} {B : Nat} {s : ByteArray} {p : Nat} {ev : Value} (h : RC w B s p ev) : B < w.heap.size := World.block_lt_of_cell? w _ h.cells.1
theorem RC.setAt {w w0 : World} {B : Nat} {s : ByteArray} {p : Nat} {ev : Value} (h : RC w B s p ev) (hg : w0.grownBy w (some B)) (q : Nat) (x : Int) (hx : x = (q : Int)) : RC (w.setCell ⟨B, 1, none⟩ (.int .i64 x)) B s q ev ∧ w0.grownBy (w.setCell ⟨B, 1, none⟩ (.int .i64 x)) (some B) := by
 subst hx
 unfold RC at h ⊢
 refine ⟨by simp [World.setCell, Array.getElem?_modify, h], hg.os, hg.tape, hg.output, by have := hg.size; simpa [World.setCell] using this, fun k hk hne => ?_⟩
 rw [Below.heap_setCell _ _ _ _ (fun e => hne (by rw [e]))]
 exact hg.block k hk hne
theorem RC.setErr {w w0 : World} {B : Nat} {s : ByteArray} {p : Nat} {ev : Value} (h : RC w B s p ev) (hg : w0.grownBy w (some B)) (ev' : Value) : RC (w.setCell ⟨B, 2, none⟩ ev') B s p ev' ∧ w0.grownBy (w.setCell ⟨B, 2, none⟩ ev') (some B) := by
 unfold RC at h ⊢
 refine ⟨by simp [World.setCell, Array.getElem?_modify, h], hg.os, hg.tape, hg.output, by have := hg.size; simpa [World.setCell] using this, fun k hk hne => ?_⟩
 rw [Below.heap_setCell _ _ _ _ (fun e => hne (by rw [e]))]
 exact hg.block k hk hne
/-- a number's error, as take tells it -/
def tErr (c : Int) : Value := if c = 0 then .nilIface else .iface 87 (.int .i64 c)
theorem or64 (a b : Nat) (ha : a < 9223372036854775808) (hb : b < 9223372036854775808) : bits .or .i64 (a : Int) (b : Int) = ((a ||| b : Nat) : Int) := by
 have hx : a ||| b < 2 ^ 63 := Nat.or_lt_two_pow (by omega) (by omega)
 have h1 : (BitVec.ofInt 64 (a : Int)).toNat = a := by
  rw [BitVec.ofInt_natCast, BitVec.toNat_ofNat]; exact Nat.mod_eq_of_lt (by omega)
 have h2 : (BitVec.ofInt 64 (b : Int)).toNat = b := by
  rw [BitVec.ofInt_natCast, BitVec.toNat_ofNat]; exact Nat.mod_eq_of_lt (by omega)
 show IntKind.i64.wrap ((BitVec.ofInt 64 (a : Int) ||| BitVec.ofInt 64 (b : Int)).toNat : Int) = _
 rw [BitVec.toNat_or, h1, h2]
 exact IntWalk.i64_in _ (by omega)
theorem pow_le_7 {i : Nat} (h : i < 8) : 128 ^ i ≤ 562949953421312 := by
 have : 128 ^ i ≤ 128 ^ 7 := Nat.pow_le_pow_right (by decide) (by omega)
 omega
theorem orstep (m c i : Nat) (hm : m < 128 ^ i) (hi : i < 8) : bits .or .i64 (m : Int) (wrap64 ((c : Int) % 128 * 2 ^ (7 * i))) = ((m + c % 128 * 128 ^ i : Nat) : Int) ∧ m + c % 128 * 128 ^ i < 128 ^ (i + 1) := by
 have hp := pow_le_7 hi
 have hq : c % 128 * 128 ^ i ≤ 127 * 128 ^ i := Nat.mul_le_mul_right _ (by omega)
 have e : (c : Int) % 128 * 2 ^ (7 * i) = ((c % 128 * 128 ^ i : Nat) : Int) := by
  rw [Int.natCast_mul, Int.natCast_pow, Int.pow_mul]
  congr 1
 rw [e, show wrap64 ((c % 128 * 128 ^ i : Nat) : Int) = ((c % 128 * 128 ^ i : Nat) : Int) by unfold wrap64; omega, or64 _ _ (by omega) (by omega)]
 refine ⟨?_, by rw [Nat.pow_succ]; omega⟩
 congr 1
 have h2 : (128 : Nat) ^ i = 2 ^ (7 * i) := by rw [Nat.pow_mul]
 rw [Nat.or_comm, Nat.add_comm, Nat.mul_comm, h2]
 exact (Nat.two_pow_add_eq_or_of_lt (by rw [← h2]; exact hm) _).symm
set_option maxHeartbeats 4000000 in
set_option maxRecDepth 100000 in
theorem take_c {w : World} {B : Nat} {s : ByteArray} {p : Nat} {ev : Value} (h : RC w B s p ev) (hs : s.size ≤ 1000000000) (hp : p ≤ s.size) :
 Calls Tryd.prog 58 #[.pointer (some ⟨B, 0, none⟩)] w fun e w' => e = .returned (.tuple #[.int .i64 (tk (bytesOf s) p).1, tErr (tk (bytesOf s) p).2.2]) ∧ RC w' B s (tk (bytesOf s) p).2.1 ev ∧ w.grownBy w' (some B) := by
 have HH := Aside0.mk (And.intro h (And.intro hs hp))
 clear h hs hp
 go_enter Tryd.func58, Tryd.ntmps58
 go_wp2
 go_loopw [4, 7] (fun v4 v7 wr => ∃ (i : Nat) (m : Nat), i ≤ 8 ∧ v4 = .int .i64 (m : Int) ∧ v7 = .int .i64 (i : Int) ∧ Aside0 (RC wr B s p ev ∧ w.grownBy wr (some B)) ∧ Aside0 (m < 128 ^ i ∧ tk (bytesOf s) p = tkL (bytesOf s) p (8 - i) i (m : Int))) (fun _ v7 _ => (8 - (intOf v7).toNat))
 case atStart => exact ⟨0, 0, by omega, rfl, rfl, ⟨HH.out.1, World.grownBy.refl _ _⟩, ⟨by decide, rfl⟩⟩
 case round =>
  obtain ⟨i, m, hi, rfl, rfl, HR, HT⟩ := hrel
  obtain ⟨c0, c1, c2, f1, f2⟩ := HR.out.1.cells
  have hs := HH.out.2.1
  have hp := HH.out.2.2
  have wpi : IntKind.i64.wrap ((p : Int) + (i : Int)) = (p : Int) + (i : Int) := IntWalk.i64_in _ (by omega)
  have pi0 : 0 ≤ (p : Int) + (i : Int) := by omega
  have pit : ((p : Int) + (i : Int)).toNat = p + i := by omega
  by_cases hlt : i < 8
  ·by_cases h1 : s.size ≤ p + i
   ·have d1 : decide ((s.size : Int) ≤ (p : Int) + (i : Int)) = true := decide_eq_true (by omega)
    have ht : tk (bytesOf s) p = (0, p, 10) := by
     rw [HT.out.2, show 8 - i = (7 - i) + 1 by omega]
     unfold tkL
     rw [bytesOf_length, if_pos h1]
    have HT2 := Aside0.mk ht
    clear ht
    go_wp2
    go_quiet (fail)
    go_wp2
    go_ret2
    rw [HT2.out]
    exact ⟨rfl, HR.out.1, grown_drewN HR.out.2 _⟩
   ·have d1 : decide ((s.size : Int) ≤ (p : Int) + (i : Int)) = false := decide_eq_false (by omega)
    have pil : (p : Int) + (i : Int) < (s.size : Int) := by omega
    have pil2 : p + i < s.size := by omega
    obtain ⟨c, hc⟩ : ∃ c : Nat, s[p + i].toNat = c := ⟨_, rfl⟩
    have hc255 : c ≤ 255 := by have := s[p + i].toNat_lt; omega
    have hrd : rd (bytesOf s) ((p + i : Nat) : Int) = (c : Int) := by
     rw [rd_bytesOf, bt, Int.toNat_natCast, dif_pos pil2, hc]
    have ht := HT.out.2
    rw [show 8 - i = (7 - i) + 1 by omega] at ht
    unfold tkL at ht
    rw [bytesOf_length, if_neg h1, hrd] at ht
    obtain ⟨hor, hlt2⟩ := orstep m c i HT.out.1 hlt
    obtain ⟨m', hm'⟩ : ∃ m', m' = m + c % 128 * 128 ^ i := ⟨_, rfl⟩
    rw [← hm'] at hor hlt2
    have hp7 := pow_le_7 hlt
    have hmv : (m : Int) + ((c % 128 : Nat) : Int) * 128 ^ i = (m' : Int) := by rw [hm', Int.natCast_add, Int.natCast_mul, Int.natCast_pow]; rfl
    have HM := Aside0.mk hlt2
    clear hrd hm' hlt2
    by_cases h2 : 128 ≤ c
    ·have d2 : decide (128 ≤ c) = true := decide_eq_true h2
     rw [if_pos (by omega), show (c : Int) - 128 = ((c % 128 : Nat) : Int) by omega, hmv] at ht
     have HT2 := Aside0.mk ht
     clear ht hmv hp7
     go_wp2
     go_quiet (fail)
     go_wp2
     go_quiet (fail)
     go_wp2
     go_roundw
     case rel => exact ⟨i + 1, m', by omega, rfl, by go_num, ⟨HR.out.1, grown_drewN HR.out.2 _⟩, ⟨HM.out, by rw [HT2.out, show 8 - (i + 1) = 7 - i by omega]⟩⟩
     case measure => simp [intOf]; omega
    ·have d2 : decide (128 ≤ c) = false := decide_eq_false h2
     rw [if_neg (by omega), show (c : Int) = ((c % 128 : Nat) : Int) by omega, hmv, show ((c % 128 : Nat) : Int) = (c : Int) by omega] at ht
     clear hmv hp7
     by_cases hb : (c = 0 ∧ 0 < i) ∨ (m' : Int) > MX
     ·rw [if_pos (by rcases hb with ⟨h, h'⟩ | h; (exact .inl ⟨by omega, h'⟩); (exact .inr h))] at ht
      have HT2 := Aside0.mk ht
      have hways : (((c : Int) == 0) = true ∧ decide (0 < i) = true) ∨ (((c : Int) == 0) = true ∧ decide (0 < i) = false ∧ decide (1125899906842624 < (m' : Int)) = true) ∨ (((c : Int) == 0) = false ∧ decide (1125899906842624 < (m' : Int)) = true) := by
       by_cases e : c = 0
       ·have e' : ((c : Int) == 0) = true := beq_iff_eq.mpr (by omega)
        by_cases e2 : 0 < i
        ·exact .inl ⟨e', decide_eq_true e2⟩
        ·exact .inr (.inl ⟨e', decide_eq_false e2, decide_eq_true (by rcases hb with h | h; (exact absurd h.2 e2); (exact h))⟩)
       ·exact .inr (.inr ⟨beq_eq_false_iff_ne.mpr (by omega), decide_eq_true (by rcases hb with h | h; (exact absurd h.1 e); (exact h))⟩)
      clear ht hb
      rcases hways with ⟨y0, y1⟩ | ⟨y0, y1, y2⟩ | ⟨y0, y2⟩
      all_goals
       go_wp2
       go_quiet (fail)
       go_wp2
       go_quiet (fail)
       go_wp2
       go_ret2
       rw [HT2.out]
       exact ⟨rfl, HR.out.1, grown_drewN HR.out.2 _⟩
     ·rw [if_neg (by
       intro h
       apply hb
       rcases h with ⟨h, h'⟩ | h
       ·exact .inl ⟨by omega, h'⟩
       ·exact .inr h)] at ht
      have HT2 := Aside0.mk ht
      have y2 : decide (1125899906842624 < (m' : Int)) = false := decide_eq_false (fun h => hb (.inr h))
      have hways : (((c : Int) == 0) = true ∧ decide (0 < i) = false) ∨ ((c : Int) == 0) = false := by
       by_cases e : c = 0
       ·exact .inl ⟨beq_iff_eq.mpr (by omega), decide_eq_false (fun h => hb (.inl ⟨e, h⟩))⟩
       ·exact .inr (beq_eq_false_iff_ne.mpr (by omega))
      have wi1 : IntKind.i64.wrap ((i : Int) + 1) = (i : Int) + 1 := IntWalk.i64_in _ (by omega)
      have wpi1 : IntKind.i64.wrap ((p : Int) + ((i : Int) + 1)) = (p : Int) + ((i : Int) + 1) := IntWalk.i64_in _ (by omega)
      clear ht hb
      rcases hways with ⟨y0, y1⟩ | y0
      all_goals
       go_wp2
       go_quiet (fail)
       go_wp2
       go_quiet (fail)
       go_wp2
       go_ret2
       rw [HT2.out]
       refine ⟨rfl, RC.setAt (p := p) ?_ ?_ (p + i + 1) _ (by omega)⟩
       ·exact HR.out.1
       ·exact grown_drewN HR.out.2 _
  ·obtain rfl : i = 8 := by omega
   have ht : tk (bytesOf s) p = (0, p, 11) := HT.out.2
   have HT2 := Aside0.mk ht
   clear ht
   go_wp2
   go_ret2
   rw [HT2.out]
   exact ⟨rfl, HR.out.1, HR.out.2⟩
/-- the reader's error in memory -/
def RdE (w : World) (base B : Nat) (ev : Value) : Option (Nat × Int) → Prop
 | none => ev = .nilIface
 | some (pl, c) => ∃ g, ev = .iface 82 (.pointer (some ⟨g, 0, none⟩)) ∧ base ≤ g ∧ g ≠ B ∧ w.heap[g]? = some (.cells #[.int .i64 (pl : Int), .iface 87 (.int .i64 c)] 86 (0, 0))
/-- a reader at B: its bytes, its place, its error -/
def Rd (w : World) (base B : Nat) (s : ByteArray) (st : St) : Prop := base ≤ B ∧ ∃ ev, RC w B s st.1 ev ∧ RdE w base B ev st.2
theorem Rd.lt {w : World} {base B : Nat} {s : ByteArray} {st : St} (h : Rd w base B s st) : B < w.heap.size := by
 obtain ⟨_, ev, h1, _⟩ := h
 exact h1.lt
theorem RdE.keep {w w1 : World} {base B : Nat} {ev : Value} {er : Option (Nat × Int)} (h : RdE w base B ev er) (hk : ∀ g, g ≠ B → g < w.heap.size → (∀ v, w.heap[g]? = some v → (∃ c, v = .cells c 86 (0, 0)) → w1.heap[g]? = w.heap[g]?)) : RdE w1 base B ev er := by
 cases er with
 | none => exact h
 | some pc =>
  obtain ⟨pl, c⟩ := pc
  obtain ⟨g, e1, e2, e3, e4⟩ := h
  refine ⟨g, e1, e2, e3, ?_⟩
  have hlt : g < w.heap.size := by
   rcases Nat.lt_or_ge g w.heap.size with h | h
   ·exact h
   ·simp [Array.getElem?_eq_none h] at e4
  rw [hk g e3 hlt _ e4 ⟨_, rfl⟩]
  exact e4
/-- another block has been written, of another type than an error's -/
theorem Rd.grown {w w1 : World} {base B : Nat} {s : ByteArray} {st : St} (h : Rd w base B s st) {row : Option Nat} (hg : w.grownBy w1 row) (hne : some B ≠ row) (ht : ∀ k, row = some k → k < w.heap.size → ∀ c, w.heap[k]? ≠ some (.cells c 86 (0, 0))) : Rd w1 base B s st := by
 have hB := h.lt
 obtain ⟨h0, ev, h1, h2⟩ := h
 refine ⟨h0, ev, (hg.block B hB hne).trans h1, h2.keep (fun g hgB hlt v hv hc => hg.block g hlt (fun e => ?_))⟩
 obtain ⟨c, rfl⟩ := hc
 exact ht g e.symm hlt c hv
theorem Rd.below {w w1 : World} {base B : Nat} {s : ByteArray} {st : St} (h : Rd w base B s st) (hb : Below w.heap.size w w1) : Rd w1 base B s st :=
 h.grown (row := none) ⟨hb.os, hb.tape, hb.output, hb.size, fun k hk _ => hb.block k hk⟩ (by simp) (fun k e => by simp at e)
theorem Rd.drewN {w : World} {base B : Nat} {s : ByteArray} {st : St} (h : Rd w base B s st) (q : Nat) : Rd (w.drewN q) base B s st := h.below (pw_below_drewN (Below.refl _ _) q)
/-- another reader is at work -/
theorem Rd.other {w w1 : World} {base B B2 : Nat} {s s2 : ByteArray} {st st2 : St} (h : Rd w base B s st) (h2 : Rd w base B2 s2 st2) (hne : B ≠ B2) (hg : w.grownBy w1 (some B2)) : Rd w1 base B s st := by
 refine h.grown hg (fun e => hne (Option.some.inj e)) (fun k e hk c hc => ?_)
 obtain rfl := Option.some.inj e
 obtain ⟨_, ev, h3, _⟩ := h2
 rw [RC] at h3
 rw [h3] at hc
 injection hc with hc
 injection hc with _ hc
 exact absurd hc (by decide)
theorem grown_trans {w w1 w2 : World} {row : Option Nat} (h1 : w.grownBy w1 row) (h2 : w1.grownBy w2 row) : w.grownBy w2 row :=
 ⟨h2.os.trans h1.os, h2.tape.trans h1.tape, h2.output.trans h1.output, Nat.le_trans h1.size h2.size, fun k hk hne => (h2.block k (Nat.lt_of_lt_of_le hk h1.size) hne).trans (h1.block k hk hne)⟩
theorem grown_ofb {w w1 w2 : World} {row : Option Nat} (h1 : w.grownBy w1 row) (hb : Below w1.heap.size w1 w2) : w.grownBy w2 row :=
 grown_trans h1 ⟨hb.os, hb.tape, hb.output, hb.size, fun k hk _ => hb.block k hk⟩

theorem read_c {w : World} {base : Nat} (hbase : base ≤ w.heap.size) (s : ByteArray) :
 Calls Tryd.prog 16 #[.string s] w fun e w' => e = .returned (.pointer (some ⟨w.heap.size, 0, none⟩)) ∧ Rd w' base w.heap.size s (0, none) ∧ Below w.heap.size w w' := by
 go_enter Tryd.func16, Tryd.ntmps16
 go_wp2
 go_ret
 have hb : Below w.heap.size w (w.alloc (.cells #[.string s, .int .i64 0, .nilIface] 79)) := (Below.refl _ _).alloc (Nat.le_refl _) _
 exact ⟨rfl, ⟨hbase, .nilIface, Array.getElem?_push_size, rfl⟩, hb⟩
end Go.Proofs.YtlekdhejgdfnpaaDoor.P
/- The wire's reader, walked: Num, Int. -/
namespace Go.Proofs.YtlekdhejgdfnpaaDoor.P
open Go.RowKit Go.Proofs.YtlekdhejgdfnpaaDoorW.PrintWords Go.Proofs.YtlekdhejgdfnpaaDoorW.PrintLast Go.Proofs.YtlekdhejgdfnpaaDoorW.PrintMore
open Wr

theorem bytesOf_in (s : ByteArray) : ∀ b ∈ bytesOf s, 0 ≤ b ∧ b ≤ 255 := by
 intro b hb
 simp only [bytesOf, List.mem_map] at hb
 obtain ⟨x, _, rfl⟩ := hb
 have := x.toNat_lt
 omega
theorem num_some {w : World} {B : Nat} {s : ByteArray} {p : Nat} {v : Value} (h : RC w B s p (.iface 82 v)) :
 Calls Tryd.prog 42 #[.pointer (some ⟨B, 0, none⟩)] w fun e w' => e = .returned (.int .i64 0) ∧ ∃ q, w' = w.drewN q := by
 obtain ⟨c0, c1, c2, f1, f2⟩ := h.cells
 clear h
 go_enter Tryd.func42, Tryd.ntmps42
 go_wp2
 go_ret
 exact ⟨rfl, by first | exact ⟨0, rfl⟩ | exact ⟨_, rfl⟩⟩
set_option maxHeartbeats 2000000 in
set_option maxRecDepth 100000 in
theorem num_ok {w : World} {B : Nat} {s : ByteArray} {p : Nat} (h : RC w B s p .nilIface) (hs : s.size ≤ 1000000000) (hp : p ≤ s.size) (h0 : (tk (bytesOf s) p).2.2 = 0) :
 Calls Tryd.prog 42 #[.pointer (some ⟨B, 0, none⟩)] w fun e w' => e = .returned (.int .i64 (tk (bytesOf s) p).1) ∧ RC w' B s (tk (bytesOf s) p).2.1 .nilIface ∧ w.grownBy w' (some B) := by
 obtain ⟨c0, c1, c2, f1, f2⟩ := h.cells
 have hk := take_c h hs hp
 rw [h0] at hk
 have HK := Aside0.mk hk
 clear h hk h0
 go_enter Tryd.func42, Tryd.ntmps42
 go_wp2_with (go_at_call 58; refine HK.out.mono ?_; rintro e w1 ⟨rfl, hr, hg⟩; (have H1 := Aside0.mk (And.intro hr hg)); clear hr hg; simp only [tErr, if_true])
 go_ret
 exact ⟨rfl, H1.out⟩
theorem World.heap_alloc_at_lt (w : World) (o : Obj) (i : Nat) (h : i < w.heap.size) : (w.alloc o).heap[i]? = w.heap[i]? := by
 show (Array.push _ _)[i]? = _
 rw [Array.getElem?_push, if_neg (by omega)]
theorem grown_alloc {w w1 : World} {row : Option Nat} (h : w.grownBy w1 row) (o : Obj) : w.grownBy (w1.alloc o) row := grown_ofb h ((Below.refl _ _).alloc (Nat.le_refl _) o)
set_option maxHeartbeats 2000000 in
set_option maxRecDepth 100000 in
theorem num_err {w : World} {base B : Nat} {s : ByteArray} {p : Nat} (hb : base ≤ B) (h : RC w B s p .nilIface) (hs : s.size ≤ 1000000000) (hp : p ≤ s.size) (h0 : (tk (bytesOf s) p).2.2 ≠ 0) :
 Calls Tryd.prog 42 #[.pointer (some ⟨B, 0, none⟩)] w fun e w' => e = .returned (.int .i64 0) ∧ Rd w' base B s (p, some (p, (tk (bytesOf s) p).2.2)) ∧ w.grownBy w' (some B) := by
 obtain ⟨c0, c1, c2, f1, f2⟩ := h.cells
 have hB := h.lt
 have hk := take_c h hs hp
 obtain ⟨h1, h2, h3⟩ : (tk (bytesOf s) p).1 = 0 ∧ (tk (bytesOf s) p).2.1 = p ∧ ((tk (bytesOf s) p).2.2 = 10 ∨ (tk (bytesOf s) p).2.2 = 11) := by
  rcases tk_any (bytesOf s) p (bytesOf_in s) with h | h
  ·exact absurd h.1 h0
  ·exact h
 rw [h1, h2] at hk
 obtain ⟨c, hc⟩ : ∃ c, c = (tk (bytesOf s) p).2.2 := ⟨_, rfl⟩
 rw [← hc] at hk h0 ⊢
 rw [show tErr c = .iface 87 (.int .i64 c) from if_neg h0] at hk
 have HK := Aside0.mk hk
 have HB := Aside0.mk (And.intro hb hB)
 clear h hk h0 h1 h2 h3 hc hb hB
 go_enter Tryd.func42, Tryd.ntmps42
 go_wp2_with (go_at_call 58; refine HK.out.mono ?_; rintro e w1 ⟨rfl, hr, hg⟩; (obtain ⟨d0, d1, d2, g1, g2⟩ := hr.cells); (have hlt := hr.lt); (have H1 := Aside0.mk (And.intro hr hg)); clear hr hg)
 go_ret
 obtain ⟨hr, hg⟩ := H1.out
 have hfin := RC.setErr hr hg (.iface 82 (.pointer (some ⟨w1.heap.size, 0, none⟩)))
 have hsz : (w1.setCell ⟨B, 2, none⟩ (.iface 82 (.pointer (some ⟨w1.heap.size, 0, none⟩)))).heap.size = w1.heap.size := by simp [World.setCell]
 refine ⟨rfl, ⟨HB.out.1, _, (World.heap_alloc_at_lt _ _ _ (by rw [hsz]; exact hlt)).trans hfin.1, w1.heap.size, rfl, Nat.le_of_lt (Nat.lt_of_le_of_lt HB.out.1 hlt), Nat.ne_of_gt hlt, ?_⟩, grown_alloc hfin.2 _⟩
 have hps := @Array.getElem?_push_size _ (w1.setCell ⟨B, 2, none⟩ (.iface 82 (.pointer (some ⟨w1.heap.size, 0, none⟩)))).heap (.cells #[.int .i64 (p : Int), .iface 87 (.int .i64 c)] 86)
 rw [hsz] at hps
 exact hps
theorem ret_int {k : IntKind} {a b : Int} (h : a = b) : Ending.returned (.int k a) = .returned (.int k b) := by rw [h]
theorem num_c {w : World} {base B : Nat} {s : ByteArray} {st : St} (h : Rd w base B s st) (hs : s.size ≤ 1000000000) (hp : st.1 ≤ s.size) :
 Calls Tryd.prog 42 #[.pointer (some ⟨B, 0, none⟩)] w fun e w' => e = .returned (.int .i64 (numF (bytesOf s) st).1) ∧ Rd w' base B s (numF (bytesOf s) st).2 ∧ w.grownBy w' (some B) := by
 obtain ⟨p, er⟩ := st
 obtain ⟨h0, ev, h1, h2⟩ := id h
 cases er with
 | some pc =>
  obtain ⟨pl, c⟩ := pc
  obtain ⟨g, rfl, _⟩ := h2
  refine (num_some h1).mono ?_
  rintro e w' ⟨rfl, q, rfl⟩
  exact ⟨rfl, h.drewN q, grown_drewN (World.grownBy.refl _ _) q⟩
 | none =>
  obtain rfl : ev = .nilIface := h2
  by_cases hc : (tk (bytesOf s) p).2.2 = 0
  ·refine (num_ok h1 hs hp hc).mono ?_
   rintro e w' ⟨rfl, hr, hg⟩
   have e : numF (bytesOf s) (p, none) = ((tk (bytesOf s) p).1, ((tk (bytesOf s) p).2.1, none)) := by simp only [numF, hc, if_true]
   rw [e]
   exact ⟨rfl, ⟨h0, _, hr, rfl⟩, hg⟩
  ·refine (num_err h0 h1 hs hp hc).mono ?_
   rintro e w' ⟨rfl, hr, hg⟩
   have e : numF (bytesOf s) (p, none) = (0, (p, some (p, (tk (bytesOf s) p).2.2))) := by simp only [numF, if_neg hc]
   rw [e]
   exact ⟨rfl, hr, hg⟩
/-- where a reader's place comes to -/
theorem numF_at {S : List Int} (hb : ∀ b ∈ S, 0 ≤ b ∧ b ≤ 255) (st : St) (hp : st.1 ≤ S.length) : (numF S st).2.1 ≤ S.length ∧ st.1 ≤ (numF S st).2.1 ∧ 0 ≤ (numF S st).1 ∧ (numF S st).1 ≤ MX ∧ ((numF S st).2.2 = none → st.1 < (numF S st).2.1) := by
 obtain ⟨p, er⟩ := st
 cases er with
 | some pc => exact ⟨hp, Nat.le_refl _, Int.le_refl _, by simp [numF], fun h => by simp [numF] at h⟩
 | none =>
  rcases tk_any S p hb with h | h
  ·simp only [numF, h.1, if_true]
   exact ⟨h.2.2.2.2, Nat.le_of_lt h.2.2.2.1, h.2.1, h.2.2.1, fun _ => h.2.2.2.1⟩
  ·have hc : (tk S p).2.2 ≠ 0 := by rcases h.2.2 with h | h <;> omega
   simp only [numF, if_neg hc]
   exact ⟨hp, Nat.le_refl _, Int.le_refl _, by decide, fun h => by simp at h⟩
set_option maxHeartbeats 2000000 in
set_option maxRecDepth 100000 in
theorem int_c {w : World} {base B : Nat} {s : ByteArray} {st : St} (h : Rd w base B s st) (hs : s.size ≤ 1000000000) (hp : st.1 ≤ s.size) :
 Calls Tryd.prog 46 #[.pointer (some ⟨B, 0, none⟩)] w fun e w' => e = .returned (.int .i64 (intF (bytesOf s) st).1) ∧ Rd w' base B s (intF (bytesOf s) st).2 ∧ w.grownBy w' (some B) := by
 have HN := Aside0.mk (num_c h hs hp)
 obtain ⟨-, -, hn0, hn1, -⟩ := numF_at (bytesOf_in s) st (by rw [bytesOf_length]; exact hp)
 unfold intF
 obtain ⟨n, hn⟩ : ∃ n, n = (numF (bytesOf s) st).1 := ⟨_, rfl⟩
 rw [← hn] at HN hn0 hn1 ⊢
 clear h hs hp hn
 simp only [MX] at hn1
 by_cases hm : n % 2 = 1
 ·have e : sgn n = -((n + 1) / 2) := by unfold sgn; rw [if_pos hm]
  have hmb : (n % 2 == 1) = true := beq_iff_eq.mpr hm
  have E := Aside0.mk e
  clear e hm
  go_enter Tryd.func46, Tryd.ntmps46
  go_wp2_with (go_at_call 42; refine HN.out.mono ?_; rintro e w1 ⟨rfl, hr⟩; (have H1 := Aside0.mk hr); clear hr)
  go_ret
  rw [E.out]
  refine ⟨ret_int ?_, H1.out⟩
  rw [Int.tdiv_eq_ediv_of_nonneg (by omega)]
  unfold wrap64
  omega
 ·have e : sgn n = n / 2 := by unfold sgn; rw [if_neg hm]
  have hmb : (n % 2 == 1) = false := beq_eq_false_iff_ne.mpr hm
  have E := Aside0.mk e
  clear e hm
  go_enter Tryd.func46, Tryd.ntmps46
  go_wp2_with (go_at_call 42; refine HN.out.mono ?_; rintro e w1 ⟨rfl, hr⟩; (have H1 := Aside0.mk hr); clear hr)
  go_ret
  rw [E.out]
  exact ⟨rfl, H1.out⟩
end Go.Proofs.YtlekdhejgdfnpaaDoor.P
/- What is written is taken: numbers, signed ones, lists, alone. -/
namespace Go.Proofs.YtlekdhejgdfnpaaDoor.P
open Go.RowKit Go.Proofs.YtlekdhejgdfnpaaDoorW.PrintWords Go.Proofs.YtlekdhejgdfnpaaDoorW.PrintLast Go.Proofs.YtlekdhejgdfnpaaDoorW.PrintMore
open Wr

theorem encL_all {one : Int → List Int} {l : List Int} (h : ∀ x ∈ l, one x ≠ []) : encL one l = encN (l.length : Int) ++ l.flatMap one := encA_all l _ h
/-- a number is taken where it is written -/
theorem numF_enc (A B : List Int) {n : Int} (h0 : 0 ≤ n) (h1 : n ≤ MX) : numF (A ++ (encN n ++ B)) (A.length, none) = (n, (A.length + (encN n).length, none)) := by
 obtain ⟨m, rfl⟩ : ∃ m : Nat, n = (m : Int) := ⟨n.toNat, by omega⟩
 rw [encN_nat h1]
 have := tk_enc A B m h1
 simp only [numF, this, if_true]
theorem sgn_pos {n : Int} (h : 0 ≤ n) : sgn (2 * n) = n := by
 unfold sgn
 rw [if_neg (by omega)]
 omega
theorem sgn_neg {n : Int} (h : n < 0) : sgn (-2 * n - 1) = n := by
 unfold sgn
 rw [if_pos (by omega)]
 omega
theorem intF_enc (A B : List Int) {n : Int} (h0 : -562949953421312 ≤ n) (h1 : n ≤ 562949953421312) : intF (A ++ (encI n ++ B)) (A.length, none) = (n, (A.length + (encI n).length, none)) := by
 unfold encI intF
 rw [if_neg (by simp only [MX]; omega)]
 by_cases h : n < 0
 ·rw [if_pos h, numF_enc A B (by omega) (by simp only [MX]; omega), sgn_neg h]
 ·rw [if_neg h, numF_enc A B (by omega) (by simp only [MX]; omega), sgn_pos (by omega)]
end Go.Proofs.YtlekdhejgdfnpaaDoor.P
/- A region that draws its order, whose calls read and make memory of their own, walked once in the order of the text. -/
namespace Go.Proofs.YtlekdhejgdfnpaaDoor.P
open Go.RowKit Go.Proofs.YtlekdhejgdfnpaaDoorW.PrintWords Go.Proofs.YtlekdhejgdfnpaaDoorW.PrintLast Go.Proofs.YtlekdhejgdfnpaaDoorW.PrintMore

/-- a world that keeps all that w has -/
structure Bw (w : World) where
 v : World
 h : Below w.heap.size w v
instance bw_some (w : World) : Nonempty (Bw w) := ⟨⟨w, Below.refl _ _⟩⟩
theorem region_bw {P : Program} {id : Nat} {Q : Exit → Act → World → Prop} {a : Act} {w : World} {l : List Oper} (hm : P.follows .mixedOrders = true) (hB : Region.lexB .any l.toArray = true)
 (h : wpQuiet P l.toArray (fun w' => ∃ p : Bw w, w' = p.v) (fun a' => ∀ p : Bw w, Q .normal a' p.v) l a) : (Code.region id l.toArray true).wp P Q a w :=
 wp_region_quiet (C := fun w' => ∃ p : Bw w, w' = p.v) hm hB ⟨⟨w.drew, below_drew (Below.refl _ _)⟩, rfl⟩ (by
  have e : (fun a' => ∀ p : Bw w, Q .normal a' p.v) = (fun a' => ∀ w', (∃ p : Bw w, w' = p.v) → Q .normal a' w') := by
   funext a'
   apply propext
   exact ⟨fun h w' ⟨p, hp⟩ => hp ▸ h p, fun h p => h _ ⟨p, rfl⟩⟩
  rw [e] at h
  exact h)
theorem bw_call {P : Program} {f : FuncId} {args : Array Value} {w : World} {v : Value} (H : ∀ p : Bw w, Calls P f args p.v fun e w' => e = .returned v ∧ Below p.v.heap.size p.v w') (p : Bw w) :
 Calls P f args p.v fun e w'' => e = .returned v ∧ ∃ p' : Bw w, w'' = p'.v :=
 (H p).mono fun _ w' ⟨he, hb⟩ => ⟨he, ⟨w', below_then p.h p.h.size hb⟩, rfl⟩
theorem calls_bel {P : Program} {f : FuncId} {args : Array Value} {w : World} {v : Value} (h : Calls P f args w fun e w' => e = .returned v ∧ Drawn0 w w') : Calls P f args w fun e w' => e = .returned v ∧ Below w.heap.size w w' :=
 h.mono fun _ _ ⟨he, m, hm⟩ => ⟨he, by rw [hm]; exact pw_below_drewN (Below.refl _ _) m⟩
theorem bw_blk {w : World} {g : Nat} {o : Obj} (h : w.heap[g]? = some o) (p : Bw w) : p.v.heap[g]? = some o := blk_below h p.h
theorem bw_cell {w : World} {g : Nat} {t : TypeId} {cs : Array Value} (h : w.heap[g]? = some (.cells cs t (0, 0))) (i : Nat) (v : Value) (e : cs[i]? = some v) (p : Bw w) : p.v.cell? ⟨g, i, none⟩ = some v := (blk_cell (bw_blk h p) i).trans e
end Go.Proofs.YtlekdhejgdfnpaaDoor.P
namespace Go.Proofs.YtlekdhejgdfnpaaDoor.P
open Go.RowKit Go.Proofs.YtlekdhejgdfnpaaDoorW.PrintWords Go.Proofs.YtlekdhejgdfnpaaDoorW.PrintLast Go.Proofs.YtlekdhejgdfnpaaDoorW.PrintMore
attribute [local go_sem] max2_int min2_int max_two min_two max_three min_three max_four min_four   -- for this text's walks alone

/-! ### greenwoodref15_Same: function 40 -/
def greenwoodref15_Same.l0 : Nat → List (S41) → List (S41) → Int → Option (Bool)
 | 0, _, _, _ => none
 | k + 1, x0, x1, x5 => if x5 < (x0.length : Int) then (if 0 ≤ x5 then (if x5 < (x1.length : Int) then ((greenwoodref15_same.f k ((rd_T41 x0 x5).f0) ((rd_T41 x1 x5).f0)).bind fun t207 => (if t207 = true then ((greenwoodref15_same.f k ((rd_T41 x0 x5).f1) ((rd_T41 x1 x5).f1)).bind fun t210 => (if t210 = true then ((greenwoodref15_same.f k ((rd_T41 x0 x5).f2) ((rd_T41 x1 x5).f2)).bind fun t213 => (if t213 = true then (greenwoodref15_Same.l0 k x0 x1 (wrap64 (x5 + 1))) else (some false))) else (some false))) else (some false))) else (none)) else (none)) else (some true)
def greenwoodref15_Same.f (k : Nat) (l0 : List (S41)) (l1 : List (S41)) : Option (Bool) := if (l0.length : Int) = (l1.length : Int) then (greenwoodref15_Same.l0 k l0 l1 0) else (some false)
theorem qadd_greenwoodref15_Same {P : Program} {f : FuncId} {args : Array Value} {w : World} {a n : Nat} {v : Value} (h : Calls P f args (w.drewN (a + n)) fun e w' => e = .returned v ∧ Drawn0 (w.drewN (a + n)) w') :
 Calls P f args (w.drewN (a + n)) fun e w'' => e = .returned v ∧ ∃ m, w'' = w.drewN (a + m) :=
 h.mono fun _ _ ⟨he, ⟨m, hm⟩⟩ => ⟨he, n + m, by rw [hm, World.drewN_drewN, Nat.add_assoc]⟩
set_option maxHeartbeats 8000000 in
set_option maxRecDepth 100000 in
theorem greenwoodref15_Same.calls (k : Nat) (A0 : Option Addr) (c0 : Nat) (l0 : List (S41)) (A1 : Option Addr) (c1 : Nat) (l1 : List (S41)) (r : Bool) (w : World) (hr0 : Kd.C k41 w A0 l0.length l0) (hc0 : l0.length ≤ c0) (hr1 : Kd.C k41 w A1 l1.length l1) (hc1 : l1.length ≤ c1) (h : greenwoodref15_Same.f k l0 l1 = some r) :
 Calls Tryd.prog 40 #[.slice A0 l0.length c0, .slice A1 l1.length c1] w fun e w' => e = .returned (.bool r) ∧ Below w.heap.size w w' := by
 have HR0 := Aside0.mk hr0
 have HR1 := Aside0.mk hr1
 clear hr0 hc0 hr1 hc1
 unfold greenwoodref15_Same.f at h
 by_cases c3 : (l0.length : Int) = (l1.length : Int)
 ·rw [if_pos c3] at h
  have c3b : ((l0.length : Int) != (l1.length : Int)) = false := bne_eq_false_iff_eq.mpr c3
  have c3c : (l0.length != l1.length) = false := bne_eq_false_iff_eq.mpr (by omega)
  have HA := Aside0.mk h
  clear h c3
  go_enter Tryd.func40, Tryd.ntmps40
  go_wp2
  repeat (go_quiet (fail); try go_wp2)
  clear c3b c3c
  go_loopg [5] k (fun kq v5 wr => ∃ x : Int, v5 = .int .i64 x ∧ Aside0 (greenwoodref15_Same.l0 kq l0 l1 x = some r) ∧ Aside0 (kq ≤ k) ∧ Drawn0 w wr)
  case atStart => exact ⟨0, rfl, HA, ⟨Nat.le_refl _⟩, by repeat (first | exact Drawn0.refl _ | apply Drawn0.step)⟩
  case round =>
   clear HA
   obtain ⟨x, rfl, HA, HK1, ⟨m, rfl⟩⟩ := hrel
   cases gk with
   | zero => exact absurd HA.out (by simp [greenwoodref15_Same.l0])
   | succ k1 =>
    have H := HA.out
    clear HA
    simp only [greenwoodref15_Same.l0] at H
    by_cases c4 : x < (l0.length : Int)
    ·rw [if_pos c4] at H
     by_cases c5 : 0 ≤ x
     ·rw [if_pos c5] at H
      by_cases c6 : x < (l1.length : Int)
      ·rw [if_pos c6] at H
       obtain ⟨ad, A0, d0, A1, d1, A2, d2, e, x0, x1, x2, hl0, hi0, hl1, hi1, hl2, hi2⟩ := at_T41 HR0.out x c5 c4
       obtain ⟨ae, B0, e0, B1, e1, B2, e2, e', y0, y1, y2, kl0, ki0, kl1, ki1, kl2, ki2⟩ := at_T41 HR1.out x c5 c6
       cases e
       cases e'
       obtain ⟨t1, A1', H⟩ := Option.bind_eq_some_iff.mp H
       have H1 := Aside0.mk (fun n => greenwoodref15_same.calls k1 _ _ _ _ _ _ t1 (w.drewN n) (Kd.C_drewN hi0 n) hl0 (Kd.C_drewN ki0 n) kl0 A1')
       replace H : (if t1 = true then _ else _) = some r := H
       cases t1 with
       | false =>
        have HT : Aside0 (r = false) := ⟨(Option.some.inj H).symm⟩
        clear H A1' hi0 hi1 hi2 ki0 ki1 ki2
        go_wp2
        repeat (go_quiet ((go_at_call 57; with_reducible exact qadd_greenwoodref15_Same (H1.out _))); try go_wp2)
        go_ret
        exact ⟨by rw [HT.out]; rfl, by repeat (first | exact Below.refl _ _ | apply pw_below_drewN)⟩
       | true =>
        rw [if_pos rfl] at H
        obtain ⟨t2, A2', H⟩ := Option.bind_eq_some_iff.mp H
        have H2 := Aside0.mk (fun n => greenwoodref15_same.calls k1 _ _ _ _ _ _ t2 (w.drewN n) (Kd.C_drewN hi1 n) hl1 (Kd.C_drewN ki1 n) kl1 A2')
        cases t2 with
        | false =>
         have HT : Aside0 (r = false) := ⟨(Option.some.inj H).symm⟩
         clear H A1' A2' hi0 hi1 hi2 ki0 ki1 ki2
         go_wp2
         repeat (go_quiet (first | (go_at_call 57; with_reducible exact qadd_greenwoodref15_Same (H2.out _)) | (go_at_call 57; with_reducible exact qadd_greenwoodref15_Same (H1.out _))); try go_wp2)
         go_ret
         exact ⟨by rw [HT.out]; rfl, by repeat (first | exact Below.refl _ _ | apply pw_below_drewN)⟩
        | true =>
         simp only [if_true] at H
         obtain ⟨t3, A3', H⟩ := Option.bind_eq_some_iff.mp H
         have H3 := Aside0.mk (fun n => greenwoodref15_same.calls k1 _ _ _ _ _ _ t3 (w.drewN n) (Kd.C_drewN hi2 n) hl2 (Kd.C_drewN ki2 n) kl2 A3')
         cases t3 with
         | false =>
          have HT : Aside0 (r = false) := ⟨(Option.some.inj H).symm⟩
          clear H A1' A2' A3' hi0 hi1 hi2 ki0 ki1 ki2
          go_wp2
          repeat (go_quiet (first | (go_at_call 57; with_reducible exact qadd_greenwoodref15_Same (H3.out _)) | (go_at_call 57; with_reducible exact qadd_greenwoodref15_Same (H2.out _)) | (go_at_call 57; with_reducible exact qadd_greenwoodref15_Same (H1.out _))); try go_wp2)
          go_ret
          exact ⟨by rw [HT.out]; rfl, by repeat (first | exact Below.refl _ _ | apply pw_below_drewN)⟩
         | true =>
          simp only [if_true] at H
          have HA := Aside0.mk H
          clear H A1' A2' A3' hi0 hi1 hi2 ki0 ki1 ki2
          go_wp2
          repeat (go_quiet (first | (go_at_call 57; with_reducible exact qadd_greenwoodref15_Same (H3.out _)) | (go_at_call 57; with_reducible exact qadd_greenwoodref15_Same (H2.out _)) | (go_at_call 57; with_reducible exact qadd_greenwoodref15_Same (H1.out _))); try go_wp2)
          go_roundg k1
          case measure => omega
          case rel => exact ⟨_, rfl, HA, ⟨by have := HK1.out; omega⟩, by repeat (first | exact Drawn0.refl _ | apply Drawn0.step)⟩
      ·rw [if_neg c6] at H
       exact absurd H (by simp)
     ·rw [if_neg c5] at H
      exact absurd H (by simp)
    ·rw [if_neg c4] at H
     have HT : Aside0 (r = true) := ⟨(Option.some.inj H).symm⟩
     have c4b : decide (x < (l0.length : Int)) = false := decide_eq_false c4
     clear H c4
     go_wp2
     repeat (go_quiet (fail); try go_wp2)
     go_ret
     exact ⟨by rw [HT.out]; rfl, by repeat (first | exact Below.refl _ _ | apply pw_below_drewN)⟩
 ·rw [if_neg c3] at h
  have HT : Aside0 (r = false) := ⟨(Option.some.inj h).symm⟩
  have c3b : ((l0.length : Int) != (l1.length : Int)) = true := bne_iff_ne.mpr c3
  have c3c : (l0.length != l1.length) = true := bne_iff_ne.mpr (by omega)
  clear h c3
  go_enter Tryd.func40, Tryd.ntmps40
  go_wp2
  repeat (go_quiet (fail); try go_wp2)
  go_ret
  exact ⟨by rw [HT.out]; rfl, by repeat (first | exact Below.refl _ _ | apply pw_below_drewN)⟩
end Go.Proofs.YtlekdhejgdfnpaaDoor.P
