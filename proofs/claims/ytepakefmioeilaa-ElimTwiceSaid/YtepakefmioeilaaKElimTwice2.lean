/- Texts of this claim's own repository, merged by wip/tool/pack.py: Px8, ElimLaws, Opn. -/
import Derived.Deep.Slices
import Derived.ChangeArms
import Derived.ProofKit
import Derived.Test.YtepakefmioeilaaKElimTwice1
-- written by wip/tool/ownprint.py of this claim's own repository, out of the translation's print
namespace Go.Proofs.Ytepakefmioeilaa.P
open Go.RowKit Go.Proofs.YtepakefmioeilaaW.PrintWords Go.Proofs.YtepakefmioeilaaW.PrintLast Go.Proofs.YtepakefmioeilaaW.PrintMore
attribute [local go_sem] max2_int min2_int max_two min_two max_three min_three max_four min_four   -- for this text's walks alone
set_option linter.unusedVariables false
set_option linter.unusedSimpArgs false

/-! ### greenwoodlaw05_ElimTwice: function 7 -/
mutual
def greenwoodlaw05_ElimTwice.j0 : Nat → Int → List (List Int) → List Int → Bool → Option (Bool)
  | 0, _, _, _, _ => none
  | k + 1, x0, x1, x2, x46 => if x46 = true then ((greenwoodlaw05_fixed.f k).bind fun t334 => (some t334)) else (greenwoodlaw05_ElimTwice.l0 k x0 x1 x2 0)
def greenwoodlaw05_ElimTwice.l0 : Nat → Int → List (List Int) → List Int → Int → Option (Bool)
  | 0, _, _, _, _ => none
  | k + 1, x0, x1, x2, x7 => if x7 < (x2.length : Int) then (if 0 ≤ x7 then (if (rd x2 x7) < 0 then (some true) else (if (rd x2 x7) ≥ x0 then (some true) else (greenwoodlaw05_ElimTwice.l0 k x0 x1 x2 (wrap64 (x7 + 1))))) else (none)) else (if 0 < (x1.length : Int) then ((some (([] : List (List Int)) : List (List Int))).bind fun y338 => (if y338.length + x1.length < 5864062014805 then ((some (y338 ++ x1 : List (List Int))).bind fun y341 => (if y341.length + x1.length < 5864062014805 then ((greenwoodref05_Sum.f k x0 ((rd_L1 x1 0).length : Int) x1 x2).bind fun t347 => ((elim_Combo.f k x0 ((rd_L1 x1 0).length : Int) x1 t347).bind fun bt350 => ((elim_Basis.f k x0 ((rd_L1 x1 0).length : Int) (y341 ++ x1)).bind fun t354 => ((elim_Basis.f k x0 ((rd_L1 x1 0).length : Int) x1).bind fun t357 => ((greenwoodref01_Same.f k t354 t357).bind fun t360 => (if t360 = true then (if bt350.2 = true then (if (bt350.1.length : Int) = (x1.length : Int) then ((greenwoodref05_Sum.f k x0 ((rd_L1 x1 0).length : Int) x1 bt350.1).bind fun t361 => ((greenwoodref01_Same.f k t361 t347).bind fun t364 => (some t364))) else (some false)) else (some false)) else (some false))))))) else (none))) else (none))) else (none))
end
def greenwoodlaw05_ElimTwice.f (k : Nat) (a0 : Int) (l1 : List (List Int)) (l2 : List Int) : Option (Bool) := (greenwoodlaw05_fixed.f k).bind fun t330 => (if t330 = true then (if (l1.length : Int) < 1 then (greenwoodlaw05_ElimTwice.j0 k a0 l1 l2 true) else (if (l1.length : Int) > 20 then (greenwoodlaw05_ElimTwice.j0 k a0 l1 l2 true) else (if 0 < (l1.length : Int) then (if ((rd_L1 l1 0).length : Int) > 20 then (greenwoodlaw05_ElimTwice.j0 k a0 l1 l2 true) else (if (l2.length : Int) > 20 then (greenwoodlaw05_ElimTwice.j0 k a0 l1 l2 true) else ((greenwoodref05_May.f k a0 ((rd_L1 l1 0).length : Int) l1).bind fun t333 => (greenwoodlaw05_ElimTwice.j0 k a0 l1 l2 (!t333))))) else (none)))) else (greenwoodlaw05_ElimTwice.j0 k a0 l1 l2 true))
set_option maxHeartbeats 8000000 in
set_option maxRecDepth 100000 in
theorem greenwoodlaw05_ElimTwice.callsT (k : Nat) (a0 : Int) (P1_ : Nat → Prop) (A1 : Option Addr) (c1 : Nat) (l1 : List (List Int)) (A2 : Option Addr) (c2 : Nat) (l2 : List Int) (r : Bool) (w : World) (hs1 : Kd.V (Kd.slice 3 (Kd.int .i64)) 26 w w.heap.size (fun k_ => P1_ k_) (.slice A1 l1.length c1) l1) (hr2 : Kd.C (Kd.int .i64) w A2 l2.length l2) (hc2 : l2.length ≤ c2) (hrT : r = true) (h : greenwoodlaw05_ElimTwice.f k a0 l1 l2 = some r) :
    Calls Try.prog 7 #[.int .i64 a0, .slice A1 l1.length c1, .slice A2 l2.length c2] w fun e w' => e = .returned (.bool r) ∧ Below w.heap.size w w' := by
  have HO1 := Aside0.mk (show Kd.V (Kd.slice 3 (Kd.int .i64)) 26 w w.heap.size (fun k_ => (P1_ k_ ∨ w.heap.size ≤ k_)) (.slice A1 l1.length c1) l1 from Kd.V_mono hs1 (fun k_ hk => .inl hk))
  have HR2 := Aside0.mk hr2
  have HC2 := Aside0.mk hc2
  clear hr2 hc2
  have HB := Aside0.mk (Below.refl w.heap.size w)
  have H : ((greenwoodlaw05_fixed.f k).bind fun t330 => (if t330 = true then (if (l1.length : Int) < 1 then (greenwoodlaw05_ElimTwice.j0 k a0 l1 l2 true) else (if (l1.length : Int) > 20 then (greenwoodlaw05_ElimTwice.j0 k a0 l1 l2 true) else (if 0 < (l1.length : Int) then (if ((rd_L1 l1 0).length : Int) > 20 then (greenwoodlaw05_ElimTwice.j0 k a0 l1 l2 true) else (if (l2.length : Int) > 20 then (greenwoodlaw05_ElimTwice.j0 k a0 l1 l2 true) else ((greenwoodref05_May.f k a0 ((rd_L1 l1 0).length : Int) l1).bind fun t333 => (greenwoodlaw05_ElimTwice.j0 k a0 l1 l2 (!t333))))) else (none)))) else (greenwoodlaw05_ElimTwice.j0 k a0 l1 l2 true))) = some r := h
  clear h
  have HC4 := Aside0.mk H
  clear H
  go_enter Try.func7, Try.ntmps7
  go_upto_region 1 with (fail)
  go_cut [46] (fun v46 wc => ∃ (kq : Nat) (x46_3 : Bool), v46 = .bool x46_3 ∧ Aside0 (greenwoodlaw05_ElimTwice.j0 kq a0 l1 l2 x46_3 = some r) ∧ Aside0 (kq ≤ k) ∧ Aside0 (Kd.V (Kd.slice 3 (Kd.int .i64)) 26 wc w.heap.size (fun k_ => (P1_ k_ ∨ w.heap.size ≤ k_)) (.slice A1 l1.length c1) l1) ∧ Aside0 (Below w.heap.size w wc))
  case first =>
    have H := HC4.out
    clear HC4
    replace H := Option.bind_eq_some_iff.mp H
    obtain ⟨t330, A50, H⟩ := H
    replace H : (if t330 = true then (if (l1.length : Int) < 1 then (greenwoodlaw05_ElimTwice.j0 k a0 l1 l2 true) else (if (l1.length : Int) > 20 then (greenwoodlaw05_ElimTwice.j0 k a0 l1 l2 true) else (if 0 < (l1.length : Int) then (if ((rd_L1 l1 0).length : Int) > 20 then (greenwoodlaw05_ElimTwice.j0 k a0 l1 l2 true) else (if (l2.length : Int) > 20 then (greenwoodlaw05_ElimTwice.j0 k a0 l1 l2 true) else ((greenwoodref05_May.f k a0 ((rd_L1 l1 0).length : Int) l1).bind fun t333 => (greenwoodlaw05_ElimTwice.j0 k a0 l1 l2 (!t333))))) else (none)))) else (greenwoodlaw05_ElimTwice.j0 k a0 l1 l2 true)) = some r := H
    have A5 := Aside0.mk A50
    clear A50
    by_cases c6 : t330 = true
    · subst c6
      have H1 : (if (l1.length : Int) < 1 then (greenwoodlaw05_ElimTwice.j0 k a0 l1 l2 true) else (if (l1.length : Int) > 20 then (greenwoodlaw05_ElimTwice.j0 k a0 l1 l2 true) else (if 0 < (l1.length : Int) then (if ((rd_L1 l1 0).length : Int) > 20 then (greenwoodlaw05_ElimTwice.j0 k a0 l1 l2 true) else (if (l2.length : Int) > 20 then (greenwoodlaw05_ElimTwice.j0 k a0 l1 l2 true) else ((greenwoodref05_May.f k a0 ((rd_L1 l1 0).length : Int) l1).bind fun t333 => (greenwoodlaw05_ElimTwice.j0 k a0 l1 l2 (!t333))))) else (none)))) = some r := by rw [if_pos rfl] at H; exact H
      clear H
      have H := H1
      clear H1
      by_cases c7 : (l1.length : Int) < 1
      · rw [if_pos c7] at H
        have c7b0 : decide ((l1.length : Int) < 1) = true := decide_eq_true c7
        have c7b1 : decide (l1.length < 1) = true := decide_eq_true (by omega)
        clear c7
        (first | rw [c7b0] | (simp only [i64_w, i32_w]; rw [c7b0]) | skip)
        have H' := Aside0.mk H
        clear H
        go_wp2_with (first | ((with_reducible refine gate_callee (f := 8) rfl ?_); refine goesL_ (some 13) rfl rfl Try.func8 (by kernel_rfl) rfl #[] rfl (by (try simp only [List.map_toArray, List.map_cons, List.map_nil]); first | done | rfl | (simp only [List.length_drop, List.length_take]; rfl)) ?_; (with_reducible refine (greenwoodlaw05_fixed.calls k  true _ A5.out).mono ?_); rintro e w8 ⟨rfl, hb⟩; refine ⟨_, rfl, ?_⟩; have n0_ := Aside0.mk (Kd.V_below (by (with_reducible repeat (first | apply Kd.V_alloc | apply Kd.V_drewN | apply Kd.V_drew)); exact HO1.out) hb); have n1_ := Aside0.mk (below_step (by repeat (first | (with_reducible first | exact HB.out | apply below_alloc | apply pw_below_drewN | apply below_drew1) | exact HB.out)) hb); clear HO1; clear HB; have HO1 := n0_; have HB := n1_; clear n0_ n1_; (try clear hb); (try clear hb2); (try clear hk); (try clear hi)))
        go_meet
        case rel => exact ⟨_, (true), (by first | rfl | (simp; done) | (simp [*]; done)), H', ⟨by first | omega | exact Nat.le_refl _⟩, ⟨by (with_reducible repeat (first | apply Kd.V_alloc | apply Kd.V_drewN | apply Kd.V_drew)); exact HO1.out⟩, ⟨by repeat (first | (with_reducible first | exact HB.out | apply below_alloc | apply pw_below_drewN | apply below_drew1) | exact HB.out)⟩⟩
      · rw [if_neg c7] at H
        have c7b0 : decide ((l1.length : Int) < 1) = false := decide_eq_false c7
        have c7b1 : decide (l1.length < 1) = false := decide_eq_false (by omega)
        clear c7
        (first | rw [c7b0] | (simp only [i64_w, i32_w]; rw [c7b0]) | skip)
        by_cases c9 : (l1.length : Int) > 20
        · rw [if_pos c9] at H
          have c9b0 : decide (20 < (l1.length : Int)) = true := decide_eq_true c9
          have c9b1 : decide (20 < l1.length) = true := decide_eq_true (by omega)
          clear c9
          have H' := Aside0.mk H
          clear H
          go_wp2_with (first | ((with_reducible refine gate_callee (f := 8) rfl ?_); refine goesL_ (some 13) rfl rfl Try.func8 (by kernel_rfl) rfl #[] rfl (by (try simp only [List.map_toArray, List.map_cons, List.map_nil]); first | done | rfl | (simp only [List.length_drop, List.length_take]; rfl)) ?_; (with_reducible refine (greenwoodlaw05_fixed.calls k  true _ A5.out).mono ?_); rintro e w10 ⟨rfl, hb⟩; refine ⟨_, rfl, ?_⟩; have n0_ := Aside0.mk (Kd.V_below (by (with_reducible repeat (first | apply Kd.V_alloc | apply Kd.V_drewN | apply Kd.V_drew)); exact HO1.out) hb); have n1_ := Aside0.mk (below_step (by repeat (first | (with_reducible first | exact HB.out | apply below_alloc | apply pw_below_drewN | apply below_drew1) | exact HB.out)) hb); clear HO1; clear HB; have HO1 := n0_; have HB := n1_; clear n0_ n1_; (try clear hb); (try clear hb2); (try clear hk); (try clear hi)))
          go_meet
          case rel => exact ⟨_, (true), (by first | rfl | (simp; done) | (simp [*]; done)), H', ⟨by first | omega | exact Nat.le_refl _⟩, ⟨by (with_reducible repeat (first | apply Kd.V_alloc | apply Kd.V_drewN | apply Kd.V_drew)); exact HO1.out⟩, ⟨by repeat (first | (with_reducible first | exact HB.out | apply below_alloc | apply pw_below_drewN | apply below_drew1) | exact HB.out)⟩⟩
        · rw [if_neg c9] at H
          have c9b0 : decide (20 < (l1.length : Int)) = false := decide_eq_false c9
          have c9b1 : decide (20 < l1.length) = false := decide_eq_false (by omega)
          clear c9
          by_cases c11 : 0 < (l1.length : Int)
          · rw [if_pos c11] at H
            have c11b0 : decide (0 < (l1.length : Int)) = true := decide_eq_true c11
            have c11b1 : decide (0 < l1.length) = true := decide_eq_true (by omega)
            clear c11
            by_cases c12 : ((rd_L1 l1 0).length : Int) > 20
            · rw [if_pos c12] at H
              have c12b0 : decide (20 < ((rd_L1 l1 0).length : Int)) = true := decide_eq_true c12
              have c12b1 : decide (20 < (rd_L1 l1 0).length) = true := decide_eq_true (by omega)
              clear c12
              have H' := Aside0.mk H
              clear H
              go_wp2_with (first | ((with_reducible refine gate_callee (f := 8) rfl ?_); refine goesL_ (some 13) rfl rfl Try.func8 (by kernel_rfl) rfl #[] rfl (by (try simp only [List.map_toArray, List.map_cons, List.map_nil]); first | done | rfl | (simp only [List.length_drop, List.length_take]; rfl)) ?_; (with_reducible refine (greenwoodlaw05_fixed.calls k  true _ A5.out).mono ?_); rintro e w13 ⟨rfl, hb⟩; refine ⟨_, rfl, ?_⟩; have n0_ := Aside0.mk (Kd.V_below (by (with_reducible repeat (first | apply Kd.V_alloc | apply Kd.V_drewN | apply Kd.V_drew)); exact HO1.out) hb); have n1_ := Aside0.mk (below_step (by repeat (first | (with_reducible first | exact HB.out | apply below_alloc | apply pw_below_drewN | apply below_drew1) | exact HB.out)) hb); clear HO1; clear HB; have HO1 := n0_; have HB := n1_; clear n0_ n1_; (try clear hb); (try clear hb2); (try clear hk); (try clear hi); have p331 : 0 ≤ (0 : Int) := (by omega); have q331 : 0 < (l1.length : Int) := of_decide_eq_true (by first | (with_reducible assumption) | assumption); obtain ⟨ad331, A331_0, c331_0, e331, hx331_0, hl331_0, hi331_0⟩ := at_L1 (Kd.V_reads' HO1.out).2.2 0 p331 q331; cases e331; obtain ⟨ce331, hce331, hMe331, hcc331⟩ := Kd.V_get HO1.out [] 0 p331 (by first | exact q331 | exact of_decide_eq_true (by first | (with_reducible assumption) | assumption) | (have e_ := (Kd.V_reads' HO1.out).1; omega)); obtain ⟨ua331_0, uc331_0, rfl, ul331_0, ge331_0⟩ := Kd.FK_slice_open hMe331; have hv331_0 := hcc331 0 _ rfl; rw [Nat.add_zero, show ((Kd.slice 3 (Kd.int .i64))).sz = 1 from rfl, Nat.mul_one] at hv331_0; replace hv331_0 := Option.some.inj (hv331_0.symm.trans hx331_0); injection hv331_0 with hva_ hvn_ hvc_; rw [hva_] at ge331_0; rw [hvc_] at ul331_0; have HL331_0 := Aside0.mk (show Kd.V (Kd.int .i64) 3 _ w.heap.size _ _ (rd_L1 l1 0) from Kd.V_mk ul331_0 ge331_0); clear hva_ hvn_ hvc_ ge331_0 ul331_0; clear hcc331 hce331; have qi331 : (0 < l1.length) = True := eq_true (by omega); (try rw [show ((0 : Int)).toNat = 0 from rfl] at hx331_0); (try rw [Addr.add_zero'] at hx331_0); have HR331_0 := Aside0.mk hi331_0; have HC331_0 := Aside0.mk hl331_0; clear hi331_0 hl331_0; replace p331 := eq_true p331; replace q331 := eq_true q331))
              go_meet
              case rel => exact ⟨_, (true), (by first | rfl | (simp; done) | (simp [*]; done)), H', ⟨by first | omega | exact Nat.le_refl _⟩, ⟨by (with_reducible repeat (first | apply Kd.V_alloc | apply Kd.V_drewN | apply Kd.V_drew)); exact HO1.out⟩, ⟨by repeat (first | (with_reducible first | exact HB.out | apply below_alloc | apply pw_below_drewN | apply below_drew1) | exact HB.out)⟩⟩
            · rw [if_neg c12] at H
              have c12b0 : decide (20 < ((rd_L1 l1 0).length : Int)) = false := decide_eq_false c12
              have c12b1 : decide (20 < (rd_L1 l1 0).length) = false := decide_eq_false (by omega)
              clear c12
              by_cases c14 : (l2.length : Int) > 20
              · rw [if_pos c14] at H
                have c14b0 : decide (20 < (l2.length : Int)) = true := decide_eq_true c14
                have c14b1 : decide (20 < l2.length) = true := decide_eq_true (by omega)
                clear c14
                have H' := Aside0.mk H
                clear H
                go_wp2_with (first | ((with_reducible refine gate_callee (f := 8) rfl ?_); refine goesL_ (some 13) rfl rfl Try.func8 (by kernel_rfl) rfl #[] rfl (by (try simp only [List.map_toArray, List.map_cons, List.map_nil]); first | done | rfl | (simp only [List.length_drop, List.length_take]; rfl)) ?_; (with_reducible refine (greenwoodlaw05_fixed.calls k  true _ A5.out).mono ?_); rintro e w15 ⟨rfl, hb⟩; refine ⟨_, rfl, ?_⟩; have n0_ := Aside0.mk (Kd.V_below (by (with_reducible repeat (first | apply Kd.V_alloc | apply Kd.V_drewN | apply Kd.V_drew)); exact HO1.out) hb); have n1_ := Aside0.mk (below_step (by repeat (first | (with_reducible first | exact HB.out | apply below_alloc | apply pw_below_drewN | apply below_drew1) | exact HB.out)) hb); clear HO1; clear HB; have HO1 := n0_; have HB := n1_; clear n0_ n1_; (try clear hb); (try clear hb2); (try clear hk); (try clear hi); have p331 : 0 ≤ (0 : Int) := (by omega); have q331 : 0 < (l1.length : Int) := of_decide_eq_true (by first | (with_reducible assumption) | assumption); obtain ⟨ad331, A331_0, c331_0, e331, hx331_0, hl331_0, hi331_0⟩ := at_L1 (Kd.V_reads' HO1.out).2.2 0 p331 q331; cases e331; obtain ⟨ce331, hce331, hMe331, hcc331⟩ := Kd.V_get HO1.out [] 0 p331 (by first | exact q331 | exact of_decide_eq_true (by first | (with_reducible assumption) | assumption) | (have e_ := (Kd.V_reads' HO1.out).1; omega)); obtain ⟨ua331_0, uc331_0, rfl, ul331_0, ge331_0⟩ := Kd.FK_slice_open hMe331; have hv331_0 := hcc331 0 _ rfl; rw [Nat.add_zero, show ((Kd.slice 3 (Kd.int .i64))).sz = 1 from rfl, Nat.mul_one] at hv331_0; replace hv331_0 := Option.some.inj (hv331_0.symm.trans hx331_0); injection hv331_0 with hva_ hvn_ hvc_; rw [hva_] at ge331_0; rw [hvc_] at ul331_0; have HL331_0 := Aside0.mk (show Kd.V (Kd.int .i64) 3 _ w.heap.size _ _ (rd_L1 l1 0) from Kd.V_mk ul331_0 ge331_0); clear hva_ hvn_ hvc_ ge331_0 ul331_0; clear hcc331 hce331; have qi331 : (0 < l1.length) = True := eq_true (by omega); (try rw [show ((0 : Int)).toNat = 0 from rfl] at hx331_0); (try rw [Addr.add_zero'] at hx331_0); have HR331_0 := Aside0.mk hi331_0; have HC331_0 := Aside0.mk hl331_0; clear hi331_0 hl331_0; replace p331 := eq_true p331; replace q331 := eq_true q331))
                go_meet
                case rel => exact ⟨_, (true), (by first | rfl | (simp; done) | (simp [*]; done)), H', ⟨by first | omega | exact Nat.le_refl _⟩, ⟨by (with_reducible repeat (first | apply Kd.V_alloc | apply Kd.V_drewN | apply Kd.V_drew)); exact HO1.out⟩, ⟨by repeat (first | (with_reducible first | exact HB.out | apply below_alloc | apply pw_below_drewN | apply below_drew1) | exact HB.out)⟩⟩
              · rw [if_neg c14] at H
                have c14b0 : decide (20 < (l2.length : Int)) = false := decide_eq_false c14
                have c14b1 : decide (20 < l2.length) = false := decide_eq_false (by omega)
                clear c14
                replace H := Option.bind_eq_some_iff.mp H
                obtain ⟨t333, A160, H⟩ := H
                replace H : (greenwoodlaw05_ElimTwice.j0 k a0 l1 l2 (!t333)) = some r := H
                have A16 := Aside0.mk A160
                clear A160
                have H' := Aside0.mk H
                clear H
                go_wp2_with (first | ((with_reducible refine gate_callee (f := 8) rfl ?_); refine goesL_ (some 13) rfl rfl Try.func8 (by kernel_rfl) rfl #[] rfl (by (try simp only [List.map_toArray, List.map_cons, List.map_nil]); first | done | rfl | (simp only [List.length_drop, List.length_take]; rfl)) ?_; (with_reducible refine (greenwoodlaw05_fixed.calls k  true _ A5.out).mono ?_); rintro e w17 ⟨rfl, hb⟩; refine ⟨_, rfl, ?_⟩; have n0_ := Aside0.mk (Kd.V_below (by (with_reducible repeat (first | apply Kd.V_alloc | apply Kd.V_drewN | apply Kd.V_drew)); exact HO1.out) hb); have n1_ := Aside0.mk (below_step (by repeat (first | (with_reducible first | exact HB.out | apply below_alloc | apply pw_below_drewN | apply below_drew1) | exact HB.out)) hb); clear HO1; clear HB; have HO1 := n0_; have HB := n1_; clear n0_ n1_; (try clear hb); (try clear hb2); (try clear hk); (try clear hi); have p331 : 0 ≤ (0 : Int) := (by omega); have q331 : 0 < (l1.length : Int) := of_decide_eq_true (by first | (with_reducible assumption) | assumption); obtain ⟨ad331, A331_0, c331_0, e331, hx331_0, hl331_0, hi331_0⟩ := at_L1 (Kd.V_reads' HO1.out).2.2 0 p331 q331; cases e331; obtain ⟨ce331, hce331, hMe331, hcc331⟩ := Kd.V_get HO1.out [] 0 p331 (by first | exact q331 | exact of_decide_eq_true (by first | (with_reducible assumption) | assumption) | (have e_ := (Kd.V_reads' HO1.out).1; omega)); obtain ⟨ua331_0, uc331_0, rfl, ul331_0, ge331_0⟩ := Kd.FK_slice_open hMe331; have hv331_0 := hcc331 0 _ rfl; rw [Nat.add_zero, show ((Kd.slice 3 (Kd.int .i64))).sz = 1 from rfl, Nat.mul_one] at hv331_0; replace hv331_0 := Option.some.inj (hv331_0.symm.trans hx331_0); injection hv331_0 with hva_ hvn_ hvc_; rw [hva_] at ge331_0; rw [hvc_] at ul331_0; have HL331_0 := Aside0.mk (show Kd.V (Kd.int .i64) 3 _ w.heap.size _ _ (rd_L1 l1 0) from Kd.V_mk ul331_0 ge331_0); clear hva_ hvn_ hvc_ ge331_0 ul331_0; clear hcc331 hce331; have qi331 : (0 < l1.length) = True := eq_true (by omega); (try rw [show ((0 : Int)).toNat = 0 from rfl] at hx331_0); (try rw [Addr.add_zero'] at hx331_0); have HR331_0 := Aside0.mk hi331_0; have HC331_0 := Aside0.mk hl331_0; clear hi331_0 hl331_0; replace p331 := eq_true p331; replace q331 := eq_true q331; have p332 : 0 ≤ (0 : Int) := (by omega); have q332 : 0 < (l1.length : Int) := of_decide_eq_true (by first | (with_reducible assumption) | assumption); obtain ⟨ad332, A332_0, c332_0, e332, hx332_0, hl332_0, hi332_0⟩ := at_L1 (Kd.V_reads' HO1.out).2.2 0 p332 q332; obtain rfl : ad331 = ad332 := (by injection e332); obtain ⟨ce332, hce332, hMe332, hcc332⟩ := Kd.V_get HO1.out [] 0 p332 (by first | exact q332 | exact of_decide_eq_true (by first | (with_reducible assumption) | assumption) | (have e_ := (Kd.V_reads' HO1.out).1; omega)); obtain ⟨ua332_0, uc332_0, rfl, ul332_0, ge332_0⟩ := Kd.FK_slice_open hMe332; have hv332_0 := hcc332 0 _ rfl; rw [Nat.add_zero, show ((Kd.slice 3 (Kd.int .i64))).sz = 1 from rfl, Nat.mul_one] at hv332_0; replace hv332_0 := Option.some.inj (hv332_0.symm.trans hx332_0); injection hv332_0 with hva_ hvn_ hvc_; rw [hva_] at ge332_0; rw [hvc_] at ul332_0; have HL332_0 := Aside0.mk (show Kd.V (Kd.int .i64) 3 _ w.heap.size _ _ (rd_L1 l1 0) from Kd.V_mk ul332_0 ge332_0); clear hva_ hvn_ hvc_ ge332_0 ul332_0; clear hcc332 hce332; have qi332 : (0 < l1.length) = True := eq_true (by omega); (try rw [show ((0 : Int)).toNat = 0 from rfl] at hx332_0); (try rw [Addr.add_zero'] at hx332_0); have HR332_0 := Aside0.mk hi332_0; have HC332_0 := Aside0.mk hl332_0; clear hi332_0 hl332_0; replace p332 := eq_true p332; replace q332 := eq_true q332; have ea_ := Option.some.inj (hx331_0.symm.trans hx332_0); injection ea_ with ea_ en_ ec_; subst ea_; subst ec_; clear en_) | (go_at_call 10; (with_reducible refine (greenwoodref05_May.calls k a0 ((rd_L1 l1 0).length : Int) _ _ l1 t333 _ ?side1 ?side2 A16.out).mono ?_); (case side1 => repeat (first | exact (Kd.V_reads' HO1.out).2.2 | (with_reducible refine Kd.C_alloc ?_ _) | (with_reducible refine Kd.C_drewN ?_ _) | (with_reducible refine Kd.C_drew ?_))); (case side2 => exact (Kd.V_reads' HO1.out).2.1); rintro e w' ⟨rfl, ⟨nd, rfl⟩⟩))
                go_meet
                case rel => exact ⟨_, (!t333), (by first | rfl | (simp; done) | (simp [*]; done)), H', ⟨by first | omega | exact Nat.le_refl _⟩, ⟨by (with_reducible repeat (first | apply Kd.V_alloc | apply Kd.V_drewN | apply Kd.V_drew)); exact HO1.out⟩, ⟨by repeat (first | (with_reducible first | exact HB.out | apply below_alloc | apply pw_below_drewN | apply below_drew1) | exact HB.out)⟩⟩
          · rw [if_neg c11] at H
            exact absurd H (by simp)
    · replace c6 := Bool.eq_false_iff.mpr c6
      subst c6
      have H1 : (greenwoodlaw05_ElimTwice.j0 k a0 l1 l2 true) = some r := by rw [if_neg (show ¬ (false = true) by decide)] at H; exact H
      clear H
      have H := H1
      clear H1
      have H' := Aside0.mk H
      clear H
      go_wp2_with (first | ((with_reducible refine gate_callee (f := 8) rfl ?_); refine goesL_ (some 13) rfl rfl Try.func8 (by kernel_rfl) rfl #[] rfl (by (try simp only [List.map_toArray, List.map_cons, List.map_nil]); first | done | rfl | (simp only [List.length_drop, List.length_take]; rfl)) ?_; (with_reducible refine (greenwoodlaw05_fixed.calls k  false _ A5.out).mono ?_); rintro e w18 ⟨rfl, hb⟩; refine ⟨_, rfl, ?_⟩; have n0_ := Aside0.mk (Kd.V_below (by (with_reducible repeat (first | apply Kd.V_alloc | apply Kd.V_drewN | apply Kd.V_drew)); exact HO1.out) hb); have n1_ := Aside0.mk (below_step (by repeat (first | (with_reducible first | exact HB.out | apply below_alloc | apply pw_below_drewN | apply below_drew1) | exact HB.out)) hb); clear HO1; clear HB; have HO1 := n0_; have HB := n1_; clear n0_ n1_; (try clear hb); (try clear hb2); (try clear hk); (try clear hi)))
      go_meet
      case rel => exact ⟨_, (true), (by first | rfl | (simp; done) | (simp [*]; done)), H', ⟨by first | omega | exact Nat.le_refl _⟩, ⟨by (with_reducible repeat (first | apply Kd.V_alloc | apply Kd.V_drewN | apply Kd.V_drew)); exact HO1.out⟩, ⟨by repeat (first | (with_reducible first | exact HB.out | apply below_alloc | apply pw_below_drewN | apply below_drew1) | exact HB.out)⟩⟩
  case rest =>
    clear HC4
    try clear c1
    try clear c2
    try clear p2
    try clear c3
    try clear p3
    try clear q3
    try clear hx3
    try clear qi3
    try clear c6
    try clear c7
    try clear c7b0
    try clear c7b1
    try clear c8
    try clear c9
    try clear c9b0
    try clear c9b1
    try clear c11
    try clear c11b0
    try clear c11b1
    try clear c12
    try clear c12b0
    try clear c12b1
    try clear c14
    try clear c14b0
    try clear c14b1
    try clear hx331_0
    try clear hx332_0
    try clear p331
    try clear p332
    try clear q331
    try clear q332
    obtain ⟨kq, x46_3, rfl, HA, HJ3, HO_1, HB⟩ := hcut
    cases kq with
    | zero => exact absurd HA.out (by simp [greenwoodlaw05_ElimTwice.j0])
    | succ kj3 =>
      have H := HA.out
      clear HA
      simp only [greenwoodlaw05_ElimTwice.j0] at H
      by_cases c19 : x46_3 = true
      · subst c19
        have H1 : ((greenwoodlaw05_fixed.f kj3).bind fun t334 => (some t334)) = some r := by rw [if_pos rfl] at H; exact H
        clear H
        have H := H1
        clear H1
        replace H := Option.bind_eq_some_iff.mp H
        obtain ⟨t334, A200, H⟩ := H
        replace H : (some t334) = some r := H
        have A20 := Aside0.mk A200
        clear A200
        obtain rfl := Option.some.inj H
        go_wp2_with (first | ((with_reducible refine gate_callee (f := 8) rfl ?_); refine goesL_ (some 47) rfl rfl Try.func8 (by kernel_rfl) rfl #[] rfl (by (try simp only [List.map_toArray, List.map_cons, List.map_nil]); first | done | rfl | (simp only [List.length_drop, List.length_take]; rfl)) ?_; (with_reducible refine (greenwoodlaw05_fixed.calls kj3  t334 _ A20.out).mono ?_); rintro e w21 ⟨rfl, hb⟩; refine ⟨_, rfl, ?_⟩; have n0_ := Aside0.mk (Kd.V_below (by (with_reducible repeat (first | apply Kd.V_alloc | apply Kd.V_drewN | apply Kd.V_drew)); exact HO_1.out) hb); have n1_ := Aside0.mk (below_step (by repeat (first | (with_reducible first | exact HB.out | apply below_alloc | apply pw_below_drewN | apply below_drew1) | exact HB.out)) hb); clear HO_1; clear HB; have HO_1 := n0_; have HB := n1_; clear n0_ n1_; (try clear hb); (try clear hb2); (try clear hk); (try clear hi)))
        go_ret
        exact ⟨by first | rfl | (simp [errW_none, errW_some] <;> rfl) | (simp [*, errW_none, errW_some] <;> rfl), by repeat (first | (with_reducible first | exact HB.out | apply below_alloc | apply pw_below_drewN | apply below_drew1) | exact HB.out)⟩
      · replace c19 := Bool.eq_false_iff.mpr c19
        subst c19
        have H1 : (greenwoodlaw05_ElimTwice.l0 kj3 a0 l1 l2 0) = some r := by rw [if_neg (show ¬ (false = true) by decide)] at H; exact H
        clear H
        have H := H1
        clear H1
        have H' := Aside0.mk H
        clear H
        go_wp2
        go_loopg [7] kj3 (fun kq v7 w' => ∃ (x7_2 : Int), v7 = .int .i64 x7_2 ∧ Aside0 (greenwoodlaw05_ElimTwice.l0 kq a0 l1 l2 x7_2 = some r) ∧ Aside0 (kq ≤ kj3) ∧ Aside0 (Kd.V (Kd.slice 3 (Kd.int .i64)) 26 w' w.heap.size (fun k_ => (P1_ k_ ∨ w.heap.size ≤ k_)) (.slice A1 l1.length c1) l1) ∧ Aside0 (Below w.heap.size w w'))
        case atStart => exact ⟨(0), (by first | rfl | (simp; done) | (simp [*]; done)), H', ⟨Nat.le_refl _⟩, ⟨by (with_reducible repeat (first | apply Kd.V_alloc | apply Kd.V_drewN | apply Kd.V_drew)); exact HO_1.out⟩, ⟨by repeat (first | (with_reducible first | exact HB.out | apply below_alloc | apply pw_below_drewN | apply below_drew1) | exact HB.out)⟩⟩
        case round =>
          clear H'
          try clear c1
          try clear c2
          try clear p2
          try clear c3
          try clear p3
          try clear q3
          try clear hx3
          try clear qi3
          try clear c6
          try clear c7
          try clear c7b0
          try clear c7b1
          try clear c8
          try clear c9
          try clear c9b0
          try clear c9b1
          try clear c11
          try clear c11b0
          try clear c11b1
          try clear c12
          try clear c12b0
          try clear c12b1
          try clear c14
          try clear c14b0
          try clear c14b1
          try clear c19
          try clear hx331_0
          try clear hx332_0
          try clear p2
          try clear p3
          try clear p331
          try clear p332
          try clear q3
          try clear q331
          try clear q332
          obtain ⟨x7_2, rfl, HA, HK2, HO_1, HB⟩ := hrel
          cases gk with
          | zero => exact absurd HA.out (by simp [greenwoodlaw05_ElimTwice.l0])
          | succ k2 =>
            have H := HA.out
            clear HA
            simp only [greenwoodlaw05_ElimTwice.l0] at H
            by_cases c22 : x7_2 < (l2.length : Int)
            · rw [if_pos c22] at H
              have c22b0 : decide (x7_2 < (l2.length : Int)) = true := decide_eq_true c22
              clear c22
              by_cases c23 : 0 ≤ x7_2
              · rw [if_pos c23] at H
                have c23b0 : decide (0 ≤ x7_2) = true := decide_eq_true c23
                clear c23
                by_cases c24 : (rd l2 x7_2) < 0
                · rw [if_pos c24] at H
                  have c24b0 : decide ((rd l2 x7_2) < 0) = true := decide_eq_true c24
                  clear c24
                  obtain rfl := Option.some.inj H
                  have p335 : 0 ≤ (x7_2 : Int) := of_decide_eq_true (by first | (with_reducible assumption) | assumption)
                  have q335 : x7_2 < (l2.length : Int) := of_decide_eq_true (by first | (with_reducible assumption) | assumption)
                  obtain ⟨ad335, e335, hx335_0⟩ := Kd.at_int HR2.out x7_2 p335 q335
                  cases e335
                  replace hx335_0 := (HB.out.cell (World.block_lt_of_cell? w _ hx335_0)).trans hx335_0
                  replace p335 := eq_true p335
                  replace q335 := eq_true q335
                  go_wp2
                  go_ret
                  exact ⟨by first | rfl | (simp [errW_none, errW_some] <;> rfl) | (simp [*, errW_none, errW_some] <;> rfl), by repeat (first | (with_reducible first | exact HB.out | apply below_alloc | apply pw_below_drewN | apply below_drew1) | exact HB.out)⟩
                · rw [if_neg c24] at H
                  have c24b0 : decide ((rd l2 x7_2) < 0) = false := decide_eq_false c24
                  clear c24
                  by_cases c25 : (rd l2 x7_2) ≥ a0
                  · rw [if_pos c25] at H
                    have c25b0 : decide (a0 ≤ (rd l2 x7_2)) = true := decide_eq_true c25
                    clear c25
                    obtain rfl := Option.some.inj H
                    have p335 : 0 ≤ (x7_2 : Int) := of_decide_eq_true (by first | (with_reducible assumption) | assumption)
                    have q335 : x7_2 < (l2.length : Int) := of_decide_eq_true (by first | (with_reducible assumption) | assumption)
                    obtain ⟨ad335, e335, hx335_0⟩ := Kd.at_int HR2.out x7_2 p335 q335
                    cases e335
                    replace hx335_0 := (HB.out.cell (World.block_lt_of_cell? w _ hx335_0)).trans hx335_0
                    replace p335 := eq_true p335
                    replace q335 := eq_true q335
                    have p336 : 0 ≤ (x7_2 : Int) := of_decide_eq_true (by first | (with_reducible assumption) | assumption)
                    have q336 : x7_2 < (l2.length : Int) := of_decide_eq_true (by first | (with_reducible assumption) | assumption)
                    obtain ⟨ad336, e336, hx336_0⟩ := Kd.at_int HR2.out x7_2 p336 q336
                    obtain rfl : ad335 = ad336 := (by injection e336)
                    replace hx336_0 := (HB.out.cell (World.block_lt_of_cell? w _ hx336_0)).trans hx336_0
                    replace p336 := eq_true p336
                    replace q336 := eq_true q336
                    go_wp2
                    go_ret
                    exact ⟨by first | rfl | (simp [errW_none, errW_some] <;> rfl) | (simp [*, errW_none, errW_some] <;> rfl), by repeat (first | (with_reducible first | exact HB.out | apply below_alloc | apply pw_below_drewN | apply below_drew1) | exact HB.out)⟩
                  · rw [if_neg c25] at H
                    have c25b0 : decide (a0 ≤ (rd l2 x7_2)) = false := decide_eq_false c25
                    clear c25
                    have H' := Aside0.mk H
                    clear H
                    have p335 : 0 ≤ (x7_2 : Int) := of_decide_eq_true (by first | (with_reducible assumption) | assumption)
                    have q335 : x7_2 < (l2.length : Int) := of_decide_eq_true (by first | (with_reducible assumption) | assumption)
                    obtain ⟨ad335, e335, hx335_0⟩ := Kd.at_int HR2.out x7_2 p335 q335
                    cases e335
                    replace hx335_0 := (HB.out.cell (World.block_lt_of_cell? w _ hx335_0)).trans hx335_0
                    replace p335 := eq_true p335
                    replace q335 := eq_true q335
                    have p336 : 0 ≤ (x7_2 : Int) := of_decide_eq_true (by first | (with_reducible assumption) | assumption)
                    have q336 : x7_2 < (l2.length : Int) := of_decide_eq_true (by first | (with_reducible assumption) | assumption)
                    obtain ⟨ad336, e336, hx336_0⟩ := Kd.at_int HR2.out x7_2 p336 q336
                    obtain rfl : ad335 = ad336 := (by injection e336)
                    replace hx336_0 := (HB.out.cell (World.block_lt_of_cell? w _ hx336_0)).trans hx336_0
                    replace p336 := eq_true p336
                    replace q336 := eq_true q336
                    go_wp2
                    go_roundg k2
                    case measure => have := HJ3.out; have := HK2.out; omega
                    case rel => exact ⟨(wrap64 (x7_2 + 1)), (by first | rfl | (simp; done) | (simp [*]; done)), H', ⟨by have := HJ3.out; have := HK2.out; omega⟩, ⟨by (with_reducible repeat (first | apply Kd.V_alloc | apply Kd.V_drewN | apply Kd.V_drew)); exact HO_1.out⟩, ⟨by repeat (first | (with_reducible first | exact HB.out | apply below_alloc | apply pw_below_drewN | apply below_drew1) | exact HB.out)⟩⟩
              · rw [if_neg c23] at H
                exact absurd H (by simp)
            · rw [if_neg c22] at H
              have c22b0 : decide (x7_2 < (l2.length : Int)) = false := decide_eq_false c22
              clear c22
              by_cases c26 : 0 < (l1.length : Int)
              · rw [if_pos c26] at H
                have c26b0 : decide (0 < (l1.length : Int)) = true := decide_eq_true c26
                have c26b1 : decide (0 < l1.length) = true := decide_eq_true (by omega)
                clear c26
                obtain ⟨y338, hy338⟩ : ∃ y_ : List (List Int), y_ = (([] : List (List Int))) := ⟨_, rfl⟩
                replace H : (if y338.length + l1.length < 5864062014805 then ((some (y338 ++ l1 : List (List Int))).bind fun y341 => (if y341.length + l1.length < 5864062014805 then ((greenwoodref05_Sum.f k2 a0 ((rd_L1 l1 0).length : Int) l1 l2).bind fun t347 => ((elim_Combo.f k2 a0 ((rd_L1 l1 0).length : Int) l1 t347).bind fun bt350 => ((elim_Basis.f k2 a0 ((rd_L1 l1 0).length : Int) (y341 ++ l1)).bind fun t354 => ((elim_Basis.f k2 a0 ((rd_L1 l1 0).length : Int) l1).bind fun t357 => ((greenwoodref01_Same.f k2 t354 t357).bind fun t360 => (if t360 = true then (if bt350.2 = true then (if (bt350.1.length : Int) = (l1.length : Int) then ((greenwoodref05_Sum.f k2 a0 ((rd_L1 l1 0).length : Int) l1 bt350.1).bind fun t361 => ((greenwoodref01_Same.f k2 t361 t347).bind fun t364 => (some t364))) else (some false)) else (some false)) else (some false))))))) else (none))) else (none)) = some r := by first | (rw [hy338]; with_reducible exact H) | (have H2_ := (Option.bind_some _ _).symm.trans H; rw [hy338]; with_reducible exact H2_) | (have H2_ := (Option.bind_some _ _).symm.trans H; with_reducible exact H2_) | with_reducible exact H | (rw [hy338]; exact H) | exact H
                have Ny338 := Aside0.mk hy338
                clear hy338
                by_cases c27 : y338.length + l1.length < 5864062014805
                · rw [if_pos c27] at H
                  have LMc27 := Aside0.mk c27
                  clear c27
                  obtain ⟨y341, hy341⟩ : ∃ y_ : List (List Int), y_ = (y338 ++ l1) := ⟨_, rfl⟩
                  replace H : (if y341.length + l1.length < 5864062014805 then ((greenwoodref05_Sum.f k2 a0 ((rd_L1 l1 0).length : Int) l1 l2).bind fun t347 => ((elim_Combo.f k2 a0 ((rd_L1 l1 0).length : Int) l1 t347).bind fun bt350 => ((elim_Basis.f k2 a0 ((rd_L1 l1 0).length : Int) (y341 ++ l1)).bind fun t354 => ((elim_Basis.f k2 a0 ((rd_L1 l1 0).length : Int) l1).bind fun t357 => ((greenwoodref01_Same.f k2 t354 t357).bind fun t360 => (if t360 = true then (if bt350.2 = true then (if (bt350.1.length : Int) = (l1.length : Int) then ((greenwoodref05_Sum.f k2 a0 ((rd_L1 l1 0).length : Int) l1 bt350.1).bind fun t361 => ((greenwoodref01_Same.f k2 t361 t347).bind fun t364 => (some t364))) else (some false)) else (some false)) else (some false))))))) else (none)) = some r := by first | (rw [hy341]; with_reducible exact H) | (have H2_ := (Option.bind_some _ _).symm.trans H; rw [hy341]; with_reducible exact H2_) | (have H2_ := (Option.bind_some _ _).symm.trans H; with_reducible exact H2_) | with_reducible exact H | (rw [hy341]; exact H) | exact H
                  have Ny341 := Aside0.mk hy341
                  clear hy341
                  by_cases c28 : y341.length + l1.length < 5864062014805
                  · rw [if_pos c28] at H
                    have LMc28 := Aside0.mk c28
                    clear c28
                    obtain ⟨y344, hy344⟩ : ∃ y_ : List (List Int), y_ = (y341 ++ l1) := ⟨_, rfl⟩
                    replace H : ((greenwoodref05_Sum.f k2 a0 ((rd_L1 l1 0).length : Int) l1 l2).bind fun t347 => ((elim_Combo.f k2 a0 ((rd_L1 l1 0).length : Int) l1 t347).bind fun bt350 => ((elim_Basis.f k2 a0 ((rd_L1 l1 0).length : Int) y344).bind fun t354 => ((elim_Basis.f k2 a0 ((rd_L1 l1 0).length : Int) l1).bind fun t357 => ((greenwoodref01_Same.f k2 t354 t357).bind fun t360 => (if t360 = true then (if bt350.2 = true then (if (bt350.1.length : Int) = (l1.length : Int) then ((greenwoodref05_Sum.f k2 a0 ((rd_L1 l1 0).length : Int) l1 bt350.1).bind fun t361 => ((greenwoodref01_Same.f k2 t361 t347).bind fun t364 => (some t364))) else (some false)) else (some false)) else (some false))))))) = some r := by first | (rw [hy344]; with_reducible exact H) | (have H2_ := (Option.bind_some _ _).symm.trans H; rw [hy344]; with_reducible exact H2_) | (have H2_ := (Option.bind_some _ _).symm.trans H; with_reducible exact H2_) | with_reducible exact H | (rw [hy344]; exact H) | exact H
                    have Ny344 := Aside0.mk hy344
                    clear hy344
                    replace H := Option.bind_eq_some_iff.mp H
                    obtain ⟨t347, A290, H⟩ := H
                    replace H : ((elim_Combo.f k2 a0 ((rd_L1 l1 0).length : Int) l1 t347).bind fun bt350 => ((elim_Basis.f k2 a0 ((rd_L1 l1 0).length : Int) y344).bind fun t354 => ((elim_Basis.f k2 a0 ((rd_L1 l1 0).length : Int) l1).bind fun t357 => ((greenwoodref01_Same.f k2 t354 t357).bind fun t360 => (if t360 = true then (if bt350.2 = true then (if (bt350.1.length : Int) = (l1.length : Int) then ((greenwoodref05_Sum.f k2 a0 ((rd_L1 l1 0).length : Int) l1 bt350.1).bind fun t361 => ((greenwoodref01_Same.f k2 t361 t347).bind fun t364 => (some t364))) else (some false)) else (some false)) else (some false)))))) = some r := H
                    have A29 := Aside0.mk A290
                    clear A290
                    replace H := Option.bind_eq_some_iff.mp H
                    obtain ⟨⟨t350, t351⟩, A300, H⟩ := H
                    replace H : ((elim_Basis.f k2 a0 ((rd_L1 l1 0).length : Int) y344).bind fun t354 => ((elim_Basis.f k2 a0 ((rd_L1 l1 0).length : Int) l1).bind fun t357 => ((greenwoodref01_Same.f k2 t354 t357).bind fun t360 => (if t360 = true then (if t351 = true then (if (t350.length : Int) = (l1.length : Int) then ((greenwoodref05_Sum.f k2 a0 ((rd_L1 l1 0).length : Int) l1 t350).bind fun t361 => ((greenwoodref01_Same.f k2 t361 t347).bind fun t364 => (some t364))) else (some false)) else (some false)) else (some false))))) = some r := H
                    have A30 := Aside0.mk A300
                    clear A300
                    replace H := Option.bind_eq_some_iff.mp H
                    obtain ⟨t354, A310, H⟩ := H
                    replace H : ((elim_Basis.f k2 a0 ((rd_L1 l1 0).length : Int) l1).bind fun t357 => ((greenwoodref01_Same.f k2 t354 t357).bind fun t360 => (if t360 = true then (if t351 = true then (if (t350.length : Int) = (l1.length : Int) then ((greenwoodref05_Sum.f k2 a0 ((rd_L1 l1 0).length : Int) l1 t350).bind fun t361 => ((greenwoodref01_Same.f k2 t361 t347).bind fun t364 => (some t364))) else (some false)) else (some false)) else (some false)))) = some r := H
                    have A31 := Aside0.mk A310
                    clear A310
                    replace H := Option.bind_eq_some_iff.mp H
                    obtain ⟨t357, A320, H⟩ := H
                    replace H : ((greenwoodref01_Same.f k2 t354 t357).bind fun t360 => (if t360 = true then (if t351 = true then (if (t350.length : Int) = (l1.length : Int) then ((greenwoodref05_Sum.f k2 a0 ((rd_L1 l1 0).length : Int) l1 t350).bind fun t361 => ((greenwoodref01_Same.f k2 t361 t347).bind fun t364 => (some t364))) else (some false)) else (some false)) else (some false))) = some r := H
                    have A32 := Aside0.mk A320
                    clear A320
                    replace H := Option.bind_eq_some_iff.mp H
                    obtain ⟨t360, A330, H⟩ := H
                    replace H : (if t360 = true then (if t351 = true then (if (t350.length : Int) = (l1.length : Int) then ((greenwoodref05_Sum.f k2 a0 ((rd_L1 l1 0).length : Int) l1 t350).bind fun t361 => ((greenwoodref01_Same.f k2 t361 t347).bind fun t364 => (some t364))) else (some false)) else (some false)) else (some false)) = some r := H
                    have A33 := Aside0.mk A330
                    clear A330
                    by_cases c34 : t360 = true
                    · subst c34
                      have H1 : (if t351 = true then (if (t350.length : Int) = (l1.length : Int) then ((greenwoodref05_Sum.f k2 a0 ((rd_L1 l1 0).length : Int) l1 t350).bind fun t361 => ((greenwoodref01_Same.f k2 t361 t347).bind fun t364 => (some t364))) else (some false)) else (some false)) = some r := by rw [if_pos rfl] at H; exact H
                      clear H
                      have H := H1
                      clear H1
                      by_cases c35 : t351 = true
                      · subst c35
                        have H1 : (if (t350.length : Int) = (l1.length : Int) then ((greenwoodref05_Sum.f k2 a0 ((rd_L1 l1 0).length : Int) l1 t350).bind fun t361 => ((greenwoodref01_Same.f k2 t361 t347).bind fun t364 => (some t364))) else (some false)) = some r := by rw [if_pos rfl] at H; exact H
                        clear H
                        have H := H1
                        clear H1
                        by_cases c36 : (t350.length : Int) = (l1.length : Int)
                        · rw [if_pos c36] at H
                          have c36b0 : ((t350.length : Int) == (l1.length : Int)) = true := beq_iff_eq.mpr c36
                          have c36b1 : ((t350.length : Int) != (l1.length : Int)) = false := bne_eq_false_iff_eq.mpr c36
                          have c36b2 : (t350.length == l1.length) = true := by first | simpa using c36 | (simp at c36 ⊢; omega)
                          clear c36
                          replace H := Option.bind_eq_some_iff.mp H
                          obtain ⟨t361, A370, H⟩ := H
                          replace H : ((greenwoodref01_Same.f k2 t361 t347).bind fun t364 => (some t364)) = some r := H
                          have A37 := Aside0.mk A370
                          clear A370
                          replace H := Option.bind_eq_some_iff.mp H
                          obtain ⟨t364, A380, H⟩ := H
                          replace H : (some t364) = some r := H
                          have A38 := Aside0.mk A380
                          clear A380
                          obtain rfl := Option.some.inj H
                          have p337 : 0 ≤ (0 : Int) := (by omega)
                          have q337 : 0 < (l1.length : Int) := of_decide_eq_true (by first | (with_reducible assumption) | assumption)
                          obtain ⟨ad337, A337_0, c337_0, e337, hx337_0, hl337_0, hi337_0⟩ := at_L1 (Kd.V_reads' HO_1.out).2.2 0 p337 q337
                          cases e337
                          obtain ⟨ce337, hce337, hMe337, hcc337⟩ := Kd.V_get HO_1.out [] 0 p337 (by first | exact q337 | exact of_decide_eq_true (by first | (with_reducible assumption) | assumption) | (have e_ := (Kd.V_reads' HO_1.out).1; omega))
                          obtain ⟨ua337_0, uc337_0, rfl, ul337_0, ge337_0⟩ := Kd.FK_slice_open hMe337
                          have hv337_0 := hcc337 0 _ rfl
                          rw [Nat.add_zero, show ((Kd.slice 3 (Kd.int .i64))).sz = 1 from rfl, Nat.mul_one] at hv337_0
                          replace hv337_0 := Option.some.inj (hv337_0.symm.trans hx337_0)
                          injection hv337_0 with hva_ hvn_ hvc_
                          rw [hva_] at ge337_0
                          rw [hvc_] at ul337_0
                          have HL337_0 := Aside0.mk (show Kd.V (Kd.int .i64) 3 _ w.heap.size _ _ (rd_L1 l1 0) from Kd.V_mk ul337_0 ge337_0)
                          clear hva_ hvn_ hvc_ ge337_0 ul337_0
                          clear hcc337 hce337
                          have qi337 : (0 < l1.length) = True := eq_true (by omega)
                          (try rw [show ((0 : Int)).toNat = 0 from rfl] at hx337_0)
                          (try rw [Addr.add_zero'] at hx337_0)
                          have HR337_0 := Aside0.mk hi337_0
                          have HC337_0 := Aside0.mk hl337_0
                          clear hi337_0 hl337_0
                          replace p337 := eq_true p337
                          replace q337 := eq_true q337
                          go_wp2_with (first | ((with_reducible refine gate_dst (N := 71) rfl ?_); (try (refine gate_guard (by rfl) ?_; dsimp only)); refine Kd.N_lit (Kd.slice 3 (Kd.int .i64)) _ 26 ?hg (N' := 71) ?hd (xs := ([] : List (List Int))) (inner := []) (ok := (fun k_ => (P1_ k_ ∨ w.heap.size ≤ k_))) (okp := (fun k_ => (P1_ k_ ∨ w.heap.size ≤ k_))) ?hr ?hp (fun _ hk => hk) ((show ∀ k_, wr.heap.size ≤ k_ → (fun k_ => (P1_ k_ ∨ w.heap.size ≤ k_)) k_ from fun k_ hk => (.inr (Nat.le_trans (below_size (by repeat (first | (with_reducible first | exact HB.out | apply below_alloc | apply pw_below_drewN | apply below_drew1) | exact HB.out))) hk))) _ (Nat.le_refl _)) (Below.refl _ _) (Nat.le_refl _) (by simp) ?_; (case hd => rfl); (case hg => rfl); (case hr => first | (go_simp; done) | (go_simp; rfl)); (case hp => exact (Reps.none _ _)); intro v339 w39 ho40 hb hg_ hnew_; clear hg_ hnew_; (first | rw [← Ny338.out] at ho40 | (simp only [Int.reduceToNat] at ho40; rw [← Ny338.out] at ho40)); have n0_ := Aside0.mk (Kd.V_elder' (by (with_reducible repeat (first | apply Kd.V_alloc | apply Kd.V_drewN | apply Kd.V_drew)); exact HO_1.out) (Kd.N_base ho40) hb); have n1_ := Aside0.mk (Kd.V_elder' (by (with_reducible repeat (first | apply Kd.V_alloc | apply Kd.V_drewN | apply Kd.V_drew)); exact HL337_0.out) (Kd.N_base ho40) hb); have n2_ := Aside0.mk (Kd.N_lower ho40 (below_size (by repeat (first | (with_reducible first | exact HB.out | apply below_alloc | apply pw_below_drewN | apply below_drew1) | exact HB.out)))); have n3_ := Aside0.mk (Kd.C_below (by repeat (first | (with_reducible exact HR337_0.out) | (with_reducible refine Kd.C_alloc ?_ _) | (with_reducible refine Kd.C_drewN ?_ _) | (with_reducible refine Kd.C_drew ?_) | exact HR337_0.out)) hb); have n4_ := Aside0.mk (below_step (by repeat (first | (with_reducible first | exact HB.out | apply below_alloc | apply pw_below_drewN | apply below_drew1) | exact HB.out)) hb); clear HO_1; clear HL337_0; clear HR337_0; clear HB; have HO_1 := n0_; have HL337_0 := n1_; have HO340 := n2_; have HR337_0 := n3_; have HB := n4_; clear n0_ n1_ n2_ n3_ n4_; clear hb ho40) | ((with_reducible refine gate_builtin (b := .append) (xs := #[.tmp 71, .tmp 72]) rfl ?_); (try (refine gate_guard (by rfl) ?_; dsimp only)); at_builtin; refine Kd.N_append_rows (Kd.slice 3 (Kd.int .i64)) (w0 := w) w.heap.size rfl (.tmp 71) (.tmp 72) 22 26 (.slice none 0 0) 24 rfl Try.underlying22 info26 rfl (by decide) (by omega) v339 y338 l1 _ _ _ (fun k_ => (P1_ k_ ∨ w.heap.size ≤ k_)) (fun k_ => ((fun k_ => (P1_ k_ ∨ w.heap.size ≤ k_))) k_ ∧ some k_ ≠ (v339 : Value).ownBlock) rfl rfl ?aO ?aR (fun _ hk => hk) ?aF ?aB ?aS ?aL ?_; (case aR => exact (by skip; exact Kd.V_F (Kd.V_mono (ok' := (fun k_ => ((fun k_ => (P1_ k_ ∨ w.heap.size ≤ k_))) k_ ∧ some k_ ≠ (v339 : Value).ownBlock)) (HO_1.out) (fun k_ hk => ⟨hk.1, hk.2⟩)))); (case aB => exact (by repeat (first | (with_reducible first | exact HB.out | apply below_alloc | apply pw_below_drewN | apply below_drew1) | exact HB.out))); (case aF => exact (fun k_ hk => (.inr (Nat.le_trans (below_size (by repeat (first | (with_reducible first | exact HB.out | apply below_alloc | apply pw_below_drewN | apply below_drew1) | exact HB.out))) hk)))); (case aO => exact (by (with_reducible repeat (first | apply Kd.N_alloc | apply Kd.N_drewN | apply Kd.N_drew)); exact HO340.out)); (case aS => exact (below_size (by repeat (first | (with_reducible first | exact HB.out | apply below_alloc | apply pw_below_drewN | apply below_drew1) | exact HB.out)))); (case aL => have := LMc27.out; omega); intro v342 w41 ho hb hg hat; rw [← Ny341.out] at ho; have n0_ := Aside0.mk (Kd.V_afterv (ok := (fun k_ => (P1_ k_ ∨ w.heap.size ≤ k_))) (by (with_reducible repeat (first | apply Kd.V_alloc | apply Kd.V_drewN | apply Kd.V_drew)); exact HO_1.out) hg hat); have n1_ := Aside0.mk (Kd.V_afterv (ok := (fun k_ => (P1_ k_ ∨ w.heap.size ≤ k_))) (by (with_reducible repeat (first | apply Kd.V_alloc | apply Kd.V_drewN | apply Kd.V_drew)); exact HL337_0.out) hg hat); have n2_ := Aside0.mk (hb); have n3_ := Aside0.mk (ho); clear HO_1; clear HL337_0; clear HB; clear HO340; have HO_1 := n0_; have HL337_0 := n1_; have HB := n2_; have HO343 := n3_; clear n0_ n1_ n2_ n3_; clear ho hb hg hat) | ((with_reducible refine gate_builtin (b := .append) (xs := #[.tmp 73, .tmp 74]) rfl ?_); (try (refine gate_guard (by rfl) ?_; dsimp only)); at_builtin; refine Kd.N_append_rows (Kd.slice 3 (Kd.int .i64)) (w0 := w) w.heap.size rfl (.tmp 73) (.tmp 74) 22 26 (.slice none 0 0) 24 rfl Try.underlying22 info26 rfl (by decide) (by omega) v342 y341 l1 _ _ _ (fun k_ => (P1_ k_ ∨ w.heap.size ≤ k_)) (fun k_ => ((fun k_ => (P1_ k_ ∨ w.heap.size ≤ k_))) k_ ∧ some k_ ≠ (v342 : Value).ownBlock) rfl rfl ?aO ?aR (fun _ hk => hk) ?aF ?aB ?aS ?aL ?_; (case aR => exact (by skip; exact Kd.V_F (Kd.V_mono (ok' := (fun k_ => ((fun k_ => (P1_ k_ ∨ w.heap.size ≤ k_))) k_ ∧ some k_ ≠ (v342 : Value).ownBlock)) (HO_1.out) (fun k_ hk => ⟨hk.1, hk.2⟩)))); (case aB => exact (by repeat (first | (with_reducible first | exact HB.out | apply below_alloc | apply pw_below_drewN | apply below_drew1) | exact HB.out))); (case aF => exact (fun k_ hk => (.inr (Nat.le_trans (below_size (by repeat (first | (with_reducible first | exact HB.out | apply below_alloc | apply pw_below_drewN | apply below_drew1) | exact HB.out))) hk)))); (case aO => exact (by (with_reducible repeat (first | apply Kd.N_alloc | apply Kd.N_drewN | apply Kd.N_drew)); exact HO343.out)); (case aS => exact (below_size (by repeat (first | (with_reducible first | exact HB.out | apply below_alloc | apply pw_below_drewN | apply below_drew1) | exact HB.out)))); (case aL => have := LMc28.out; omega); intro v345 w42 ho hb hg hat; rw [← Ny344.out] at ho; have n0_ := Aside0.mk (Kd.V_afterv (ok := (fun k_ => (P1_ k_ ∨ w.heap.size ≤ k_))) (by (with_reducible repeat (first | apply Kd.V_alloc | apply Kd.V_drewN | apply Kd.V_drew)); exact HO_1.out) hg hat); have n1_ := Aside0.mk (Kd.V_afterv (ok := (fun k_ => (P1_ k_ ∨ w.heap.size ≤ k_))) (by (with_reducible repeat (first | apply Kd.V_alloc | apply Kd.V_drewN | apply Kd.V_drew)); exact HL337_0.out) hg hat); have n2_ := Aside0.mk (hb); have n3_ := Aside0.mk (ho); clear HO_1; clear HL337_0; clear HB; clear HO343; have HO_1 := n0_; have HL337_0 := n1_; have HB := n2_; have HO346 := n3_; clear n0_ n1_ n2_ n3_; clear ho hb hg hat) | ((with_reducible refine gate_callee (f := 17) rfl ?_); refine goesL_ (some 80) rfl rfl Try.func17 (by kernel_rfl) rfl #[.int .i64 a0, .int .i64 ((rd_L1 l1 0).length : Int), .slice (some ad337) l1.length c1, .slice A2 l2.length c2] rfl (by (try simp only [List.map_toArray, List.map_cons, List.map_nil]); first | done | rfl | (simp only [List.length_drop, List.length_take]; rfl)) ?_; (with_reducible refine (greenwoodref05_Sum.calls k2 a0 ((rd_L1 l1 0).length : Int) _ _ l1 _ _ l2 t347 _ ?side1 ?side2 ?side3 ?side4 A29.out).mono ?_); (case side1 => repeat (first | exact (Kd.V_reads' HO_1.out).2.2 | (with_reducible refine Kd.C_alloc ?_ _) | (with_reducible refine Kd.C_drewN ?_ _) | (with_reducible refine Kd.C_drew ?_))); (case side2 => exact (Kd.V_reads' HO_1.out).2.1); (case side3 => repeat (first | exact (Kd.C_below HR2.out HB.out) | (with_reducible refine Kd.C_alloc ?_ _) | (with_reducible refine Kd.C_drewN ?_ _) | (with_reducible refine Kd.C_drew ?_))); (case side4 => exact HC2.out); rintro e w43 ⟨v348, rfl, ho0, hb⟩; refine ⟨_, rfl, ?_⟩; have n0_ := Aside0.mk (Kd.V_elder' (by (with_reducible repeat (first | apply Kd.V_alloc | apply Kd.V_drewN | apply Kd.V_drew)); exact HO_1.out) (Kd.R_base ho0) hb); have n1_ := Aside0.mk (Kd.V_elder' (by (with_reducible repeat (first | apply Kd.V_alloc | apply Kd.V_drewN | apply Kd.V_drew)); exact HL337_0.out) (Kd.R_base ho0) hb); have n2_ := Aside0.mk (Kd.N_elder' (by (with_reducible repeat (first | apply Kd.N_alloc | apply Kd.N_drewN | apply Kd.N_drew)); exact HO346.out) (Kd.R_base ho0) hb); have n3_ := Aside0.mk (Kd.R_lower (Kd.R_newM (M := fun k_ => (w.heap.size ≤ k_)) ho0 (below_size (by repeat (first | (with_reducible first | exact HB.out | apply below_alloc | apply pw_below_drewN | apply below_drew1) | exact HB.out))) (fun k_ h_ => h_)) (below_size (by repeat (first | (with_reducible first | exact HB.out | apply below_alloc | apply pw_below_drewN | apply below_drew1) | exact HB.out)))); have n4_ := Aside0.mk (below_step (by repeat (first | (with_reducible first | exact HB.out | apply below_alloc | apply pw_below_drewN | apply below_drew1) | exact HB.out)) hb); clear HO_1; clear HL337_0; clear HO346; clear HB; have HO_1 := n0_; have HL337_0 := n1_; have HO346 := n2_; have HO349 := n3_; have HB := n4_; clear n0_ n1_ n2_ n3_ n4_; (try clear hb); (try clear hb2); (try clear hk); (try clear hi); (try clear ho0); obtain ⟨Ao44, co44, eo44⟩ := Kd.R_slice HO349.out; subst eo44) | ((with_reducible refine gate_callee (f := 16) rfl ?_); refine goesL_ (some 86) rfl rfl Try.func16 (by kernel_rfl) rfl #[.int .i64 a0, .int .i64 ((rd_L1 l1 0).length : Int), .slice (some ad337) l1.length c1, .slice Ao44 t347.length co44] rfl (by (try simp only [List.map_toArray, List.map_cons, List.map_nil]); first | done | rfl | (simp only [List.length_drop, List.length_take]; rfl)) ?_; (with_reducible refine (elim_Combo.calls k2 a0 ((rd_L1 l1 0).length : Int) _ _ l1 _ _ t347 t350 true _ ?side1 ?side2 ?side3 ?side4 A30.out).mono ?_); (case side1 => repeat (first | exact (Kd.V_reads' HO_1.out).2.2 | (with_reducible refine Kd.C_alloc ?_ _) | (with_reducible refine Kd.C_drewN ?_ _) | (with_reducible refine Kd.C_drew ?_))); (case side2 => exact (Kd.V_reads' HO_1.out).2.1); (case side3 => repeat (first | exact (Kd.R_reads' HO349.out).2.2 | (with_reducible refine Kd.C_alloc ?_ _) | (with_reducible refine Kd.C_drewN ?_ _) | (with_reducible refine Kd.C_drew ?_))); (case side4 => exact (Kd.R_reads' HO349.out).2.1); rintro e w45 ⟨v352, rfl, ho0, hb⟩; refine ⟨_, rfl, ?_⟩; have n0_ := Aside0.mk (Kd.V_elder' (by (with_reducible repeat (first | apply Kd.V_alloc | apply Kd.V_drewN | apply Kd.V_drew)); exact HO_1.out) (Kd.R_base ho0) hb); have n1_ := Aside0.mk (Kd.V_elder' (by (with_reducible repeat (first | apply Kd.V_alloc | apply Kd.V_drewN | apply Kd.V_drew)); exact HL337_0.out) (Kd.R_base ho0) hb); have n2_ := Aside0.mk (Kd.N_elder' (by (with_reducible repeat (first | apply Kd.N_alloc | apply Kd.N_drewN | apply Kd.N_drew)); exact HO346.out) (Kd.R_base ho0) hb); have n3_ := Aside0.mk (Kd.R_elder' (by (with_reducible repeat (first | apply Kd.R_alloc | apply Kd.R_drewN | apply Kd.R_drew)); exact HO349.out) (Kd.R_base ho0) hb); have n4_ := Aside0.mk (Kd.R_lower (Kd.R_new' (Kd.R_newM (M := fun k_ => (w.heap.size ≤ k_)) ho0 (below_size (by repeat (first | (with_reducible first | exact HB.out | apply below_alloc | apply pw_below_drewN | apply below_drew1) | exact HB.out))) (fun k_ h_ => h_)) (Kd.R_lt (by (with_reducible repeat (first | apply Kd.R_alloc | apply Kd.R_drewN | apply Kd.R_drew)); exact HO349.out))) (below_size (by repeat (first | (with_reducible first | exact HB.out | apply below_alloc | apply pw_below_drewN | apply below_drew1) | exact HB.out)))); have n5_ := Aside0.mk (below_step (by repeat (first | (with_reducible first | exact HB.out | apply below_alloc | apply pw_below_drewN | apply below_drew1) | exact HB.out)) hb); clear HO_1; clear HL337_0; clear HO346; clear HO349; clear HB; have HO_1 := n0_; have HL337_0 := n1_; have HO346 := n2_; have HO349 := n3_; have HO353 := n4_; have HB := n5_; clear n0_ n1_ n2_ n3_ n4_ n5_; (try clear hb); (try clear hb2); (try clear hk); (try clear hi); (try clear ho0); obtain ⟨Ao46, co46, eo46⟩ := Kd.N_slice HO346.out; subst eo46) | ((with_reducible refine gate_callee (f := 12) rfl ?_); refine goesL_ (some 92) rfl rfl Try.func12 (by kernel_rfl) rfl #[.int .i64 a0, .int .i64 ((rd_L1 l1 0).length : Int), .slice Ao46 y344.length co46] rfl (by (try simp only [List.map_toArray, List.map_cons, List.map_nil]); first | done | rfl | (simp only [List.length_drop, List.length_take]; rfl)) ?_; (with_reducible refine (elim_Basis.calls k2 a0 ((rd_L1 l1 0).length : Int) _ _ y344 t354 _ ?side1 ?side2 A31.out).mono ?_); (case side1 => repeat (first | exact (Kd.N_reads' HO346.out).2.2 | (with_reducible refine Kd.C_alloc ?_ _) | (with_reducible refine Kd.C_drewN ?_ _) | (with_reducible refine Kd.C_drew ?_))); (case side2 => exact (Kd.N_reads' HO346.out).2.1); rintro e w47 ⟨v355, rfl, ho0, hb⟩; refine ⟨_, rfl, ?_⟩; have n0_ := Aside0.mk (Kd.V_elder' (by (with_reducible repeat (first | apply Kd.V_alloc | apply Kd.V_drewN | apply Kd.V_drew)); exact HO_1.out) (Kd.R_base ho0) hb); have n1_ := Aside0.mk (Kd.V_elder' (by (with_reducible repeat (first | apply Kd.V_alloc | apply Kd.V_drewN | apply Kd.V_drew)); exact HL337_0.out) (Kd.R_base ho0) hb); have n2_ := Aside0.mk (Kd.N_elder' (by (with_reducible repeat (first | apply Kd.N_alloc | apply Kd.N_drewN | apply Kd.N_drew)); exact HO346.out) (Kd.R_base ho0) hb); have n3_ := Aside0.mk (Kd.R_elder' (by (with_reducible repeat (first | apply Kd.R_alloc | apply Kd.R_drewN | apply Kd.R_drew)); exact HO349.out) (Kd.R_base ho0) hb); have n4_ := Aside0.mk (Kd.R_elder' (by (with_reducible repeat (first | apply Kd.R_alloc | apply Kd.R_drewN | apply Kd.R_drew)); exact HO353.out) (Kd.R_base ho0) hb); have n5_ := Aside0.mk (Kd.R_lower (Kd.R_new' (Kd.R_new' (Kd.R_newM (M := fun k_ => (w.heap.size ≤ k_)) ho0 (below_size (by repeat (first | (with_reducible first | exact HB.out | apply below_alloc | apply pw_below_drewN | apply below_drew1) | exact HB.out))) (fun k_ h_ => h_)) (Kd.R_lt (by (with_reducible repeat (first | apply Kd.R_alloc | apply Kd.R_drewN | apply Kd.R_drew)); exact HO349.out))) (Kd.R_lt (by (with_reducible repeat (first | apply Kd.R_alloc | apply Kd.R_drewN | apply Kd.R_drew)); exact HO353.out))) (below_size (by repeat (first | (with_reducible first | exact HB.out | apply below_alloc | apply pw_below_drewN | apply below_drew1) | exact HB.out)))); have n6_ := Aside0.mk (below_step (by repeat (first | (with_reducible first | exact HB.out | apply below_alloc | apply pw_below_drewN | apply below_drew1) | exact HB.out)) hb); clear HO_1; clear HL337_0; clear HO346; clear HO349; clear HO353; clear HB; have HO_1 := n0_; have HL337_0 := n1_; have HO346 := n2_; have HO349 := n3_; have HO353 := n4_; have HO356 := n5_; have HB := n6_; clear n0_ n1_ n2_ n3_ n4_ n5_ n6_; (try clear hb); (try clear hb2); (try clear hk); (try clear hi); (try clear ho0)) | ((with_reducible refine gate_callee (f := 12) rfl ?_); refine goesL_ (some 96) rfl rfl Try.func12 (by kernel_rfl) rfl #[.int .i64 a0, .int .i64 ((rd_L1 l1 0).length : Int), .slice (some ad337) l1.length c1] rfl (by (try simp only [List.map_toArray, List.map_cons, List.map_nil]); first | done | rfl | (simp only [List.length_drop, List.length_take]; rfl)) ?_; (with_reducible refine (elim_Basis.calls k2 a0 ((rd_L1 l1 0).length : Int) _ _ l1 t357 _ ?side1 ?side2 A32.out).mono ?_); (case side1 => repeat (first | exact (Kd.V_reads' HO_1.out).2.2 | (with_reducible refine Kd.C_alloc ?_ _) | (with_reducible refine Kd.C_drewN ?_ _) | (with_reducible refine Kd.C_drew ?_))); (case side2 => exact (Kd.V_reads' HO_1.out).2.1); rintro e w48 ⟨v358, rfl, ho0, hb⟩; refine ⟨_, rfl, ?_⟩; have n0_ := Aside0.mk (Kd.V_elder' (by (with_reducible repeat (first | apply Kd.V_alloc | apply Kd.V_drewN | apply Kd.V_drew)); exact HO_1.out) (Kd.R_base ho0) hb); have n1_ := Aside0.mk (Kd.V_elder' (by (with_reducible repeat (first | apply Kd.V_alloc | apply Kd.V_drewN | apply Kd.V_drew)); exact HL337_0.out) (Kd.R_base ho0) hb); have n2_ := Aside0.mk (Kd.N_elder' (by (with_reducible repeat (first | apply Kd.N_alloc | apply Kd.N_drewN | apply Kd.N_drew)); exact HO346.out) (Kd.R_base ho0) hb); have n3_ := Aside0.mk (Kd.R_elder' (by (with_reducible repeat (first | apply Kd.R_alloc | apply Kd.R_drewN | apply Kd.R_drew)); exact HO349.out) (Kd.R_base ho0) hb); have n4_ := Aside0.mk (Kd.R_elder' (by (with_reducible repeat (first | apply Kd.R_alloc | apply Kd.R_drewN | apply Kd.R_drew)); exact HO353.out) (Kd.R_base ho0) hb); have n5_ := Aside0.mk (Kd.R_elder' (by (with_reducible repeat (first | apply Kd.R_alloc | apply Kd.R_drewN | apply Kd.R_drew)); exact HO356.out) (Kd.R_base ho0) hb); have n6_ := Aside0.mk (Kd.R_lower (Kd.R_new' (Kd.R_new' (Kd.R_new' (Kd.R_newM (M := fun k_ => (w.heap.size ≤ k_)) ho0 (below_size (by repeat (first | (with_reducible first | exact HB.out | apply below_alloc | apply pw_below_drewN | apply below_drew1) | exact HB.out))) (fun k_ h_ => h_)) (Kd.R_lt (by (with_reducible repeat (first | apply Kd.R_alloc | apply Kd.R_drewN | apply Kd.R_drew)); exact HO349.out))) (Kd.R_lt (by (with_reducible repeat (first | apply Kd.R_alloc | apply Kd.R_drewN | apply Kd.R_drew)); exact HO353.out))) (Kd.R_lt (by (with_reducible repeat (first | apply Kd.R_alloc | apply Kd.R_drewN | apply Kd.R_drew)); exact HO356.out))) (below_size (by repeat (first | (with_reducible first | exact HB.out | apply below_alloc | apply pw_below_drewN | apply below_drew1) | exact HB.out)))); have n7_ := Aside0.mk (below_step (by repeat (first | (with_reducible first | exact HB.out | apply below_alloc | apply pw_below_drewN | apply below_drew1) | exact HB.out)) hb); clear HO_1; clear HL337_0; clear HO346; clear HO349; clear HO353; clear HO356; clear HB; have HO_1 := n0_; have HL337_0 := n1_; have HO346 := n2_; have HO349 := n3_; have HO353 := n4_; have HO356 := n5_; have HO359 := n6_; have HB := n7_; clear n0_ n1_ n2_ n3_ n4_ n5_ n6_ n7_; (try clear hb); (try clear hb2); (try clear hk); (try clear hi); (try clear ho0); obtain ⟨Ao49, co49, eo49⟩ := Kd.R_slice HO356.out; subst eo49; obtain ⟨Ao50, co50, eo50⟩ := Kd.R_slice HO359.out; subst eo50) | ((with_reducible refine gate_callee (f := 11) rfl ?_); refine goesL_ (some 97) rfl rfl Try.func11 (by kernel_rfl) rfl #[.slice Ao49 t354.length co49, .slice Ao50 t357.length co50] rfl (by (try simp only [List.map_toArray, List.map_cons, List.map_nil]); first | done | rfl | (simp only [List.length_drop, List.length_take]; rfl)) ?_; (with_reducible refine (greenwoodref01_Same.calls k2 _ _ t354 _ _ t357 true _ ?side1 ?side2 ?side3 ?side4 A33.out).mono ?_); (case side1 => repeat (first | exact (Kd.R_reads' HO356.out).2.2 | (with_reducible refine Kd.C_alloc ?_ _) | (with_reducible refine Kd.C_drewN ?_ _) | (with_reducible refine Kd.C_drew ?_))); (case side2 => exact (Kd.R_reads' HO356.out).2.1); (case side3 => repeat (first | exact (Kd.R_reads' HO359.out).2.2 | (with_reducible refine Kd.C_alloc ?_ _) | (with_reducible refine Kd.C_drewN ?_ _) | (with_reducible refine Kd.C_drew ?_))); (case side4 => exact (Kd.R_reads' HO359.out).2.1); rintro e w' ⟨rfl, ⟨nd, rfl⟩⟩; refine ⟨_, rfl, ?_⟩; obtain ⟨Ao51, co51, eo51⟩ := Kd.R_slice HO353.out; subst eo51) | (go_at_call 17; (with_reducible refine (greenwoodref05_Sum.calls k2 a0 ((rd_L1 l1 0).length : Int) _ _ l1 _ _ t350 t361 _ ?side1 ?side2 ?side3 ?side4 A37.out).mono ?_); (case side1 => repeat (first | exact (Kd.V_reads' HO_1.out).2.2 | (with_reducible refine Kd.C_alloc ?_ _) | (with_reducible refine Kd.C_drewN ?_ _) | (with_reducible refine Kd.C_drew ?_))); (case side2 => exact (Kd.V_reads' HO_1.out).2.1); (case side3 => repeat (first | exact (Kd.R_reads' HO353.out).2.2 | (with_reducible refine Kd.C_alloc ?_ _) | (with_reducible refine Kd.C_drewN ?_ _) | (with_reducible refine Kd.C_drew ?_))); (case side4 => exact (Kd.R_reads' HO353.out).2.1); rintro e w52 ⟨v362, rfl, ho0, hb⟩; have n0_ := Aside0.mk (Kd.V_elder' (by (with_reducible repeat (first | apply Kd.V_alloc | apply Kd.V_drewN | apply Kd.V_drew)); exact HO_1.out) (Kd.R_base ho0) hb); have n1_ := Aside0.mk (Kd.V_elder' (by (with_reducible repeat (first | apply Kd.V_alloc | apply Kd.V_drewN | apply Kd.V_drew)); exact HL337_0.out) (Kd.R_base ho0) hb); have n2_ := Aside0.mk (Kd.N_elder' (by (with_reducible repeat (first | apply Kd.N_alloc | apply Kd.N_drewN | apply Kd.N_drew)); exact HO346.out) (Kd.R_base ho0) hb); have n3_ := Aside0.mk (Kd.R_elder' (by (with_reducible repeat (first | apply Kd.R_alloc | apply Kd.R_drewN | apply Kd.R_drew)); exact HO349.out) (Kd.R_base ho0) hb); have n4_ := Aside0.mk (Kd.R_elder' (by (with_reducible repeat (first | apply Kd.R_alloc | apply Kd.R_drewN | apply Kd.R_drew)); exact HO353.out) (Kd.R_base ho0) hb); have n5_ := Aside0.mk (Kd.R_elder' (by (with_reducible repeat (first | apply Kd.R_alloc | apply Kd.R_drewN | apply Kd.R_drew)); exact HO356.out) (Kd.R_base ho0) hb); have n6_ := Aside0.mk (Kd.R_elder' (by (with_reducible repeat (first | apply Kd.R_alloc | apply Kd.R_drewN | apply Kd.R_drew)); exact HO359.out) (Kd.R_base ho0) hb); have n7_ := Aside0.mk (Kd.R_lower (Kd.R_new' (Kd.R_new' (Kd.R_new' (Kd.R_new' (Kd.R_newM (M := fun k_ => (w.heap.size ≤ k_)) ho0 (below_size (by repeat (first | (with_reducible first | exact HB.out | apply below_alloc | apply pw_below_drewN | apply below_drew1) | exact HB.out))) (fun k_ h_ => h_)) (Kd.R_lt (by (with_reducible repeat (first | apply Kd.R_alloc | apply Kd.R_drewN | apply Kd.R_drew)); exact HO349.out))) (Kd.R_lt (by (with_reducible repeat (first | apply Kd.R_alloc | apply Kd.R_drewN | apply Kd.R_drew)); exact HO353.out))) (Kd.R_lt (by (with_reducible repeat (first | apply Kd.R_alloc | apply Kd.R_drewN | apply Kd.R_drew)); exact HO356.out))) (Kd.R_lt (by (with_reducible repeat (first | apply Kd.R_alloc | apply Kd.R_drewN | apply Kd.R_drew)); exact HO359.out))) (below_size (by repeat (first | (with_reducible first | exact HB.out | apply below_alloc | apply pw_below_drewN | apply below_drew1) | exact HB.out)))); have n8_ := Aside0.mk (below_step (by repeat (first | (with_reducible first | exact HB.out | apply below_alloc | apply pw_below_drewN | apply below_drew1) | exact HB.out)) hb); clear HO_1; clear HL337_0; clear HO346; clear HO349; clear HO353; clear HO356; clear HO359; clear HB; have HO_1 := n0_; have HL337_0 := n1_; have HO346 := n2_; have HO349 := n3_; have HO353 := n4_; have HO356 := n5_; have HO359 := n6_; have HO363 := n7_; have HB := n8_; clear n0_ n1_ n2_ n3_ n4_ n5_ n6_ n7_ n8_; (try clear hb); (try clear hb2); (try clear hk); (try clear hi); (try clear ho0); obtain ⟨Ao53, co53, eo53⟩ := Kd.R_slice HO363.out; subst eo53) | (go_at_call 11; (with_reducible refine (greenwoodref01_Same.calls k2 _ _ t361 _ _ t347 t364 _ ?side1 ?side2 ?side3 ?side4 A38.out).mono ?_); (case side1 => repeat (first | exact (Kd.R_reads' HO363.out).2.2 | (with_reducible refine Kd.C_alloc ?_ _) | (with_reducible refine Kd.C_drewN ?_ _) | (with_reducible refine Kd.C_drew ?_))); (case side2 => exact (Kd.R_reads' HO363.out).2.1); (case side3 => repeat (first | exact (Kd.R_reads' HO349.out).2.2 | (with_reducible refine Kd.C_alloc ?_ _) | (with_reducible refine Kd.C_drewN ?_ _) | (with_reducible refine Kd.C_drew ?_))); (case side4 => exact (Kd.R_reads' HO349.out).2.1); rintro e w' ⟨rfl, ⟨nd, rfl⟩⟩))
                          go_ret
                          exact ⟨by first | rfl | (simp [errW_none, errW_some] <;> rfl) | (simp [*, errW_none, errW_some] <;> rfl), by repeat (first | (with_reducible first | exact HB.out | apply below_alloc | apply pw_below_drewN | apply below_drew1) | exact HB.out)⟩
                        · rw [if_neg c36] at H
                          have c36b0 : ((t350.length : Int) == (l1.length : Int)) = false := beq_eq_false_iff_ne.mpr c36
                          have c36b1 : ((t350.length : Int) != (l1.length : Int)) = true := bne_iff_ne.mpr c36
                          have c36b2 : (t350.length == l1.length) = false := by first | simpa using c36 | (simp at c36 ⊢; omega)
                          exact absurd ((Option.some.inj H).trans hrT) (by decide)
                      · replace c35 := Bool.eq_false_iff.mpr c35
                        subst c35
                        have H1 : (some false) = some r := by rw [if_neg (show ¬ (false = true) by decide)] at H; exact H
                        clear H
                        have H := H1
                        clear H1
                        exact absurd ((Option.some.inj H).trans hrT) (by decide)
                    · replace c34 := Bool.eq_false_iff.mpr c34
                      subst c34
                      have H1 : (some false) = some r := by rw [if_neg (show ¬ (false = true) by decide)] at H; exact H
                      clear H
                      have H := H1
                      clear H1
                      exact absurd ((Option.some.inj H).trans hrT) (by decide)
                  · rw [if_neg c28] at H
                    exact absurd H (by simp)
                · rw [if_neg c27] at H
                  exact absurd H (by simp)
              · rw [if_neg c26] at H
                exact absurd H (by simp)

end Go.Proofs.Ytepakefmioeilaa.P
/- Layer 5: the five laws, of what the printed functions compute. -/
namespace Go.Proofs.Ytepakefmioeilaa.P
open Go.RowKit Go.Proofs.YtepakefmioeilaaW.PrintWords Go.Proofs.YtepakefmioeilaaW.PrintLast Go.Proofs.YtepakefmioeilaaW.PrintMore
open LinA (V Sp zv smul comb rk Fld)
set_option linter.unusedVariables false
set_option linter.unusedSimpArgs false

theorem fixed_ev : Ev (fun k => greenwoodlaw05_fixed.f k) true := by
  obtain ⟨K, hK⟩ := greenwoodlaw05_fixed.val
  exact Ev.of greenwoodlaw05_fixed.mono hK
theorem may_nat {p rows : Int} {cols : List (List Int)} (h : mayB p rows cols = true) : ∃ (P : Nat) (_ : NeZero P), p = (P : Int) := by
  have hp := (isP_true.mp (mayB_true h).1).2.1
  exact ⟨p.toNat, ⟨by omega⟩, by omega⟩
/-! ### ElimCombines -/
section
variable {P : Nat} [NeZero P]
end
/-! ### ElimTwice -/
section
variable {P : Nat} [NeZero P]
theorem bas_twice (vs ws : List (V P)) (hw : ∀ v ∈ ws, Sp vs v) : ∀ j, j ≤ ws.length → bas (vs ++ ws) (vs.length + j) = bas vs vs.length := by
  intro j
  induction j with
  | zero =>
    intro _
    have : ∀ k, k ≤ vs.length → bas (vs ++ ws) k = bas vs k := by
      intro k
      induction k with
      | zero => intro _; rfl
      | succ k ih =>
        intro hk
        simp only [bas]
        rw [ih (by omega), List.take_append_of_le_length (by omega)]
        have : (vs ++ ws).getD k zv = vs.getD k zv := by
          rw [List.getD_eq_getElem?_getD, List.getD_eq_getElem?_getD, List.getElem?_append_left (by omega)]
        rw [this]
    exact this _ (Nat.le_refl _)
  | succ j ih =>
    intro hj
    have hs : Sp ((vs ++ ws).take (vs.length + j)) ((vs ++ ws).getD (vs.length + j) zv) := by
      rw [List.getD_eq_getElem?_getD, List.getElem?_append_right (by omega), show vs.length + j - vs.length = j by omega, List.getElem?_eq_getElem (by omega)]
      refine (hw _ (List.getElem_mem (by omega))).mono (fun v hv => ?_)
      rw [List.take_append]
      exact List.mem_append_left _ (by rw [List.take_of_length_le (by omega)]; exact hv)
    rw [← Nat.add_assoc, bas_in hs]
    exact ih (by omega)
theorem twice_l0 {cols : List (List Int)} {times : List Int} (hn : cols.length ≤ 20) (ht20 : times.length ≤ 20) (h1 : 0 < cols.length) (h : mayB P ((rd_L1 cols 0).length : Int) cols = true) : ∀ (d i : Nat), times.length - i = d → i ≤ times.length → (∀ j : Nat, j < i → 0 ≤ rd times (j : Int) ∧ rd times (j : Int) < P) →
    Ev (fun k => greenwoodlaw05_ElimTwice.l0 k P cols times (i : Int)) true := by
  obtain ⟨hP, h0, h64, _, hcs⟩ := mayB_true h
  intro d
  induction d with
  | zero =>
    intro i hd hi hb
    have e : i = times.length := by omega
    subst e
    refine Ev.step (fun k => by rw [greenwoodlaw05_ElimTwice.l0]) ?_
    refine Ev.ifn (by omega) (Ev.ifp (by omega) (Ev.bnd (Ev.ifp (by simp; omega) (Ev.bnd (Ev.ifp (by simp; omega) ?_)))))
    rw [List.nil_append]
    generalize hrows : ((rd_L1 cols 0).length : Int) = rows at h h0 h64 hcs
    have hsum := sum_ev h times (fun i hi _ => hb i hi)
    have hgo := sumN_ok (isP_ok hP) hcs times (min cols.length times.length) (by omega)
    have hvg := vec_sumN (isP_ok hP) hcs times (min cols.length times.length) (by omega)
    generalize sumN (P : Int) rows.toNat cols times (min cols.length times.length) = goal at hsum hgo hvg
    have hg : mayB P rows [goal] = true := mayB_mk hP h0 h64 (by simp) (fun c hc => by rw [List.mem_singleton.1 hc]; exact hgo)
    have hsp : Sp (cols.map vec) (vec goal : V P) := by
      rw [hvg]
      refine lc_sp _ _ _ _ (fun i hi _ => ?_)
      unfold cv
      rw [getD_at (by omega)]
      exact List.mem_map.2 ⟨_, List.getElem_mem (by omega), rfl⟩
    obtain ⟨c, ok, hev, hok, hno, hyes⟩ := combo_ev h hg
    have hokt := hok.2 hsp
    subst hokt
    obtain ⟨hl, hbb, hz, hv⟩ := hyes rfl
    have h2 : mayB P rows (cols ++ cols) = true := mayB_mk hP h0 h64 (by simp; omega) (fun c hc => by rcases List.mem_append.1 hc with hc | hc <;> exact hcs c hc)
    have hbe : basN P (cols ++ cols) = basN P cols := by
      unfold basN
      have := bas_twice (cols.map vec : List (V P)) (cols.map vec) (fun v hv => Sp.mem hv) cols.length (by simp)
      rw [List.length_map] at this
      rw [List.map_append, List.length_append]
      exact this
    have hb2 := basis_ev h2
    rw [hbe] at hb2
    have hs := same_ev (basN P cols) (basN P cols) (by have := basN_le (P := P) cols; omega)
    rw [decide_eq_true rfl] at hs
    have hs2 := same_ev goal goal (by rw [hgo.1]; omega)
    rw [decide_eq_true rfl] at hs2
    exact Ev.bind hsum (Ev.bind hev (Ev.bind hb2 (Ev.bind (basis_ev h) (Ev.bind hs (Ev.ifp rfl (Ev.ifp rfl (Ev.ifp (by rw [hl]) (Ev.bind (sum_back h hg hl hbb hv) (Ev.bind hs2 (Ev.now _))))))))))
  | succ d ih =>
    intro i hd hi hb
    have hlt : i < times.length := by omega
    refine Ev.step (fun k => by rw [greenwoodlaw05_ElimTwice.l0]) ?_
    refine Ev.ifp (by omega) (Ev.ifp (by omega) ?_)
    by_cases c1 : rd times (i : Int) < 0
    · exact Ev.ifp c1 (Ev.now _)
    refine Ev.ifn c1 ?_
    by_cases c2 : rd times (i : Int) ≥ P
    · exact Ev.ifp c2 (Ev.now _)
    refine Ev.ifn c2 ?_
    rw [w1 hlt (by omega)]
    refine ih (i + 1) (by omega) (by omega) (fun j hj => ?_)
    by_cases e : j = i
    · subst e; omega
    · exact hb j (by omega)
end
theorem ElimTwice_ev (p : Int) (cols : List (List Int)) (times : List Int) : Ev (fun k => greenwoodlaw05_ElimTwice.f k p cols times) true := by
  unfold greenwoodlaw05_ElimTwice.f
  have hf : Ev (fun k => greenwoodlaw05_ElimTwice.j0 k p cols times true) true := Ev.step (fun k => by rw [greenwoodlaw05_ElimTwice.j0]) (Ev.ifp rfl (Ev.bind fixed_ev (Ev.now _)))
  refine Ev.bind fixed_ev (Ev.ifp rfl ?_)
  by_cases h1 : (cols.length : Int) < 1
  · exact Ev.ifp h1 hf
  refine Ev.ifn h1 ?_
  by_cases h2 : (cols.length : Int) > 20
  · exact Ev.ifp h2 hf
  refine Ev.ifn h2 (Ev.ifp (by omega) ?_)
  by_cases h3 : ((rd_L1 cols 0).length : Int) > 20
  · exact Ev.ifp h3 hf
  refine Ev.ifn h3 ?_
  by_cases h4 : (times.length : Int) > 20
  · exact Ev.ifp h4 hf
  refine Ev.ifn h4 (Ev.bind (rmay_ev _ _ _) ?_)
  cases hm : mayB p ((rd_L1 cols 0).length : Int) cols with
  | false => exact hf
  | true =>
    obtain ⟨P, hP, rfl⟩ := may_nat hm
    refine Ev.step (fun k => by rw [greenwoodlaw05_ElimTwice.j0]) (Ev.ifn (by decide) ?_)
    exact twice_l0 (by omega) (by omega) (by omega) hm times.length 0 (by omega) (by omega) (fun j hj => by omega)

/-! ### ElimRank -/
section
variable {P : Nat} [NeZero P]
end
/-! ### ElimUnits -/
section
variable {P : Nat} [NeZero P]
end
end Go.Proofs.Ytepakefmioeilaa.P
/- What came in, opened kind by kind: an argument's reading tells a list (of lists ..) that its cells hold. -/
namespace Go.Proofs.Ytepakefmioeilaa.P
open Go.RowKit Go.Proofs.YtepakefmioeilaaW.PrintWords Go.Proofs.YtepakefmioeilaaW.PrintLast Go.Proofs.YtepakefmioeilaaW.PrintMore
set_option linter.unusedVariables false
set_option linter.unusedSimpArgs false

structure Opens (P : Program) (t : TypeId) {α : Type} (d : Kd α) (q : α → Prop) : Prop where
  sz : P.cellsOf t = d.sz
  op : ∀ {H : Type} {enc : TypeId × Value → H} {w : World} {base fuel : Nat} {held : Bool} {cs : List Value} {x : DataW H × List MemPlace}, DataW.trod enc P w base (fun _ => true) held fuel t cs = some x → ∃ a : α, d.K w a cs ∧ q a
section
variable {P : Program} {α : Type} {d : Kd α} {q : α → Prop}
theorem opens_int {t : TypeId} {k : IntKind} (ht : P.underlying t = some (.int k)) (hs : P.cellsOf t = 1) : Opens P t (Kd.int k) (fun n => (Lit.int k n).wf = true) :=
  ⟨hs, fun h => by
    obtain ⟨n, rfl, _, hw⟩ := DataW.trod_int ht h
    exact ⟨n, rfl, hw⟩⟩
theorem Opens.mono {t : TypeId} {q' : α → Prop} (h : Opens P t d q) (hq : ∀ a, q a → q' a) : Opens P t d q' :=
  ⟨h.sz, fun ht => by obtain ⟨a, hk, ha⟩ := h.op ht; exact ⟨a, hk, hq a ha⟩⟩
theorem opens_slice {t e : TypeId} (e' : Nat) (ht : P.underlying t = some (.slice e)) (hs : P.cellsOf t = 1) (h : Opens P e d q) : Opens P t (Kd.slice e' d) (fun l => l.length ≤ maxLen ∧ ∀ x ∈ l, q x) :=
  ⟨hs, fun {H enc w base fuel held cs x} htr => by
    rcases Deep.open_slice ht htr with ⟨rfl, _⟩ | ⟨a, len, cap, m, n, D, Pl, rfl, hb, hl, hm, hmm, _, hx⟩
    · exact ⟨[], ⟨none, 0, rfl, Nat.le_refl _, Kd.C_nil d w⟩, Nat.zero_le _, fun x hx => by cases hx⟩
    · simp only [if_true] at hmm
      have each : ∀ i, i < len → ∃ y : α, (∃ cs', w.cells? base (a.add (i * P.cellsOf e)) (P.cellsOf e) = some cs' ∧ d.K w y cs') ∧ q y := by
        intro i hi
        obtain ⟨cs', h1, h2⟩ := hx i (by omega)
        obtain ⟨y, hy, hqy⟩ := h.op h2
        exact ⟨y, ⟨cs', h1, hy⟩, hqy⟩
      by_cases h0 : len = 0
      · subst h0
        refine ⟨[], ⟨some a, cap, rfl, Nat.zero_le _, rfl, by simp, fun h => absurd h (Nat.lt_irrefl 0)⟩, Nat.zero_le _, fun x hx => by cases hx⟩
      · obtain ⟨y0, _, _⟩ := each 0 (by omega)
        have : Inhabited α := ⟨y0⟩
        obtain ⟨f, hf⟩ := Deep.choose_lt each
        have hlen : ((List.range len).map f).length = len := by simp
        refine ⟨(List.range len).map f, ⟨some a, cap, by rw [hlen], by rw [hlen]; exact hl, ⟨rfl, by rw [hlen]; unfold maxLen at hm; omega, fun _ => ⟨a, rfl, fun j p hj => ?_⟩⟩⟩, by rw [hlen]; omega, fun x hx => ?_⟩
        · have hjl := (List.getElem?_eq_some_iff.1 hj).1
          rw [hlen] at hjl
          rw [List.getElem?_map, List.getElem?_range hjl] at hj
          have hj' : f j = p := by simpa using hj
          subst hj'
          obtain ⟨⟨cs', h1, h2⟩, _⟩ := hf j hjl
          obtain ⟨_, hcl, hcell⟩ := World.cells?_some h1
          refine ⟨cs', by rw [hcl, h.sz], h2, fun i u hu => ?_⟩
          have hil := (List.getElem?_eq_some_iff.1 hu).1
          have := hcell i (by omega)
          rw [Deep.add_add, hu, h.sz] at this
          exact this
        · obtain ⟨i, hi, rfl⟩ := List.mem_map.1 hx
          exact (hf i (List.mem_range.1 hi)).2⟩
/-- an argument that is a slice -/
theorem Opens.arg {t : TypeId} {e' : Nat} (h : Opens P t (Kd.slice e' d) (fun l => l.length ≤ maxLen ∧ ∀ x ∈ l, q x)) {H : Type} {enc : TypeId × Value → H} {w : World} {base : Nat} {held : Bool} {v : Value} {dd : DataW H} {ps : List MemPlace} {a : Option Addr} {len cap : Nat} (hv : v = .slice a len cap)
    (ht : DataW.Trod enc P w base (fun _ => true) held t v dd ps) : ∃ l : List α, len = l.length ∧ l.length ≤ cap ∧ d.C w a l.length l ∧ l.length ≤ maxLen ∧ ∀ x ∈ l, q x := by
  obtain ⟨fuel, hf⟩ := ht
  obtain ⟨l, ⟨A, c, hcs, hl, hC⟩, hq1, hq2⟩ := h.op hf
  subst hv
  simp only [Value.cells] at hcs
  have hcs' : Value.slice a len cap = Value.slice A l.length c := by simpa using hcs
  injection hcs' with e1 e2 e3
  subst e1 e2 e3
  exact ⟨l, rfl, hl, hC, hq1, hq2⟩
end
/-- what came in is only read: it may be shared -/
theorem V_of_C {α : Type} {d : Kd α} (hd : Kd.Heap d) {e base c : Nat} {w : World} {A : Option Addr} {xs : List α} (h : d.C w A xs.length xs) (hc : xs.length ≤ c) : Kd.V d e w base (fun _ => True) (.slice A xs.length c) xs :=
  Kd.V_mk hc (fun W' hW => hd.C (fun k hk => hW k trivial hk) h)
end Go.Proofs.Ytepakefmioeilaa.P
