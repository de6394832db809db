/- Texts of this claim's own repository, merged by wip/tool/pack.py: Px7, ElimLaws, Opn. -/
import Derived.Deep.Slices
import Derived.ChangeArms
import Derived.ProofKit
import Derived.Test.YtepakefmioeilaaKElimRank1
-- written by wip/tool/ownprint.py of this claim's own repository, out of the translation's print
namespace Go.Proofs.Ytepakefmioeilaa.P
open Go.RowKit Go.Proofs.YtepakefmioeilaaW.PrintWords Go.Proofs.YtepakefmioeilaaW.PrintLast Go.Proofs.YtepakefmioeilaaW.PrintMore
attribute [local go_sem] max2_int min2_int max_two min_two max_three min_three max_four min_four   -- for this text's walks alone
set_option linter.unusedVariables false
set_option linter.unusedSimpArgs false

theorem FKR7 {α : Type} {d : Kd α} {e e' n c base : Nat} {ok : Nat → Prop} {W : World} {A : Option Addr} {xs : List α} (h : d.R e W base ok (.slice A n c) xs) : Kd.FK (Kd.slice e' d) W ok xs [.slice A n c] := by
  have h1 := (Kd.R_reads' h).1
  subst h1
  exact Kd.FK_slice_mk (Kd.R_reads' h).2.1 (Kd.R_F h)
/-! ### greenwoodlaw05_ElimRank: function 5 -/
mutual
def greenwoodlaw05_ElimRank.j0 : Nat → Int → List (List Int) → Int → Bool → Option (Bool)
  | 0, _, _, _, _ => none
  | k + 1, x0, x1, x2, x50 => if x50 = true then ((greenwoodlaw05_fixed.f k).bind fun t263 => (some t263)) else (if 0 < (x1.length : Int) then (greenwoodlaw05_ElimRank.l0 k x0 x1 x2 ((rd_L1 x1 0).length : Int) (([] : List (List Int))) (([] : List (List Int))) (wrap64 ((x1.length : Int) - 1))) else (none))
def greenwoodlaw05_ElimRank.l0 : Nat → Int → List (List Int) → Int → Int → List (List Int) → List (List Int) → Int → Option (Bool)
  | 0, _, _, _, _, _, _, _ => none
  | k + 1, x0, x1, x2, x7, x8, x9, x10 => if x10 ≥ 0 then (if 0 ≤ x10 then (if x10 < (x1.length : Int) then (if x8.length < 5864062014805 then (if x10 ≤ (wrap64 (x10 + 1)) then (if (wrap64 (x10 + 1)) ≤ (x1.length : Int) then ((greenwoodref05_Sum.f k x0 x7 ((x1.take ((wrap64 (x10 + 1)) : Int).toNat).drop (x10 : Int).toNat) (([x2] : List Int))).bind fun t283 => (if x9.length < 5864062014805 then (greenwoodlaw05_ElimRank.l0 k x0 x1 x2 x7 (x8 ++ [rd_L1 x1 x10]) (x9 ++ [t283]) (wrap64 (x10 - 1))) else (none))) else (none)) else (none)) else (none)) else (none)) else (none)) else ((elim_Rank.f k x0 x7 x1).bind fun t289 => (if 1 ≤ (x1.length : Int) then ((elim_Rank.f k x0 x7 (x1.drop 1)).bind fun t295 => (if t289 ≥ 0 then (if t289 ≤ (x1.length : Int) then (if t289 ≤ x7 then (if t295 ≤ t289 then (if t289 ≤ (wrap64 (t295 + 1)) then ((elim_Rank.f k x0 x7 x8).bind fun t296 => (if t296 = t289 then ((elim_Rank.f k x0 x7 x9).bind fun t297 => (some (t297 == t289))) else (some false))) else (some false)) else (some false)) else (some false)) else (some false)) else (some false))) else (none)))
end
def greenwoodlaw05_ElimRank.f (k : Nat) (a0 : Int) (l1 : List (List Int)) (a2 : Int) : Option (Bool) := (greenwoodlaw05_fixed.f k).bind fun t259 => (if t259 = true then (if (l1.length : Int) < 1 then (greenwoodlaw05_ElimRank.j0 k a0 l1 a2 true) else (if (l1.length : Int) > 20 then (greenwoodlaw05_ElimRank.j0 k a0 l1 a2 true) else (if 0 < (l1.length : Int) then (if ((rd_L1 l1 0).length : Int) > 20 then (greenwoodlaw05_ElimRank.j0 k a0 l1 a2 true) else ((greenwoodref05_May.f k a0 ((rd_L1 l1 0).length : Int) l1).bind fun t262 => (if t262 = true then (if a2 < 1 then (greenwoodlaw05_ElimRank.j0 k a0 l1 a2 true) else (greenwoodlaw05_ElimRank.j0 k a0 l1 a2 (decide (a2 ≥ a0)))) else (greenwoodlaw05_ElimRank.j0 k a0 l1 a2 true)))) else (none)))) else (greenwoodlaw05_ElimRank.j0 k a0 l1 a2 true))
def greenwoodlaw05_ElimRank.T10 : Bool × List (List Nat × List Nat) := (true, [([], []), ([], []), ([], []), ([0, 1, 2], [0, 1, 2]), ([], []), ([], []), ([], []), ([6], [6]), ([4, 5, 7, 3], [4, 5, 7]), ([3, 8, 0, 1, 2, 3], [3]), ([8, 9, 0, 1, 2, 3, 4, 5, 6, 7, 8, 9], [8])])
def greenwoodlaw05_ElimRank.B10 : List Nat := [0, 0, 0, 7, 0, 0, 0, 64, 255, 511, 1023]
theorem greenwoodlaw05_ElimRank.tab10 : rtab .any (opsOf Try.f5 10) = greenwoodlaw05_ElimRank.T10 := by kernel_rfl
theorem greenwoodlaw05_ElimRank.bits10 : waitsOk greenwoodlaw05_ElimRank.T10.2 greenwoodlaw05_ElimRank.B10 = true := by kernel_rfl
set_option maxHeartbeats 8000000 in
set_option maxRecDepth 100000 in
theorem greenwoodlaw05_ElimRank.callsT (k : Nat) (a0 : Int) (P1_ : Nat → Prop) (A1 : Option Addr) (c1 : Nat) (l1 : List (List Int)) (a2 : Int) (r : Bool) (w : World) (hs1 : Kd.V (Kd.slice 3 (Kd.int .i64)) 26 w w.heap.size (fun k_ => P1_ k_) (.slice A1 l1.length c1) l1) (hrT : r = true) (h : greenwoodlaw05_ElimRank.f k a0 l1 a2 = some r) :
    Calls Try.prog 5 #[.int .i64 a0, .slice A1 l1.length c1, .int .i64 a2] w fun e w' => e = .returned (.bool r) ∧ Below w.heap.size w w' := by
  have HO1 := Aside0.mk (show Kd.V (Kd.slice 3 (Kd.int .i64)) 26 w w.heap.size (fun k_ => (P1_ k_ ∨ w.heap.size ≤ k_)) (.slice A1 l1.length c1) l1 from Kd.V_mono hs1 (fun k_ hk => .inl hk))
  have HB := Aside0.mk (Below.refl w.heap.size w)
  have H : ((greenwoodlaw05_fixed.f k).bind fun t259 => (if t259 = true then (if (l1.length : Int) < 1 then (greenwoodlaw05_ElimRank.j0 k a0 l1 a2 true) else (if (l1.length : Int) > 20 then (greenwoodlaw05_ElimRank.j0 k a0 l1 a2 true) else (if 0 < (l1.length : Int) then (if ((rd_L1 l1 0).length : Int) > 20 then (greenwoodlaw05_ElimRank.j0 k a0 l1 a2 true) else ((greenwoodref05_May.f k a0 ((rd_L1 l1 0).length : Int) l1).bind fun t262 => (if t262 = true then (if a2 < 1 then (greenwoodlaw05_ElimRank.j0 k a0 l1 a2 true) else (greenwoodlaw05_ElimRank.j0 k a0 l1 a2 (decide (a2 ≥ a0)))) else (greenwoodlaw05_ElimRank.j0 k a0 l1 a2 true)))) else (none)))) else (greenwoodlaw05_ElimRank.j0 k a0 l1 a2 true))) = some r := h
  clear h
  have HC4 := Aside0.mk H
  clear H
  go_enter Try.func5, Try.ntmps5
  go_upto_region 1 with (fail)
  go_cut [50] (fun v50 wc => ∃ (kq : Nat) (x50_3 : Bool), v50 = .bool x50_3 ∧ Aside0 (greenwoodlaw05_ElimRank.j0 kq a0 l1 a2 x50_3 = some r) ∧ Aside0 (kq ≤ k) ∧ Aside0 (Kd.V (Kd.slice 3 (Kd.int .i64)) 26 wc w.heap.size (fun k_ => (P1_ k_ ∨ w.heap.size ≤ k_)) (.slice A1 l1.length c1) l1) ∧ Aside0 (Below w.heap.size w wc))
  case first =>
    have H := HC4.out
    clear HC4
    replace H := Option.bind_eq_some_iff.mp H
    obtain ⟨t259, A50, H⟩ := H
    replace H : (if t259 = true then (if (l1.length : Int) < 1 then (greenwoodlaw05_ElimRank.j0 k a0 l1 a2 true) else (if (l1.length : Int) > 20 then (greenwoodlaw05_ElimRank.j0 k a0 l1 a2 true) else (if 0 < (l1.length : Int) then (if ((rd_L1 l1 0).length : Int) > 20 then (greenwoodlaw05_ElimRank.j0 k a0 l1 a2 true) else ((greenwoodref05_May.f k a0 ((rd_L1 l1 0).length : Int) l1).bind fun t262 => (if t262 = true then (if a2 < 1 then (greenwoodlaw05_ElimRank.j0 k a0 l1 a2 true) else (greenwoodlaw05_ElimRank.j0 k a0 l1 a2 (decide (a2 ≥ a0)))) else (greenwoodlaw05_ElimRank.j0 k a0 l1 a2 true)))) else (none)))) else (greenwoodlaw05_ElimRank.j0 k a0 l1 a2 true)) = some r := H
    have A5 := Aside0.mk A50
    clear A50
    by_cases c6 : t259 = true
    · subst c6
      have H1 : (if (l1.length : Int) < 1 then (greenwoodlaw05_ElimRank.j0 k a0 l1 a2 true) else (if (l1.length : Int) > 20 then (greenwoodlaw05_ElimRank.j0 k a0 l1 a2 true) else (if 0 < (l1.length : Int) then (if ((rd_L1 l1 0).length : Int) > 20 then (greenwoodlaw05_ElimRank.j0 k a0 l1 a2 true) else ((greenwoodref05_May.f k a0 ((rd_L1 l1 0).length : Int) l1).bind fun t262 => (if t262 = true then (if a2 < 1 then (greenwoodlaw05_ElimRank.j0 k a0 l1 a2 true) else (greenwoodlaw05_ElimRank.j0 k a0 l1 a2 (decide (a2 ≥ a0)))) else (greenwoodlaw05_ElimRank.j0 k a0 l1 a2 true)))) else (none)))) = some r := by rw [if_pos rfl] at H; exact H
      clear H
      have H := H1
      clear H1
      by_cases c7 : (l1.length : Int) < 1
      · rw [if_pos c7] at H
        have c7b0 : decide ((l1.length : Int) < 1) = true := decide_eq_true c7
        have c7b1 : decide (l1.length < 1) = true := decide_eq_true (by omega)
        clear c7
        (first | rw [c7b0] | (simp only [i64_w, i32_w]; rw [c7b0]) | skip)
        have H' := Aside0.mk H
        clear H
        go_wp2_with (first | ((with_reducible refine gate_callee (f := 8) rfl ?_); refine goesL_ (some 13) rfl rfl Try.func8 (by kernel_rfl) rfl #[] rfl (by (try simp only [List.map_toArray, List.map_cons, List.map_nil]); first | done | rfl | (simp only [List.length_drop, List.length_take]; rfl)) ?_; (with_reducible refine (greenwoodlaw05_fixed.calls k  true _ A5.out).mono ?_); rintro e w8 ⟨rfl, hb⟩; refine ⟨_, rfl, ?_⟩; have n0_ := Aside0.mk (Kd.V_below (by (with_reducible repeat (first | apply Kd.V_alloc | apply Kd.V_drewN | apply Kd.V_drew)); exact HO1.out) hb); have n1_ := Aside0.mk (below_step (by repeat (first | (with_reducible first | exact HB.out | apply below_alloc | apply pw_below_drewN | apply below_drew1) | exact HB.out)) hb); clear HO1; clear HB; have HO1 := n0_; have HB := n1_; clear n0_ n1_; (try clear hb); (try clear hb2); (try clear hk); (try clear hi)))
        go_meet
        case rel => exact ⟨_, (true), (by first | rfl | (simp; done) | (simp [*]; done)), H', ⟨by first | omega | exact Nat.le_refl _⟩, ⟨by (with_reducible repeat (first | apply Kd.V_alloc | apply Kd.V_drewN | apply Kd.V_drew)); exact HO1.out⟩, ⟨by repeat (first | (with_reducible first | exact HB.out | apply below_alloc | apply pw_below_drewN | apply below_drew1) | exact HB.out)⟩⟩
      · rw [if_neg c7] at H
        have c7b0 : decide ((l1.length : Int) < 1) = false := decide_eq_false c7
        have c7b1 : decide (l1.length < 1) = false := decide_eq_false (by omega)
        clear c7
        (first | rw [c7b0] | (simp only [i64_w, i32_w]; rw [c7b0]) | skip)
        by_cases c9 : (l1.length : Int) > 20
        · rw [if_pos c9] at H
          have c9b0 : decide (20 < (l1.length : Int)) = true := decide_eq_true c9
          have c9b1 : decide (20 < l1.length) = true := decide_eq_true (by omega)
          clear c9
          have H' := Aside0.mk H
          clear H
          go_wp2_with (first | ((with_reducible refine gate_callee (f := 8) rfl ?_); refine goesL_ (some 13) rfl rfl Try.func8 (by kernel_rfl) rfl #[] rfl (by (try simp only [List.map_toArray, List.map_cons, List.map_nil]); first | done | rfl | (simp only [List.length_drop, List.length_take]; rfl)) ?_; (with_reducible refine (greenwoodlaw05_fixed.calls k  true _ A5.out).mono ?_); rintro e w10 ⟨rfl, hb⟩; refine ⟨_, rfl, ?_⟩; have n0_ := Aside0.mk (Kd.V_below (by (with_reducible repeat (first | apply Kd.V_alloc | apply Kd.V_drewN | apply Kd.V_drew)); exact HO1.out) hb); have n1_ := Aside0.mk (below_step (by repeat (first | (with_reducible first | exact HB.out | apply below_alloc | apply pw_below_drewN | apply below_drew1) | exact HB.out)) hb); clear HO1; clear HB; have HO1 := n0_; have HB := n1_; clear n0_ n1_; (try clear hb); (try clear hb2); (try clear hk); (try clear hi)))
          go_meet
          case rel => exact ⟨_, (true), (by first | rfl | (simp; done) | (simp [*]; done)), H', ⟨by first | omega | exact Nat.le_refl _⟩, ⟨by (with_reducible repeat (first | apply Kd.V_alloc | apply Kd.V_drewN | apply Kd.V_drew)); exact HO1.out⟩, ⟨by repeat (first | (with_reducible first | exact HB.out | apply below_alloc | apply pw_below_drewN | apply below_drew1) | exact HB.out)⟩⟩
        · rw [if_neg c9] at H
          have c9b0 : decide (20 < (l1.length : Int)) = false := decide_eq_false c9
          have c9b1 : decide (20 < l1.length) = false := decide_eq_false (by omega)
          clear c9
          by_cases c11 : 0 < (l1.length : Int)
          · rw [if_pos c11] at H
            have c11b0 : decide (0 < (l1.length : Int)) = true := decide_eq_true c11
            have c11b1 : decide (0 < l1.length) = true := decide_eq_true (by omega)
            clear c11
            by_cases c12 : ((rd_L1 l1 0).length : Int) > 20
            · rw [if_pos c12] at H
              have c12b0 : decide (20 < ((rd_L1 l1 0).length : Int)) = true := decide_eq_true c12
              have c12b1 : decide (20 < (rd_L1 l1 0).length) = true := decide_eq_true (by omega)
              clear c12
              have H' := Aside0.mk H
              clear H
              go_wp2_with (first | ((with_reducible refine gate_callee (f := 8) rfl ?_); refine goesL_ (some 13) rfl rfl Try.func8 (by kernel_rfl) rfl #[] rfl (by (try simp only [List.map_toArray, List.map_cons, List.map_nil]); first | done | rfl | (simp only [List.length_drop, List.length_take]; rfl)) ?_; (with_reducible refine (greenwoodlaw05_fixed.calls k  true _ A5.out).mono ?_); rintro e w13 ⟨rfl, hb⟩; refine ⟨_, rfl, ?_⟩; have n0_ := Aside0.mk (Kd.V_below (by (with_reducible repeat (first | apply Kd.V_alloc | apply Kd.V_drewN | apply Kd.V_drew)); exact HO1.out) hb); have n1_ := Aside0.mk (below_step (by repeat (first | (with_reducible first | exact HB.out | apply below_alloc | apply pw_below_drewN | apply below_drew1) | exact HB.out)) hb); clear HO1; clear HB; have HO1 := n0_; have HB := n1_; clear n0_ n1_; (try clear hb); (try clear hb2); (try clear hk); (try clear hi); have p260 : 0 ≤ (0 : Int) := (by omega); have q260 : 0 < (l1.length : Int) := of_decide_eq_true (by first | (with_reducible assumption) | assumption); obtain ⟨ad260, A260_0, c260_0, e260, hx260_0, hl260_0, hi260_0⟩ := at_L1 (Kd.V_reads' HO1.out).2.2 0 p260 q260; cases e260; obtain ⟨ce260, hce260, hMe260, hcc260⟩ := Kd.V_get HO1.out [] 0 p260 (by first | exact q260 | exact of_decide_eq_true (by first | (with_reducible assumption) | assumption) | (have e_ := (Kd.V_reads' HO1.out).1; omega)); obtain ⟨ua260_0, uc260_0, rfl, ul260_0, ge260_0⟩ := Kd.FK_slice_open hMe260; have hv260_0 := hcc260 0 _ rfl; rw [Nat.add_zero, show ((Kd.slice 3 (Kd.int .i64))).sz = 1 from rfl, Nat.mul_one] at hv260_0; replace hv260_0 := Option.some.inj (hv260_0.symm.trans hx260_0); injection hv260_0 with hva_ hvn_ hvc_; rw [hva_] at ge260_0; rw [hvc_] at ul260_0; have HL260_0 := Aside0.mk (show Kd.V (Kd.int .i64) 3 _ w.heap.size _ _ (rd_L1 l1 0) from Kd.V_mk ul260_0 ge260_0); clear hva_ hvn_ hvc_ ge260_0 ul260_0; clear hcc260 hce260; have qi260 : (0 < l1.length) = True := eq_true (by omega); (try rw [show ((0 : Int)).toNat = 0 from rfl] at hx260_0); (try rw [Addr.add_zero'] at hx260_0); have HR260_0 := Aside0.mk hi260_0; have HC260_0 := Aside0.mk hl260_0; clear hi260_0 hl260_0; replace p260 := eq_true p260; replace q260 := eq_true q260))
              go_meet
              case rel => exact ⟨_, (true), (by first | rfl | (simp; done) | (simp [*]; done)), H', ⟨by first | omega | exact Nat.le_refl _⟩, ⟨by (with_reducible repeat (first | apply Kd.V_alloc | apply Kd.V_drewN | apply Kd.V_drew)); exact HO1.out⟩, ⟨by repeat (first | (with_reducible first | exact HB.out | apply below_alloc | apply pw_below_drewN | apply below_drew1) | exact HB.out)⟩⟩
            · rw [if_neg c12] at H
              have c12b0 : decide (20 < ((rd_L1 l1 0).length : Int)) = false := decide_eq_false c12
              have c12b1 : decide (20 < (rd_L1 l1 0).length) = false := decide_eq_false (by omega)
              clear c12
              replace H := Option.bind_eq_some_iff.mp H
              obtain ⟨t262, A140, H⟩ := H
              replace H : (if t262 = true then (if a2 < 1 then (greenwoodlaw05_ElimRank.j0 k a0 l1 a2 true) else (greenwoodlaw05_ElimRank.j0 k a0 l1 a2 (decide (a2 ≥ a0)))) else (greenwoodlaw05_ElimRank.j0 k a0 l1 a2 true)) = some r := H
              have A14 := Aside0.mk A140
              clear A140
              by_cases c15 : t262 = true
              · subst c15
                have H1 : (if a2 < 1 then (greenwoodlaw05_ElimRank.j0 k a0 l1 a2 true) else (greenwoodlaw05_ElimRank.j0 k a0 l1 a2 (decide (a2 ≥ a0)))) = some r := by rw [if_pos rfl] at H; exact H
                clear H
                have H := H1
                clear H1
                by_cases c16 : a2 < 1
                · rw [if_pos c16] at H
                  have c16b0 : decide (a2 < 1) = true := decide_eq_true c16
                  clear c16
                  have H' := Aside0.mk H
                  clear H
                  go_wp2_with (first | ((with_reducible refine gate_callee (f := 8) rfl ?_); refine goesL_ (some 13) rfl rfl Try.func8 (by kernel_rfl) rfl #[] rfl (by (try simp only [List.map_toArray, List.map_cons, List.map_nil]); first | done | rfl | (simp only [List.length_drop, List.length_take]; rfl)) ?_; (with_reducible refine (greenwoodlaw05_fixed.calls k  true _ A5.out).mono ?_); rintro e w17 ⟨rfl, hb⟩; refine ⟨_, rfl, ?_⟩; have n0_ := Aside0.mk (Kd.V_below (by (with_reducible repeat (first | apply Kd.V_alloc | apply Kd.V_drewN | apply Kd.V_drew)); exact HO1.out) hb); have n1_ := Aside0.mk (below_step (by repeat (first | (with_reducible first | exact HB.out | apply below_alloc | apply pw_below_drewN | apply below_drew1) | exact HB.out)) hb); clear HO1; clear HB; have HO1 := n0_; have HB := n1_; clear n0_ n1_; (try clear hb); (try clear hb2); (try clear hk); (try clear hi); have p260 : 0 ≤ (0 : Int) := (by omega); have q260 : 0 < (l1.length : Int) := of_decide_eq_true (by first | (with_reducible assumption) | assumption); obtain ⟨ad260, A260_0, c260_0, e260, hx260_0, hl260_0, hi260_0⟩ := at_L1 (Kd.V_reads' HO1.out).2.2 0 p260 q260; cases e260; obtain ⟨ce260, hce260, hMe260, hcc260⟩ := Kd.V_get HO1.out [] 0 p260 (by first | exact q260 | exact of_decide_eq_true (by first | (with_reducible assumption) | assumption) | (have e_ := (Kd.V_reads' HO1.out).1; omega)); obtain ⟨ua260_0, uc260_0, rfl, ul260_0, ge260_0⟩ := Kd.FK_slice_open hMe260; have hv260_0 := hcc260 0 _ rfl; rw [Nat.add_zero, show ((Kd.slice 3 (Kd.int .i64))).sz = 1 from rfl, Nat.mul_one] at hv260_0; replace hv260_0 := Option.some.inj (hv260_0.symm.trans hx260_0); injection hv260_0 with hva_ hvn_ hvc_; rw [hva_] at ge260_0; rw [hvc_] at ul260_0; have HL260_0 := Aside0.mk (show Kd.V (Kd.int .i64) 3 _ w.heap.size _ _ (rd_L1 l1 0) from Kd.V_mk ul260_0 ge260_0); clear hva_ hvn_ hvc_ ge260_0 ul260_0; clear hcc260 hce260; have qi260 : (0 < l1.length) = True := eq_true (by omega); (try rw [show ((0 : Int)).toNat = 0 from rfl] at hx260_0); (try rw [Addr.add_zero'] at hx260_0); have HR260_0 := Aside0.mk hi260_0; have HC260_0 := Aside0.mk hl260_0; clear hi260_0 hl260_0; replace p260 := eq_true p260; replace q260 := eq_true q260; have p261 : 0 ≤ (0 : Int) := (by omega); have q261 : 0 < (l1.length : Int) := of_decide_eq_true (by first | (with_reducible assumption) | assumption); obtain ⟨ad261, A261_0, c261_0, e261, hx261_0, hl261_0, hi261_0⟩ := at_L1 (Kd.V_reads' HO1.out).2.2 0 p261 q261; obtain rfl : ad260 = ad261 := (by injection e261); obtain ⟨ce261, hce261, hMe261, hcc261⟩ := Kd.V_get HO1.out [] 0 p261 (by first | exact q261 | exact of_decide_eq_true (by first | (with_reducible assumption) | assumption) | (have e_ := (Kd.V_reads' HO1.out).1; omega)); obtain ⟨ua261_0, uc261_0, rfl, ul261_0, ge261_0⟩ := Kd.FK_slice_open hMe261; have hv261_0 := hcc261 0 _ rfl; rw [Nat.add_zero, show ((Kd.slice 3 (Kd.int .i64))).sz = 1 from rfl, Nat.mul_one] at hv261_0; replace hv261_0 := Option.some.inj (hv261_0.symm.trans hx261_0); injection hv261_0 with hva_ hvn_ hvc_; rw [hva_] at ge261_0; rw [hvc_] at ul261_0; have HL261_0 := Aside0.mk (show Kd.V (Kd.int .i64) 3 _ w.heap.size _ _ (rd_L1 l1 0) from Kd.V_mk ul261_0 ge261_0); clear hva_ hvn_ hvc_ ge261_0 ul261_0; clear hcc261 hce261; have qi261 : (0 < l1.length) = True := eq_true (by omega); (try rw [show ((0 : Int)).toNat = 0 from rfl] at hx261_0); (try rw [Addr.add_zero'] at hx261_0); have HR261_0 := Aside0.mk hi261_0; have HC261_0 := Aside0.mk hl261_0; clear hi261_0 hl261_0; replace p261 := eq_true p261; replace q261 := eq_true q261; have ea_ := Option.some.inj (hx260_0.symm.trans hx261_0); injection ea_ with ea_ en_ ec_; subst ea_; subst ec_; clear en_) | (go_at_call 10; (with_reducible refine (greenwoodref05_May.calls k a0 ((rd_L1 l1 0).length : Int) _ _ l1 true _ ?side1 ?side2 A14.out).mono ?_); (case side1 => repeat (first | exact (Kd.V_reads' HO1.out).2.2 | (with_reducible refine Kd.C_alloc ?_ _) | (with_reducible refine Kd.C_drewN ?_ _) | (with_reducible refine Kd.C_drew ?_))); (case side2 => exact (Kd.V_reads' HO1.out).2.1); rintro e w' ⟨rfl, ⟨nd, rfl⟩⟩))
                  go_meet
                  case rel => exact ⟨_, (true), (by first | rfl | (simp; done) | (simp [*]; done)), H', ⟨by first | omega | exact Nat.le_refl _⟩, ⟨by (with_reducible repeat (first | apply Kd.V_alloc | apply Kd.V_drewN | apply Kd.V_drew)); exact HO1.out⟩, ⟨by repeat (first | (with_reducible first | exact HB.out | apply below_alloc | apply pw_below_drewN | apply below_drew1) | exact HB.out)⟩⟩
                · rw [if_neg c16] at H
                  have c16b0 : decide (a2 < 1) = false := decide_eq_false c16
                  clear c16
                  have H' := Aside0.mk H
                  clear H
                  go_wp2_with (first | ((with_reducible refine gate_callee (f := 8) rfl ?_); refine goesL_ (some 13) rfl rfl Try.func8 (by kernel_rfl) rfl #[] rfl (by (try simp only [List.map_toArray, List.map_cons, List.map_nil]); first | done | rfl | (simp only [List.length_drop, List.length_take]; rfl)) ?_; (with_reducible refine (greenwoodlaw05_fixed.calls k  true _ A5.out).mono ?_); rintro e w18 ⟨rfl, hb⟩; refine ⟨_, rfl, ?_⟩; have n0_ := Aside0.mk (Kd.V_below (by (with_reducible repeat (first | apply Kd.V_alloc | apply Kd.V_drewN | apply Kd.V_drew)); exact HO1.out) hb); have n1_ := Aside0.mk (below_step (by repeat (first | (with_reducible first | exact HB.out | apply below_alloc | apply pw_below_drewN | apply below_drew1) | exact HB.out)) hb); clear HO1; clear HB; have HO1 := n0_; have HB := n1_; clear n0_ n1_; (try clear hb); (try clear hb2); (try clear hk); (try clear hi); have p260 : 0 ≤ (0 : Int) := (by omega); have q260 : 0 < (l1.length : Int) := of_decide_eq_true (by first | (with_reducible assumption) | assumption); obtain ⟨ad260, A260_0, c260_0, e260, hx260_0, hl260_0, hi260_0⟩ := at_L1 (Kd.V_reads' HO1.out).2.2 0 p260 q260; cases e260; obtain ⟨ce260, hce260, hMe260, hcc260⟩ := Kd.V_get HO1.out [] 0 p260 (by first | exact q260 | exact of_decide_eq_true (by first | (with_reducible assumption) | assumption) | (have e_ := (Kd.V_reads' HO1.out).1; omega)); obtain ⟨ua260_0, uc260_0, rfl, ul260_0, ge260_0⟩ := Kd.FK_slice_open hMe260; have hv260_0 := hcc260 0 _ rfl; rw [Nat.add_zero, show ((Kd.slice 3 (Kd.int .i64))).sz = 1 from rfl, Nat.mul_one] at hv260_0; replace hv260_0 := Option.some.inj (hv260_0.symm.trans hx260_0); injection hv260_0 with hva_ hvn_ hvc_; rw [hva_] at ge260_0; rw [hvc_] at ul260_0; have HL260_0 := Aside0.mk (show Kd.V (Kd.int .i64) 3 _ w.heap.size _ _ (rd_L1 l1 0) from Kd.V_mk ul260_0 ge260_0); clear hva_ hvn_ hvc_ ge260_0 ul260_0; clear hcc260 hce260; have qi260 : (0 < l1.length) = True := eq_true (by omega); (try rw [show ((0 : Int)).toNat = 0 from rfl] at hx260_0); (try rw [Addr.add_zero'] at hx260_0); have HR260_0 := Aside0.mk hi260_0; have HC260_0 := Aside0.mk hl260_0; clear hi260_0 hl260_0; replace p260 := eq_true p260; replace q260 := eq_true q260; have p261 : 0 ≤ (0 : Int) := (by omega); have q261 : 0 < (l1.length : Int) := of_decide_eq_true (by first | (with_reducible assumption) | assumption); obtain ⟨ad261, A261_0, c261_0, e261, hx261_0, hl261_0, hi261_0⟩ := at_L1 (Kd.V_reads' HO1.out).2.2 0 p261 q261; obtain rfl : ad260 = ad261 := (by injection e261); obtain ⟨ce261, hce261, hMe261, hcc261⟩ := Kd.V_get HO1.out [] 0 p261 (by first | exact q261 | exact of_decide_eq_true (by first | (with_reducible assumption) | assumption) | (have e_ := (Kd.V_reads' HO1.out).1; omega)); obtain ⟨ua261_0, uc261_0, rfl, ul261_0, ge261_0⟩ := Kd.FK_slice_open hMe261; have hv261_0 := hcc261 0 _ rfl; rw [Nat.add_zero, show ((Kd.slice 3 (Kd.int .i64))).sz = 1 from rfl, Nat.mul_one] at hv261_0; replace hv261_0 := Option.some.inj (hv261_0.symm.trans hx261_0); injection hv261_0 with hva_ hvn_ hvc_; rw [hva_] at ge261_0; rw [hvc_] at ul261_0; have HL261_0 := Aside0.mk (show Kd.V (Kd.int .i64) 3 _ w.heap.size _ _ (rd_L1 l1 0) from Kd.V_mk ul261_0 ge261_0); clear hva_ hvn_ hvc_ ge261_0 ul261_0; clear hcc261 hce261; have qi261 : (0 < l1.length) = True := eq_true (by omega); (try rw [show ((0 : Int)).toNat = 0 from rfl] at hx261_0); (try rw [Addr.add_zero'] at hx261_0); have HR261_0 := Aside0.mk hi261_0; have HC261_0 := Aside0.mk hl261_0; clear hi261_0 hl261_0; replace p261 := eq_true p261; replace q261 := eq_true q261; have ea_ := Option.some.inj (hx260_0.symm.trans hx261_0); injection ea_ with ea_ en_ ec_; subst ea_; subst ec_; clear en_) | (go_at_call 10; (with_reducible refine (greenwoodref05_May.calls k a0 ((rd_L1 l1 0).length : Int) _ _ l1 true _ ?side1 ?side2 A14.out).mono ?_); (case side1 => repeat (first | exact (Kd.V_reads' HO1.out).2.2 | (with_reducible refine Kd.C_alloc ?_ _) | (with_reducible refine Kd.C_drewN ?_ _) | (with_reducible refine Kd.C_drew ?_))); (case side2 => exact (Kd.V_reads' HO1.out).2.1); rintro e w' ⟨rfl, ⟨nd, rfl⟩⟩))
                  go_meet
                  case rel => exact ⟨_, (decide (a2 ≥ a0)), (by first | rfl | (simp; done) | (simp [*]; done)), H', ⟨by first | omega | exact Nat.le_refl _⟩, ⟨by (with_reducible repeat (first | apply Kd.V_alloc | apply Kd.V_drewN | apply Kd.V_drew)); exact HO1.out⟩, ⟨by repeat (first | (with_reducible first | exact HB.out | apply below_alloc | apply pw_below_drewN | apply below_drew1) | exact HB.out)⟩⟩
              · replace c15 := Bool.eq_false_iff.mpr c15
                subst c15
                have H1 : (greenwoodlaw05_ElimRank.j0 k a0 l1 a2 true) = some r := by rw [if_neg (show ¬ (false = true) by decide)] at H; exact H
                clear H
                have H := H1
                clear H1
                have H' := Aside0.mk H
                clear H
                go_wp2_with (first | ((with_reducible refine gate_callee (f := 8) rfl ?_); refine goesL_ (some 13) rfl rfl Try.func8 (by kernel_rfl) rfl #[] rfl (by (try simp only [List.map_toArray, List.map_cons, List.map_nil]); first | done | rfl | (simp only [List.length_drop, List.length_take]; rfl)) ?_; (with_reducible refine (greenwoodlaw05_fixed.calls k  true _ A5.out).mono ?_); rintro e w19 ⟨rfl, hb⟩; refine ⟨_, rfl, ?_⟩; have n0_ := Aside0.mk (Kd.V_below (by (with_reducible repeat (first | apply Kd.V_alloc | apply Kd.V_drewN | apply Kd.V_drew)); exact HO1.out) hb); have n1_ := Aside0.mk (below_step (by repeat (first | (with_reducible first | exact HB.out | apply below_alloc | apply pw_below_drewN | apply below_drew1) | exact HB.out)) hb); clear HO1; clear HB; have HO1 := n0_; have HB := n1_; clear n0_ n1_; (try clear hb); (try clear hb2); (try clear hk); (try clear hi); have p260 : 0 ≤ (0 : Int) := (by omega); have q260 : 0 < (l1.length : Int) := of_decide_eq_true (by first | (with_reducible assumption) | assumption); obtain ⟨ad260, A260_0, c260_0, e260, hx260_0, hl260_0, hi260_0⟩ := at_L1 (Kd.V_reads' HO1.out).2.2 0 p260 q260; cases e260; obtain ⟨ce260, hce260, hMe260, hcc260⟩ := Kd.V_get HO1.out [] 0 p260 (by first | exact q260 | exact of_decide_eq_true (by first | (with_reducible assumption) | assumption) | (have e_ := (Kd.V_reads' HO1.out).1; omega)); obtain ⟨ua260_0, uc260_0, rfl, ul260_0, ge260_0⟩ := Kd.FK_slice_open hMe260; have hv260_0 := hcc260 0 _ rfl; rw [Nat.add_zero, show ((Kd.slice 3 (Kd.int .i64))).sz = 1 from rfl, Nat.mul_one] at hv260_0; replace hv260_0 := Option.some.inj (hv260_0.symm.trans hx260_0); injection hv260_0 with hva_ hvn_ hvc_; rw [hva_] at ge260_0; rw [hvc_] at ul260_0; have HL260_0 := Aside0.mk (show Kd.V (Kd.int .i64) 3 _ w.heap.size _ _ (rd_L1 l1 0) from Kd.V_mk ul260_0 ge260_0); clear hva_ hvn_ hvc_ ge260_0 ul260_0; clear hcc260 hce260; have qi260 : (0 < l1.length) = True := eq_true (by omega); (try rw [show ((0 : Int)).toNat = 0 from rfl] at hx260_0); (try rw [Addr.add_zero'] at hx260_0); have HR260_0 := Aside0.mk hi260_0; have HC260_0 := Aside0.mk hl260_0; clear hi260_0 hl260_0; replace p260 := eq_true p260; replace q260 := eq_true q260; have p261 : 0 ≤ (0 : Int) := (by omega); have q261 : 0 < (l1.length : Int) := of_decide_eq_true (by first | (with_reducible assumption) | assumption); obtain ⟨ad261, A261_0, c261_0, e261, hx261_0, hl261_0, hi261_0⟩ := at_L1 (Kd.V_reads' HO1.out).2.2 0 p261 q261; obtain rfl : ad260 = ad261 := (by injection e261); obtain ⟨ce261, hce261, hMe261, hcc261⟩ := Kd.V_get HO1.out [] 0 p261 (by first | exact q261 | exact of_decide_eq_true (by first | (with_reducible assumption) | assumption) | (have e_ := (Kd.V_reads' HO1.out).1; omega)); obtain ⟨ua261_0, uc261_0, rfl, ul261_0, ge261_0⟩ := Kd.FK_slice_open hMe261; have hv261_0 := hcc261 0 _ rfl; rw [Nat.add_zero, show ((Kd.slice 3 (Kd.int .i64))).sz = 1 from rfl, Nat.mul_one] at hv261_0; replace hv261_0 := Option.some.inj (hv261_0.symm.trans hx261_0); injection hv261_0 with hva_ hvn_ hvc_; rw [hva_] at ge261_0; rw [hvc_] at ul261_0; have HL261_0 := Aside0.mk (show Kd.V (Kd.int .i64) 3 _ w.heap.size _ _ (rd_L1 l1 0) from Kd.V_mk ul261_0 ge261_0); clear hva_ hvn_ hvc_ ge261_0 ul261_0; clear hcc261 hce261; have qi261 : (0 < l1.length) = True := eq_true (by omega); (try rw [show ((0 : Int)).toNat = 0 from rfl] at hx261_0); (try rw [Addr.add_zero'] at hx261_0); have HR261_0 := Aside0.mk hi261_0; have HC261_0 := Aside0.mk hl261_0; clear hi261_0 hl261_0; replace p261 := eq_true p261; replace q261 := eq_true q261; have ea_ := Option.some.inj (hx260_0.symm.trans hx261_0); injection ea_ with ea_ en_ ec_; subst ea_; subst ec_; clear en_) | (go_at_call 10; (with_reducible refine (greenwoodref05_May.calls k a0 ((rd_L1 l1 0).length : Int) _ _ l1 false _ ?side1 ?side2 A14.out).mono ?_); (case side1 => repeat (first | exact (Kd.V_reads' HO1.out).2.2 | (with_reducible refine Kd.C_alloc ?_ _) | (with_reducible refine Kd.C_drewN ?_ _) | (with_reducible refine Kd.C_drew ?_))); (case side2 => exact (Kd.V_reads' HO1.out).2.1); rintro e w' ⟨rfl, ⟨nd, rfl⟩⟩))
                go_meet
                case rel => exact ⟨_, (true), (by first | rfl | (simp; done) | (simp [*]; done)), H', ⟨by first | omega | exact Nat.le_refl _⟩, ⟨by (with_reducible repeat (first | apply Kd.V_alloc | apply Kd.V_drewN | apply Kd.V_drew)); exact HO1.out⟩, ⟨by repeat (first | (with_reducible first | exact HB.out | apply below_alloc | apply pw_below_drewN | apply below_drew1) | exact HB.out)⟩⟩
          · rw [if_neg c11] at H
            exact absurd H (by simp)
    · replace c6 := Bool.eq_false_iff.mpr c6
      subst c6
      have H1 : (greenwoodlaw05_ElimRank.j0 k a0 l1 a2 true) = some r := by rw [if_neg (show ¬ (false = true) by decide)] at H; exact H
      clear H
      have H := H1
      clear H1
      have H' := Aside0.mk H
      clear H
      go_wp2_with (first | ((with_reducible refine gate_callee (f := 8) rfl ?_); refine goesL_ (some 13) rfl rfl Try.func8 (by kernel_rfl) rfl #[] rfl (by (try simp only [List.map_toArray, List.map_cons, List.map_nil]); first | done | rfl | (simp only [List.length_drop, List.length_take]; rfl)) ?_; (with_reducible refine (greenwoodlaw05_fixed.calls k  false _ A5.out).mono ?_); rintro e w20 ⟨rfl, hb⟩; refine ⟨_, rfl, ?_⟩; have n0_ := Aside0.mk (Kd.V_below (by (with_reducible repeat (first | apply Kd.V_alloc | apply Kd.V_drewN | apply Kd.V_drew)); exact HO1.out) hb); have n1_ := Aside0.mk (below_step (by repeat (first | (with_reducible first | exact HB.out | apply below_alloc | apply pw_below_drewN | apply below_drew1) | exact HB.out)) hb); clear HO1; clear HB; have HO1 := n0_; have HB := n1_; clear n0_ n1_; (try clear hb); (try clear hb2); (try clear hk); (try clear hi)))
      go_meet
      case rel => exact ⟨_, (true), (by first | rfl | (simp; done) | (simp [*]; done)), H', ⟨by first | omega | exact Nat.le_refl _⟩, ⟨by (with_reducible repeat (first | apply Kd.V_alloc | apply Kd.V_drewN | apply Kd.V_drew)); exact HO1.out⟩, ⟨by repeat (first | (with_reducible first | exact HB.out | apply below_alloc | apply pw_below_drewN | apply below_drew1) | exact HB.out)⟩⟩
  case rest =>
    clear HC4
    try clear c1
    try clear c2
    try clear p2
    try clear q2
    try clear hx2
    try clear qi2
    try clear c5
    try clear c6
    try clear c7
    try clear c7b0
    try clear c7b1
    try clear c8
    try clear c9
    try clear c9b0
    try clear c9b1
    try clear c11
    try clear c11b0
    try clear c11b1
    try clear c12
    try clear c12b0
    try clear c12b1
    try clear c15
    try clear c16
    try clear c16b0
    try clear hx260_0
    try clear hx261_0
    try clear p260
    try clear p261
    try clear q260
    try clear q261
    obtain ⟨kq, x50_3, rfl, HA, HJ3, HO_1, HB⟩ := hcut
    cases kq with
    | zero => exact absurd HA.out (by simp [greenwoodlaw05_ElimRank.j0])
    | succ kj3 =>
      have H := HA.out
      clear HA
      simp only [greenwoodlaw05_ElimRank.j0] at H
      by_cases c21 : x50_3 = true
      · subst c21
        have H1 : ((greenwoodlaw05_fixed.f kj3).bind fun t263 => (some t263)) = some r := by rw [if_pos rfl] at H; exact H
        clear H
        have H := H1
        clear H1
        replace H := Option.bind_eq_some_iff.mp H
        obtain ⟨t263, A220, H⟩ := H
        replace H : (some t263) = some r := H
        have A22 := Aside0.mk A220
        clear A220
        obtain rfl := Option.some.inj H
        go_wp2_with (first | ((with_reducible refine gate_callee (f := 8) rfl ?_); refine goesL_ (some 51) rfl rfl Try.func8 (by kernel_rfl) rfl #[] rfl (by (try simp only [List.map_toArray, List.map_cons, List.map_nil]); first | done | rfl | (simp only [List.length_drop, List.length_take]; rfl)) ?_; (with_reducible refine (greenwoodlaw05_fixed.calls kj3  t263 _ A22.out).mono ?_); rintro e w23 ⟨rfl, hb⟩; refine ⟨_, rfl, ?_⟩; have n0_ := Aside0.mk (Kd.V_below (by (with_reducible repeat (first | apply Kd.V_alloc | apply Kd.V_drewN | apply Kd.V_drew)); exact HO_1.out) hb); have n1_ := Aside0.mk (below_step (by repeat (first | (with_reducible first | exact HB.out | apply below_alloc | apply pw_below_drewN | apply below_drew1) | exact HB.out)) hb); clear HO_1; clear HB; have HO_1 := n0_; have HB := n1_; clear n0_ n1_; (try clear hb); (try clear hb2); (try clear hk); (try clear hi)))
        go_ret
        exact ⟨by first | rfl | (simp [errW_none, errW_some] <;> rfl) | (simp [*, errW_none, errW_some] <;> rfl), by repeat (first | (with_reducible first | exact HB.out | apply below_alloc | apply pw_below_drewN | apply below_drew1) | exact HB.out)⟩
      · replace c21 := Bool.eq_false_iff.mpr c21
        subst c21
        have H1 : (if 0 < (l1.length : Int) then (greenwoodlaw05_ElimRank.l0 kj3 a0 l1 a2 ((rd_L1 l1 0).length : Int) (([] : List (List Int))) (([] : List (List Int))) (wrap64 ((l1.length : Int) - 1))) else (none)) = some r := by rw [if_neg (show ¬ (false = true) by decide)] at H; exact H
        clear H
        have H := H1
        clear H1
        by_cases c24 : 0 < (l1.length : Int)
        · rw [if_pos c24] at H
          have c24b0 : decide (0 < (l1.length : Int)) = true := decide_eq_true c24
          have c24b1 : decide (0 < l1.length) = true := decide_eq_true (by omega)
          clear c24
          obtain ⟨y265, hy265⟩ : ∃ y_ : List (List Int), y_ = (([] : List (List Int))) := ⟨_, rfl⟩
          replace H : (greenwoodlaw05_ElimRank.l0 kj3 a0 l1 a2 ((rd_L1 l1 0).length : Int) y265 (([] : List (List Int))) (wrap64 ((l1.length : Int) - 1))) = some r := by first | (rw [hy265]; with_reducible exact H) | (have H2_ := (Option.bind_some _ _).symm.trans H; rw [hy265]; with_reducible exact H2_) | (have H2_ := (Option.bind_some _ _).symm.trans H; with_reducible exact H2_) | with_reducible exact H | (rw [hy265]; exact H) | exact H
          have Ny265 := Aside0.mk hy265
          clear hy265
          obtain ⟨y268, hy268⟩ : ∃ y_ : List (List Int), y_ = (([] : List (List Int))) := ⟨_, rfl⟩
          replace H : (greenwoodlaw05_ElimRank.l0 kj3 a0 l1 a2 ((rd_L1 l1 0).length : Int) y265 y268 (wrap64 ((l1.length : Int) - 1))) = some r := by first | (rw [hy268]; with_reducible exact H) | (have H2_ := (Option.bind_some _ _).symm.trans H; rw [hy268]; with_reducible exact H2_) | (have H2_ := (Option.bind_some _ _).symm.trans H; with_reducible exact H2_) | with_reducible exact H | (rw [hy268]; exact H) | exact H
          have Ny268 := Aside0.mk hy268
          clear hy268
          have H' := Aside0.mk H
          clear H
          have p264 : 0 ≤ (0 : Int) := (by omega)
          have q264 : 0 < (l1.length : Int) := of_decide_eq_true (by first | (with_reducible assumption) | assumption)
          obtain ⟨ad264, A264_0, c264_0, e264, hx264_0, hl264_0, hi264_0⟩ := at_L1 (Kd.V_reads' HO_1.out).2.2 0 p264 q264
          cases e264
          obtain ⟨ce264, hce264, hMe264, hcc264⟩ := Kd.V_get HO_1.out [] 0 p264 (by first | exact q264 | exact of_decide_eq_true (by first | (with_reducible assumption) | assumption) | (have e_ := (Kd.V_reads' HO_1.out).1; omega))
          obtain ⟨ua264_0, uc264_0, rfl, ul264_0, ge264_0⟩ := Kd.FK_slice_open hMe264
          have hv264_0 := hcc264 0 _ rfl
          rw [Nat.add_zero, show ((Kd.slice 3 (Kd.int .i64))).sz = 1 from rfl, Nat.mul_one] at hv264_0
          replace hv264_0 := Option.some.inj (hv264_0.symm.trans hx264_0)
          injection hv264_0 with hva_ hvn_ hvc_
          rw [hva_] at ge264_0
          rw [hvc_] at ul264_0
          have HL264_0 := Aside0.mk (show Kd.V (Kd.int .i64) 3 _ w.heap.size _ _ (rd_L1 l1 0) from Kd.V_mk ul264_0 ge264_0)
          clear hva_ hvn_ hvc_ ge264_0 ul264_0
          clear hcc264 hce264
          have qi264 : (0 < l1.length) = True := eq_true (by omega)
          (try rw [show ((0 : Int)).toNat = 0 from rfl] at hx264_0)
          (try rw [Addr.add_zero'] at hx264_0)
          have HR264_0 := Aside0.mk hi264_0
          have HC264_0 := Aside0.mk hl264_0
          clear hi264_0 hl264_0
          replace p264 := eq_true p264
          replace q264 := eq_true q264
          go_wp2_with (first | ((with_reducible refine gate_dst (N := 56) rfl ?_); (try (refine gate_guard (by rfl) ?_; dsimp only)); refine Kd.N_lit (Kd.slice 3 (Kd.int .i64)) _ 26 ?hg (N' := 56) ?hd (xs := ([] : List (List Int))) (inner := []) (ok := (fun k_ => (P1_ k_ ∨ w.heap.size ≤ k_))) (okp := (fun k_ => (P1_ k_ ∨ w.heap.size ≤ k_))) ?hr ?hp (fun _ hk => hk) ((show ∀ k_, wc.heap.size ≤ k_ → (fun k_ => (P1_ k_ ∨ w.heap.size ≤ k_)) k_ from fun k_ hk => (.inr (Nat.le_trans (below_size (by repeat (first | (with_reducible first | exact HB.out | apply below_alloc | apply pw_below_drewN | apply below_drew1) | exact HB.out))) hk))) _ (Nat.le_refl _)) (Below.refl _ _) (Nat.le_refl _) (by simp) ?_; (case hd => rfl); (case hg => rfl); (case hr => first | (go_simp; done) | (go_simp; rfl)); (case hp => exact (Reps.none _ _)); intro v266 w25 ho26 hb hg_ hnew_; clear hg_ hnew_; (first | rw [← Ny265.out] at ho26 | (simp only [Int.reduceToNat] at ho26; rw [← Ny265.out] at ho26)); have n0_ := Aside0.mk (Kd.V_elder' (by (with_reducible repeat (first | apply Kd.V_alloc | apply Kd.V_drewN | apply Kd.V_drew)); exact HO_1.out) (Kd.N_base ho26) hb); have n1_ := Aside0.mk (Kd.V_elder' (by (with_reducible repeat (first | apply Kd.V_alloc | apply Kd.V_drewN | apply Kd.V_drew)); exact HL264_0.out) (Kd.N_base ho26) hb); have n2_ := Aside0.mk (Kd.N_lower ho26 (below_size (by repeat (first | (with_reducible first | exact HB.out | apply below_alloc | apply pw_below_drewN | apply below_drew1) | exact HB.out)))); have n3_ := Aside0.mk (Kd.C_below (by repeat (first | (with_reducible exact HR264_0.out) | (with_reducible refine Kd.C_alloc ?_ _) | (with_reducible refine Kd.C_drewN ?_ _) | (with_reducible refine Kd.C_drew ?_) | exact HR264_0.out)) hb); have n4_ := Aside0.mk (below_step (by repeat (first | (with_reducible first | exact HB.out | apply below_alloc | apply pw_below_drewN | apply below_drew1) | exact HB.out)) hb); clear HO_1; clear HL264_0; clear HR264_0; clear HB; have HO_1 := n0_; have HL264_0 := n1_; have HO267 := n2_; have HR264_0 := n3_; have HB := n4_; clear n0_ n1_ n2_ n3_ n4_; clear hb ho26) | ((with_reducible refine gate_dst (N := 57) rfl ?_); (try (refine gate_guard (by rfl) ?_; dsimp only)); refine Kd.N_lit (Kd.slice 3 (Kd.int .i64)) _ 26 ?hg (N' := 57) ?hd (xs := ([] : List (List Int))) (inner := []) (ok := (fun k_ => (P1_ k_ ∨ w.heap.size ≤ k_) ∧ some k_ ≠ (v266 : Value).ownBlock)) (okp := (fun k_ => (P1_ k_ ∨ w.heap.size ≤ k_) ∧ some k_ ≠ (v266 : Value).ownBlock)) ?hr ?hp (fun _ hk => hk) ((show ∀ k_, w25.heap.size ≤ k_ → (fun k_ => (P1_ k_ ∨ w.heap.size ≤ k_) ∧ some k_ ≠ (v266 : Value).ownBlock) k_ from fun k_ hk => ⟨(.inr (Nat.le_trans (below_size (by repeat (first | (with_reducible first | exact HB.out | apply below_alloc | apply pw_below_drewN | apply below_drew1) | exact HB.out))) hk)), Kd.fresh' (Kd.N_lt (by (with_reducible repeat (first | apply Kd.N_alloc | apply Kd.N_drewN | apply Kd.N_drew)); exact HO267.out)) k_ hk⟩) _ (Nat.le_refl _)) (Below.refl _ _) (Nat.le_refl _) (by simp) ?_; (case hd => rfl); (case hg => rfl); (case hr => first | (go_simp; done) | (go_simp; rfl)); (case hp => exact (Reps.none _ _)); intro v269 w27 ho28 hb hg_ hnew_; clear hg_ hnew_; (first | rw [← Ny268.out] at ho28 | (simp only [Int.reduceToNat] at ho28; rw [← Ny268.out] at ho28)); have n0_ := Aside0.mk (Kd.V_elder' (by (with_reducible repeat (first | apply Kd.V_alloc | apply Kd.V_drewN | apply Kd.V_drew)); exact HO_1.out) (Kd.N_base ho28) hb); have n1_ := Aside0.mk (Kd.V_elder' (by (with_reducible repeat (first | apply Kd.V_alloc | apply Kd.V_drewN | apply Kd.V_drew)); exact HL264_0.out) (Kd.N_base ho28) hb); have n2_ := Aside0.mk (Kd.N_elder' (by (with_reducible repeat (first | apply Kd.N_alloc | apply Kd.N_drewN | apply Kd.N_drew)); exact HO267.out) (Kd.N_base ho28) hb); have n3_ := Aside0.mk (Kd.N_lower ho28 (below_size (by repeat (first | (with_reducible first | exact HB.out | apply below_alloc | apply pw_below_drewN | apply below_drew1) | exact HB.out)))); have n4_ := Aside0.mk (Kd.C_below (by repeat (first | (with_reducible exact HR264_0.out) | (with_reducible refine Kd.C_alloc ?_ _) | (with_reducible refine Kd.C_drewN ?_ _) | (with_reducible refine Kd.C_drew ?_) | exact HR264_0.out)) hb); have n5_ := Aside0.mk (below_step (by repeat (first | (with_reducible first | exact HB.out | apply below_alloc | apply pw_below_drewN | apply below_drew1) | exact HB.out)) hb); clear HO_1; clear HL264_0; clear HO267; clear HR264_0; clear HB; have HO_1 := n0_; have HL264_0 := n1_; have HO267 := n2_; have HO270 := n3_; have HR264_0 := n4_; have HB := n5_; clear n0_ n1_ n2_ n3_ n4_ n5_; clear hb ho28))
          go_loopg [8, 9, 10] kj3 (fun kq v8 v9 v10 w' => ∃ (x8_2 : List (List Int)) (x9_2 : List (List Int)) (x10_2 : Int), v10 = .int .i64 x10_2 ∧ Aside0 (greenwoodlaw05_ElimRank.l0 kq a0 l1 a2 ((rd_L1 l1 0).length : Int) x8_2 x9_2 x10_2 = some r) ∧ Aside0 (kq ≤ kj3) ∧ Aside0 (Kd.V (Kd.slice 3 (Kd.int .i64)) 26 w' w.heap.size (fun k_ => (P1_ k_ ∨ w.heap.size ≤ k_) ∧ some k_ ≠ (v8 : Value).ownBlock ∧ some k_ ≠ (v9 : Value).ownBlock) (.slice (some ad264) l1.length c1) l1) ∧ Aside0 (Kd.N (Kd.slice 3 (Kd.int .i64)) 26 w' w.heap.size (fun k_ => (P1_ k_ ∨ w.heap.size ≤ k_) ∧ some k_ ≠ (v9 : Value).ownBlock) v8 x8_2) ∧ Aside0 (Kd.N (Kd.slice 3 (Kd.int .i64)) 26 w' w.heap.size (fun k_ => (P1_ k_ ∨ w.heap.size ≤ k_) ∧ some k_ ≠ (v8 : Value).ownBlock) v9 x9_2) ∧ Aside0 (Below w.heap.size w w'))
          case atStart => exact ⟨(y265), (y268), (wrap64 ((l1.length : Int) - 1)), (by first | rfl | (simp; done) | (simp [*]; done)), H', ⟨Nat.le_refl _⟩, ⟨by (with_reducible repeat (first | apply Kd.V_alloc | apply Kd.V_drewN | apply Kd.V_drew)); exact Kd.V_mono HO_1.out (fun _ hk => ⟨hk.1.1, ⟨hk.1.2, hk.2⟩⟩)⟩, ⟨by (with_reducible repeat (first | apply Kd.N_alloc | apply Kd.N_drewN | apply Kd.N_drew)); exact HO267.out⟩, ⟨by (with_reducible repeat (first | apply Kd.N_alloc | apply Kd.N_drewN | apply Kd.N_drew)); exact HO270.out⟩, ⟨by repeat (first | (with_reducible first | exact HB.out | apply below_alloc | apply pw_below_drewN | apply below_drew1) | exact HB.out)⟩⟩
          case round =>
            clear H'
            try clear c1
            try clear c2
            try clear p2
            try clear q2
            try clear hx2
            try clear qi2
            try clear c5
            try clear c6
            try clear p6
            try clear c7
            try clear c7b0
            try clear c7b1
            try clear c8
            try clear c9
            try clear c9b0
            try clear c9b1
            try clear c11
            try clear c11b0
            try clear c11b1
            try clear c12
            try clear c12b0
            try clear c12b1
            try clear c15
            try clear c16
            try clear c16b0
            try clear c21
            try clear c24
            try clear c24b0
            try clear c24b1
            try clear c26
            try clear p26
            try clear q26
            try clear hx26
            try clear qi26
            try clear hx260_0
            try clear hx261_0
            try clear hx264_0
            try clear p2
            try clear p260
            try clear p261
            try clear p264
            try clear q2
            try clear q260
            try clear q261
            try clear q264
            obtain ⟨x8_2, x9_2, x10_2, rfl, HA, HK2, HO_1, HO_8, HO_9, HB⟩ := hrel
            cases gk with
            | zero => exact absurd HA.out (by simp [greenwoodlaw05_ElimRank.l0])
            | succ k2 =>
              have H := HA.out
              clear HA
              simp only [greenwoodlaw05_ElimRank.l0] at H
              by_cases c29 : x10_2 ≥ 0
              · rw [if_pos c29] at H
                have c29b0 : decide (0 ≤ x10_2) = true := decide_eq_true c29
                clear c29
                by_cases c30 : 0 ≤ x10_2
                · rw [if_pos c30] at H
                  have c30b0 : decide (0 ≤ x10_2) = true := decide_eq_true c30
                  clear c30
                  by_cases c31 : x10_2 < (l1.length : Int)
                  · rw [if_pos c31] at H
                    have c31b0 : decide (x10_2 < (l1.length : Int)) = true := decide_eq_true c31
                    clear c31
                    by_cases c32 : x8_2.length < 5864062014805
                    · rw [if_pos c32] at H
                      have LMc32 := Aside0.mk c32
                      clear c32
                      obtain ⟨y272, hy272⟩ : ∃ y_ : List (List Int), y_ = (x8_2 ++ [rd_L1 l1 x10_2]) := ⟨_, rfl⟩
                      replace H : (if x10_2 ≤ (wrap64 (x10_2 + 1)) then (if (wrap64 (x10_2 + 1)) ≤ (l1.length : Int) then ((greenwoodref05_Sum.f k2 a0 ((rd_L1 l1 0).length : Int) ((l1.take ((wrap64 (x10_2 + 1)) : Int).toNat).drop (x10_2 : Int).toNat) (([a2] : List Int))).bind fun t283 => (if x9_2.length < 5864062014805 then (greenwoodlaw05_ElimRank.l0 k2 a0 l1 a2 ((rd_L1 l1 0).length : Int) y272 (x9_2 ++ [t283]) (wrap64 (x10_2 - 1))) else (none))) else (none)) else (none)) = some r := by first | (rw [hy272]; with_reducible exact H) | (have H2_ := (Option.bind_some _ _).symm.trans H; rw [hy272]; with_reducible exact H2_) | (have H2_ := (Option.bind_some _ _).symm.trans H; with_reducible exact H2_) | with_reducible exact H | (rw [hy272]; exact H) | exact H
                      have Ny272 := Aside0.mk hy272
                      clear hy272
                      have c33b0 := eq_true (of_decide_eq_true (by first | (with_reducible assumption) | assumption) : 0 ≤ x10_2)
                      by_cases c34 : x10_2 ≤ (wrap64 (x10_2 + 1))
                      · rw [if_pos c34] at H
                        have c34b0 := eq_true c34
                        have c34b1 : decide (x10_2 ≤ (wrap64 (x10_2 + 1))) = true := decide_eq_true c34
                        by_cases c35 : (wrap64 (x10_2 + 1)) ≤ (l1.length : Int)
                        · rw [if_pos c35] at H
                          have c35b0 := eq_true c35
                          have c35b1 : decide ((wrap64 (x10_2 + 1)) ≤ (l1.length : Int)) = true := decide_eq_true c35
                          obtain ⟨y275, hy275⟩ : ∃ y_ : List (List Int), y_ = ((l1.take ((wrap64 (x10_2 + 1)) : Int).toNat).drop (x10_2 : Int).toNat) := ⟨_, rfl⟩
                          replace H : ((greenwoodref05_Sum.f k2 a0 ((rd_L1 l1 0).length : Int) y275 (([a2] : List Int))).bind fun t283 => (if x9_2.length < 5864062014805 then (greenwoodlaw05_ElimRank.l0 k2 a0 l1 a2 ((rd_L1 l1 0).length : Int) y272 (x9_2 ++ [t283]) (wrap64 (x10_2 - 1))) else (none))) = some r := by first | (rw [hy275]; with_reducible exact H) | (have H2_ := (Option.bind_some _ _).symm.trans H; rw [hy275]; with_reducible exact H2_) | (have H2_ := (Option.bind_some _ _).symm.trans H; with_reducible exact H2_) | with_reducible exact H | (rw [hy275]; exact H) | exact H
                          have Ny275 := Aside0.mk hy275
                          clear hy275
                          obtain ⟨y280, hy280⟩ : ∃ y_ : List Int, y_ = (([a2] : List Int)) := ⟨_, rfl⟩
                          replace H : ((greenwoodref05_Sum.f k2 a0 ((rd_L1 l1 0).length : Int) y275 y280).bind fun t283 => (if x9_2.length < 5864062014805 then (greenwoodlaw05_ElimRank.l0 k2 a0 l1 a2 ((rd_L1 l1 0).length : Int) y272 (x9_2 ++ [t283]) (wrap64 (x10_2 - 1))) else (none))) = some r := by first | (rw [hy280]; with_reducible exact H) | (have H2_ := (Option.bind_some _ _).symm.trans H; rw [hy280]; with_reducible exact H2_) | (have H2_ := (Option.bind_some _ _).symm.trans H; with_reducible exact H2_) | with_reducible exact H | (rw [hy280]; exact H) | exact H
                          have Ny280 := Aside0.mk hy280
                          clear hy280
                          replace H := Option.bind_eq_some_iff.mp H
                          obtain ⟨t283, A360, H⟩ := H
                          replace H : (if x9_2.length < 5864062014805 then (greenwoodlaw05_ElimRank.l0 k2 a0 l1 a2 ((rd_L1 l1 0).length : Int) y272 (x9_2 ++ [t283]) (wrap64 (x10_2 - 1))) else (none)) = some r := H
                          have A36 := Aside0.mk A360
                          clear A360
                          by_cases c37 : x9_2.length < 5864062014805
                          · rw [if_pos c37] at H
                            have LMc37 := Aside0.mk c37
                            clear c37
                            obtain ⟨y286, hy286⟩ : ∃ y_ : List (List Int), y_ = (x9_2 ++ [t283]) := ⟨_, rfl⟩
                            replace H : (greenwoodlaw05_ElimRank.l0 k2 a0 l1 a2 ((rd_L1 l1 0).length : Int) y272 y286 (wrap64 (x10_2 - 1))) = some r := by first | (rw [hy286]; with_reducible exact H) | (have H2_ := (Option.bind_some _ _).symm.trans H; rw [hy286]; with_reducible exact H2_) | (have H2_ := (Option.bind_some _ _).symm.trans H; with_reducible exact H2_) | with_reducible exact H | (rw [hy286]; exact H) | exact H
                            have Ny286 := Aside0.mk hy286
                            clear hy286
                            have H' := Aside0.mk H
                            clear H
                            have p271 : 0 ≤ (x10_2 : Int) := of_decide_eq_true (by first | (with_reducible assumption) | assumption)
                            have q271 : x10_2 < (l1.length : Int) := of_decide_eq_true (by first | (with_reducible assumption) | assumption)
                            obtain ⟨ad271, A271_0, c271_0, e271, hx271_0, hl271_0, hi271_0⟩ := at_L1 (Kd.V_reads' HO_1.out).2.2 x10_2 p271 q271
                            obtain rfl : ad264 = ad271 := (by injection e271)
                            obtain ⟨ce271, hce271, hMe271, hcc271⟩ := Kd.V_get HO_1.out [] x10_2 p271 (by first | exact q271 | exact of_decide_eq_true (by first | (with_reducible assumption) | assumption) | (have e_ := (Kd.V_reads' HO_1.out).1; omega))
                            obtain ⟨ua271_0, uc271_0, rfl, ul271_0, ge271_0⟩ := Kd.FK_slice_open hMe271
                            have hv271_0 := hcc271 0 _ rfl
                            rw [Nat.add_zero, show ((Kd.slice 3 (Kd.int .i64))).sz = 1 from rfl, Nat.mul_one] at hv271_0
                            replace hv271_0 := Option.some.inj (hv271_0.symm.trans hx271_0)
                            injection hv271_0 with hva_ hvn_ hvc_
                            rw [hva_] at ge271_0
                            rw [hvc_] at ul271_0
                            have HL271_0 := Aside0.mk (show Kd.V (Kd.int .i64) 3 _ w.heap.size _ _ (rd_L1 l1 x10_2) from Kd.V_mk ul271_0 ge271_0)
                            clear hva_ hvn_ hvc_ ge271_0 ul271_0
                            clear hcc271 hce271
                            have HR271_0 := Aside0.mk hi271_0
                            have HC271_0 := Aside0.mk hl271_0
                            clear hi271_0 hl271_0
                            replace p271 := eq_true p271
                            replace q271 := eq_true q271
                            go_wp2_with (first | ((with_reducible refine gate_builtin (b := .append) (xs := #[.tmp 65, .tmp 70]) rfl ?_); (try (refine gate_guard (by rfl) ?_; dsimp only)); at_builtin; refine Kd.N_append (Kd.slice 3 (Kd.int .i64)) (w0 := w) w.heap.size rfl (.tmp 65) (.tmp 70) 22 26 (.slice none 0 0) 24 rfl Try.underlying22 info26 rfl (by decide) (by omega) u8 x8_2 (rd_L1 l1 x10_2) [.slice A271_0 (rd_L1 l1 x10_2).length c271_0] (fun k_ => (P1_ k_ ∨ w.heap.size ≤ k_) ∧ some k_ ≠ (u9 : Value).ownBlock) (fun k_ => ((fun k_ => (P1_ k_ ∨ w.heap.size ≤ k_) ∧ some k_ ≠ (u9 : Value).ownBlock)) k_ ∧ some k_ ≠ (u8 : Value).ownBlock) rfl rfl ?aP (fun _ hk => hk) ?aF ?aO ?aB ?aS ?aL ?_; (case aP => exact (Kd.FK_slice_mk (Kd.V_reads' (Kd.V_mono (ok' := (fun k_ => ((fun k_ => (P1_ k_ ∨ w.heap.size ≤ k_) ∧ some k_ ≠ (u9 : Value).ownBlock)) k_ ∧ some k_ ≠ (u8 : Value).ownBlock)) (HL271_0.out) (fun k_ hk => ⟨⟨hk.1, hk.2.2⟩, hk.2.1⟩))).2.1 (Kd.V_F (Kd.V_mono (ok' := (fun k_ => ((fun k_ => (P1_ k_ ∨ w.heap.size ≤ k_) ∧ some k_ ≠ (u9 : Value).ownBlock)) k_ ∧ some k_ ≠ (u8 : Value).ownBlock)) (HL271_0.out) (fun k_ hk => ⟨⟨hk.1, hk.2.2⟩, hk.2.1⟩))))); (case aB => exact (by repeat (first | (with_reducible first | exact HB.out | apply below_alloc | apply pw_below_drewN | apply below_drew1) | exact HB.out))); (case aF => exact (fun k_ hk => ⟨(.inr (Nat.le_trans (below_size (by repeat (first | (with_reducible first | exact HB.out | apply below_alloc | apply pw_below_drewN | apply below_drew1) | exact HB.out))) hk)), Kd.fresh' (Kd.N_lt (by (with_reducible repeat (first | apply Kd.N_alloc | apply Kd.N_drewN | apply Kd.N_drew)); exact HO_9.out)) k_ hk⟩)); (case aO => exact (by (with_reducible repeat (first | apply Kd.N_alloc | apply Kd.N_drewN | apply Kd.N_drew)); exact HO_8.out)); (case aS => exact (below_size (by repeat (first | (with_reducible first | exact HB.out | apply below_alloc | apply pw_below_drewN | apply below_drew1) | exact HB.out)))); (case aL => have := LMc32.out; omega); intro v273 w38 ho hb hg hat; rw [← Ny272.out] at ho; have n0_ := Aside0.mk (Kd.V_afterv (ok := (fun k_ => (P1_ k_ ∨ w.heap.size ≤ k_) ∧ some k_ ≠ (u9 : Value).ownBlock)) (by (with_reducible repeat (first | apply Kd.V_alloc | apply Kd.V_drewN | apply Kd.V_drew)); exact Kd.V_mono HO_1.out (fun _ hk => ⟨⟨hk.1, hk.2.2⟩, hk.2.1⟩)) hg hat); have n1_ := Aside0.mk (Kd.N_afterv (ok := (fun k_ => (P1_ k_ ∨ w.heap.size ≤ k_))) (by (with_reducible repeat (first | apply Kd.N_alloc | apply Kd.N_drewN | apply Kd.N_drew)); exact HO_9.out) hg hat); have n2_ := Aside0.mk (Kd.V_afterv (ok := (fun k_ => (P1_ k_ ∨ w.heap.size ≤ k_) ∧ some k_ ≠ (u9 : Value).ownBlock)) (by (with_reducible repeat (first | apply Kd.V_alloc | apply Kd.V_drewN | apply Kd.V_drew)); exact Kd.V_mono HL271_0.out (fun _ hk => ⟨⟨hk.1, hk.2.2⟩, hk.2.1⟩)) hg hat); have n3_ := Aside0.mk (hb); have n4_ := Aside0.mk (ho); clear HO_1; clear HO_9; clear HL271_0; clear HB; clear HO_8; have HO_1 := n0_; have HO_9 := n1_; have HL271_0 := n2_; have HB := n3_; have HO274 := n4_; clear n0_ n1_ n2_ n3_ n4_; clear ho hb hg hat; have q39 : ((wrap64 (x10_2 + 1)) : Int) ≤ ((l1.length : Int) : Int) := of_decide_eq_true (by first | (with_reducible assumption) | assumption); obtain ⟨i039, hi039, _, hsz39, _⟩ := info_parts info26; have hroom39 : l1.length ≤ c1 := (Kd.V_reads' HO_1.out).2.1; have hC39 : Kd.F (Kd.slice 3 (Kd.int .i64)) _ _ (some ad264) l1.length l1 := (Kd.V_at (base := w.heap.size) HO_1.out).2.2; have ql39 : (x10_2 : Int) ≤ ((wrap64 (x10_2 + 1)) : Int) := of_decide_eq_true (by first | (with_reducible assumption) | assumption); have q039 : (0 : Int) ≤ (x10_2 : Int) := of_decide_eq_true (by first | (with_reducible assumption) | assumption); have hcut39 := cut_mid (P := Try.prog) 22 26 .i64 .i64 Try.underlying22 hi039 1 hsz39 (some ad264) l1.length c1 x10_2 (wrap64 (x10_2 + 1)) q039 ql39 q39 hroom39; have hr39 := Kd.F_mid (lo := (x10_2 : Int).toNat) (hi := ((wrap64 (x10_2 + 1)) : Int).toNat) (c := c1) hC39 (by omega) (by omega) hroom39; obtain ⟨A39, hA39⟩ : ∃ Ab_, Ab_ = (if c1 = (x10_2 : Int).toNat then (some ad264) else ((some ad264) : Option Addr).map (·.add ((x10_2 : Int).toNat * 1))) := ⟨_, rfl⟩; obtain ⟨c39, hc39⟩ : ∃ cb_, cb_ = c1 - (x10_2 : Int).toNat := ⟨_, rfl⟩; have hy39 : y275.length = ((wrap64 (x10_2 + 1)) : Int).toNat - (x10_2 : Int).toNat := (by rw [Ny275.out, List.length_drop, List.length_take] <;> omega); rw [show ((l1).take ((wrap64 (x10_2 + 1)) : Int).toNat).drop (x10_2 : Int).toNat = y275 from Ny275.out.symm] at hr39; replace hr39 : Kd.F (Kd.slice 3 (Kd.int .i64)) _ _ A39 y275.length y275 := (by rw [hA39]; exact hr39); rw [← hy39, ← hA39, ← hc39] at hcut39; have HO279 := Aside0.mk (show Kd.V (Kd.slice 3 (Kd.int .i64)) 26 _ w.heap.size _ (.slice A39 y275.length c39) y275 from Kd.V_mk (by rw [hy39, hc39]; exact Nat.sub_le_sub_right (Nat.le_trans (by omega) hroom39) _) hr39); have HC279 := Aside0.mk (show y275.length ≤ c39 from by rw [hy39, hc39]; exact Nat.sub_le_sub_right (Nat.le_trans (by omega) hroom39) _); clear hr39 hC39 hroom39 hi039 hsz39 hc39; have KY39 := Aside0.mk hy39; have KA39 := Aside0.mk hA39; clear hy39 hA39; replace q39 := eq_true q39) | ((with_reducible refine gate_dst (N := 81) rfl ?_); (try (refine gate_guard (by rfl) ?_; dsimp only)); refine Kd.R_lit (Kd.int .i64) _ 3 ?hg (N := 81) ?hd (xs := ([a2] : List Int)) (inner := [.int .i64 a2]) (ok := fun _ => True) (okp := fun _ => True) ?hr ?hp (fun _ hk => hk) trivial (Below.refl _ _) (Nat.le_refl _) (by simp) ?_; (case hd => rfl); (case hg => rfl); (case hr => first | (go_simp; done) | (go_simp; rfl)); (case hp => exact (Reps.one (show Kd.M (Kd.int .i64) _ _ _ a2 [.int .i64 a2] from rfl) (Reps.none _ _))); intro v281 w40 ho41 hb hg_ hnew_; clear hg_ hnew_; (first | rw [← Ny280.out] at ho41 | (simp only [Int.reduceToNat] at ho41; rw [← Ny280.out] at ho41)); have n0_ := Aside0.mk (Kd.V_elder' (by (with_reducible repeat (first | apply Kd.V_alloc | apply Kd.V_drewN | apply Kd.V_drew)); exact HO_1.out) (Kd.R_base ho41) hb); have n1_ := Aside0.mk (Kd.N_elder' (by (with_reducible repeat (first | apply Kd.N_alloc | apply Kd.N_drewN | apply Kd.N_drew)); exact HO_9.out) (Kd.R_base ho41) hb); have n2_ := Aside0.mk (Kd.V_elder' (by (with_reducible repeat (first | apply Kd.V_alloc | apply Kd.V_drewN | apply Kd.V_drew)); exact HL271_0.out) (Kd.R_base ho41) hb); have n3_ := Aside0.mk (Kd.N_elder' (by (with_reducible repeat (first | apply Kd.N_alloc | apply Kd.N_drewN | apply Kd.N_drew)); exact HO274.out) (Kd.R_base ho41) hb); have n4_ := Aside0.mk (Kd.V_elder' (by (with_reducible repeat (first | apply Kd.V_alloc | apply Kd.V_drewN | apply Kd.V_drew)); exact HO279.out) (Kd.R_base ho41) hb); have n5_ := Aside0.mk (Kd.R_lower (Kd.R_newM (M := fun k_ => (w.heap.size ≤ k_)) ho41 (below_size (by repeat (first | (with_reducible first | exact HB.out | apply below_alloc | apply pw_below_drewN | apply below_drew1) | exact HB.out))) (fun k_ h_ => h_)) (below_size (by repeat (first | (with_reducible first | exact HB.out | apply below_alloc | apply pw_below_drewN | apply below_drew1) | exact HB.out)))); have n6_ := Aside0.mk (below_step (by repeat (first | (with_reducible first | exact HB.out | apply below_alloc | apply pw_below_drewN | apply below_drew1) | exact HB.out)) hb); clear HO_1; clear HO_9; clear HL271_0; clear HO274; clear HO279; clear HB; have HO_1 := n0_; have HO_9 := n1_; have HL271_0 := n2_; have HO274 := n3_; have HO279 := n4_; have HO282 := n5_; have HB := n6_; clear n0_ n1_ n2_ n3_ n4_ n5_ n6_; clear hb ho41; obtain ⟨Ao42, co42, eo42⟩ := Kd.R_slice HO282.out; subst eo42) | ((with_reducible refine gate_callee (f := 17) rfl ?_); refine goesL_ (some 82) rfl rfl Try.func17 (by kernel_rfl) rfl #[.int .i64 a0, .int .i64 ((rd_L1 l1 0).length : Int), .slice A39 y275.length c39, .slice Ao42 y280.length co42] rfl (by (try simp only [List.map_toArray, List.map_cons, List.map_nil]); first | done | rfl | (simp only [List.length_drop, List.length_take]; rfl)) ?_; (with_reducible refine (greenwoodref05_Sum.calls k2 a0 ((rd_L1 l1 0).length : Int) _ _ y275 _ _ y280 t283 _ ?side1 ?side2 ?side3 ?side4 A36.out).mono ?_); (case side1 => repeat (first | exact (Kd.V_reads' HO279.out).2.2 | (with_reducible refine Kd.C_alloc ?_ _) | (with_reducible refine Kd.C_drewN ?_ _) | (with_reducible refine Kd.C_drew ?_))); (case side2 => exact (Kd.V_reads' HO279.out).2.1); (case side3 => repeat (first | exact (Kd.R_reads' HO282.out).2.2 | (with_reducible refine Kd.C_alloc ?_ _) | (with_reducible refine Kd.C_drewN ?_ _) | (with_reducible refine Kd.C_drew ?_))); (case side4 => exact (Kd.R_reads' HO282.out).2.1); rintro e w43 ⟨v284, rfl, ho0, hb⟩; refine ⟨_, rfl, ?_⟩; have n0_ := Aside0.mk (Kd.V_elder' (by (with_reducible repeat (first | apply Kd.V_alloc | apply Kd.V_drewN | apply Kd.V_drew)); exact HO_1.out) (Kd.R_base ho0) hb); have n1_ := Aside0.mk (Kd.N_elder' (by (with_reducible repeat (first | apply Kd.N_alloc | apply Kd.N_drewN | apply Kd.N_drew)); exact HO_9.out) (Kd.R_base ho0) hb); have n2_ := Aside0.mk (Kd.V_elder' (by (with_reducible repeat (first | apply Kd.V_alloc | apply Kd.V_drewN | apply Kd.V_drew)); exact HL271_0.out) (Kd.R_base ho0) hb); have n3_ := Aside0.mk (Kd.N_elder' (by (with_reducible repeat (first | apply Kd.N_alloc | apply Kd.N_drewN | apply Kd.N_drew)); exact HO274.out) (Kd.R_base ho0) hb); have n4_ := Aside0.mk (Kd.V_elder' (by (with_reducible repeat (first | apply Kd.V_alloc | apply Kd.V_drewN | apply Kd.V_drew)); exact HO279.out) (Kd.R_base ho0) hb); have n5_ := Aside0.mk (Kd.R_elder' (by (with_reducible repeat (first | apply Kd.R_alloc | apply Kd.R_drewN | apply Kd.R_drew)); exact HO282.out) (Kd.R_base ho0) hb); have n6_ := Aside0.mk (Kd.R_lower (Kd.R_new' (Kd.R_newM (M := fun k_ => (w.heap.size ≤ k_)) ho0 (below_size (by repeat (first | (with_reducible first | exact HB.out | apply below_alloc | apply pw_below_drewN | apply below_drew1) | exact HB.out))) (fun k_ h_ => h_)) (Kd.R_lt (by (with_reducible repeat (first | apply Kd.R_alloc | apply Kd.R_drewN | apply Kd.R_drew)); exact HO282.out))) (below_size (by repeat (first | (with_reducible first | exact HB.out | apply below_alloc | apply pw_below_drewN | apply below_drew1) | exact HB.out)))); have n7_ := Aside0.mk (below_step (by repeat (first | (with_reducible first | exact HB.out | apply below_alloc | apply pw_below_drewN | apply below_drew1) | exact HB.out)) hb); clear HO_1; clear HO_9; clear HL271_0; clear HO274; clear HO279; clear HO282; clear HB; have HO_1 := n0_; have HO_9 := n1_; have HL271_0 := n2_; have HO274 := n3_; have HO279 := n4_; have HO282 := n5_; have HO285 := n6_; have HB := n7_; clear n0_ n1_ n2_ n3_ n4_ n5_ n6_ n7_; (try clear hb); (try clear hb2); (try clear hk); (try clear hi); (try clear ho0); obtain ⟨Ao45, co45, eo45⟩ := Kd.R_slice HO285.out; subst eo45) | ((with_reducible refine gate_builtin (b := .append) (xs := #[.tmp 72, .tmp 83]) rfl ?_); (try (refine gate_guard (by rfl) ?_; dsimp only)); at_builtin; refine Kd.N_append (Kd.slice 3 (Kd.int .i64)) (w0 := w) w.heap.size rfl (.tmp 72) (.tmp 83) 22 26 (.slice none 0 0) 24 rfl Try.underlying22 info26 rfl (by decide) (by omega) u9 x9_2 t283 [.slice Ao45 t283.length co45] (fun k_ => (P1_ k_ ∨ w.heap.size ≤ k_) ∧ some k_ ≠ (v273 : Value).ownBlock ∧ some k_ ≠ (.slice Ao42 y280.length co42 : Value).ownBlock) (fun k_ => ((fun k_ => (P1_ k_ ∨ w.heap.size ≤ k_) ∧ some k_ ≠ (v273 : Value).ownBlock ∧ some k_ ≠ (.slice Ao42 y280.length co42 : Value).ownBlock)) k_ ∧ some k_ ≠ (u9 : Value).ownBlock) rfl rfl ?aP (fun _ hk => hk) ?aF ?aO ?aB ?aS ?aL ?_; (case aP => exact (FKR7 (Kd.R_mono (ok' := (fun k_ => ((fun k_ => (P1_ k_ ∨ w.heap.size ≤ k_) ∧ some k_ ≠ (v273 : Value).ownBlock ∧ some k_ ≠ (.slice Ao42 y280.length co42 : Value).ownBlock)) k_ ∧ some k_ ≠ (u9 : Value).ownBlock)) (Kd.R_apart' (Kd.R_apart' (HO285.out) (Kd.N_typed HO274.out) (by decide)) (Kd.N_typed HO_9.out) (by decide)) (fun k_ hk => ⟨⟨(.inr (hk.1.1.1.1)), ⟨hk.1.2, hk.1.1.2⟩⟩, hk.2⟩)))); (case aB => exact (by repeat (first | (with_reducible first | exact HB.out | apply below_alloc | apply pw_below_drewN | apply below_drew1) | exact HB.out))); (case aF => exact (fun k_ hk => ⟨(.inr (Nat.le_trans (below_size (by repeat (first | (with_reducible first | exact HB.out | apply below_alloc | apply pw_below_drewN | apply below_drew1) | exact HB.out))) hk)), Kd.fresh' (Kd.N_lt (by (with_reducible repeat (first | apply Kd.N_alloc | apply Kd.N_drewN | apply Kd.N_drew)); exact HO274.out)) k_ hk, Kd.fresh' (Kd.R_lt (by (with_reducible repeat (first | apply Kd.R_alloc | apply Kd.R_drewN | apply Kd.R_drew)); exact HO282.out)) k_ hk⟩)); (case aO => exact (by (with_reducible repeat (first | apply Kd.N_alloc | apply Kd.N_drewN | apply Kd.N_drew)); exact Kd.N_mono HO_9.out (fun _ hk => ⟨hk.1.1.1, ⟨hk.1.1.2, hk.1.2⟩⟩))); (case aS => exact (below_size (by repeat (first | (with_reducible first | exact HB.out | apply below_alloc | apply pw_below_drewN | apply below_drew1) | exact HB.out)))); (case aL => have := LMc37.out; omega); intro v287 w44 ho hb hg hat; rw [← Ny286.out] at ho; have n0_ := Aside0.mk (Kd.V_afterv (ok := (fun k_ => (P1_ k_ ∨ w.heap.size ≤ k_) ∧ some k_ ≠ (v273 : Value).ownBlock ∧ some k_ ≠ (.slice Ao42 y280.length co42 : Value).ownBlock ∧ some k_ ≠ (.slice Ao45 t283.length co45 : Value).ownBlock)) (by (with_reducible repeat (first | apply Kd.V_alloc | apply Kd.V_drewN | apply Kd.V_drew)); exact Kd.V_mono HO_1.out (fun _ hk => ⟨⟨hk.1.1.1.1, ⟨hk.1.1.2, ⟨hk.1.2, hk.2⟩⟩⟩, hk.1.1.1.2⟩)) hg hat); have n1_ := Aside0.mk (Kd.V_afterv (ok := (fun k_ => (P1_ k_ ∨ w.heap.size ≤ k_) ∧ some k_ ≠ (v273 : Value).ownBlock ∧ some k_ ≠ (.slice Ao42 y280.length co42 : Value).ownBlock ∧ some k_ ≠ (.slice Ao45 t283.length co45 : Value).ownBlock)) (by (with_reducible repeat (first | apply Kd.V_alloc | apply Kd.V_drewN | apply Kd.V_drew)); exact Kd.V_mono HL271_0.out (fun _ hk => ⟨⟨hk.1.1.1.1, ⟨hk.1.1.2, ⟨hk.1.2, hk.2⟩⟩⟩, hk.1.1.1.2⟩)) hg hat); have n2_ := Aside0.mk (Kd.N_afterv (ok := (fun k_ => (P1_ k_ ∨ w.heap.size ≤ k_) ∧ some k_ ≠ (.slice Ao42 y280.length co42 : Value).ownBlock ∧ some k_ ≠ (.slice Ao45 t283.length co45 : Value).ownBlock)) (by (with_reducible repeat (first | apply Kd.N_alloc | apply Kd.N_drewN | apply Kd.N_drew)); exact Kd.N_mono HO274.out (fun _ hk => ⟨⟨hk.1.1.1, ⟨hk.1.2, hk.2⟩⟩, hk.1.1.2⟩)) hg hat); have n3_ := Aside0.mk (Kd.V_afterv (ok := (fun k_ => (P1_ k_ ∨ w.heap.size ≤ k_) ∧ some k_ ≠ (v273 : Value).ownBlock ∧ some k_ ≠ (.slice Ao42 y280.length co42 : Value).ownBlock ∧ some k_ ≠ (.slice Ao45 t283.length co45 : Value).ownBlock)) (by (with_reducible repeat (first | apply Kd.V_alloc | apply Kd.V_drewN | apply Kd.V_drew)); exact Kd.V_mono HO279.out (fun _ hk => ⟨⟨hk.1.1.1.1, ⟨hk.1.1.2, ⟨hk.1.2, hk.2⟩⟩⟩, hk.1.1.1.2⟩)) hg hat); have n4_ := Aside0.mk (Kd.R_over' (by (with_reducible repeat (first | apply Kd.R_alloc | apply Kd.R_drewN | apply Kd.R_drew)); exact HO282.out) (Kd.N_typed (by (with_reducible repeat (first | apply Kd.N_alloc | apply Kd.N_drewN | apply Kd.N_drew)); exact HO_9.out)) (by decide) hg); have n5_ := Aside0.mk (hb); have n6_ := Aside0.mk (ho); clear HO_1; clear HL271_0; clear HO274; clear HO279; clear HO282; clear HB; clear HO_9; clear HO285; have HO_1 := n0_; have HL271_0 := n1_; have HO274 := n2_; have HO279 := n3_; have HO282 := n4_; have HB := n5_; have HO288 := n6_; clear n0_ n1_ n2_ n3_ n4_ n5_ n6_; clear ho hb hg hat))
                            go_roundg k2
                            case measure => have := HJ3.out; have := HK2.out; omega
                            case rel => exact ⟨(y272), (y286), (wrap64 (x10_2 - 1)), (by first | rfl | (simp; done) | (simp [*]; done)), H', ⟨by have := HJ3.out; have := HK2.out; omega⟩, ⟨by (with_reducible repeat (first | apply Kd.V_alloc | apply Kd.V_drewN | apply Kd.V_drew)); exact Kd.V_mono HO_1.out (fun _ hk => ⟨hk.1.1, ⟨hk.1.2.1, hk.2⟩⟩)⟩, ⟨by (with_reducible repeat (first | apply Kd.N_alloc | apply Kd.N_drewN | apply Kd.N_drew)); exact Kd.N_mono HO274.out (fun _ hk => ⟨hk.1.1, hk.2⟩)⟩, ⟨by (with_reducible repeat (first | apply Kd.N_alloc | apply Kd.N_drewN | apply Kd.N_drew)); exact Kd.N_mono HO288.out (fun _ hk => ⟨hk.1, hk.2.1⟩)⟩, ⟨by repeat (first | (with_reducible first | exact HB.out | apply below_alloc | apply pw_below_drewN | apply below_drew1) | exact HB.out)⟩⟩
                          · rw [if_neg c37] at H
                            exact absurd H (by simp)
                        · rw [if_neg c35] at H
                          exact absurd H (by simp)
                      · rw [if_neg c34] at H
                        exact absurd H (by simp)
                    · rw [if_neg c32] at H
                      exact absurd H (by simp)
                  · rw [if_neg c31] at H
                    exact absurd H (by simp)
                · rw [if_neg c30] at H
                  exact absurd H (by simp)
              · rw [if_neg c29] at H
                have c29b0 : decide (0 ≤ x10_2) = false := decide_eq_false c29
                clear c29
                replace H := Option.bind_eq_some_iff.mp H
                obtain ⟨t289, A460, H⟩ := H
                replace H : (if 1 ≤ (l1.length : Int) then ((elim_Rank.f k2 a0 ((rd_L1 l1 0).length : Int) (l1.drop 1)).bind fun t295 => (if t289 ≥ 0 then (if t289 ≤ (l1.length : Int) then (if t289 ≤ ((rd_L1 l1 0).length : Int) then (if t295 ≤ t289 then (if t289 ≤ (wrap64 (t295 + 1)) then ((elim_Rank.f k2 a0 ((rd_L1 l1 0).length : Int) x8_2).bind fun t296 => (if t296 = t289 then ((elim_Rank.f k2 a0 ((rd_L1 l1 0).length : Int) x9_2).bind fun t297 => (some (t297 == t289))) else (some false))) else (some false)) else (some false)) else (some false)) else (some false)) else (some false))) else (none)) = some r := H
                have A46 := Aside0.mk A460
                clear A460
                by_cases c47 : 1 ≤ (l1.length : Int)
                · rw [if_pos c47] at H
                  have c47b0 := eq_true c47
                  have c47b1 : decide (1 ≤ (l1.length : Int)) = true := decide_eq_true c47
                  clear c47
                  obtain ⟨y290, hy290⟩ : ∃ y_ : List (List Int), y_ = (l1.drop 1) := ⟨_, rfl⟩
                  replace H : ((elim_Rank.f k2 a0 ((rd_L1 l1 0).length : Int) y290).bind fun t295 => (if t289 ≥ 0 then (if t289 ≤ (l1.length : Int) then (if t289 ≤ ((rd_L1 l1 0).length : Int) then (if t295 ≤ t289 then (if t289 ≤ (wrap64 (t295 + 1)) then ((elim_Rank.f k2 a0 ((rd_L1 l1 0).length : Int) x8_2).bind fun t296 => (if t296 = t289 then ((elim_Rank.f k2 a0 ((rd_L1 l1 0).length : Int) x9_2).bind fun t297 => (some (t297 == t289))) else (some false))) else (some false)) else (some false)) else (some false)) else (some false)) else (some false))) = some r := by first | (rw [hy290]; with_reducible exact H) | (have H2_ := (Option.bind_some _ _).symm.trans H; rw [hy290]; with_reducible exact H2_) | (have H2_ := (Option.bind_some _ _).symm.trans H; with_reducible exact H2_) | with_reducible exact H | (rw [hy290]; exact H) | exact H
                  have Ny290 := Aside0.mk hy290
                  clear hy290
                  replace H := Option.bind_eq_some_iff.mp H
                  obtain ⟨t295, A480, H⟩ := H
                  replace H : (if t289 ≥ 0 then (if t289 ≤ (l1.length : Int) then (if t289 ≤ ((rd_L1 l1 0).length : Int) then (if t295 ≤ t289 then (if t289 ≤ (wrap64 (t295 + 1)) then ((elim_Rank.f k2 a0 ((rd_L1 l1 0).length : Int) x8_2).bind fun t296 => (if t296 = t289 then ((elim_Rank.f k2 a0 ((rd_L1 l1 0).length : Int) x9_2).bind fun t297 => (some (t297 == t289))) else (some false))) else (some false)) else (some false)) else (some false)) else (some false)) else (some false)) = some r := H
                  have A48 := Aside0.mk A480
                  clear A480
                  by_cases c49 : t289 ≥ 0
                  · rw [if_pos c49] at H
                    have c49b0 : decide (0 ≤ t289) = true := decide_eq_true c49
                    clear c49
                    by_cases c50 : t289 ≤ (l1.length : Int)
                    · rw [if_pos c50] at H
                      have c50b0 : decide (t289 ≤ (l1.length : Int)) = true := decide_eq_true c50
                      clear c50
                      by_cases c51 : t289 ≤ ((rd_L1 l1 0).length : Int)
                      · rw [if_pos c51] at H
                        have c51b0 : decide (t289 ≤ ((rd_L1 l1 0).length : Int)) = true := decide_eq_true c51
                        clear c51
                        by_cases c52 : t295 ≤ t289
                        · rw [if_pos c52] at H
                          have c52b0 : decide (t295 ≤ t289) = true := decide_eq_true c52
                          clear c52
                          by_cases c53 : t289 ≤ (wrap64 (t295 + 1))
                          · rw [if_pos c53] at H
                            have c53b0 : decide (t289 ≤ (wrap64 (t295 + 1))) = true := decide_eq_true c53
                            clear c53
                            replace H := Option.bind_eq_some_iff.mp H
                            obtain ⟨t296, A540, H⟩ := H
                            replace H : (if t296 = t289 then ((elim_Rank.f k2 a0 ((rd_L1 l1 0).length : Int) x9_2).bind fun t297 => (some (t297 == t289))) else (some false)) = some r := H
                            have A54 := Aside0.mk A540
                            clear A540
                            by_cases c55 : t296 = t289
                            · rw [if_pos c55] at H
                              have c55b0 : (t296 == t289) = true := beq_iff_eq.mpr c55
                              have c55b1 : (t296 != t289) = false := bne_eq_false_iff_eq.mpr c55
                              clear c55
                              replace H := Option.bind_eq_some_iff.mp H
                              obtain ⟨t297, A560, H⟩ := H
                              replace H : (some (t297 == t289)) = some r := H
                              have A56 := Aside0.mk A560
                              clear A560
                              obtain rfl := Option.some.inj H
                              try go_wp2
                              have n0_ := Aside0.mk (Kd.V_drew HO_1.out)
                              have n1_ := Aside0.mk (Kd.N_drew HO_8.out)
                              have n2_ := Aside0.mk (Kd.N_drew HO_9.out)
                              have n3_ := Aside0.mk (below_drew1 HB.out)
                              clear HO_1
                              clear HO_8
                              clear HO_9
                              clear HB
                              have HO_1 := n0_
                              have HO_8 := n1_
                              have HO_9 := n2_
                              have HB := n3_
                              clear n0_ n1_ n2_ n3_
                              have q58 : (1 : Int) ≤ ((l1.length : Int) : Int) := of_decide_eq_true (by first | (with_reducible assumption) | assumption)
                              obtain ⟨i058, hi058, _, hsz58, _⟩ := info_parts info26
                              have hroom58 : l1.length ≤ c1 := (Kd.V_reads' HO_1.out).2.1
                              have hC58 : Kd.F (Kd.slice 3 (Kd.int .i64)) _ _ (some ad264) l1.length l1 := (Kd.V_at (base := w.heap.size) HO_1.out).2.2
                              have hcut58 := cut_from (P := Try.prog) 22 26 .i64 Try.underlying22 hi058 1 hsz58 (some ad264) l1.length c1 1 (by omega) q58
                              have hr58 := Kd.F_cut (m := (1 : Int).toNat) (c := c1) hC58 (by omega) hroom58
                              obtain ⟨A58, hA58⟩ : ∃ Ab_, Ab_ = (if c1 = (1 : Int).toNat then (some ad264) else ((some ad264) : Option Addr).map (·.add ((1 : Int).toNat * 1))) := ⟨_, rfl⟩
                              obtain ⟨c58, hc58⟩ : ∃ cb_, cb_ = c1 - (1 : Int).toNat := ⟨_, rfl⟩
                              have hy58 : y290.length = l1.length - (1 : Int).toNat := (by rw [Ny290.out, List.length_drop] <;> omega)
                              rw [show (l1).drop (1 : Int).toNat = y290 from Ny290.out.symm] at hr58
                              replace hr58 : Kd.F (Kd.slice 3 (Kd.int .i64)) _ _ A58 y290.length y290 := (by rw [hA58]; exact hr58)
                              rw [← hy58, ← hA58, ← hc58] at hcut58
                              have HO294 := Aside0.mk (show Kd.V (Kd.slice 3 (Kd.int .i64)) 26 _ w.heap.size _ (.slice A58 y290.length c58) y290 from Kd.V_mk (by rw [hy58, hc58]; exact Nat.sub_le_sub_right hroom58 _) hr58)
                              have HC294 := Aside0.mk (show y290.length ≤ c58 from by rw [hy58, hc58]; exact Nat.sub_le_sub_right hroom58 _)
                              clear hr58 hC58 hroom58 hi058 hsz58 hc58
                              have KY58 := Aside0.mk hy58
                              have KA58 := Aside0.mk hA58
                              clear hy58 hA58
                              replace q58 := eq_true q58
                              refine start_ (n := 11) (S := fun w' => True) (ds := []) #[false, false, false, false, false, false, false, false, false, false, false] (by kernel_rfl) rfl rfl trivial (fun hHeld => ?_); refine with_tabW greenwoodlaw05_ElimRank.tab10 greenwoodlaw05_ElimRank.bits10 (fun HT_ HW_ => ?_)
                              generalize wr.drew = w57 at HO_1 HO_8 HO_9 HB HO294 hHeld ⊢
                              refine pure_ (i := 0) (N := some 85) (v := ?_) (a' := ?_) #[true, false, false, false, false, false, false, false, false, false, false] rfl rfl (any_of HT_.out (by kernel_rfl)) (fun _ _ _ h => h) (Or.inl ⟨by rfl, ?_⟩) ?_ ?_
                              rotate_left
                              · intro w'
                                go_simp
                                with_reducible rfl
                              rotate_left
                              · simp only [Act.put, List.setIfInBounds_toArray, List.set_cons_zero, List.set_cons_succ, i64_w, i32_w]
                                rfl
                              refine pure_ (i := 1) (N := some 86) (v := ?_) (a' := ?_) #[true, true, false, false, false, false, false, false, false, false, false] rfl rfl (any_of HT_.out (by kernel_rfl)) (fun _ _ _ h => h) (Or.inl ⟨by rfl, ?_⟩) ?_ ?_
                              rotate_left
                              · intro w'
                                go_simp
                                with_reducible rfl
                              rotate_left
                              · simp only [Act.put, List.setIfInBounds_toArray, List.set_cons_zero, List.set_cons_succ, i64_w, i32_w]
                                rfl
                              refine pure_ (i := 2) (N := some 87) (v := ?_) (a' := ?_) #[true, true, true, false, false, false, false, false, false, false, false] rfl rfl (any_of HT_.out (by kernel_rfl)) (fun _ _ _ h => h) (Or.inl ⟨by rfl, ?_⟩) ?_ ?_
                              rotate_left
                              · intro w'
                                go_simp
                                with_reducible rfl
                              rotate_left
                              · simp only [Act.put, List.setIfInBounds_toArray, List.set_cons_zero, List.set_cons_succ, i64_w, i32_w]
                                rfl
                              refine pure_ (i := 4) (N := some 89) (v := ?_) (a' := ?_) #[true, true, true, false, true, false, false, false, false, false, false] rfl rfl (any_of HT_.out (by kernel_rfl)) (fun _ _ _ h => h) (Or.inl ⟨by rfl, ?_⟩) ?_ ?_
                              rotate_left
                              · intro w'
                                go_simp
                                with_reducible rfl
                              rotate_left
                              · simp only [Act.put, List.setIfInBounds_toArray, List.set_cons_zero, List.set_cons_succ, i64_w, i32_w]
                                rfl
                              refine pure_ (i := 5) (N := some 90) (v := ?_) (a' := ?_) #[true, true, true, false, true, true, false, false, false, false, false] rfl rfl (any_of HT_.out (by kernel_rfl)) (fun _ _ _ h => h) (Or.inl ⟨by rfl, ?_⟩) ?_ ?_
                              rotate_left
                              · intro w'
                                go_simp
                                with_reducible rfl
                              rotate_left
                              · simp only [Act.put, List.setIfInBounds_toArray, List.set_cons_zero, List.set_cons_succ, i64_w, i32_w]
                                rfl
                              refine pure_ (i := 6) (N := some 91) (v := ?_) (a' := ?_) #[true, true, true, false, true, true, true, false, false, false, false] rfl rfl (any_of HT_.out (by kernel_rfl)) (fun _ _ _ h => h) (Or.inl ⟨by rfl, ?_⟩) ?_ ?_
                              rotate_left
                              · intro w'
                                go_simp
                                with_reducible rfl
                              rotate_left
                              · simp only [Act.put, List.setIfInBounds_toArray, List.set_cons_zero, List.set_cons_succ, i64_w, i32_w]
                                rfl
                              refine pure_ (i := 7) (N := some 92) (v := ?_) (a' := ?_) #[true, true, true, false, true, true, true, true, false, false, false] rfl rfl (any_of HT_.out (by kernel_rfl)) (fun _ _ _ h => h) (Or.inl ⟨by rfl, ?_⟩) ?_ ?_
                              rotate_left
                              · intro w'
                                go_simp
                                with_reducible rfl
                              rotate_left
                              · simp only [Act.put, List.setIfInBounds_toArray, List.set_cons_zero, List.set_cons_succ, i64_w, i32_w]
                                rfl
                              refine one_ (i := 3) (N := some 88) #[true, true, true, true, true, true, true, true, false, false, false] rfl rfl (one_of HT_.out (by kernel_rfl)) (by decide) (fun K hK => ?_)
                              refine goes_ Try.func14 (by kernel_rfl) rfl #[.int .i64 a0, .int .i64 ((rd_L1 l1 0).length : Int), .slice (some ad264) l1.length c1] (by rfl) rfl rfl (by (try simp only [List.map_toArray, List.map_cons, List.map_nil]); first | done | rfl | (simp only [List.length_drop, List.length_take]; rfl)) ?_
                              with_reducible refine (elim_Rank.calls k2 a0 ((rd_L1 l1 0).length : Int) _ _ l1 t289 _ ?side1 ?side2 A46.out).mono ?_
                              (case side1 => repeat (first | exact (Kd.V_reads' HO_1.out).2.2 | (with_reducible refine Kd.C_alloc ?_ _) | (with_reducible refine Kd.C_drewN ?_ _) | (with_reducible refine Kd.C_drew ?_)))
                              (case side2 => exact (Kd.V_reads' HO_1.out).2.1)
                              rintro e w59 ⟨rfl, hb⟩
                              refine ⟨_, rfl, ?_⟩
                              have n0_ := Aside0.mk (Kd.V_below (by (with_reducible repeat (first | apply Kd.V_alloc | apply Kd.V_drewN | apply Kd.V_drew)); exact HO_1.out) hb)
                              have n1_ := Aside0.mk (Kd.N_below (by (with_reducible repeat (first | apply Kd.N_alloc | apply Kd.N_drewN | apply Kd.N_drew)); exact HO_8.out) hb)
                              have n2_ := Aside0.mk (Kd.N_below (by (with_reducible repeat (first | apply Kd.N_alloc | apply Kd.N_drewN | apply Kd.N_drew)); exact HO_9.out) hb)
                              have n3_ := Aside0.mk (Kd.V_below (by (with_reducible repeat (first | apply Kd.V_alloc | apply Kd.V_drewN | apply Kd.V_drew)); exact HO294.out) hb)
                              have n4_ := Aside0.mk (below_step (by repeat (first | (with_reducible first | exact HB.out | apply below_alloc | apply pw_below_drewN | apply below_drew1) | exact HB.out)) hb)
                              clear HO_1
                              clear HO_8
                              clear HO_9
                              clear HO294
                              clear HB
                              have HO_1 := n0_
                              have HO_8 := n1_
                              have HO_9 := n2_
                              have HO294 := n3_
                              have HB := n4_
                              clear n0_ n1_ n2_ n3_ n4_
                              (try clear hb)
                              (try clear hb2)
                              (try clear hk)
                              (try clear hi)
                              refine hK.out _ _ trivial (fun hHeld => ?_)
                              clear hK K
                              refine norm_ (a' := ?_) ?_ ?_
                              rotate_left
                              · show Act.put _ (some 88) _ = _
                                simp only [Act.put, List.setIfInBounds_toArray, List.set_cons_zero, List.set_cons_succ, i64_w, i32_w]
                                rfl
                              refine one_ (i := 8) (N := some 93) #[true, true, true, true, true, true, true, true, true, false, false] rfl rfl (one_of HT_.out (by kernel_rfl)) (by decide) (fun K hK => ?_)
                              refine goes_ Try.func14 (by kernel_rfl) rfl #[.int .i64 a0, .int .i64 ((rd_L1 l1 0).length : Int), .slice A58 y290.length c58] (by rfl) rfl rfl (by (try simp only [List.map_toArray, List.map_cons, List.map_nil]); first | done | rfl | (simp only [List.length_drop, List.length_take]; rfl)) ?_
                              with_reducible refine (elim_Rank.calls k2 a0 ((rd_L1 l1 0).length : Int) _ _ y290 t295 _ ?side1 ?side2 A48.out).mono ?_
                              (case side1 => repeat (first | exact (Kd.V_reads' HO294.out).2.2 | (with_reducible refine Kd.C_alloc ?_ _) | (with_reducible refine Kd.C_drewN ?_ _) | (with_reducible refine Kd.C_drew ?_)))
                              (case side2 => exact (Kd.V_reads' HO294.out).2.1)
                              rintro e w60 ⟨rfl, hb⟩
                              refine ⟨_, rfl, ?_⟩
                              have n0_ := Aside0.mk (Kd.V_below (by (with_reducible repeat (first | apply Kd.V_alloc | apply Kd.V_drewN | apply Kd.V_drew)); exact HO_1.out) hb)
                              have n1_ := Aside0.mk (Kd.N_below (by (with_reducible repeat (first | apply Kd.N_alloc | apply Kd.N_drewN | apply Kd.N_drew)); exact HO_8.out) hb)
                              have n2_ := Aside0.mk (Kd.N_below (by (with_reducible repeat (first | apply Kd.N_alloc | apply Kd.N_drewN | apply Kd.N_drew)); exact HO_9.out) hb)
                              have n3_ := Aside0.mk (Kd.V_below (by (with_reducible repeat (first | apply Kd.V_alloc | apply Kd.V_drewN | apply Kd.V_drew)); exact HO294.out) hb)
                              have n4_ := Aside0.mk (below_step (by repeat (first | (with_reducible first | exact HB.out | apply below_alloc | apply pw_below_drewN | apply below_drew1) | exact HB.out)) hb)
                              clear HO_1
                              clear HO_8
                              clear HO_9
                              clear HO294
                              clear HB
                              have HO_1 := n0_
                              have HO_8 := n1_
                              have HO_9 := n2_
                              have HO294 := n3_
                              have HB := n4_
                              clear n0_ n1_ n2_ n3_ n4_
                              (try clear hb)
                              (try clear hb2)
                              (try clear hk)
                              (try clear hi)
                              refine hK.out _ _ trivial (fun hHeld => ?_)
                              clear hK K
                              refine norm_ (a' := ?_) ?_ ?_
                              rotate_left
                              · show Act.put _ (some 93) _ = _
                                simp only [Act.put, List.setIfInBounds_toArray, List.set_cons_zero, List.set_cons_succ, i64_w, i32_w]
                                rfl
                              refine pure_ (i := 9) (N := some 11) (v := ?_) (a' := ?_) #[true, true, true, true, true, true, true, true, true, true, false] rfl rfl (any_of HT_.out (by kernel_rfl)) (fun _ _ _ h => h) (Or.inl ⟨by rfl, ?_⟩) ?_ ?_
                              rotate_left
                              · intro w'
                                go_simp
                                with_reducible rfl
                              rotate_left
                              · simp only [Act.put, List.setIfInBounds_toArray, List.set_cons_zero, List.set_cons_succ, i64_w, i32_w]
                                rfl
                              refine pure_ (i := 10) (N := some 12) (v := ?_) (a' := ?_) #[true, true, true, true, true, true, true, true, true, true, true] rfl rfl (any_of HT_.out (by kernel_rfl)) (fun _ _ _ h => h) (Or.inl ⟨by rfl, ?_⟩) ?_ ?_
                              rotate_left
                              · intro w'
                                go_simp
                                with_reducible rfl
                              rotate_left
                              · simp only [Act.put, List.setIfInBounds_toArray, List.set_cons_zero, List.set_cons_succ, i64_w, i32_w]
                                rfl
                              refine done_ (done_of HT_.out (by kernel_rfl)) ?_
                              obtain ⟨Ao61, co61, eo61⟩ := Kd.N_slice HO_8.out
                              subst eo61
                              try go_wp2_with (first | (go_at_call 14; (with_reducible refine (elim_Rank.calls k2 a0 ((rd_L1 l1 0).length : Int) _ _ x8_2 t296 _ ?side1 ?side2 A54.out).mono ?_); (case side1 => repeat (first | exact (Kd.N_reads' HO_8.out).2.2 | (with_reducible refine Kd.C_alloc ?_ _) | (with_reducible refine Kd.C_drewN ?_ _) | (with_reducible refine Kd.C_drew ?_))); (case side2 => exact (Kd.N_reads' HO_8.out).2.1); rintro e w62 ⟨rfl, hb⟩; have n0_ := Aside0.mk (Kd.V_below (by (with_reducible repeat (first | apply Kd.V_alloc | apply Kd.V_drewN | apply Kd.V_drew)); exact HO_1.out) hb); have n1_ := Aside0.mk (Kd.N_below (by (with_reducible repeat (first | apply Kd.N_alloc | apply Kd.N_drewN | apply Kd.N_drew)); exact HO_8.out) hb); have n2_ := Aside0.mk (Kd.N_below (by (with_reducible repeat (first | apply Kd.N_alloc | apply Kd.N_drewN | apply Kd.N_drew)); exact HO_9.out) hb); have n3_ := Aside0.mk (Kd.V_below (by (with_reducible repeat (first | apply Kd.V_alloc | apply Kd.V_drewN | apply Kd.V_drew)); exact HO294.out) hb); have n4_ := Aside0.mk (below_step (by repeat (first | (with_reducible first | exact HB.out | apply below_alloc | apply pw_below_drewN | apply below_drew1) | exact HB.out)) hb); clear HO_1; clear HO_8; clear HO_9; clear HO294; clear HB; have HO_1 := n0_; have HO_8 := n1_; have HO_9 := n2_; have HO294 := n3_; have HB := n4_; clear n0_ n1_ n2_ n3_ n4_; (try clear hb); (try clear hb2); (try clear hk); (try clear hi); obtain ⟨Ao63, co63, eo63⟩ := Kd.N_slice HO_9.out; subst eo63) | (go_at_call 14; (with_reducible refine (elim_Rank.calls k2 a0 ((rd_L1 l1 0).length : Int) _ _ x9_2 t297 _ ?side1 ?side2 A56.out).mono ?_); (case side1 => repeat (first | exact (Kd.N_reads' HO_9.out).2.2 | (with_reducible refine Kd.C_alloc ?_ _) | (with_reducible refine Kd.C_drewN ?_ _) | (with_reducible refine Kd.C_drew ?_))); (case side2 => exact (Kd.N_reads' HO_9.out).2.1); rintro e w64 ⟨rfl, hb⟩; have n0_ := Aside0.mk (Kd.V_below (by (with_reducible repeat (first | apply Kd.V_alloc | apply Kd.V_drewN | apply Kd.V_drew)); exact HO_1.out) hb); have n1_ := Aside0.mk (Kd.N_below (by (with_reducible repeat (first | apply Kd.N_alloc | apply Kd.N_drewN | apply Kd.N_drew)); exact HO_8.out) hb); have n2_ := Aside0.mk (Kd.N_below (by (with_reducible repeat (first | apply Kd.N_alloc | apply Kd.N_drewN | apply Kd.N_drew)); exact HO_9.out) hb); have n3_ := Aside0.mk (Kd.V_below (by (with_reducible repeat (first | apply Kd.V_alloc | apply Kd.V_drewN | apply Kd.V_drew)); exact HO294.out) hb); have n4_ := Aside0.mk (below_step (by repeat (first | (with_reducible first | exact HB.out | apply below_alloc | apply pw_below_drewN | apply below_drew1) | exact HB.out)) hb); clear HO_1; clear HO_8; clear HO_9; clear HO294; clear HB; have HO_1 := n0_; have HO_8 := n1_; have HO_9 := n2_; have HO294 := n3_; have HB := n4_; clear n0_ n1_ n2_ n3_ n4_; (try clear hb); (try clear hb2); (try clear hk); (try clear hi)))
                              go_ret
                              exact ⟨by first | rfl | (simp [errW_none, errW_some] <;> rfl) | (simp [*, errW_none, errW_some] <;> rfl), by repeat (first | (with_reducible first | exact HB.out | apply below_alloc | apply pw_below_drewN | apply below_drew1) | exact HB.out)⟩
                            · rw [if_neg c55] at H
                              have c55b0 : (t296 == t289) = false := beq_eq_false_iff_ne.mpr c55
                              have c55b1 : (t296 != t289) = true := bne_iff_ne.mpr c55
                              exact absurd ((Option.some.inj H).trans hrT) (by decide)
                          · rw [if_neg c53] at H
                            have c53b0 : decide (t289 ≤ (wrap64 (t295 + 1))) = false := decide_eq_false c53
                            clear c53
                            exact absurd ((Option.some.inj H).trans hrT) (by decide)
                        · rw [if_neg c52] at H
                          have c52b0 : decide (t295 ≤ t289) = false := decide_eq_false c52
                          clear c52
                          exact absurd ((Option.some.inj H).trans hrT) (by decide)
                      · rw [if_neg c51] at H
                        have c51b0 : decide (t289 ≤ ((rd_L1 l1 0).length : Int)) = false := decide_eq_false c51
                        clear c51
                        exact absurd ((Option.some.inj H).trans hrT) (by decide)
                    · rw [if_neg c50] at H
                      have c50b0 : decide (t289 ≤ (l1.length : Int)) = false := decide_eq_false c50
                      clear c50
                      exact absurd ((Option.some.inj H).trans hrT) (by decide)
                  · rw [if_neg c49] at H
                    have c49b0 : decide (0 ≤ t289) = false := decide_eq_false c49
                    clear c49
                    exact absurd ((Option.some.inj H).trans hrT) (by decide)
                · rw [if_neg c47] at H
                  exact absurd H (by simp)
        · rw [if_neg c24] at H
          exact absurd H (by simp)

end Go.Proofs.Ytepakefmioeilaa.P
/- Layer 5: the five laws, of what the printed functions compute. -/
namespace Go.Proofs.Ytepakefmioeilaa.P
open Go.RowKit Go.Proofs.YtepakefmioeilaaW.PrintWords Go.Proofs.YtepakefmioeilaaW.PrintLast Go.Proofs.YtepakefmioeilaaW.PrintMore
open LinA (V Sp zv smul comb rk Fld)
set_option linter.unusedVariables false
set_option linter.unusedSimpArgs false

theorem fixed_ev : Ev (fun k => greenwoodlaw05_fixed.f k) true := by
  obtain ⟨K, hK⟩ := greenwoodlaw05_fixed.val
  exact Ev.of greenwoodlaw05_fixed.mono hK
theorem may_nat {p rows : Int} {cols : List (List Int)} (h : mayB p rows cols = true) : ∃ (P : Nat) (_ : NeZero P), p = (P : Int) := by
  have hp := (isP_true.mp (mayB_true h).1).2.1
  exact ⟨p.toNat, ⟨by omega⟩, by omega⟩
/-! ### ElimCombines -/
section
variable {P : Nat} [NeZero P]
end
/-! ### ElimTwice -/
section
variable {P : Nat} [NeZero P]
end
/-! ### ElimRank -/
section
variable {P : Nat} [NeZero P]
theorem rkN_congr (hP : isP (P : Int) = true) {a b : List (List Int)} (h1 : ∀ c ∈ a, Sp (b.map vec) (vec c : V P)) (h2 : ∀ c ∈ b, Sp (a.map vec) (vec c : V P)) : rkN P a = rkN P b := by
  unfold rkN
  refine LinA.rk_congr (fldP hP) (fun v hv => ?_) (fun v hv => ?_)
  · obtain ⟨c, hc, rfl⟩ := List.mem_map.1 hv; exact h1 c hc
  · obtain ⟨c, hc, rfl⟩ := List.mem_map.1 hv; exact h2 c hc
def tim (P : Nat) (rows : Nat) (t : Int) (c : List Int) : List Int := sumN P rows [c] [t] 1
theorem vec_tim (hp : okP (P : Int)) {rows : Nat} {c : List Int} (hc : c.length = rows ∧ Bd (P : Int) c) (t : Int) : (vec (tim P rows t c) : V P) = smul (cz t) (vec c) := by
  have := vec_sumN (P := P) hp (cols := [c]) (rows := rows) (fun x hx => by rw [List.mem_singleton.1 hx]; exact hc) [t] 1 (by simp)
  unfold tim
  rw [this]
  simp only [lc]
  exact va0 _
theorem rank_l0 {cols : List (List Int)} {t : Int} {rows : Int} (hn : cols.length ≤ 20) (h1 : 0 < cols.length) (h20 : rows ≤ 20) (ht : 1 ≤ t ∧ t < P) (h : mayB P rows cols = true) : ∀ (j : Nat), j ≤ cols.length →
    Ev (fun k => greenwoodlaw05_ElimRank.l0 k P cols t rows (cols.drop j).reverse (((cols.drop j).map (tim P rows.toNat t)).reverse) ((j : Int) - 1)) true := by
  obtain ⟨hP, h0, h64, hn64, hcs⟩ := mayB_true h
  have hF := fldP hP
  intro j
  induction j with
  | zero =>
    intro _
    refine Ev.step (fun k => by rw [greenwoodlaw05_ElimRank.l0]) ?_
    rw [List.drop_zero]
    have hd : mayB P rows (cols.drop 1) = true := mayB_mk hP h0 h64 (by simp; omega) (fun c hc => hcs c (List.mem_of_mem_drop hc))
    have hb : mayB P rows cols.reverse = true := mayB_mk hP h0 h64 (by simp; omega) (fun c hc => hcs c (List.mem_reverse.1 hc))
    have ht2 : mayB P rows ((cols.map (tim P rows.toNat t)).reverse) = true := mayB_mk hP h0 h64 (by simp; omega) (fun c hc => by
      obtain ⟨x, hx, rfl⟩ := List.mem_map.1 (List.mem_reverse.1 hc)
      exact sumN_ok (isP_ok hP) (fun y hy => by rw [List.mem_singleton.1 hy]; exact hcs x hx) [t] 1 (by simp))
    have e1 : rkN P cols.reverse = rkN P cols := rkN_congr hP (fun c hc => Sp.mem (List.mem_map.2 ⟨c, List.mem_reverse.1 hc, rfl⟩)) (fun c hc => Sp.mem (List.mem_map.2 ⟨c, List.mem_reverse.2 hc, rfl⟩))
    have e2 : rkN P ((cols.map (tim P rows.toNat t)).reverse) = rkN P cols := by
      refine rkN_congr hP (fun c hc => ?_) (fun c hc => ?_)
      · obtain ⟨x, hx, rfl⟩ := List.mem_map.1 (List.mem_reverse.1 hc)
        rw [vec_tim (isP_ok hP) (hcs x hx)]
        exact (Sp.mem (List.mem_map.2 ⟨x, hx, rfl⟩)).smul _
      · have h3 : Sp (((cols.map (tim P rows.toNat t)).reverse).map vec) (vec (tim P rows.toNat t c) : V P) := Sp.mem (List.mem_map.2 ⟨_, List.mem_reverse.2 (List.mem_map.2 ⟨c, hc, rfl⟩), rfl⟩)
        rw [vec_tim (isP_ok hP) (hcs c hc)] at h3
        obtain ⟨b, hb⟩ := hF.inv (cz t) (fun hz => by have := (cz_eq_zero (P := P) (x := t) (by omega) ht.2).1 hz; omega)
        refine (h3.smul b).of_eq ?_
        have := va2 (P := P) (k := b) (b := cz t) (by rw [← hb]; grind) (vec c) zv
        funext i
        have h5 := congrFun this i
        simp only [LinA.add, smul, zv] at h5 ⊢
        grind
    have hle : rkN P cols ≤ cols.length := by unfold rkN; have := LinA.rk_len (cols.map vec : List (V P)); simpa using this
    have hlr : rkN P cols ≤ rows.toNat := by
      unfold rkN
      refine LinA.rk_rows hF (fun v hv i hi => ?_)
      obtain ⟨c, hc, rfl⟩ := List.mem_map.1 hv
      exact vec_out (by rw [(hcs c hc).1]; exact hi)
    have hcons : rkN P cols = rk ((vec (cols[0]'h1) : V P) :: (cols.drop 1).map vec) := by
      unfold rkN
      rw [← List.map_cons, ← List.drop_eq_getElem_cons h1, List.drop_zero]
    have hless : rkN P (cols.drop 1) ≤ rkN P cols ∧ rkN P cols ≤ rkN P (cols.drop 1) + 1 := by
      rw [hcons]
      show rk ((cols.drop 1).map vec : List (V P)) ≤ _ ∧ _ ≤ rk ((cols.drop 1).map vec : List (V P)) + 1
      by_cases hs : Sp ((cols.drop 1).map vec) (vec (cols[0]'h1) : V P)
      · rw [LinA.rk_cons_in hs]; omega
      · rw [LinA.rk_cons_out hs]; omega
    have ev1 := erank_ev h
    have ev2 := erank_ev hd
    have ev3 := erank_ev hb
    have ev4 := erank_ev ht2
    rw [e1] at ev3
    rw [e2] at ev4
    refine Ev.ifn (by omega) (Ev.bind ev1 (Ev.ifp (by omega) (Ev.bind ev2 (Ev.ifp (by omega) (Ev.ifp (by omega) (Ev.ifp (by omega) (Ev.ifp (by omega) (Ev.ifp ?_ (Ev.bind ev3 (Ev.ifp rfl (Ev.bind ev4 (Ev.val (by simp)))))))))))))
    rw [w1 (n := 1000) (by omega) (by omega)]; omega
  | succ j ih =>
    intro hj
    have hi : j < cols.length := by omega
    have ej : ((j + 1 : Nat) : Int) - 1 = (j : Int) := by omega
    rw [ej]
    refine Ev.step (fun k => by rw [greenwoodlaw05_ElimRank.l0]) ?_
    have hwj : wrap64 ((j : Int) + 1) = ((j + 1 : Nat) : Int) := w1 hi (by omega)
    rw [hwj]
    have hcut : (cols.take ((j + 1 : Nat) : Int).toNat).drop (j : Int).toNat = [cols[j]] := by
      rw [Int.toNat_natCast, Int.toNat_natCast, take_snoc [] cols j hi, getD_at hi, List.drop_append, List.length_take, Nat.min_eq_left (by omega), Nat.sub_self, List.drop_of_length_le (by simp; omega)]; rfl
    rw [hcut, rdL_at hi]
    have hone : mayB P rows [cols[j]] = true := mayB_mk hP h0 h64 (by simp) (fun c hc => by rw [List.mem_singleton.1 hc]; exact hcs _ (List.getElem_mem hi))
    have hsum := sum_ev hone [t] (fun i hi _ => by
      have : i = 0 := by simpa using hi
      subst this
      show 0 ≤ t ∧ t < P
      omega)
    refine Ev.ifp (by omega) (Ev.ifp (by omega) (Ev.ifp (by omega) (Ev.ifp (by simp; omega) (Ev.ifp (by omega) (Ev.ifp (by omega) (Ev.bind hsum (Ev.ifp (by simp; omega) ?_)))))))
    have h3 := ih (by omega)
    rw [List.drop_eq_getElem_cons hi, List.map_cons, List.reverse_cons, List.reverse_cons] at h3
    have hw : wrap64 ((j : Int) - 1) = (j : Int) - 1 := wrap_id (by omega) (by omega)
    rw [hw]
    exact h3
end
theorem ElimRank_ev (p : Int) (cols : List (List Int)) (t : Int) : Ev (fun k => greenwoodlaw05_ElimRank.f k p cols t) true := by
  unfold greenwoodlaw05_ElimRank.f
  have hf : Ev (fun k => greenwoodlaw05_ElimRank.j0 k p cols t true) true := Ev.step (fun k => by rw [greenwoodlaw05_ElimRank.j0]) (Ev.ifp rfl (Ev.bind fixed_ev (Ev.now _)))
  refine Ev.bind fixed_ev (Ev.ifp rfl ?_)
  by_cases h1 : (cols.length : Int) < 1
  · exact Ev.ifp h1 hf
  refine Ev.ifn h1 ?_
  by_cases h2 : (cols.length : Int) > 20
  · exact Ev.ifp h2 hf
  refine Ev.ifn h2 (Ev.ifp (by omega) ?_)
  by_cases h3 : ((rd_L1 cols 0).length : Int) > 20
  · exact Ev.ifp h3 hf
  refine Ev.ifn h3 (Ev.bind (rmay_ev _ _ _) ?_)
  cases hm : mayB p ((rd_L1 cols 0).length : Int) cols with
  | false => exact Ev.ifn (by decide) hf
  | true =>
    obtain ⟨P, hP, rfl⟩ := may_nat hm
    refine Ev.ifp rfl ?_
    by_cases h4 : t < 1
    · exact Ev.ifp h4 hf
    refine Ev.ifn h4 ?_
    by_cases h5 : t ≥ P
    · rw [decide_eq_true h5]; exact hf
    rw [decide_eq_false h5]
    refine Ev.step (fun k => by rw [greenwoodlaw05_ElimRank.j0]) (Ev.ifn (by decide) (Ev.ifp (by omega) ?_))
    have := rank_l0 (t := t) (by omega) (by omega) (by omega) (by omega) hm cols.length (Nat.le_refl _)
    rw [List.drop_length] at this
    rw [wrap_id (by omega) (by omega)]
    exact this

/-! ### ElimUnits -/
section
variable {P : Nat} [NeZero P]
end
end Go.Proofs.Ytepakefmioeilaa.P
/- What came in, opened kind by kind: an argument's reading tells a list (of lists ..) that its cells hold. -/
namespace Go.Proofs.Ytepakefmioeilaa.P
open Go.RowKit Go.Proofs.YtepakefmioeilaaW.PrintWords Go.Proofs.YtepakefmioeilaaW.PrintLast Go.Proofs.YtepakefmioeilaaW.PrintMore
set_option linter.unusedVariables false
set_option linter.unusedSimpArgs false

structure Opens (P : Program) (t : TypeId) {α : Type} (d : Kd α) (q : α → Prop) : Prop where
  sz : P.cellsOf t = d.sz
  op : ∀ {H : Type} {enc : TypeId × Value → H} {w : World} {base fuel : Nat} {held : Bool} {cs : List Value} {x : DataW H × List MemPlace}, DataW.trod enc P w base (fun _ => true) held fuel t cs = some x → ∃ a : α, d.K w a cs ∧ q a
section
variable {P : Program} {α : Type} {d : Kd α} {q : α → Prop}
theorem opens_int {t : TypeId} {k : IntKind} (ht : P.underlying t = some (.int k)) (hs : P.cellsOf t = 1) : Opens P t (Kd.int k) (fun n => (Lit.int k n).wf = true) :=
  ⟨hs, fun h => by
    obtain ⟨n, rfl, _, hw⟩ := DataW.trod_int ht h
    exact ⟨n, rfl, hw⟩⟩
theorem Opens.mono {t : TypeId} {q' : α → Prop} (h : Opens P t d q) (hq : ∀ a, q a → q' a) : Opens P t d q' :=
  ⟨h.sz, fun ht => by obtain ⟨a, hk, ha⟩ := h.op ht; exact ⟨a, hk, hq a ha⟩⟩
theorem opens_slice {t e : TypeId} (e' : Nat) (ht : P.underlying t = some (.slice e)) (hs : P.cellsOf t = 1) (h : Opens P e d q) : Opens P t (Kd.slice e' d) (fun l => l.length ≤ maxLen ∧ ∀ x ∈ l, q x) :=
  ⟨hs, fun {H enc w base fuel held cs x} htr => by
    rcases Deep.open_slice ht htr with ⟨rfl, _⟩ | ⟨a, len, cap, m, n, D, Pl, rfl, hb, hl, hm, hmm, _, hx⟩
    · exact ⟨[], ⟨none, 0, rfl, Nat.le_refl _, Kd.C_nil d w⟩, Nat.zero_le _, fun x hx => by cases hx⟩
    · simp only [if_true] at hmm
      have each : ∀ i, i < len → ∃ y : α, (∃ cs', w.cells? base (a.add (i * P.cellsOf e)) (P.cellsOf e) = some cs' ∧ d.K w y cs') ∧ q y := by
        intro i hi
        obtain ⟨cs', h1, h2⟩ := hx i (by omega)
        obtain ⟨y, hy, hqy⟩ := h.op h2
        exact ⟨y, ⟨cs', h1, hy⟩, hqy⟩
      by_cases h0 : len = 0
      · subst h0
        refine ⟨[], ⟨some a, cap, rfl, Nat.zero_le _, rfl, by simp, fun h => absurd h (Nat.lt_irrefl 0)⟩, Nat.zero_le _, fun x hx => by cases hx⟩
      · obtain ⟨y0, _, _⟩ := each 0 (by omega)
        have : Inhabited α := ⟨y0⟩
        obtain ⟨f, hf⟩ := Deep.choose_lt each
        have hlen : ((List.range len).map f).length = len := by simp
        refine ⟨(List.range len).map f, ⟨some a, cap, by rw [hlen], by rw [hlen]; exact hl, ⟨rfl, by rw [hlen]; unfold maxLen at hm; omega, fun _ => ⟨a, rfl, fun j p hj => ?_⟩⟩⟩, by rw [hlen]; omega, fun x hx => ?_⟩
        · have hjl := (List.getElem?_eq_some_iff.1 hj).1
          rw [hlen] at hjl
          rw [List.getElem?_map, List.getElem?_range hjl] at hj
          have hj' : f j = p := by simpa using hj
          subst hj'
          obtain ⟨⟨cs', h1, h2⟩, _⟩ := hf j hjl
          obtain ⟨_, hcl, hcell⟩ := World.cells?_some h1
          refine ⟨cs', by rw [hcl, h.sz], h2, fun i u hu => ?_⟩
          have hil := (List.getElem?_eq_some_iff.1 hu).1
          have := hcell i (by omega)
          rw [Deep.add_add, hu, h.sz] at this
          exact this
        · obtain ⟨i, hi, rfl⟩ := List.mem_map.1 hx
          exact (hf i (List.mem_range.1 hi)).2⟩
/-- an argument that is a slice -/
theorem Opens.arg {t : TypeId} {e' : Nat} (h : Opens P t (Kd.slice e' d) (fun l => l.length ≤ maxLen ∧ ∀ x ∈ l, q x)) {H : Type} {enc : TypeId × Value → H} {w : World} {base : Nat} {held : Bool} {v : Value} {dd : DataW H} {ps : List MemPlace} {a : Option Addr} {len cap : Nat} (hv : v = .slice a len cap)
    (ht : DataW.Trod enc P w base (fun _ => true) held t v dd ps) : ∃ l : List α, len = l.length ∧ l.length ≤ cap ∧ d.C w a l.length l ∧ l.length ≤ maxLen ∧ ∀ x ∈ l, q x := by
  obtain ⟨fuel, hf⟩ := ht
  obtain ⟨l, ⟨A, c, hcs, hl, hC⟩, hq1, hq2⟩ := h.op hf
  subst hv
  simp only [Value.cells] at hcs
  have hcs' : Value.slice a len cap = Value.slice A l.length c := by simpa using hcs
  injection hcs' with e1 e2 e3
  subst e1 e2 e3
  exact ⟨l, rfl, hl, hC, hq1, hq2⟩
end
/-- what came in is only read: it may be shared -/
theorem V_of_C {α : Type} {d : Kd α} (hd : Kd.Heap d) {e base c : Nat} {w : World} {A : Option Addr} {xs : List α} (h : d.C w A xs.length xs) (hc : xs.length ≤ c) : Kd.V d e w base (fun _ => True) (.slice A xs.length c) xs :=
  Kd.V_mk hc (fun W' hW => hd.C (fun k hk => hW k trivial hk) h)
end Go.Proofs.Ytepakefmioeilaa.P
