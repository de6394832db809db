/- Texts of this claim's own repository, merged by wip/tool/pack.py: Px2, OrdFalls, Opn. -/
import Derived.Deep.Slices
import Derived.ChangeArms
import Derived.ProofKit
import Derived.Test.YtlpjlgjhhmfnlaaKOrderFalls0
set_option linter.unusedVariables false
set_option linter.unusedSimpArgs false
-- written by wip/tool/ownprint.py of this claim's own repository, out of the translation's print
namespace Go.Proofs.Ytlpjlgjhhmfnlaa.P
open Go.RowKit Go.Proofs.YtlpjlgjhhmfnlaaW.PrintWords Go.Proofs.YtlpjlgjhhmfnlaaW.PrintLast Go.Proofs.YtlpjlgjhhmfnlaaW.PrintMore
attribute [local go_sem] max2_int min2_int max_two min_two max_three min_three max_four min_four   -- for this text's walks alone
set_option linter.unusedVariables false
set_option linter.unusedSimpArgs false

/-! ### greenwoodlaw08_OrderFalls: function 6 -/
mutual
def greenwoodlaw08_OrderFalls.j0 : Nat → List Int → Bool → Option (Bool)
  | 0, _, _ => none
  | k + 1, x0, x12 => if x12 = true then ((greenwoodlaw08_fixed.f k).bind fun t148 => (some t148)) else ((order_Greatest.f x0).bind fun t149 => (if 0 ≤ (x0.length : Int) then (if ((x0.length : Int) : Int).toNat ≤ 281474976710656 then (greenwoodlaw08_OrderFalls.l0 k x0 t149 (List.replicate ((x0.length : Int) : Int).toNat false) 0) else (none)) else (none)))
def greenwoodlaw08_OrderFalls.l0 : Nat → List Int → List Int → List Bool → Int → Option (Bool)
  | 0, _, _, _, _ => none
  | k + 1, x0, x3, x4, x5 => if x5 < (x3.length : Int) then (if 0 ≤ x5 then (if (rd x3 x5) < 0 then (some false) else (if (rd x3 x5) ≥ (x0.length : Int) then (some false) else (if 0 ≤ (rd x3 x5) then (if (rd x3 x5) < (x4.length : Int) then (if rdOf false x4 (rd x3 x5) = true then (some false) else (if x5 > 0 then (if (rd x3 x5) < (x0.length : Int) then (if 0 ≤ (wrap64 (x5 - 1)) then (if (wrap64 (x5 - 1)) < (x3.length : Int) then (if 0 ≤ (rd x3 (wrap64 (x5 - 1))) then (if (rd x3 (wrap64 (x5 - 1))) < (x0.length : Int) then (if (rd x0 (rd x3 x5)) > (rd x0 (rd x3 (wrap64 (x5 - 1)))) then (some false) else (if (rd x0 (rd x3 x5)) = (rd x0 (rd x3 (wrap64 (x5 - 1)))) then (if (rd x3 x5) < (rd x3 (wrap64 (x5 - 1))) then (some false) else (greenwoodlaw08_OrderFalls.l0 k x0 x3 (x4.set ((rd x3 x5) : Int).toNat true) (wrap64 (x5 + 1)))) else (greenwoodlaw08_OrderFalls.l0 k x0 x3 (x4.set ((rd x3 x5) : Int).toNat true) (wrap64 (x5 + 1))))) else (none)) else (none)) else (none)) else (none)) else (none)) else (greenwoodlaw08_OrderFalls.l0 k x0 x3 (x4.set ((rd x3 x5) : Int).toNat true) (wrap64 (x5 + 1))))) else (none)) else (none)))) else (none)) else (some ((x3.length : Int) == (x0.length : Int)))
end
def greenwoodlaw08_OrderFalls.f (k : Nat) (l0 : List Int) : Option (Bool) := (greenwoodlaw08_fixed.f k).bind fun t147 => (if t147 = true then (greenwoodlaw08_OrderFalls.j0 k l0 (decide ((l0.length : Int) > 100))) else (greenwoodlaw08_OrderFalls.j0 k l0 true))
set_option maxHeartbeats 8000000 in
set_option maxRecDepth 100000 in
theorem greenwoodlaw08_OrderFalls.callsT (k : Nat) (A0 : Option Addr) (c0 : Nat) (l0 : List Int) (r : Bool) (w : World) (hr0 : Kd.C (Kd.int .i64) w A0 l0.length l0) (hc0 : l0.length ≤ c0) (hrT : r = true) (h : greenwoodlaw08_OrderFalls.f k l0 = some r) :
    Calls Try.prog 6 #[.slice A0 l0.length c0] w fun e w' => e = .returned (.bool r) ∧ Below w.heap.size w w' := by
  have HR0 := Aside0.mk hr0
  have HC0 := Aside0.mk hc0
  clear hr0 hc0
  have HB := Aside0.mk (Below.refl w.heap.size w)
  have H : ((greenwoodlaw08_fixed.f k).bind fun t147 => (if t147 = true then (greenwoodlaw08_OrderFalls.j0 k l0 (decide ((l0.length : Int) > 100))) else (greenwoodlaw08_OrderFalls.j0 k l0 true))) = some r := h
  clear h
  have HC2 := Aside0.mk H
  clear H
  go_enter Try.func6, Try.ntmps6
  go_upto_region 1 with (fail)
  repeat (go_quiet (fail); go_upto_region 1 with (fail))
  go_cut [12] (fun v12 wc => ∃ (kq : Nat) (x12_1 : Bool), v12 = .bool x12_1 ∧ Aside0 (greenwoodlaw08_OrderFalls.j0 kq l0 x12_1 = some r) ∧ Aside0 (kq ≤ k) ∧ Aside0 (Below w.heap.size w wc))
  case first =>
    have H := HC2.out
    clear HC2
    replace H := Option.bind_eq_some_iff.mp H
    obtain ⟨t147, A30, H⟩ := H
    replace H : (if t147 = true then (greenwoodlaw08_OrderFalls.j0 k l0 (decide ((l0.length : Int) > 100))) else (greenwoodlaw08_OrderFalls.j0 k l0 true)) = some r := H
    have A3 := Aside0.mk A30
    clear A30
    by_cases c4 : t147 = true
    · subst c4
      have H1 : (greenwoodlaw08_OrderFalls.j0 k l0 (decide ((l0.length : Int) > 100))) = some r := by rw [if_pos rfl] at H; exact H
      clear H
      have H := H1
      clear H1
      have H' := Aside0.mk H
      clear H
      go_wp2_with (first | (go_at_call 9; (with_reducible refine (greenwoodlaw08_fixed.calls k  true _ A3.out).mono ?_); rintro e w5 ⟨rfl, hb⟩; have n0_ := Aside0.mk (below_step (by repeat (first | (with_reducible first | exact HB.out | apply below_alloc | apply pw_below_drewN | apply below_drew1) | exact HB.out)) hb); clear HB; have HB := n0_; clear n0_; (try clear hb); (try clear hb2); (try clear hk); (try clear hi)))
      repeat (go_quiet (first | (go_at_call 9; (with_reducible refine (greenwoodlaw08_fixed.calls k  true _ A3.out).mono ?_); rintro e w5 ⟨rfl, hb⟩; have n0_ := Aside0.mk (below_step (by repeat (first | (with_reducible first | exact HB.out | apply below_alloc | apply pw_below_drewN | apply below_drew1) | exact HB.out)) hb); clear HB; have HB := n0_; clear n0_; (try clear hb); (try clear hb2); (try clear hk); (try clear hi))); try go_wp2_with (first | (go_at_call 9; (with_reducible refine (greenwoodlaw08_fixed.calls k  true _ A3.out).mono ?_); rintro e w5 ⟨rfl, hb⟩; have n0_ := Aside0.mk (below_step (by repeat (first | (with_reducible first | exact HB.out | apply below_alloc | apply pw_below_drewN | apply below_drew1) | exact HB.out)) hb); clear HB; have HB := n0_; clear n0_; (try clear hb); (try clear hb2); (try clear hk); (try clear hi))))
      go_meet
      case rel => exact ⟨_, (decide ((l0.length : Int) > 100)), (by first | rfl | (simp; done) | (simp [*]; done)), H', ⟨by first | omega | exact Nat.le_refl _⟩, ⟨by repeat (first | (with_reducible first | exact HB.out | apply below_alloc | apply pw_below_drewN | apply below_drew1) | exact HB.out)⟩⟩
    · replace c4 := Bool.eq_false_iff.mpr c4
      subst c4
      have H1 : (greenwoodlaw08_OrderFalls.j0 k l0 true) = some r := by rw [if_neg (show ¬ (false = true) by decide)] at H; exact H
      clear H
      have H := H1
      clear H1
      have H' := Aside0.mk H
      clear H
      go_wp2_with (first | (go_at_call 9; (with_reducible refine (greenwoodlaw08_fixed.calls k  false _ A3.out).mono ?_); rintro e w6 ⟨rfl, hb⟩; have n0_ := Aside0.mk (below_step (by repeat (first | (with_reducible first | exact HB.out | apply below_alloc | apply pw_below_drewN | apply below_drew1) | exact HB.out)) hb); clear HB; have HB := n0_; clear n0_; (try clear hb); (try clear hb2); (try clear hk); (try clear hi)))
      repeat (go_quiet (first | (go_at_call 9; (with_reducible refine (greenwoodlaw08_fixed.calls k  false _ A3.out).mono ?_); rintro e w6 ⟨rfl, hb⟩; have n0_ := Aside0.mk (below_step (by repeat (first | (with_reducible first | exact HB.out | apply below_alloc | apply pw_below_drewN | apply below_drew1) | exact HB.out)) hb); clear HB; have HB := n0_; clear n0_; (try clear hb); (try clear hb2); (try clear hk); (try clear hi))); try go_wp2_with (first | (go_at_call 9; (with_reducible refine (greenwoodlaw08_fixed.calls k  false _ A3.out).mono ?_); rintro e w6 ⟨rfl, hb⟩; have n0_ := Aside0.mk (below_step (by repeat (first | (with_reducible first | exact HB.out | apply below_alloc | apply pw_below_drewN | apply below_drew1) | exact HB.out)) hb); clear HB; have HB := n0_; clear n0_; (try clear hb); (try clear hb2); (try clear hk); (try clear hi))))
      go_meet
      case rel => exact ⟨_, (true), (by first | rfl | (simp; done) | (simp [*]; done)), H', ⟨by first | omega | exact Nat.le_refl _⟩, ⟨by repeat (first | (with_reducible first | exact HB.out | apply below_alloc | apply pw_below_drewN | apply below_drew1) | exact HB.out)⟩⟩
  case rest =>
    clear HC2
    try clear p2
    try clear c4
    try clear c6
    obtain ⟨kq, x12_1, rfl, HA, HJ1, HB⟩ := hcut
    cases kq with
    | zero => exact absurd HA.out (by simp [greenwoodlaw08_OrderFalls.j0])
    | succ kj1 =>
      have H := HA.out
      clear HA
      simp only [greenwoodlaw08_OrderFalls.j0] at H
      by_cases c7 : x12_1 = true
      · subst c7
        have H1 : ((greenwoodlaw08_fixed.f kj1).bind fun t148 => (some t148)) = some r := by rw [if_pos rfl] at H; exact H
        clear H
        have H := H1
        clear H1
        replace H := Option.bind_eq_some_iff.mp H
        obtain ⟨t148, A80, H⟩ := H
        replace H : (some t148) = some r := H
        have A8 := Aside0.mk A80
        clear A80
        obtain rfl := Option.some.inj H
        go_wp2_with (first | (go_at_call 9; (with_reducible refine (greenwoodlaw08_fixed.calls kj1  t148 _ A8.out).mono ?_); rintro e w9 ⟨rfl, hb⟩; have n0_ := Aside0.mk (below_step (by repeat (first | (with_reducible first | exact HB.out | apply below_alloc | apply pw_below_drewN | apply below_drew1) | exact HB.out)) hb); clear HB; have HB := n0_; clear n0_; (try clear hb); (try clear hb2); (try clear hk); (try clear hi)))
        repeat (go_quiet (first | (go_at_call 9; (with_reducible refine (greenwoodlaw08_fixed.calls kj1  t148 _ A8.out).mono ?_); rintro e w9 ⟨rfl, hb⟩; have n0_ := Aside0.mk (below_step (by repeat (first | (with_reducible first | exact HB.out | apply below_alloc | apply pw_below_drewN | apply below_drew1) | exact HB.out)) hb); clear HB; have HB := n0_; clear n0_; (try clear hb); (try clear hb2); (try clear hk); (try clear hi))); try go_wp2_with (first | (go_at_call 9; (with_reducible refine (greenwoodlaw08_fixed.calls kj1  t148 _ A8.out).mono ?_); rintro e w9 ⟨rfl, hb⟩; have n0_ := Aside0.mk (below_step (by repeat (first | (with_reducible first | exact HB.out | apply below_alloc | apply pw_below_drewN | apply below_drew1) | exact HB.out)) hb); clear HB; have HB := n0_; clear n0_; (try clear hb); (try clear hb2); (try clear hk); (try clear hi))))
        go_ret
        exact ⟨by first | rfl | (simp [errW_none, errW_some] <;> rfl) | (simp [*, errW_none, errW_some] <;> rfl), by repeat (first | (with_reducible first | exact HB.out | apply below_alloc | apply pw_below_drewN | apply below_drew1) | exact HB.out)⟩
      · replace c7 := Bool.eq_false_iff.mpr c7
        subst c7
        have H1 : ((order_Greatest.f l0).bind fun t149 => (if 0 ≤ (l0.length : Int) then (if ((l0.length : Int) : Int).toNat ≤ 281474976710656 then (greenwoodlaw08_OrderFalls.l0 kj1 l0 t149 (List.replicate ((l0.length : Int) : Int).toNat false) 0) else (none)) else (none))) = some r := by rw [if_neg (show ¬ (false = true) by decide)] at H; exact H
        clear H
        have H := H1
        clear H1
        replace H := Option.bind_eq_some_iff.mp H
        obtain ⟨t149, A100, H⟩ := H
        replace H : (if 0 ≤ (l0.length : Int) then (if ((l0.length : Int) : Int).toNat ≤ 281474976710656 then (greenwoodlaw08_OrderFalls.l0 kj1 l0 t149 (List.replicate ((l0.length : Int) : Int).toNat false) 0) else (none)) else (none)) = some r := H
        have A10 := Aside0.mk A100
        clear A100
        by_cases c11 : 0 ≤ (l0.length : Int)
        · rw [if_pos c11] at H
          have c11b0 := eq_true c11
          have c11b1 : decide (0 ≤ (l0.length : Int)) = true := decide_eq_true c11
          clear c11
          by_cases c12 : ((l0.length : Int) : Int).toNat ≤ 281474976710656
          · rw [if_pos c12] at H
            have c12b0 := eq_true c12
            have c12b1 : decide (((l0.length : Int) : Int).toNat ≤ 281474976710656) = true := decide_eq_true c12
            clear c12
            obtain ⟨y152, hy152⟩ : ∃ y_ : List Bool, y_ = (List.replicate ((l0.length : Int) : Int).toNat false) := ⟨_, rfl⟩
            replace H : (greenwoodlaw08_OrderFalls.l0 kj1 l0 t149 y152 0) = some r := by first | (rw [hy152]; with_reducible exact H) | (have H2_ := (Option.bind_some _ _).symm.trans H; rw [hy152]; with_reducible exact H2_) | (have H2_ := (Option.bind_some _ _).symm.trans H; with_reducible exact H2_) | with_reducible exact H | (rw [hy152]; exact H) | exact H
            have Ny152 := Aside0.mk hy152
            clear hy152
            have H' := Aside0.mk H
            clear H
            go_wp2_with (first | (go_at_call 17; (with_reducible refine (order_Greatest.calls _ _ l0 t149 _ ?side1 ?side2 A10.out).mono ?_); (case side1 => repeat (first | exact (Kd.C_below HR0.out HB.out) | (with_reducible refine Kd.C_alloc ?_ _) | (with_reducible refine Kd.C_drewN ?_ _) | (with_reducible refine Kd.C_drew ?_))); (case side2 => exact HC0.out); rintro e w13 ⟨v150, rfl, ho0, hb⟩; have n0_ := Aside0.mk (Kd.R_lower ho0 (below_size (by repeat (first | (with_reducible first | exact HB.out | apply below_alloc | apply pw_below_drewN | apply below_drew1) | exact HB.out)))); have n1_ := Aside0.mk (below_step (by repeat (first | (with_reducible first | exact HB.out | apply below_alloc | apply pw_below_drewN | apply below_drew1) | exact HB.out)) hb); clear HB; have HO151 := n0_; have HB := n1_; clear n0_ n1_; (try clear hb); (try clear hb2); (try clear hk); (try clear hi); (try clear ho0)) | ((with_reducible refine gate_dst (N := 18) rfl ?_); (try (refine gate_guard (by rfl) ?_; dsimp only)); refine Kd.R_make Kd.bool _ 4 rfl (N := 18) rfl 41 _ _ rfl (l0.length : Int) rfl rfl Try.underlying41 (.bool false) 1 info4 rfl (by decide) (by omega) false (ok := fun _ => True) (okp := fun _ => True) rfl (fun _ hk => hk) trivial (of_decide_eq_true (by first | (with_reducible assumption) | assumption)) (Nat.le_trans (Nat.mul_le_mul_right _ (of_decide_eq_true (by first | (with_reducible assumption) | assumption) : (l0.length : Int).toNat ≤ 281474976710656)) (by omega)) (Below.refl _ _) (Nat.le_refl _) ?_; intro v153 w14 ho15 hb hg_ hnew_; clear hg_ hnew_; (first | rw [← Ny152.out] at ho15 | (simp only [Int.reduceToNat] at ho15; rw [← Ny152.out] at ho15)); have n0_ := Aside0.mk (Kd.R_below (by (with_reducible repeat (first | apply Kd.R_alloc | apply Kd.R_drewN | apply Kd.R_drew)); exact HO151.out) hb); have n1_ := Aside0.mk (Kd.R_lower ho15 (below_size (by repeat (first | (with_reducible first | exact HB.out | apply below_alloc | apply pw_below_drewN | apply below_drew1) | exact HB.out)))); have n2_ := Aside0.mk (below_step (by repeat (first | (with_reducible first | exact HB.out | apply below_alloc | apply pw_below_drewN | apply below_drew1) | exact HB.out)) hb); clear HO151; clear HB; have HO151 := n0_; have HO154 := n1_; have HB := n2_; clear n0_ n1_ n2_; clear hb ho15))
            repeat (go_quiet (first | (go_at_call 17; (with_reducible refine (order_Greatest.calls _ _ l0 t149 _ ?side1 ?side2 A10.out).mono ?_); (case side1 => repeat (first | exact (Kd.C_below HR0.out HB.out) | (with_reducible refine Kd.C_alloc ?_ _) | (with_reducible refine Kd.C_drewN ?_ _) | (with_reducible refine Kd.C_drew ?_))); (case side2 => exact HC0.out); rintro e w13 ⟨v150, rfl, ho0, hb⟩; have n0_ := Aside0.mk (Kd.R_lower ho0 (below_size (by repeat (first | (with_reducible first | exact HB.out | apply below_alloc | apply pw_below_drewN | apply below_drew1) | exact HB.out)))); have n1_ := Aside0.mk (below_step (by repeat (first | (with_reducible first | exact HB.out | apply below_alloc | apply pw_below_drewN | apply below_drew1) | exact HB.out)) hb); clear HB; have HO151 := n0_; have HB := n1_; clear n0_ n1_; (try clear hb); (try clear hb2); (try clear hk); (try clear hi); (try clear ho0)) | ((with_reducible refine gate_dst (N := 18) rfl ?_); (try (refine gate_guard (by rfl) ?_; dsimp only)); refine Kd.R_make Kd.bool _ 4 rfl (N := 18) rfl 41 _ _ rfl (l0.length : Int) rfl rfl Try.underlying41 (.bool false) 1 info4 rfl (by decide) (by omega) false (ok := fun _ => True) (okp := fun _ => True) rfl (fun _ hk => hk) trivial (of_decide_eq_true (by first | (with_reducible assumption) | assumption)) (Nat.le_trans (Nat.mul_le_mul_right _ (of_decide_eq_true (by first | (with_reducible assumption) | assumption) : (l0.length : Int).toNat ≤ 281474976710656)) (by omega)) (Below.refl _ _) (Nat.le_refl _) ?_; intro v153 w14 ho15 hb hg_ hnew_; clear hg_ hnew_; (first | rw [← Ny152.out] at ho15 | (simp only [Int.reduceToNat] at ho15; rw [← Ny152.out] at ho15)); have n0_ := Aside0.mk (Kd.R_below (by (with_reducible repeat (first | apply Kd.R_alloc | apply Kd.R_drewN | apply Kd.R_drew)); exact HO151.out) hb); have n1_ := Aside0.mk (Kd.R_lower ho15 (below_size (by repeat (first | (with_reducible first | exact HB.out | apply below_alloc | apply pw_below_drewN | apply below_drew1) | exact HB.out)))); have n2_ := Aside0.mk (below_step (by repeat (first | (with_reducible first | exact HB.out | apply below_alloc | apply pw_below_drewN | apply below_drew1) | exact HB.out)) hb); clear HO151; clear HB; have HO151 := n0_; have HO154 := n1_; have HB := n2_; clear n0_ n1_ n2_; clear hb ho15)); try go_wp2_with (first | (go_at_call 17; (with_reducible refine (order_Greatest.calls _ _ l0 t149 _ ?side1 ?side2 A10.out).mono ?_); (case side1 => repeat (first | exact (Kd.C_below HR0.out HB.out) | (with_reducible refine Kd.C_alloc ?_ _) | (with_reducible refine Kd.C_drewN ?_ _) | (with_reducible refine Kd.C_drew ?_))); (case side2 => exact HC0.out); rintro e w13 ⟨v150, rfl, ho0, hb⟩; have n0_ := Aside0.mk (Kd.R_lower ho0 (below_size (by repeat (first | (with_reducible first | exact HB.out | apply below_alloc | apply pw_below_drewN | apply below_drew1) | exact HB.out)))); have n1_ := Aside0.mk (below_step (by repeat (first | (with_reducible first | exact HB.out | apply below_alloc | apply pw_below_drewN | apply below_drew1) | exact HB.out)) hb); clear HB; have HO151 := n0_; have HB := n1_; clear n0_ n1_; (try clear hb); (try clear hb2); (try clear hk); (try clear hi); (try clear ho0)) | ((with_reducible refine gate_dst (N := 18) rfl ?_); (try (refine gate_guard (by rfl) ?_; dsimp only)); refine Kd.R_make Kd.bool _ 4 rfl (N := 18) rfl 41 _ _ rfl (l0.length : Int) rfl rfl Try.underlying41 (.bool false) 1 info4 rfl (by decide) (by omega) false (ok := fun _ => True) (okp := fun _ => True) rfl (fun _ hk => hk) trivial (of_decide_eq_true (by first | (with_reducible assumption) | assumption)) (Nat.le_trans (Nat.mul_le_mul_right _ (of_decide_eq_true (by first | (with_reducible assumption) | assumption) : (l0.length : Int).toNat ≤ 281474976710656)) (by omega)) (Below.refl _ _) (Nat.le_refl _) ?_; intro v153 w14 ho15 hb hg_ hnew_; clear hg_ hnew_; (first | rw [← Ny152.out] at ho15 | (simp only [Int.reduceToNat] at ho15; rw [← Ny152.out] at ho15)); have n0_ := Aside0.mk (Kd.R_below (by (with_reducible repeat (first | apply Kd.R_alloc | apply Kd.R_drewN | apply Kd.R_drew)); exact HO151.out) hb); have n1_ := Aside0.mk (Kd.R_lower ho15 (below_size (by repeat (first | (with_reducible first | exact HB.out | apply below_alloc | apply pw_below_drewN | apply below_drew1) | exact HB.out)))); have n2_ := Aside0.mk (below_step (by repeat (first | (with_reducible first | exact HB.out | apply below_alloc | apply pw_below_drewN | apply below_drew1) | exact HB.out)) hb); clear HO151; clear HB; have HO151 := n0_; have HO154 := n1_; have HB := n2_; clear n0_ n1_ n2_; clear hb ho15)))
            go_loopg [5] kj1 (fun kq v5 w' => ∃ (x4_2 : List Bool) (x5_2 : Int), v5 = .int .i64 x5_2 ∧ Aside0 (greenwoodlaw08_OrderFalls.l0 kq l0 t149 x4_2 x5_2 = some r) ∧ Aside0 (kq ≤ kj1) ∧ Aside0 (Kd.R (Kd.int .i64) 3 w' w.heap.size (fun _ => True) v150 t149) ∧ Aside0 (Kd.R Kd.bool 4 w' w.heap.size (fun _ => True) v153 x4_2) ∧ Aside0 (Below w.heap.size w w'))
            case atStart => exact ⟨(y152), (0), (by first | rfl | (simp; done) | (simp [*]; done)), H', ⟨Nat.le_refl _⟩, ⟨by (with_reducible repeat (first | apply Kd.R_alloc | apply Kd.R_drewN | apply Kd.R_drew)); exact HO151.out⟩, ⟨by (with_reducible repeat (first | apply Kd.R_alloc | apply Kd.R_drewN | apply Kd.R_drew)); exact HO154.out⟩, ⟨by repeat (first | (with_reducible first | exact HB.out | apply below_alloc | apply pw_below_drewN | apply below_drew1) | exact HB.out)⟩⟩
            case round =>
              clear H'
              try clear c1
              try clear p2
              try clear c4
              try clear c6
              try clear c7
              try clear c11
              try clear c11b0
              try clear c11b1
              try clear c12
              try clear c12b0
              try clear c12b1
              try clear p2
              obtain ⟨x4_2, x5_2, rfl, HA, HK2, HO_3, HO_4, HB⟩ := hrel
              cases gk with
              | zero => exact absurd HA.out (by simp [greenwoodlaw08_OrderFalls.l0])
              | succ k2 =>
                have H := HA.out
                clear HA
                simp only [greenwoodlaw08_OrderFalls.l0] at H
                by_cases c16 : x5_2 < (t149.length : Int)
                · rw [if_pos c16] at H
                  have c16b0 : decide (x5_2 < (t149.length : Int)) = true := decide_eq_true c16
                  clear c16
                  by_cases c17 : 0 ≤ x5_2
                  · rw [if_pos c17] at H
                    have c17b0 : decide (0 ≤ x5_2) = true := decide_eq_true c17
                    clear c17
                    by_cases c18 : (rd t149 x5_2) < 0
                    · rw [if_pos c18] at H
                      have c18b0 : decide ((rd t149 x5_2) < 0) = true := decide_eq_true c18
                      clear c18
                      exact absurd ((Option.some.inj H).trans hrT) (by decide)
                    · rw [if_neg c18] at H
                      have c18b0 : decide ((rd t149 x5_2) < 0) = false := decide_eq_false c18
                      clear c18
                      by_cases c19 : (rd t149 x5_2) ≥ (l0.length : Int)
                      · rw [if_pos c19] at H
                        have c19b0 : decide ((l0.length : Int) ≤ (rd t149 x5_2)) = true := decide_eq_true c19
                        clear c19
                        exact absurd ((Option.some.inj H).trans hrT) (by decide)
                      · rw [if_neg c19] at H
                        have c19b0 : decide ((l0.length : Int) ≤ (rd t149 x5_2)) = false := decide_eq_false c19
                        clear c19
                        by_cases c20 : 0 ≤ (rd t149 x5_2)
                        · rw [if_pos c20] at H
                          have c20b0 : decide (0 ≤ (rd t149 x5_2)) = true := decide_eq_true c20
                          clear c20
                          by_cases c21 : (rd t149 x5_2) < (x4_2.length : Int)
                          · rw [if_pos c21] at H
                            have c21b0 : decide ((rd t149 x5_2) < (x4_2.length : Int)) = true := decide_eq_true c21
                            clear c21
                            obtain ⟨bq22, hbq22⟩ : ∃ b_ : Bool, b_ = (rdOf false x4_2 (rd t149 x5_2)) := ⟨_, rfl⟩
                            replace H : (if bq22 = true then (some false) else (if x5_2 > 0 then (if (rd t149 x5_2) < (l0.length : Int) then (if 0 ≤ (wrap64 (x5_2 - 1)) then (if (wrap64 (x5_2 - 1)) < (t149.length : Int) then (if 0 ≤ (rd t149 (wrap64 (x5_2 - 1))) then (if (rd t149 (wrap64 (x5_2 - 1))) < (l0.length : Int) then (if (rd l0 (rd t149 x5_2)) > (rd l0 (rd t149 (wrap64 (x5_2 - 1)))) then (some false) else (if (rd l0 (rd t149 x5_2)) = (rd l0 (rd t149 (wrap64 (x5_2 - 1)))) then (if (rd t149 x5_2) < (rd t149 (wrap64 (x5_2 - 1))) then (some false) else (greenwoodlaw08_OrderFalls.l0 k2 l0 t149 (x4_2.set ((rd t149 x5_2) : Int).toNat true) (wrap64 (x5_2 + 1)))) else (greenwoodlaw08_OrderFalls.l0 k2 l0 t149 (x4_2.set ((rd t149 x5_2) : Int).toNat true) (wrap64 (x5_2 + 1))))) else (none)) else (none)) else (none)) else (none)) else (none)) else (greenwoodlaw08_OrderFalls.l0 k2 l0 t149 (x4_2.set ((rd t149 x5_2) : Int).toNat true) (wrap64 (x5_2 + 1))))) = some r := by rw [← hbq22] at H; exact H
                            have Nbq22 := Aside0.mk hbq22
                            clear hbq22
                            by_cases c23 : bq22 = true
                            · subst c23
                              have H1 : (some false) = some r := by rw [if_pos rfl] at H; exact H
                              clear H
                              have H := H1
                              clear H1
                              exact absurd ((Option.some.inj H).trans hrT) (by decide)
                            · replace c23 := Bool.eq_false_iff.mpr c23
                              subst c23
                              have H1 : (if x5_2 > 0 then (if (rd t149 x5_2) < (l0.length : Int) then (if 0 ≤ (wrap64 (x5_2 - 1)) then (if (wrap64 (x5_2 - 1)) < (t149.length : Int) then (if 0 ≤ (rd t149 (wrap64 (x5_2 - 1))) then (if (rd t149 (wrap64 (x5_2 - 1))) < (l0.length : Int) then (if (rd l0 (rd t149 x5_2)) > (rd l0 (rd t149 (wrap64 (x5_2 - 1)))) then (some false) else (if (rd l0 (rd t149 x5_2)) = (rd l0 (rd t149 (wrap64 (x5_2 - 1)))) then (if (rd t149 x5_2) < (rd t149 (wrap64 (x5_2 - 1))) then (some false) else (greenwoodlaw08_OrderFalls.l0 k2 l0 t149 (x4_2.set ((rd t149 x5_2) : Int).toNat true) (wrap64 (x5_2 + 1)))) else (greenwoodlaw08_OrderFalls.l0 k2 l0 t149 (x4_2.set ((rd t149 x5_2) : Int).toNat true) (wrap64 (x5_2 + 1))))) else (none)) else (none)) else (none)) else (none)) else (none)) else (greenwoodlaw08_OrderFalls.l0 k2 l0 t149 (x4_2.set ((rd t149 x5_2) : Int).toNat true) (wrap64 (x5_2 + 1)))) = some r := by rw [if_neg (show ¬ (false = true) by decide)] at H; exact H
                              clear H
                              have H := H1
                              clear H1
                              by_cases c24 : x5_2 > 0
                              · rw [if_pos c24] at H
                                have c24b0 : decide (0 < x5_2) = true := decide_eq_true c24
                                clear c24
                                by_cases c25 : (rd t149 x5_2) < (l0.length : Int)
                                · rw [if_pos c25] at H
                                  have c25b0 : decide ((rd t149 x5_2) < (l0.length : Int)) = true := decide_eq_true c25
                                  clear c25
                                  obtain ⟨ji26, hji26⟩ : ∃ j_ : Int, (wrap64 (x5_2 - 1)) = j_ := ⟨_, rfl⟩
                                  replace H : (if 0 ≤ (ji26) then (if (ji26) < (t149.length : Int) then (if 0 ≤ (rd t149 (ji26)) then (if (rd t149 (ji26)) < (l0.length : Int) then (if (rd l0 (rd t149 x5_2)) > (rd l0 (rd t149 (ji26))) then (some false) else (if (rd l0 (rd t149 x5_2)) = (rd l0 (rd t149 (ji26))) then (if (rd t149 x5_2) < (rd t149 (ji26)) then (some false) else (greenwoodlaw08_OrderFalls.l0 k2 l0 t149 (x4_2.set ((rd t149 x5_2) : Int).toNat true) (wrap64 (x5_2 + 1)))) else (greenwoodlaw08_OrderFalls.l0 k2 l0 t149 (x4_2.set ((rd t149 x5_2) : Int).toNat true) (wrap64 (x5_2 + 1))))) else (none)) else (none)) else (none)) else (none)) = some r := by first | (rw [hji26] at H; exact H) | (simp only [hji26] at H ⊢; exact H)
                                  have hji26w : (IntKind.i64.wrap (x5_2 - 1)) = ji26 := (i64_w _).trans hji26
                                  by_cases c27 : 0 ≤ (ji26)
                                  · rw [if_pos c27] at H
                                    have c27b0 : decide (0 ≤ (ji26)) = true := decide_eq_true c27
                                    clear c27
                                    by_cases c28 : (ji26) < (t149.length : Int)
                                    · rw [if_pos c28] at H
                                      have c28b0 : decide ((ji26) < (t149.length : Int)) = true := decide_eq_true c28
                                      clear c28
                                      by_cases c29 : 0 ≤ (rd t149 (ji26))
                                      · rw [if_pos c29] at H
                                        have c29b0 : decide (0 ≤ (rd t149 (ji26))) = true := decide_eq_true c29
                                        clear c29
                                        by_cases c30 : (rd t149 (ji26)) < (l0.length : Int)
                                        · rw [if_pos c30] at H
                                          have c30b0 : decide ((rd t149 (ji26)) < (l0.length : Int)) = true := decide_eq_true c30
                                          clear c30
                                          by_cases c31 : (rd l0 (rd t149 x5_2)) > (rd l0 (rd t149 (ji26)))
                                          · rw [if_pos c31] at H
                                            have c31b0 : decide ((rd l0 (rd t149 (ji26))) < (rd l0 (rd t149 x5_2))) = true := decide_eq_true c31
                                            clear c31
                                            exact absurd ((Option.some.inj H).trans hrT) (by decide)
                                          · rw [if_neg c31] at H
                                            have c31b0 : decide ((rd l0 (rd t149 (ji26))) < (rd l0 (rd t149 x5_2))) = false := decide_eq_false c31
                                            clear c31
                                            by_cases c32 : (rd l0 (rd t149 x5_2)) = (rd l0 (rd t149 (ji26)))
                                            · rw [if_pos c32] at H
                                              have c32b0 : ((rd l0 (rd t149 x5_2)) == (rd l0 (rd t149 (ji26)))) = true := beq_iff_eq.mpr c32
                                              have c32b1 : ((rd l0 (rd t149 x5_2)) != (rd l0 (rd t149 (ji26)))) = false := bne_eq_false_iff_eq.mpr c32
                                              clear c32
                                              by_cases c33 : (rd t149 x5_2) < (rd t149 (ji26))
                                              · rw [if_pos c33] at H
                                                have c33b0 : decide ((rd t149 x5_2) < (rd t149 (ji26))) = true := decide_eq_true c33
                                                clear c33
                                                exact absurd ((Option.some.inj H).trans hrT) (by decide)
                                              · rw [if_neg c33] at H
                                                have c33b0 : decide ((rd t149 x5_2) < (rd t149 (ji26))) = false := decide_eq_false c33
                                                clear c33
                                                obtain ⟨y170, hy170⟩ : ∃ y_ : List Bool, y_ = (x4_2.set ((rd t149 x5_2) : Int).toNat true) := ⟨_, rfl⟩
                                                replace H : (greenwoodlaw08_OrderFalls.l0 k2 l0 t149 y170 (wrap64 (x5_2 + 1))) = some r := by first | (rw [hy170]; with_reducible exact H) | (have H2_ := (Option.bind_some _ _).symm.trans H; rw [hy170]; with_reducible exact H2_) | (have H2_ := (Option.bind_some _ _).symm.trans H; with_reducible exact H2_) | with_reducible exact H | (rw [hy170]; exact H) | exact H
                                                have Ny170 := Aside0.mk hy170
                                                clear hy170
                                                have H' := Aside0.mk H
                                                clear H
                                                obtain ⟨Ao35, co35, eo35⟩ := Kd.R_slice HO_3.out
                                                subst eo35
                                                have p155 : 0 ≤ (x5_2 : Int) := of_decide_eq_true (by first | (with_reducible assumption) | assumption)
                                                have q155 : x5_2 < (t149.length : Int) := of_decide_eq_true (by first | (with_reducible assumption) | assumption)
                                                obtain ⟨ad155, e155, hx155_0⟩ := Kd.at_int (Kd.R_reads' HO_3.out).2.2 x5_2 p155 q155
                                                cases e155
                                                replace p155 := eq_true p155
                                                replace q155 := eq_true q155
                                                have p156 : 0 ≤ (x5_2 : Int) := of_decide_eq_true (by first | (with_reducible assumption) | assumption)
                                                have q156 : x5_2 < (t149.length : Int) := of_decide_eq_true (by first | (with_reducible assumption) | assumption)
                                                obtain ⟨ad156, e156, hx156_0⟩ := Kd.at_int (Kd.R_reads' HO_3.out).2.2 x5_2 p156 q156
                                                obtain rfl : ad155 = ad156 := (by injection e156)
                                                replace p156 := eq_true p156
                                                replace q156 := eq_true q156
                                                have p157 : 0 ≤ (x5_2 : Int) := of_decide_eq_true (by first | (with_reducible assumption) | assumption)
                                                have q157 : x5_2 < (t149.length : Int) := of_decide_eq_true (by first | (with_reducible assumption) | assumption)
                                                obtain ⟨ad157, e157, hx157_0⟩ := Kd.at_int (Kd.R_reads' HO_3.out).2.2 x5_2 p157 q157
                                                obtain rfl : ad155 = ad157 := (by injection e157)
                                                replace p157 := eq_true p157
                                                replace q157 := eq_true q157
                                                obtain ⟨Ao36, co36, eo36⟩ := Kd.R_slice HO_4.out
                                                subst eo36
                                                have p158 : 0 ≤ ((rd t149 x5_2) : Int) := of_decide_eq_true (by first | (with_reducible assumption) | assumption)
                                                have q158 : (rd t149 x5_2) < (x4_2.length : Int) := of_decide_eq_true (by first | (with_reducible assumption) | assumption)
                                                obtain ⟨ad158, e158, hx158_0⟩ := Kd.at_bool (Kd.R_reads' HO_4.out).2.2 (rd t149 x5_2) p158 q158
                                                (try rw [← Nbq22.out] at hx158_0)
                                                cases e158
                                                replace p158 := eq_true p158
                                                replace q158 := eq_true q158
                                                have p159 : 0 ≤ (x5_2 : Int) := of_decide_eq_true (by first | (with_reducible assumption) | assumption)
                                                have q159 : x5_2 < (t149.length : Int) := of_decide_eq_true (by first | (with_reducible assumption) | assumption)
                                                obtain ⟨ad159, e159, hx159_0⟩ := Kd.at_int (Kd.R_reads' HO_3.out).2.2 x5_2 p159 q159
                                                obtain rfl : ad155 = ad159 := (by injection e159)
                                                replace p159 := eq_true p159
                                                replace q159 := eq_true q159
                                                have p160 : 0 ≤ ((rd t149 x5_2) : Int) := of_decide_eq_true (by first | (with_reducible assumption) | assumption)
                                                have q160 : (rd t149 x5_2) < (l0.length : Int) := of_decide_eq_true (by first | (with_reducible assumption) | assumption)
                                                obtain ⟨ad160, e160, hx160_0⟩ := Kd.at_int HR0.out (rd t149 x5_2) p160 q160
                                                cases e160
                                                replace hx160_0 := (HB.out.cell (World.block_lt_of_cell? w _ hx160_0)).trans hx160_0
                                                replace p160 := eq_true p160
                                                replace q160 := eq_true q160
                                                have p161 : 0 ≤ ((ji26) : Int) := of_decide_eq_true (by first | (with_reducible assumption) | assumption)
                                                have q161 : (ji26) < (t149.length : Int) := of_decide_eq_true (by first | (with_reducible assumption) | assumption)
                                                obtain ⟨ad161, e161, hx161_0⟩ := Kd.at_int (Kd.R_reads' HO_3.out).2.2 (ji26) p161 q161
                                                obtain rfl : ad155 = ad161 := (by injection e161)
                                                replace p161 := eq_true p161
                                                replace q161 := eq_true q161
                                                have p162 : 0 ≤ ((rd t149 (ji26)) : Int) := of_decide_eq_true (by first | (with_reducible assumption) | assumption)
                                                have q162 : (rd t149 (ji26)) < (l0.length : Int) := of_decide_eq_true (by first | (with_reducible assumption) | assumption)
                                                obtain ⟨ad162, e162, hx162_0⟩ := Kd.at_int HR0.out (rd t149 (ji26)) p162 q162
                                                obtain rfl : ad160 = ad162 := (by injection e162)
                                                replace hx162_0 := (HB.out.cell (World.block_lt_of_cell? w _ hx162_0)).trans hx162_0
                                                replace p162 := eq_true p162
                                                replace q162 := eq_true q162
                                                have p163 : 0 ≤ (x5_2 : Int) := of_decide_eq_true (by first | (with_reducible assumption) | assumption)
                                                have q163 : x5_2 < (t149.length : Int) := of_decide_eq_true (by first | (with_reducible assumption) | assumption)
                                                obtain ⟨ad163, e163, hx163_0⟩ := Kd.at_int (Kd.R_reads' HO_3.out).2.2 x5_2 p163 q163
                                                obtain rfl : ad155 = ad163 := (by injection e163)
                                                replace p163 := eq_true p163
                                                replace q163 := eq_true q163
                                                have p164 : 0 ≤ ((rd t149 x5_2) : Int) := of_decide_eq_true (by first | (with_reducible assumption) | assumption)
                                                have q164 : (rd t149 x5_2) < (l0.length : Int) := of_decide_eq_true (by first | (with_reducible assumption) | assumption)
                                                obtain ⟨ad164, e164, hx164_0⟩ := Kd.at_int HR0.out (rd t149 x5_2) p164 q164
                                                obtain rfl : ad160 = ad164 := (by injection e164)
                                                replace hx164_0 := (HB.out.cell (World.block_lt_of_cell? w _ hx164_0)).trans hx164_0
                                                replace p164 := eq_true p164
                                                replace q164 := eq_true q164
                                                have p165 : 0 ≤ ((ji26) : Int) := of_decide_eq_true (by first | (with_reducible assumption) | assumption)
                                                have q165 : (ji26) < (t149.length : Int) := of_decide_eq_true (by first | (with_reducible assumption) | assumption)
                                                obtain ⟨ad165, e165, hx165_0⟩ := Kd.at_int (Kd.R_reads' HO_3.out).2.2 (ji26) p165 q165
                                                obtain rfl : ad155 = ad165 := (by injection e165)
                                                replace p165 := eq_true p165
                                                replace q165 := eq_true q165
                                                have p166 : 0 ≤ ((rd t149 (ji26)) : Int) := of_decide_eq_true (by first | (with_reducible assumption) | assumption)
                                                have q166 : (rd t149 (ji26)) < (l0.length : Int) := of_decide_eq_true (by first | (with_reducible assumption) | assumption)
                                                obtain ⟨ad166, e166, hx166_0⟩ := Kd.at_int HR0.out (rd t149 (ji26)) p166 q166
                                                obtain rfl : ad160 = ad166 := (by injection e166)
                                                replace hx166_0 := (HB.out.cell (World.block_lt_of_cell? w _ hx166_0)).trans hx166_0
                                                replace p166 := eq_true p166
                                                replace q166 := eq_true q166
                                                have p167 : 0 ≤ (x5_2 : Int) := of_decide_eq_true (by first | (with_reducible assumption) | assumption)
                                                have q167 : x5_2 < (t149.length : Int) := of_decide_eq_true (by first | (with_reducible assumption) | assumption)
                                                obtain ⟨ad167, e167, hx167_0⟩ := Kd.at_int (Kd.R_reads' HO_3.out).2.2 x5_2 p167 q167
                                                obtain rfl : ad155 = ad167 := (by injection e167)
                                                replace p167 := eq_true p167
                                                replace q167 := eq_true q167
                                                have p168 : 0 ≤ ((ji26) : Int) := of_decide_eq_true (by first | (with_reducible assumption) | assumption)
                                                have q168 : (ji26) < (t149.length : Int) := of_decide_eq_true (by first | (with_reducible assumption) | assumption)
                                                obtain ⟨ad168, e168, hx168_0⟩ := Kd.at_int (Kd.R_reads' HO_3.out).2.2 (ji26) p168 q168
                                                obtain rfl : ad155 = ad168 := (by injection e168)
                                                replace p168 := eq_true p168
                                                replace q168 := eq_true q168
                                                have p169 : 0 ≤ (x5_2 : Int) := of_decide_eq_true (by first | (with_reducible assumption) | assumption)
                                                have q169 : x5_2 < (t149.length : Int) := of_decide_eq_true (by first | (with_reducible assumption) | assumption)
                                                obtain ⟨ad169, e169, hx169_0⟩ := Kd.at_int (Kd.R_reads' HO_3.out).2.2 x5_2 p169 q169
                                                obtain rfl : ad155 = ad169 := (by injection e169)
                                                replace p169 := eq_true p169
                                                replace q169 := eq_true q169
                                                have p34 : 0 ≤ ((rd t149 x5_2) : Int) := of_decide_eq_true (by first | (with_reducible assumption) | assumption)
                                                have q34 : ((rd t149 x5_2) : Int) < ((x4_2.length : Int) : Int) := of_decide_eq_true (by first | (with_reducible assumption) | assumption)
                                                obtain ⟨go34, co34, eo34, gb34, gl34, cl34, HG34⟩ := Kd.R_form HO_4.out (by omega)
                                                (first | cases eo34 | (injection eo34 with ea_ en_ ec_; (first | subst ea_ | (injection ea_ with ea_; subst ea_)); subst ec_; clear en_))
                                                have GB34 := Aside0.mk gb34
                                                have GG34 := Aside0.mk HG34
                                                clear gb34 gl34 HG34
                                                (first | simp only [add_plain] at hx158_0 | skip)
                                                obtain ⟨hx34_0, hf34_0⟩ := Kd.R_celln false HO_4.out ((rd t149 x5_2) : Int) p34 q34
                                                replace p34 := eq_true p34
                                                replace q34 := eq_true q34
                                                have HP37 := Kd.R_putg HO_4.out ((rd t149 x5_2) : Int) true
                                                go_wp2_with (first | ((with_reducible refine gate_store (t := 4) (p := 105) rfl ?_); (try (rw [drewN_self wr]; generalize hq_ : World.drewN wr _ = wr; have n0_ := Aside0.mk (Kd.R_at hq_ HO_3.out); have n1_ := Aside0.mk (Kd.R_at hq_ HO_4.out); have n2_ := Aside0.mk (below_at hq_ HB.out); clear hq_ HO_3 HO_4 HB; have HO_3 := n0_; have HO_4 := n1_; have HB := n2_; clear n0_ n1_ n2_; (try (have HP37 := Kd.R_putg HO_4.out ((rd t149 x5_2) : Int) true)); (try (obtain ⟨hx34_0, hf34_0⟩ := Kd.R_celln false HO_4.out ((rd t149 x5_2) : Int) (of_eq_true p34) (of_eq_true q34))))); refine store_event (t := 4) (p := 105) (v := ?vo_w38) (w1 := (wr.setCell ⟨go34, ((rd t149 x5_2) : Int).toNat, none⟩ (.bool true))) ?hg ?ho ?hn ?hr ?_; (case ho => rfl); (case hg => rfl); (case hn => rfl); (case hr => first | (go_simp; done) | (go_simp; rfl)); intro w38 hw; have hg : wr.grownBy w38 (some go34) := (by rw [hw]; exact HP37.2); have hp_ : Kd.R Kd.bool 4 w38 w.heap.size (fun _ => True) (.slice (some ⟨go34, 0, none⟩) x4_2.length co36) y170 := (by rw [hw, Ny170.out]; exact HP37.1); clear HP37; have n0_ := Aside0.mk (Kd.R_over' (v := (.slice (some ⟨go34, 0, none⟩) x4_2.length co36)) (by (with_reducible repeat (first | apply Kd.R_alloc | apply Kd.R_drewN | apply Kd.R_drew)); exact HO_3.out) (Kd.R_typed HO_4.out) (by decide) hg); have n1_ := Aside0.mk (hp_); have n2_ := Aside0.mk ((by rw [hw]; exact below_set (HB.out) GB34.out : Below w.heap.size w w38)); clear HO_3; clear HO_4; clear HB; have HO_3 := n0_; have HO_4 := n1_; have HB := n2_; clear n0_ n1_ n2_; clear hg hw hp_))
                                                repeat (go_quiet (first | ((with_reducible refine gate_store (t := 4) (p := 105) rfl ?_); (try (rw [drewN_self wr]; generalize hq_ : World.drewN wr _ = wr; have n0_ := Aside0.mk (Kd.R_at hq_ HO_3.out); have n1_ := Aside0.mk (Kd.R_at hq_ HO_4.out); have n2_ := Aside0.mk (below_at hq_ HB.out); clear hq_ HO_3 HO_4 HB; have HO_3 := n0_; have HO_4 := n1_; have HB := n2_; clear n0_ n1_ n2_; (try (have HP37 := Kd.R_putg HO_4.out ((rd t149 x5_2) : Int) true)); (try (obtain ⟨hx34_0, hf34_0⟩ := Kd.R_celln false HO_4.out ((rd t149 x5_2) : Int) (of_eq_true p34) (of_eq_true q34))))); refine store_event (t := 4) (p := 105) (v := ?vo_w38) (w1 := (wr.setCell ⟨go34, ((rd t149 x5_2) : Int).toNat, none⟩ (.bool true))) ?hg ?ho ?hn ?hr ?_; (case ho => rfl); (case hg => rfl); (case hn => rfl); (case hr => first | (go_simp; done) | (go_simp; rfl)); intro w38 hw; have hg : wr.grownBy w38 (some go34) := (by rw [hw]; exact HP37.2); have hp_ : Kd.R Kd.bool 4 w38 w.heap.size (fun _ => True) (.slice (some ⟨go34, 0, none⟩) x4_2.length co36) y170 := (by rw [hw, Ny170.out]; exact HP37.1); clear HP37; have n0_ := Aside0.mk (Kd.R_over' (v := (.slice (some ⟨go34, 0, none⟩) x4_2.length co36)) (by (with_reducible repeat (first | apply Kd.R_alloc | apply Kd.R_drewN | apply Kd.R_drew)); exact HO_3.out) (Kd.R_typed HO_4.out) (by decide) hg); have n1_ := Aside0.mk (hp_); have n2_ := Aside0.mk ((by rw [hw]; exact below_set (HB.out) GB34.out : Below w.heap.size w w38)); clear HO_3; clear HO_4; clear HB; have HO_3 := n0_; have HO_4 := n1_; have HB := n2_; clear n0_ n1_ n2_; clear hg hw hp_)); try go_wp2_with (first | ((with_reducible refine gate_store (t := 4) (p := 105) rfl ?_); (try (rw [drewN_self wr]; generalize hq_ : World.drewN wr _ = wr; have n0_ := Aside0.mk (Kd.R_at hq_ HO_3.out); have n1_ := Aside0.mk (Kd.R_at hq_ HO_4.out); have n2_ := Aside0.mk (below_at hq_ HB.out); clear hq_ HO_3 HO_4 HB; have HO_3 := n0_; have HO_4 := n1_; have HB := n2_; clear n0_ n1_ n2_; (try (have HP37 := Kd.R_putg HO_4.out ((rd t149 x5_2) : Int) true)); (try (obtain ⟨hx34_0, hf34_0⟩ := Kd.R_celln false HO_4.out ((rd t149 x5_2) : Int) (of_eq_true p34) (of_eq_true q34))))); refine store_event (t := 4) (p := 105) (v := ?vo_w38) (w1 := (wr.setCell ⟨go34, ((rd t149 x5_2) : Int).toNat, none⟩ (.bool true))) ?hg ?ho ?hn ?hr ?_; (case ho => rfl); (case hg => rfl); (case hn => rfl); (case hr => first | (go_simp; done) | (go_simp; rfl)); intro w38 hw; have hg : wr.grownBy w38 (some go34) := (by rw [hw]; exact HP37.2); have hp_ : Kd.R Kd.bool 4 w38 w.heap.size (fun _ => True) (.slice (some ⟨go34, 0, none⟩) x4_2.length co36) y170 := (by rw [hw, Ny170.out]; exact HP37.1); clear HP37; have n0_ := Aside0.mk (Kd.R_over' (v := (.slice (some ⟨go34, 0, none⟩) x4_2.length co36)) (by (with_reducible repeat (first | apply Kd.R_alloc | apply Kd.R_drewN | apply Kd.R_drew)); exact HO_3.out) (Kd.R_typed HO_4.out) (by decide) hg); have n1_ := Aside0.mk (hp_); have n2_ := Aside0.mk ((by rw [hw]; exact below_set (HB.out) GB34.out : Below w.heap.size w w38)); clear HO_3; clear HO_4; clear HB; have HO_3 := n0_; have HO_4 := n1_; have HB := n2_; clear n0_ n1_ n2_; clear hg hw hp_)))
                                                go_roundg k2
                                                case measure => have := HJ1.out; have := HK2.out; omega
                                                case rel => exact ⟨(y170), (wrap64 (x5_2 + 1)), (by first | rfl | (simp; done) | (simp [*]; done)), H', ⟨by have := HJ1.out; have := HK2.out; omega⟩, ⟨by (with_reducible repeat (first | apply Kd.R_alloc | apply Kd.R_drewN | apply Kd.R_drew)); exact HO_3.out⟩, ⟨by (with_reducible repeat (first | apply Kd.R_alloc | apply Kd.R_drewN | apply Kd.R_drew)); exact HO_4.out⟩, ⟨by repeat (first | (with_reducible first | exact HB.out | apply below_alloc | apply pw_below_drewN | apply below_drew1) | exact HB.out)⟩⟩
                                            · rw [if_neg c32] at H
                                              have c32b0 : ((rd l0 (rd t149 x5_2)) == (rd l0 (rd t149 (ji26)))) = false := beq_eq_false_iff_ne.mpr c32
                                              have c32b1 : ((rd l0 (rd t149 x5_2)) != (rd l0 (rd t149 (ji26)))) = true := bne_iff_ne.mpr c32
                                              obtain ⟨y172, hy172⟩ : ∃ y_ : List Bool, y_ = (x4_2.set ((rd t149 x5_2) : Int).toNat true) := ⟨_, rfl⟩
                                              replace H : (greenwoodlaw08_OrderFalls.l0 k2 l0 t149 y172 (wrap64 (x5_2 + 1))) = some r := by first | (rw [hy172]; with_reducible exact H) | (have H2_ := (Option.bind_some _ _).symm.trans H; rw [hy172]; with_reducible exact H2_) | (have H2_ := (Option.bind_some _ _).symm.trans H; with_reducible exact H2_) | with_reducible exact H | (rw [hy172]; exact H) | exact H
                                              have Ny172 := Aside0.mk hy172
                                              clear hy172
                                              have H' := Aside0.mk H
                                              clear H
                                              obtain ⟨Ao40, co40, eo40⟩ := Kd.R_slice HO_3.out
                                              subst eo40
                                              have p155 : 0 ≤ (x5_2 : Int) := of_decide_eq_true (by first | (with_reducible assumption) | assumption)
                                              have q155 : x5_2 < (t149.length : Int) := of_decide_eq_true (by first | (with_reducible assumption) | assumption)
                                              obtain ⟨ad155, e155, hx155_0⟩ := Kd.at_int (Kd.R_reads' HO_3.out).2.2 x5_2 p155 q155
                                              cases e155
                                              replace p155 := eq_true p155
                                              replace q155 := eq_true q155
                                              have p156 : 0 ≤ (x5_2 : Int) := of_decide_eq_true (by first | (with_reducible assumption) | assumption)
                                              have q156 : x5_2 < (t149.length : Int) := of_decide_eq_true (by first | (with_reducible assumption) | assumption)
                                              obtain ⟨ad156, e156, hx156_0⟩ := Kd.at_int (Kd.R_reads' HO_3.out).2.2 x5_2 p156 q156
                                              obtain rfl : ad155 = ad156 := (by injection e156)
                                              replace p156 := eq_true p156
                                              replace q156 := eq_true q156
                                              have p157 : 0 ≤ (x5_2 : Int) := of_decide_eq_true (by first | (with_reducible assumption) | assumption)
                                              have q157 : x5_2 < (t149.length : Int) := of_decide_eq_true (by first | (with_reducible assumption) | assumption)
                                              obtain ⟨ad157, e157, hx157_0⟩ := Kd.at_int (Kd.R_reads' HO_3.out).2.2 x5_2 p157 q157
                                              obtain rfl : ad155 = ad157 := (by injection e157)
                                              replace p157 := eq_true p157
                                              replace q157 := eq_true q157
                                              obtain ⟨Ao41, co41, eo41⟩ := Kd.R_slice HO_4.out
                                              subst eo41
                                              have p158 : 0 ≤ ((rd t149 x5_2) : Int) := of_decide_eq_true (by first | (with_reducible assumption) | assumption)
                                              have q158 : (rd t149 x5_2) < (x4_2.length : Int) := of_decide_eq_true (by first | (with_reducible assumption) | assumption)
                                              obtain ⟨ad158, e158, hx158_0⟩ := Kd.at_bool (Kd.R_reads' HO_4.out).2.2 (rd t149 x5_2) p158 q158
                                              (try rw [← Nbq22.out] at hx158_0)
                                              cases e158
                                              replace p158 := eq_true p158
                                              replace q158 := eq_true q158
                                              have p159 : 0 ≤ (x5_2 : Int) := of_decide_eq_true (by first | (with_reducible assumption) | assumption)
                                              have q159 : x5_2 < (t149.length : Int) := of_decide_eq_true (by first | (with_reducible assumption) | assumption)
                                              obtain ⟨ad159, e159, hx159_0⟩ := Kd.at_int (Kd.R_reads' HO_3.out).2.2 x5_2 p159 q159
                                              obtain rfl : ad155 = ad159 := (by injection e159)
                                              replace p159 := eq_true p159
                                              replace q159 := eq_true q159
                                              have p160 : 0 ≤ ((rd t149 x5_2) : Int) := of_decide_eq_true (by first | (with_reducible assumption) | assumption)
                                              have q160 : (rd t149 x5_2) < (l0.length : Int) := of_decide_eq_true (by first | (with_reducible assumption) | assumption)
                                              obtain ⟨ad160, e160, hx160_0⟩ := Kd.at_int HR0.out (rd t149 x5_2) p160 q160
                                              cases e160
                                              replace hx160_0 := (HB.out.cell (World.block_lt_of_cell? w _ hx160_0)).trans hx160_0
                                              replace p160 := eq_true p160
                                              replace q160 := eq_true q160
                                              have p161 : 0 ≤ ((ji26) : Int) := of_decide_eq_true (by first | (with_reducible assumption) | assumption)
                                              have q161 : (ji26) < (t149.length : Int) := of_decide_eq_true (by first | (with_reducible assumption) | assumption)
                                              obtain ⟨ad161, e161, hx161_0⟩ := Kd.at_int (Kd.R_reads' HO_3.out).2.2 (ji26) p161 q161
                                              obtain rfl : ad155 = ad161 := (by injection e161)
                                              replace p161 := eq_true p161
                                              replace q161 := eq_true q161
                                              have p162 : 0 ≤ ((rd t149 (ji26)) : Int) := of_decide_eq_true (by first | (with_reducible assumption) | assumption)
                                              have q162 : (rd t149 (ji26)) < (l0.length : Int) := of_decide_eq_true (by first | (with_reducible assumption) | assumption)
                                              obtain ⟨ad162, e162, hx162_0⟩ := Kd.at_int HR0.out (rd t149 (ji26)) p162 q162
                                              obtain rfl : ad160 = ad162 := (by injection e162)
                                              replace hx162_0 := (HB.out.cell (World.block_lt_of_cell? w _ hx162_0)).trans hx162_0
                                              replace p162 := eq_true p162
                                              replace q162 := eq_true q162
                                              have p163 : 0 ≤ (x5_2 : Int) := of_decide_eq_true (by first | (with_reducible assumption) | assumption)
                                              have q163 : x5_2 < (t149.length : Int) := of_decide_eq_true (by first | (with_reducible assumption) | assumption)
                                              obtain ⟨ad163, e163, hx163_0⟩ := Kd.at_int (Kd.R_reads' HO_3.out).2.2 x5_2 p163 q163
                                              obtain rfl : ad155 = ad163 := (by injection e163)
                                              replace p163 := eq_true p163
                                              replace q163 := eq_true q163
                                              have p164 : 0 ≤ ((rd t149 x5_2) : Int) := of_decide_eq_true (by first | (with_reducible assumption) | assumption)
                                              have q164 : (rd t149 x5_2) < (l0.length : Int) := of_decide_eq_true (by first | (with_reducible assumption) | assumption)
                                              obtain ⟨ad164, e164, hx164_0⟩ := Kd.at_int HR0.out (rd t149 x5_2) p164 q164
                                              obtain rfl : ad160 = ad164 := (by injection e164)
                                              replace hx164_0 := (HB.out.cell (World.block_lt_of_cell? w _ hx164_0)).trans hx164_0
                                              replace p164 := eq_true p164
                                              replace q164 := eq_true q164
                                              have p165 : 0 ≤ ((ji26) : Int) := of_decide_eq_true (by first | (with_reducible assumption) | assumption)
                                              have q165 : (ji26) < (t149.length : Int) := of_decide_eq_true (by first | (with_reducible assumption) | assumption)
                                              obtain ⟨ad165, e165, hx165_0⟩ := Kd.at_int (Kd.R_reads' HO_3.out).2.2 (ji26) p165 q165
                                              obtain rfl : ad155 = ad165 := (by injection e165)
                                              replace p165 := eq_true p165
                                              replace q165 := eq_true q165
                                              have p166 : 0 ≤ ((rd t149 (ji26)) : Int) := of_decide_eq_true (by first | (with_reducible assumption) | assumption)
                                              have q166 : (rd t149 (ji26)) < (l0.length : Int) := of_decide_eq_true (by first | (with_reducible assumption) | assumption)
                                              obtain ⟨ad166, e166, hx166_0⟩ := Kd.at_int HR0.out (rd t149 (ji26)) p166 q166
                                              obtain rfl : ad160 = ad166 := (by injection e166)
                                              replace hx166_0 := (HB.out.cell (World.block_lt_of_cell? w _ hx166_0)).trans hx166_0
                                              replace p166 := eq_true p166
                                              replace q166 := eq_true q166
                                              have p171 : 0 ≤ (x5_2 : Int) := of_decide_eq_true (by first | (with_reducible assumption) | assumption)
                                              have q171 : x5_2 < (t149.length : Int) := of_decide_eq_true (by first | (with_reducible assumption) | assumption)
                                              obtain ⟨ad171, e171, hx171_0⟩ := Kd.at_int (Kd.R_reads' HO_3.out).2.2 x5_2 p171 q171
                                              obtain rfl : ad155 = ad171 := (by injection e171)
                                              replace p171 := eq_true p171
                                              replace q171 := eq_true q171
                                              have p39 : 0 ≤ ((rd t149 x5_2) : Int) := of_decide_eq_true (by first | (with_reducible assumption) | assumption)
                                              have q39 : ((rd t149 x5_2) : Int) < ((x4_2.length : Int) : Int) := of_decide_eq_true (by first | (with_reducible assumption) | assumption)
                                              obtain ⟨go39, co39, eo39, gb39, gl39, cl39, HG39⟩ := Kd.R_form HO_4.out (by omega)
                                              (first | cases eo39 | (injection eo39 with ea_ en_ ec_; (first | subst ea_ | (injection ea_ with ea_; subst ea_)); subst ec_; clear en_))
                                              have GB39 := Aside0.mk gb39
                                              have GG39 := Aside0.mk HG39
                                              clear gb39 gl39 HG39
                                              (first | simp only [add_plain] at hx158_0 | skip)
                                              obtain ⟨hx39_0, hf39_0⟩ := Kd.R_celln false HO_4.out ((rd t149 x5_2) : Int) p39 q39
                                              replace p39 := eq_true p39
                                              replace q39 := eq_true q39
                                              have HP42 := Kd.R_putg HO_4.out ((rd t149 x5_2) : Int) true
                                              go_wp2_with (first | ((with_reducible refine gate_store (t := 4) (p := 105) rfl ?_); (try (rw [drewN_self wr]; generalize hq_ : World.drewN wr _ = wr; have n0_ := Aside0.mk (Kd.R_at hq_ HO_3.out); have n1_ := Aside0.mk (Kd.R_at hq_ HO_4.out); have n2_ := Aside0.mk (below_at hq_ HB.out); clear hq_ HO_3 HO_4 HB; have HO_3 := n0_; have HO_4 := n1_; have HB := n2_; clear n0_ n1_ n2_; (try (have HP42 := Kd.R_putg HO_4.out ((rd t149 x5_2) : Int) true)); (try (obtain ⟨hx39_0, hf39_0⟩ := Kd.R_celln false HO_4.out ((rd t149 x5_2) : Int) (of_eq_true p39) (of_eq_true q39))))); refine store_event (t := 4) (p := 105) (v := ?vo_w43) (w1 := (wr.setCell ⟨go39, ((rd t149 x5_2) : Int).toNat, none⟩ (.bool true))) ?hg ?ho ?hn ?hr ?_; (case ho => rfl); (case hg => rfl); (case hn => rfl); (case hr => first | (go_simp; done) | (go_simp; rfl)); intro w43 hw; have hg : wr.grownBy w43 (some go39) := (by rw [hw]; exact HP42.2); have hp_ : Kd.R Kd.bool 4 w43 w.heap.size (fun _ => True) (.slice (some ⟨go39, 0, none⟩) x4_2.length co41) y172 := (by rw [hw, Ny172.out]; exact HP42.1); clear HP42; have n0_ := Aside0.mk (Kd.R_over' (v := (.slice (some ⟨go39, 0, none⟩) x4_2.length co41)) (by (with_reducible repeat (first | apply Kd.R_alloc | apply Kd.R_drewN | apply Kd.R_drew)); exact HO_3.out) (Kd.R_typed HO_4.out) (by decide) hg); have n1_ := Aside0.mk (hp_); have n2_ := Aside0.mk ((by rw [hw]; exact below_set (HB.out) GB39.out : Below w.heap.size w w43)); clear HO_3; clear HO_4; clear HB; have HO_3 := n0_; have HO_4 := n1_; have HB := n2_; clear n0_ n1_ n2_; clear hg hw hp_))
                                              repeat (go_quiet (first | ((with_reducible refine gate_store (t := 4) (p := 105) rfl ?_); (try (rw [drewN_self wr]; generalize hq_ : World.drewN wr _ = wr; have n0_ := Aside0.mk (Kd.R_at hq_ HO_3.out); have n1_ := Aside0.mk (Kd.R_at hq_ HO_4.out); have n2_ := Aside0.mk (below_at hq_ HB.out); clear hq_ HO_3 HO_4 HB; have HO_3 := n0_; have HO_4 := n1_; have HB := n2_; clear n0_ n1_ n2_; (try (have HP42 := Kd.R_putg HO_4.out ((rd t149 x5_2) : Int) true)); (try (obtain ⟨hx39_0, hf39_0⟩ := Kd.R_celln false HO_4.out ((rd t149 x5_2) : Int) (of_eq_true p39) (of_eq_true q39))))); refine store_event (t := 4) (p := 105) (v := ?vo_w43) (w1 := (wr.setCell ⟨go39, ((rd t149 x5_2) : Int).toNat, none⟩ (.bool true))) ?hg ?ho ?hn ?hr ?_; (case ho => rfl); (case hg => rfl); (case hn => rfl); (case hr => first | (go_simp; done) | (go_simp; rfl)); intro w43 hw; have hg : wr.grownBy w43 (some go39) := (by rw [hw]; exact HP42.2); have hp_ : Kd.R Kd.bool 4 w43 w.heap.size (fun _ => True) (.slice (some ⟨go39, 0, none⟩) x4_2.length co41) y172 := (by rw [hw, Ny172.out]; exact HP42.1); clear HP42; have n0_ := Aside0.mk (Kd.R_over' (v := (.slice (some ⟨go39, 0, none⟩) x4_2.length co41)) (by (with_reducible repeat (first | apply Kd.R_alloc | apply Kd.R_drewN | apply Kd.R_drew)); exact HO_3.out) (Kd.R_typed HO_4.out) (by decide) hg); have n1_ := Aside0.mk (hp_); have n2_ := Aside0.mk ((by rw [hw]; exact below_set (HB.out) GB39.out : Below w.heap.size w w43)); clear HO_3; clear HO_4; clear HB; have HO_3 := n0_; have HO_4 := n1_; have HB := n2_; clear n0_ n1_ n2_; clear hg hw hp_)); try go_wp2_with (first | ((with_reducible refine gate_store (t := 4) (p := 105) rfl ?_); (try (rw [drewN_self wr]; generalize hq_ : World.drewN wr _ = wr; have n0_ := Aside0.mk (Kd.R_at hq_ HO_3.out); have n1_ := Aside0.mk (Kd.R_at hq_ HO_4.out); have n2_ := Aside0.mk (below_at hq_ HB.out); clear hq_ HO_3 HO_4 HB; have HO_3 := n0_; have HO_4 := n1_; have HB := n2_; clear n0_ n1_ n2_; (try (have HP42 := Kd.R_putg HO_4.out ((rd t149 x5_2) : Int) true)); (try (obtain ⟨hx39_0, hf39_0⟩ := Kd.R_celln false HO_4.out ((rd t149 x5_2) : Int) (of_eq_true p39) (of_eq_true q39))))); refine store_event (t := 4) (p := 105) (v := ?vo_w43) (w1 := (wr.setCell ⟨go39, ((rd t149 x5_2) : Int).toNat, none⟩ (.bool true))) ?hg ?ho ?hn ?hr ?_; (case ho => rfl); (case hg => rfl); (case hn => rfl); (case hr => first | (go_simp; done) | (go_simp; rfl)); intro w43 hw; have hg : wr.grownBy w43 (some go39) := (by rw [hw]; exact HP42.2); have hp_ : Kd.R Kd.bool 4 w43 w.heap.size (fun _ => True) (.slice (some ⟨go39, 0, none⟩) x4_2.length co41) y172 := (by rw [hw, Ny172.out]; exact HP42.1); clear HP42; have n0_ := Aside0.mk (Kd.R_over' (v := (.slice (some ⟨go39, 0, none⟩) x4_2.length co41)) (by (with_reducible repeat (first | apply Kd.R_alloc | apply Kd.R_drewN | apply Kd.R_drew)); exact HO_3.out) (Kd.R_typed HO_4.out) (by decide) hg); have n1_ := Aside0.mk (hp_); have n2_ := Aside0.mk ((by rw [hw]; exact below_set (HB.out) GB39.out : Below w.heap.size w w43)); clear HO_3; clear HO_4; clear HB; have HO_3 := n0_; have HO_4 := n1_; have HB := n2_; clear n0_ n1_ n2_; clear hg hw hp_)))
                                              go_roundg k2
                                              case measure => have := HJ1.out; have := HK2.out; omega
                                              case rel => exact ⟨(y172), (wrap64 (x5_2 + 1)), (by first | rfl | (simp; done) | (simp [*]; done)), H', ⟨by have := HJ1.out; have := HK2.out; omega⟩, ⟨by (with_reducible repeat (first | apply Kd.R_alloc | apply Kd.R_drewN | apply Kd.R_drew)); exact HO_3.out⟩, ⟨by (with_reducible repeat (first | apply Kd.R_alloc | apply Kd.R_drewN | apply Kd.R_drew)); exact HO_4.out⟩, ⟨by repeat (first | (with_reducible first | exact HB.out | apply below_alloc | apply pw_below_drewN | apply below_drew1) | exact HB.out)⟩⟩
                                        · rw [if_neg c30] at H
                                          exact absurd H (by simp)
                                      · rw [if_neg c29] at H
                                        exact absurd H (by simp)
                                    · rw [if_neg c28] at H
                                      exact absurd H (by simp)
                                  · rw [if_neg c27] at H
                                    exact absurd H (by simp)
                                · rw [if_neg c25] at H
                                  exact absurd H (by simp)
                              · rw [if_neg c24] at H
                                have c24b0 : decide (0 < x5_2) = false := decide_eq_false c24
                                clear c24
                                obtain ⟨y174, hy174⟩ : ∃ y_ : List Bool, y_ = (x4_2.set ((rd t149 x5_2) : Int).toNat true) := ⟨_, rfl⟩
                                replace H : (greenwoodlaw08_OrderFalls.l0 k2 l0 t149 y174 (wrap64 (x5_2 + 1))) = some r := by first | (rw [hy174]; with_reducible exact H) | (have H2_ := (Option.bind_some _ _).symm.trans H; rw [hy174]; with_reducible exact H2_) | (have H2_ := (Option.bind_some _ _).symm.trans H; with_reducible exact H2_) | with_reducible exact H | (rw [hy174]; exact H) | exact H
                                have Ny174 := Aside0.mk hy174
                                clear hy174
                                have H' := Aside0.mk H
                                clear H
                                obtain ⟨Ao45, co45, eo45⟩ := Kd.R_slice HO_3.out
                                subst eo45
                                have p155 : 0 ≤ (x5_2 : Int) := of_decide_eq_true (by first | (with_reducible assumption) | assumption)
                                have q155 : x5_2 < (t149.length : Int) := of_decide_eq_true (by first | (with_reducible assumption) | assumption)
                                obtain ⟨ad155, e155, hx155_0⟩ := Kd.at_int (Kd.R_reads' HO_3.out).2.2 x5_2 p155 q155
                                cases e155
                                replace p155 := eq_true p155
                                replace q155 := eq_true q155
                                have p156 : 0 ≤ (x5_2 : Int) := of_decide_eq_true (by first | (with_reducible assumption) | assumption)
                                have q156 : x5_2 < (t149.length : Int) := of_decide_eq_true (by first | (with_reducible assumption) | assumption)
                                obtain ⟨ad156, e156, hx156_0⟩ := Kd.at_int (Kd.R_reads' HO_3.out).2.2 x5_2 p156 q156
                                obtain rfl : ad155 = ad156 := (by injection e156)
                                replace p156 := eq_true p156
                                replace q156 := eq_true q156
                                have p157 : 0 ≤ (x5_2 : Int) := of_decide_eq_true (by first | (with_reducible assumption) | assumption)
                                have q157 : x5_2 < (t149.length : Int) := of_decide_eq_true (by first | (with_reducible assumption) | assumption)
                                obtain ⟨ad157, e157, hx157_0⟩ := Kd.at_int (Kd.R_reads' HO_3.out).2.2 x5_2 p157 q157
                                obtain rfl : ad155 = ad157 := (by injection e157)
                                replace p157 := eq_true p157
                                replace q157 := eq_true q157
                                obtain ⟨Ao46, co46, eo46⟩ := Kd.R_slice HO_4.out
                                subst eo46
                                have p158 : 0 ≤ ((rd t149 x5_2) : Int) := of_decide_eq_true (by first | (with_reducible assumption) | assumption)
                                have q158 : (rd t149 x5_2) < (x4_2.length : Int) := of_decide_eq_true (by first | (with_reducible assumption) | assumption)
                                obtain ⟨ad158, e158, hx158_0⟩ := Kd.at_bool (Kd.R_reads' HO_4.out).2.2 (rd t149 x5_2) p158 q158
                                (try rw [← Nbq22.out] at hx158_0)
                                cases e158
                                replace p158 := eq_true p158
                                replace q158 := eq_true q158
                                have p173 : 0 ≤ (x5_2 : Int) := of_decide_eq_true (by first | (with_reducible assumption) | assumption)
                                have q173 : x5_2 < (t149.length : Int) := of_decide_eq_true (by first | (with_reducible assumption) | assumption)
                                obtain ⟨ad173, e173, hx173_0⟩ := Kd.at_int (Kd.R_reads' HO_3.out).2.2 x5_2 p173 q173
                                obtain rfl : ad155 = ad173 := (by injection e173)
                                replace p173 := eq_true p173
                                replace q173 := eq_true q173
                                have p44 : 0 ≤ ((rd t149 x5_2) : Int) := of_decide_eq_true (by first | (with_reducible assumption) | assumption)
                                have q44 : ((rd t149 x5_2) : Int) < ((x4_2.length : Int) : Int) := of_decide_eq_true (by first | (with_reducible assumption) | assumption)
                                obtain ⟨go44, co44, eo44, gb44, gl44, cl44, HG44⟩ := Kd.R_form HO_4.out (by omega)
                                (first | cases eo44 | (injection eo44 with ea_ en_ ec_; (first | subst ea_ | (injection ea_ with ea_; subst ea_)); subst ec_; clear en_))
                                have GB44 := Aside0.mk gb44
                                have GG44 := Aside0.mk HG44
                                clear gb44 gl44 HG44
                                (first | simp only [add_plain] at hx158_0 | skip)
                                obtain ⟨hx44_0, hf44_0⟩ := Kd.R_celln false HO_4.out ((rd t149 x5_2) : Int) p44 q44
                                replace p44 := eq_true p44
                                replace q44 := eq_true q44
                                have HP47 := Kd.R_putg HO_4.out ((rd t149 x5_2) : Int) true
                                go_wp2_with (first | ((with_reducible refine gate_store (t := 4) (p := 105) rfl ?_); (try (rw [drewN_self wr]; generalize hq_ : World.drewN wr _ = wr; have n0_ := Aside0.mk (Kd.R_at hq_ HO_3.out); have n1_ := Aside0.mk (Kd.R_at hq_ HO_4.out); have n2_ := Aside0.mk (below_at hq_ HB.out); clear hq_ HO_3 HO_4 HB; have HO_3 := n0_; have HO_4 := n1_; have HB := n2_; clear n0_ n1_ n2_; (try (have HP47 := Kd.R_putg HO_4.out ((rd t149 x5_2) : Int) true)); (try (obtain ⟨hx44_0, hf44_0⟩ := Kd.R_celln false HO_4.out ((rd t149 x5_2) : Int) (of_eq_true p44) (of_eq_true q44))))); refine store_event (t := 4) (p := 105) (v := ?vo_w48) (w1 := (wr.setCell ⟨go44, ((rd t149 x5_2) : Int).toNat, none⟩ (.bool true))) ?hg ?ho ?hn ?hr ?_; (case ho => rfl); (case hg => rfl); (case hn => rfl); (case hr => first | (go_simp; done) | (go_simp; rfl)); intro w48 hw; have hg : wr.grownBy w48 (some go44) := (by rw [hw]; exact HP47.2); have hp_ : Kd.R Kd.bool 4 w48 w.heap.size (fun _ => True) (.slice (some ⟨go44, 0, none⟩) x4_2.length co46) y174 := (by rw [hw, Ny174.out]; exact HP47.1); clear HP47; have n0_ := Aside0.mk (Kd.R_over' (v := (.slice (some ⟨go44, 0, none⟩) x4_2.length co46)) (by (with_reducible repeat (first | apply Kd.R_alloc | apply Kd.R_drewN | apply Kd.R_drew)); exact HO_3.out) (Kd.R_typed HO_4.out) (by decide) hg); have n1_ := Aside0.mk (hp_); have n2_ := Aside0.mk ((by rw [hw]; exact below_set (HB.out) GB44.out : Below w.heap.size w w48)); clear HO_3; clear HO_4; clear HB; have HO_3 := n0_; have HO_4 := n1_; have HB := n2_; clear n0_ n1_ n2_; clear hg hw hp_))
                                repeat (go_quiet (first | ((with_reducible refine gate_store (t := 4) (p := 105) rfl ?_); (try (rw [drewN_self wr]; generalize hq_ : World.drewN wr _ = wr; have n0_ := Aside0.mk (Kd.R_at hq_ HO_3.out); have n1_ := Aside0.mk (Kd.R_at hq_ HO_4.out); have n2_ := Aside0.mk (below_at hq_ HB.out); clear hq_ HO_3 HO_4 HB; have HO_3 := n0_; have HO_4 := n1_; have HB := n2_; clear n0_ n1_ n2_; (try (have HP47 := Kd.R_putg HO_4.out ((rd t149 x5_2) : Int) true)); (try (obtain ⟨hx44_0, hf44_0⟩ := Kd.R_celln false HO_4.out ((rd t149 x5_2) : Int) (of_eq_true p44) (of_eq_true q44))))); refine store_event (t := 4) (p := 105) (v := ?vo_w48) (w1 := (wr.setCell ⟨go44, ((rd t149 x5_2) : Int).toNat, none⟩ (.bool true))) ?hg ?ho ?hn ?hr ?_; (case ho => rfl); (case hg => rfl); (case hn => rfl); (case hr => first | (go_simp; done) | (go_simp; rfl)); intro w48 hw; have hg : wr.grownBy w48 (some go44) := (by rw [hw]; exact HP47.2); have hp_ : Kd.R Kd.bool 4 w48 w.heap.size (fun _ => True) (.slice (some ⟨go44, 0, none⟩) x4_2.length co46) y174 := (by rw [hw, Ny174.out]; exact HP47.1); clear HP47; have n0_ := Aside0.mk (Kd.R_over' (v := (.slice (some ⟨go44, 0, none⟩) x4_2.length co46)) (by (with_reducible repeat (first | apply Kd.R_alloc | apply Kd.R_drewN | apply Kd.R_drew)); exact HO_3.out) (Kd.R_typed HO_4.out) (by decide) hg); have n1_ := Aside0.mk (hp_); have n2_ := Aside0.mk ((by rw [hw]; exact below_set (HB.out) GB44.out : Below w.heap.size w w48)); clear HO_3; clear HO_4; clear HB; have HO_3 := n0_; have HO_4 := n1_; have HB := n2_; clear n0_ n1_ n2_; clear hg hw hp_)); try go_wp2_with (first | ((with_reducible refine gate_store (t := 4) (p := 105) rfl ?_); (try (rw [drewN_self wr]; generalize hq_ : World.drewN wr _ = wr; have n0_ := Aside0.mk (Kd.R_at hq_ HO_3.out); have n1_ := Aside0.mk (Kd.R_at hq_ HO_4.out); have n2_ := Aside0.mk (below_at hq_ HB.out); clear hq_ HO_3 HO_4 HB; have HO_3 := n0_; have HO_4 := n1_; have HB := n2_; clear n0_ n1_ n2_; (try (have HP47 := Kd.R_putg HO_4.out ((rd t149 x5_2) : Int) true)); (try (obtain ⟨hx44_0, hf44_0⟩ := Kd.R_celln false HO_4.out ((rd t149 x5_2) : Int) (of_eq_true p44) (of_eq_true q44))))); refine store_event (t := 4) (p := 105) (v := ?vo_w48) (w1 := (wr.setCell ⟨go44, ((rd t149 x5_2) : Int).toNat, none⟩ (.bool true))) ?hg ?ho ?hn ?hr ?_; (case ho => rfl); (case hg => rfl); (case hn => rfl); (case hr => first | (go_simp; done) | (go_simp; rfl)); intro w48 hw; have hg : wr.grownBy w48 (some go44) := (by rw [hw]; exact HP47.2); have hp_ : Kd.R Kd.bool 4 w48 w.heap.size (fun _ => True) (.slice (some ⟨go44, 0, none⟩) x4_2.length co46) y174 := (by rw [hw, Ny174.out]; exact HP47.1); clear HP47; have n0_ := Aside0.mk (Kd.R_over' (v := (.slice (some ⟨go44, 0, none⟩) x4_2.length co46)) (by (with_reducible repeat (first | apply Kd.R_alloc | apply Kd.R_drewN | apply Kd.R_drew)); exact HO_3.out) (Kd.R_typed HO_4.out) (by decide) hg); have n1_ := Aside0.mk (hp_); have n2_ := Aside0.mk ((by rw [hw]; exact below_set (HB.out) GB44.out : Below w.heap.size w w48)); clear HO_3; clear HO_4; clear HB; have HO_3 := n0_; have HO_4 := n1_; have HB := n2_; clear n0_ n1_ n2_; clear hg hw hp_)))
                                go_roundg k2
                                case measure => have := HJ1.out; have := HK2.out; omega
                                case rel => exact ⟨(y174), (wrap64 (x5_2 + 1)), (by first | rfl | (simp; done) | (simp [*]; done)), H', ⟨by have := HJ1.out; have := HK2.out; omega⟩, ⟨by (with_reducible repeat (first | apply Kd.R_alloc | apply Kd.R_drewN | apply Kd.R_drew)); exact HO_3.out⟩, ⟨by (with_reducible repeat (first | apply Kd.R_alloc | apply Kd.R_drewN | apply Kd.R_drew)); exact HO_4.out⟩, ⟨by repeat (first | (with_reducible first | exact HB.out | apply below_alloc | apply pw_below_drewN | apply below_drew1) | exact HB.out)⟩⟩
                          · rw [if_neg c21] at H
                            exact absurd H (by simp)
                        · rw [if_neg c20] at H
                          exact absurd H (by simp)
                  · rw [if_neg c17] at H
                    exact absurd H (by simp)
                · rw [if_neg c16] at H
                  have c16b0 : decide (x5_2 < (t149.length : Int)) = false := decide_eq_false c16
                  clear c16
                  obtain rfl := Option.some.inj H
                  obtain ⟨Ao49, co49, eo49⟩ := Kd.R_slice HO_3.out
                  subst eo49
                  go_wp2
                  repeat (go_quiet (fail); try go_wp2)
                  go_ret
                  exact ⟨by first | rfl | (simp [errW_none, errW_some] <;> rfl) | (simp [*, errW_none, errW_some] <;> rfl), by repeat (first | (with_reducible first | exact HB.out | apply below_alloc | apply pw_below_drewN | apply below_drew1) | exact HB.out)⟩
          · rw [if_neg c12] at H
            exact absurd H (by simp)
        · rw [if_neg c11] at H
          exact absurd H (by simp)

-- NOT PRINTED: function 7 (greenwoodlaw08_OrderBetween)

-- NOT PRINTED: function 8 (greenwoodlaw08_OrderLeast)

end Go.Proofs.Ytlpjlgjhhmfnlaa.P
/- Layer 8's printed laws come to true: OrderFalls. -/
namespace Go.Proofs.Ytlpjlgjhhmfnlaa.P
open Go.RowKit Go.Proofs.YtlpjlgjhhmfnlaaW.PrintWords Go.Proofs.YtlpjlgjhhmfnlaaW.PrintLast Go.Proofs.YtlpjlgjhhmfnlaaW.PrintMore
open Stab
set_option linter.unusedVariables false
set_option linter.unusedSimpArgs false

theorem grt_nodup (l : List Int) : (grt l).Nodup := by
  refine ((grtN_ok l l.length).1.nodup_iff).2 ?_
  exact (ints_lt 0 l.length).imp (fun h => Int.ne_of_lt h)
/-- which places have been seen: those of the first i -/
def Seen (s : List Bool) (n : Nat) (o : List Int) : Prop := s.length = n ∧ ∀ v : Nat, v < n → (rdOf false s (v : Int) = true ↔ (v : Int) ∈ o)
theorem seen_nil (n : Nat) : Seen (List.replicate n false) n [] := by
  refine ⟨by simp, fun v hv => ?_⟩
  simp [rdOf, List.getD_eq_getElem?_getD, List.getElem?_replicate, hv]
theorem seen_put {s : List Bool} {n : Nat} {o : List Int} (h : Seen s n o) (x : Int) (h0 : 0 ≤ x) (h1 : x < n) : Seen (s.set x.toNat true) n (o ++ [x]) := by
  refine ⟨by simp [h.1], fun v hv => ?_⟩
  have hx : x.toNat < s.length := by rw [h.1]; omega
  have hvs : v < s.length := by rw [h.1]; omega
  have e := h.2 v hv
  simp only [rdOf, Int.toNat_natCast, List.getD_eq_getElem?_getD, List.getElem?_set, List.mem_append, List.mem_singleton] at e ⊢
  by_cases hh : x.toNat = v
  · have : (v : Int) = x := by omega
    simp [hh, hvs, this]
  · have : (v : Int) ≠ x := by omega
    simp [hh, this, e]
theorem seen_not {s : List Bool} {n : Nat} {o : List Int} (h : Seen s n o) (x : Int) (h0 : 0 ≤ x) (h1 : x < n) (hn : x ∉ o) : rdOf false s x ≠ true := by
  have := h.2 x.toNat (by omega)
  rw [show ((x.toNat : Nat) : Int) = x by omega] at this
  rw [Ne, this]; exact hn
variable {l : List Int}
theorem falls_l0 (hn : l.length ≤ 100) : ∀ (d i : Nat) (seen : List Bool), l.length - i = d → i ≤ l.length → Seen seen l.length ((grt l).take i) → Ev (fun k => greenwoodlaw08_OrderFalls.l0 k l (grt l) seen (i : Int)) true := by
  have hgl := grt_len l
  intro d
  induction d with
  | zero =>
    intro i seen hd hi hs
    have e : i = l.length := by omega
    subst e
    refine Ev.step (fun k => by rw [greenwoodlaw08_OrderFalls.l0]) ?_
    exact Ev.ifn (by omega) (Ev.val (by simp [hgl]))
  | succ d ih =>
    intro i seen hd hi hs
    have hlt : i < (grt l).length := by omega
    have hin : ∀ j (hj : j < (grt l).length), 0 ≤ (grt l)[j] ∧ (grt l)[j] < (l.length : Int) := fun j hj => grtN_in l.length _ (List.getElem_mem hj)
    have ho := hin i hlt
    have htk : (grt l).take (i + 1) = (grt l).take i ++ [(grt l)[i]] := by rw [List.take_succ_eq_append_getElem hlt]
    have hnot : (grt l)[i] ∉ (grt l).take i := by
      intro hm
      obtain ⟨j, hj, e⟩ := List.getElem_of_mem hm
      rw [List.getElem_take] at e
      simp at hj
      exact (List.pairwise_iff_getElem.1 (show (grt l).Pairwise (· ≠ ·) from grt_nodup l) j i (by omega) hlt (by omega)) e
    have hnext := seen_put hs _ ho.1 ho.2
    rw [← htk] at hnext
    refine Ev.step (fun k => by rw [greenwoodlaw08_OrderFalls.l0]) ?_
    rw [rd_at hlt]
    refine Ev.ifp (by omega) (Ev.ifp (by omega) (Ev.ifn (by omega) (Ev.ifn (by omega) (Ev.ifp ho.1 (Ev.ifp (by have := hs.1; omega) (Ev.ifn (seen_not hs _ ho.1 ho.2 hnot) ?_))))))
    have hih := ih (i + 1) _ (by omega) (by omega) hnext
    have hw : wrap64 ((i : Int) + 1) = ((i + 1 : Nat) : Int) := w1 hlt (by omega)
    rw [← hw] at hih
    by_cases h0 : (i : Int) > 0
    · obtain ⟨j, rfl⟩ : ∃ j, i = j + 1 := ⟨i - 1, by omega⟩
      have hj : j < (grt l).length := by omega
      have ew : wrap64 (((j + 1 : Nat) : Int) - 1) = (j : Int) := by unfold wrap64; omega
      have hp := hin j hj
      have hsrt : gtT l (grt l)[j] (grt l)[j + 1] = true := by
        exact List.pairwise_iff_getElem.1 (grtN_ok l l.length).2 j (j + 1) hj hlt (by omega)
      rw [gtT_iff] at hsrt
      refine Ev.ifp h0 (Ev.ifp ho.2 ?_)
      rw [ew, rd_at hj]
      refine Ev.ifp (by omega) (Ev.ifp (by omega) (Ev.ifp hp.1 (Ev.ifp hp.2 (Ev.ifn (by omega) ?_))))
      by_cases he : rd l (grt l)[j + 1] = rd l (grt l)[j]
      · exact Ev.ifp he (Ev.ifn (by omega) hih)
      · exact Ev.ifn he hih
    · exact Ev.ifn h0 hih
theorem OrderFalls_ev (l : List Int) : Ev (fun k => greenwoodlaw08_OrderFalls.f k l) true := by
  unfold greenwoodlaw08_OrderFalls.f
  refine Ev.bind fixed_ev (Ev.ifp rfl ?_)
  refine Ev.step (fun k => by rw [greenwoodlaw08_OrderFalls.j0]) ?_
  by_cases h : (l.length : Int) > 100
  · exact Ev.ifp (by simpa using h) (Ev.bind fixed_ev (Ev.val rfl))
  · refine Ev.ifn (by simpa using h) (Ev.bind (ogrt_ev (by omega)) (Ev.ifp (by omega) (Ev.ifp (by omega) ?_)))
    rw [Int.toNat_natCast]
    exact falls_l0 (by omega) l.length 0 _ rfl (Nat.zero_le _) (by simpa using seen_nil l.length)
end Go.Proofs.Ytlpjlgjhhmfnlaa.P
/- What came in, opened kind by kind: an argument's reading tells a list (of lists ..) that its cells hold. -/
namespace Go.Proofs.Ytlpjlgjhhmfnlaa.P
open Go.RowKit Go.Proofs.YtlpjlgjhhmfnlaaW.PrintWords Go.Proofs.YtlpjlgjhhmfnlaaW.PrintLast Go.Proofs.YtlpjlgjhhmfnlaaW.PrintMore
set_option linter.unusedVariables false
set_option linter.unusedSimpArgs false

structure Opens (P : Program) (t : TypeId) {α : Type} (d : Kd α) (q : α → Prop) : Prop where
  sz : P.cellsOf t = d.sz
  op : ∀ {H : Type} {enc : TypeId × Value → H} {w : World} {base fuel : Nat} {held : Bool} {cs : List Value} {x : DataW H × List MemPlace}, DataW.trod enc P w base (fun _ => true) held fuel t cs = some x → ∃ a : α, d.K w a cs ∧ q a
section
variable {P : Program} {α : Type} {d : Kd α} {q : α → Prop}
theorem opens_int {t : TypeId} {k : IntKind} (ht : P.underlying t = some (.int k)) (hs : P.cellsOf t = 1) : Opens P t (Kd.int k) (fun n => (Lit.int k n).wf = true) :=
  ⟨hs, fun h => by
    obtain ⟨n, rfl, _, hw⟩ := DataW.trod_int ht h
    exact ⟨n, rfl, hw⟩⟩
theorem Opens.mono {t : TypeId} {q' : α → Prop} (h : Opens P t d q) (hq : ∀ a, q a → q' a) : Opens P t d q' :=
  ⟨h.sz, fun ht => by obtain ⟨a, hk, ha⟩ := h.op ht; exact ⟨a, hk, hq a ha⟩⟩
theorem opens_slice {t e : TypeId} (e' : Nat) (ht : P.underlying t = some (.slice e)) (hs : P.cellsOf t = 1) (h : Opens P e d q) : Opens P t (Kd.slice e' d) (fun l => l.length ≤ maxLen ∧ ∀ x ∈ l, q x) :=
  ⟨hs, fun {H enc w base fuel held cs x} htr => by
    rcases Deep.open_slice ht htr with ⟨rfl, _⟩ | ⟨a, len, cap, m, n, D, Pl, rfl, hb, hl, hm, hmm, _, hx⟩
    · exact ⟨[], ⟨none, 0, rfl, Nat.le_refl _, Kd.C_nil d w⟩, Nat.zero_le _, fun x hx => by cases hx⟩
    · simp only [if_true] at hmm
      have each : ∀ i, i < len → ∃ y : α, (∃ cs', w.cells? base (a.add (i * P.cellsOf e)) (P.cellsOf e) = some cs' ∧ d.K w y cs') ∧ q y := by
        intro i hi
        obtain ⟨cs', h1, h2⟩ := hx i (by omega)
        obtain ⟨y, hy, hqy⟩ := h.op h2
        exact ⟨y, ⟨cs', h1, hy⟩, hqy⟩
      by_cases h0 : len = 0
      · subst h0
        refine ⟨[], ⟨some a, cap, rfl, Nat.zero_le _, rfl, by simp, fun h => absurd h (Nat.lt_irrefl 0)⟩, Nat.zero_le _, fun x hx => by cases hx⟩
      · obtain ⟨y0, _, _⟩ := each 0 (by omega)
        have : Inhabited α := ⟨y0⟩
        obtain ⟨f, hf⟩ := Deep.choose_lt each
        have hlen : ((List.range len).map f).length = len := by simp
        refine ⟨(List.range len).map f, ⟨some a, cap, by rw [hlen], by rw [hlen]; exact hl, ⟨rfl, by rw [hlen]; unfold maxLen at hm; omega, fun _ => ⟨a, rfl, fun j p hj => ?_⟩⟩⟩, by rw [hlen]; omega, fun x hx => ?_⟩
        · have hjl := (List.getElem?_eq_some_iff.1 hj).1
          rw [hlen] at hjl
          rw [List.getElem?_map, List.getElem?_range hjl] at hj
          have hj' : f j = p := by simpa using hj
          subst hj'
          obtain ⟨⟨cs', h1, h2⟩, _⟩ := hf j hjl
          obtain ⟨_, hcl, hcell⟩ := World.cells?_some h1
          refine ⟨cs', by rw [hcl, h.sz], h2, fun i u hu => ?_⟩
          have hil := (List.getElem?_eq_some_iff.1 hu).1
          have := hcell i (by omega)
          rw [Deep.add_add, hu, h.sz] at this
          exact this
        · obtain ⟨i, hi, rfl⟩ := List.mem_map.1 hx
          exact (hf i (List.mem_range.1 hi)).2⟩
/-- an argument that is a slice -/
theorem Opens.arg {t : TypeId} {e' : Nat} (h : Opens P t (Kd.slice e' d) (fun l => l.length ≤ maxLen ∧ ∀ x ∈ l, q x)) {H : Type} {enc : TypeId × Value → H} {w : World} {base : Nat} {held : Bool} {v : Value} {dd : DataW H} {ps : List MemPlace} {a : Option Addr} {len cap : Nat} (hv : v = .slice a len cap)
    (ht : DataW.Trod enc P w base (fun _ => true) held t v dd ps) : ∃ l : List α, len = l.length ∧ l.length ≤ cap ∧ d.C w a l.length l ∧ l.length ≤ maxLen ∧ ∀ x ∈ l, q x := by
  obtain ⟨fuel, hf⟩ := ht
  obtain ⟨l, ⟨A, c, hcs, hl, hC⟩, hq1, hq2⟩ := h.op hf
  subst hv
  simp only [Value.cells] at hcs
  have hcs' : Value.slice a len cap = Value.slice A l.length c := by simpa using hcs
  injection hcs' with e1 e2 e3
  subst e1 e2 e3
  exact ⟨l, rfl, hl, hC, hq1, hq2⟩
end
end Go.Proofs.Ytlpjlgjhhmfnlaa.P
