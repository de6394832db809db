-- written by wip/tool/ownprint.py of this claim's own repository, out of the translation's print
import Derived.Test.YtelinpgfjgoofaaPx0
namespace Go.Proofs.Ytelinpgfjgoofaa.P
open Go.RowKit Go.Proofs.YtelinpgfjgoofaaW.PrintWords Go.Proofs.YtelinpgfjgoofaaW.PrintLast Go.Proofs.YtelinpgfjgoofaaW.PrintMore
attribute [local go_sem] max2_int min2_int max_two min_two max_three min_three max_four min_four   -- for this text's walks alone
set_option linter.unusedVariables false
set_option linter.unusedSimpArgs false

/-! ### modp_may: function 18 -/
def modp_may.f (a0 : Int) : Option (Bool) := if a0 ≥ 1 then (some (decide (a0 ≤ 2147483647))) else (some false)
set_option maxHeartbeats 8000000 in
set_option maxRecDepth 100000 in
theorem modp_may.calls (a0 : Int) (r : Bool) (w : World) (h : modp_may.f a0 = some r) :
    Calls Try.prog 18 #[.int .i64 a0] w fun e w' => e = .returned (.bool r) ∧ Drawn0 w w' := by
  have H : (if a0 ≥ 1 then (some (decide (a0 ≤ 2147483647))) else (some false)) = some r := h
  clear h
  by_cases c2 : a0 ≥ 1
  · rw [if_pos c2] at H
    have c2b0 : decide (1 ≤ a0) = true := decide_eq_true c2
    clear c2
    obtain rfl := Option.some.inj H
    go_enter Try.func18, Try.ntmps18
    go_wp2
    go_ret
    exact ⟨by first | rfl | (simp; done) | (simp [*]; done), by repeat (first | exact Drawn0.refl _ | apply Drawn0.step)⟩
  · rw [if_neg c2] at H
    have c2b0 : decide (1 ≤ a0) = false := decide_eq_false c2
    clear c2
    obtain rfl := Option.some.inj H
    go_enter Try.func18, Try.ntmps18
    go_wp2
    go_ret
    exact ⟨by first | rfl | (simp; done) | (simp [*]; done), by repeat (first | exact Drawn0.refl _ | apply Drawn0.step)⟩

/-! ### modp_Mod: function 13 -/
def modp_Mod.f (a0 : Int) (a1 : Int) : Option (Int) := (modp_may.f a1).bind fun t101 => (if t101 = true then (if a1 = 0 then (none) else (if (Int.tmod a0 a1) < 0 then (some (wrap64 ((Int.tmod a0 a1) + a1))) else (some (Int.tmod a0 a1)))) else (some 0))
set_option maxHeartbeats 8000000 in
set_option maxRecDepth 100000 in
theorem modp_Mod.calls (a0 : Int) (a1 : Int) (r : Int) (w : World) (h : modp_Mod.f a0 a1 = some r) :
    Calls Try.prog 13 #[.int .i64 a0, .int .i64 a1] w fun e w' => e = .returned (.int .i64 r) ∧ Drawn0 w w' := by
  have H : ((modp_may.f a1).bind fun t101 => (if t101 = true then (if a1 = 0 then (none) else (if (Int.tmod a0 a1) < 0 then (some (wrap64 ((Int.tmod a0 a1) + a1))) else (some (Int.tmod a0 a1)))) else (some 0))) = some r := h
  clear h
  replace H := Option.bind_eq_some_iff.mp H
  obtain ⟨t101, A30, H⟩ := H
  replace H : (if t101 = true then (if a1 = 0 then (none) else (if (Int.tmod a0 a1) < 0 then (some (wrap64 ((Int.tmod a0 a1) + a1))) else (some (Int.tmod a0 a1)))) else (some 0)) = some r := H
  have A3 := Aside0.mk A30
  clear A30
  by_cases c4 : t101 = true
  · subst c4
    have H1 : (if a1 = 0 then (none) else (if (Int.tmod a0 a1) < 0 then (some (wrap64 ((Int.tmod a0 a1) + a1))) else (some (Int.tmod a0 a1)))) = some r := by rw [if_pos rfl] at H; exact H
    clear H
    have H := H1
    clear H1
    by_cases c5 : a1 = 0
    · rw [if_pos c5] at H
      exact absurd H (by simp)
    · rw [if_neg c5] at H
      have c5b0 : (a1 == 0) = false := beq_eq_false_iff_ne.mpr c5
      have c5b1 : (a1 != 0) = true := bne_iff_ne.mpr c5
      by_cases c6 : (Int.tmod a0 a1) < 0
      · rw [if_pos c6] at H
        have c6b0 : decide ((Int.tmod a0 a1) < 0) = true := decide_eq_true c6
        clear c6
        obtain rfl := Option.some.inj H
        go_enter Try.func13, Try.ntmps13
        go_wp2_with (first | ((with_reducible refine gate_callee (f := 18) rfl ?_); refine goesL_ (some 6) rfl rfl Try.func18 (by kernel_rfl) rfl #[.int .i64 a1] rfl (by (try simp only [List.map_toArray, List.map_cons, List.map_nil]); first | done | rfl | (simp only [List.length_drop, List.length_take]; rfl)) ?_; (with_reducible refine (modp_may.calls a1 true _ A3.out).mono ?_); rintro e w' ⟨rfl, ⟨nd, rfl⟩⟩; refine ⟨_, rfl, ?_⟩))
        go_ret
        exact ⟨by first | rfl | (simp; done) | (simp [*]; done), by repeat (first | exact Drawn0.refl _ | apply Drawn0.step)⟩
      · rw [if_neg c6] at H
        have c6b0 : decide ((Int.tmod a0 a1) < 0) = false := decide_eq_false c6
        clear c6
        obtain rfl := Option.some.inj H
        go_enter Try.func13, Try.ntmps13
        go_wp2_with (first | ((with_reducible refine gate_callee (f := 18) rfl ?_); refine goesL_ (some 6) rfl rfl Try.func18 (by kernel_rfl) rfl #[.int .i64 a1] rfl (by (try simp only [List.map_toArray, List.map_cons, List.map_nil]); first | done | rfl | (simp only [List.length_drop, List.length_take]; rfl)) ?_; (with_reducible refine (modp_may.calls a1 true _ A3.out).mono ?_); rintro e w' ⟨rfl, ⟨nd, rfl⟩⟩; refine ⟨_, rfl, ?_⟩))
        go_ret
        exact ⟨by first | rfl | (simp; done) | (simp [*]; done), by repeat (first | exact Drawn0.refl _ | apply Drawn0.step)⟩
  · replace c4 := Bool.eq_false_iff.mpr c4
    subst c4
    have H1 : (some 0) = some r := by rw [if_neg (show ¬ (false = true) by decide)] at H; exact H
    clear H
    have H := H1
    clear H1
    obtain rfl := Option.some.inj H
    go_enter Try.func13, Try.ntmps13
    go_wp2_with (first | ((with_reducible refine gate_callee (f := 18) rfl ?_); refine goesL_ (some 6) rfl rfl Try.func18 (by kernel_rfl) rfl #[.int .i64 a1] rfl (by (try simp only [List.map_toArray, List.map_cons, List.map_nil]); first | done | rfl | (simp only [List.length_drop, List.length_take]; rfl)) ?_; (with_reducible refine (modp_may.calls a1 false _ A3.out).mono ?_); rintro e w' ⟨rfl, ⟨nd, rfl⟩⟩; refine ⟨_, rfl, ?_⟩))
    go_ret
    exact ⟨by first | rfl | (simp; done) | (simp [*]; done), by repeat (first | exact Drawn0.refl _ | apply Drawn0.step)⟩

/-! ### modp_Pow: function 15 -/
mutual
def modp_Pow.j0 : Nat → Int → Int → Int → Bool → Option (Int)
  | 0, _, _, _, _ => none
  | k + 1, x0, x1, x2, x14 => if x14 = true then (some 0) else ((modp_Mod.f x0 x2).bind fun t103 => ((modp_Mod.f 1 x2).bind fun t104 => (modp_Pow.l0 k t103 x1 x2 t104)))
def modp_Pow.l0 : Nat → Int → Int → Int → Int → Option (Int)
  | 0, _, _, _, _ => none
  | k + 1, x0, x1, x2, x7 => if x1 > 0 then (if (Go.bits .and .i64 x1 1) = 1 then (if x2 = 0 then (none) else (modp_Pow.l0 k (Int.tmod (wrap64 (x0 * x0)) x2) (x1 / 2) x2 (Int.tmod (wrap64 (x7 * x0)) x2))) else (if x2 = 0 then (none) else (modp_Pow.l0 k (Int.tmod (wrap64 (x0 * x0)) x2) (x1 / 2) x2 x7))) else (some x7)
end
def modp_Pow.f (k : Nat) (a0 : Int) (a1 : Int) (a2 : Int) : Option (Int) := (modp_may.f a2).bind fun t102 => (if t102 = true then (modp_Pow.j0 k a0 a1 a2 (decide (a1 < 0))) else (modp_Pow.j0 k a0 a1 a2 true))
theorem modp_Pow.mono_l : ∀ k, (∀ y0 y1 y2 y3, LeO (modp_Pow.j0 k y0 y1 y2 y3) (modp_Pow.j0 (k + 1) y0 y1 y2 y3)) ∧ (∀ y0 y1 y2 y3, LeO (modp_Pow.l0 k y0 y1 y2 y3) (modp_Pow.l0 (k + 1) y0 y1 y2 y3))
  | 0 => ⟨fun _ _ _ _ r h => by simp [modp_Pow.j0] at h, fun _ _ _ _ r h => by simp [modp_Pow.l0] at h⟩
  | k + 1 => by
    obtain ⟨ih0, ih1⟩ := modp_Pow.mono_l k
    refine ⟨?_, ?_⟩
    · intro y0 y1 y2 y3
      unfold modp_Pow.j0
      repeat' first
      | (with_reducible exact ih0 _ _ _ _)
      | (with_reducible exact ih1 _ _ _ _)
      | (with_reducible exact LeO.refl _)
      | (with_reducible exact LeO.none _)
      | (with_reducible refine LeO.ite ?_ ?_)
      | (with_reducible refine LeO.bind ?_ (fun _ => ?_))
      | exact ih0 _ _ _ _
      | exact ih1 _ _ _ _
      | exact LeO.none _
      | refine LeO.ite ?_ ?_
      | refine LeO.bind ?_ (fun _ => ?_)
    · intro y0 y1 y2 y3
      unfold modp_Pow.l0
      repeat' first
      | (with_reducible exact ih0 _ _ _ _)
      | (with_reducible exact ih1 _ _ _ _)
      | (with_reducible exact LeO.refl _)
      | (with_reducible exact LeO.none _)
      | (with_reducible refine LeO.ite ?_ ?_)
      | (with_reducible refine LeO.bind ?_ (fun _ => ?_))
      | exact ih0 _ _ _ _
      | exact ih1 _ _ _ _
      | exact LeO.none _
      | refine LeO.ite ?_ ?_
      | refine LeO.bind ?_ (fun _ => ?_)
theorem modp_Pow.mono : ∀ a0 a1 a2 k, LeO (modp_Pow.f k a0 a1 a2) (modp_Pow.f (k + 1) a0 a1 a2) := by
  intro a0 a1 a2 k
  obtain ⟨ih0, ih1⟩ := modp_Pow.mono_l k
  unfold modp_Pow.f
  repeat' first
      | (with_reducible exact ih0 _ _ _ _)
      | (with_reducible exact ih1 _ _ _ _)
      | (with_reducible exact LeO.refl _)
      | (with_reducible exact LeO.none _)
      | (with_reducible refine LeO.ite ?_ ?_)
      | (with_reducible refine LeO.bind ?_ (fun _ => ?_))
      | exact ih0 _ _ _ _
      | exact ih1 _ _ _ _
      | exact LeO.none _
      | refine LeO.ite ?_ ?_
      | refine LeO.bind ?_ (fun _ => ?_)
set_option maxHeartbeats 8000000 in
set_option maxRecDepth 100000 in
theorem modp_Pow.calls (k : Nat) (a0 : Int) (a1 : Int) (a2 : Int) (r : Int) (w : World) (h : modp_Pow.f k a0 a1 a2 = some r) :
    Calls Try.prog 15 #[.int .i64 a0, .int .i64 a1, .int .i64 a2] w fun e w' => e = .returned (.int .i64 r) ∧ Drawn0 w w' := by
  have H : ((modp_may.f a2).bind fun t102 => (if t102 = true then (modp_Pow.j0 k a0 a1 a2 (decide (a1 < 0))) else (modp_Pow.j0 k a0 a1 a2 true))) = some r := h
  clear h
  have HC4 := Aside0.mk H
  clear H
  go_enter Try.func15, Try.ntmps15
  go_upto_region 1 with (fail)
  go_cut [14] (fun v14 wc => ∃ (kq : Nat) (x14_3 : Bool), v14 = .bool x14_3 ∧ Aside0 (modp_Pow.j0 kq a0 a1 a2 x14_3 = some r) ∧ Aside0 (kq ≤ k) ∧ Drawn0 w wc)
  case first =>
    have H := HC4.out
    clear HC4
    replace H := Option.bind_eq_some_iff.mp H
    obtain ⟨t102, A50, H⟩ := H
    replace H : (if t102 = true then (modp_Pow.j0 k a0 a1 a2 (decide (a1 < 0))) else (modp_Pow.j0 k a0 a1 a2 true)) = some r := H
    have A5 := Aside0.mk A50
    clear A50
    by_cases c6 : t102 = true
    · subst c6
      have H1 : (modp_Pow.j0 k a0 a1 a2 (decide (a1 < 0))) = some r := by rw [if_pos rfl] at H; exact H
      clear H
      have H := H1
      clear H1
      have H' := Aside0.mk H
      clear H
      go_wp2_with (first | ((with_reducible refine gate_callee (f := 18) rfl ?_); refine goesL_ (some 9) rfl rfl Try.func18 (by kernel_rfl) rfl #[.int .i64 a2] rfl (by (try simp only [List.map_toArray, List.map_cons, List.map_nil]); first | done | rfl | (simp only [List.length_drop, List.length_take]; rfl)) ?_; (with_reducible refine (modp_may.calls a2 true _ A5.out).mono ?_); rintro e w' ⟨rfl, ⟨nd, rfl⟩⟩; refine ⟨_, rfl, ?_⟩))
      go_meet
      case rel => exact ⟨_, (decide (a1 < 0)), (by first | rfl | (simp; done) | (simp [*]; done)), H', ⟨by first | omega | exact Nat.le_refl _⟩, by repeat (first | exact Drawn0.refl _ | apply Drawn0.step)⟩
    · replace c6 := Bool.eq_false_iff.mpr c6
      subst c6
      have H1 : (modp_Pow.j0 k a0 a1 a2 true) = some r := by rw [if_neg (show ¬ (false = true) by decide)] at H; exact H
      clear H
      have H := H1
      clear H1
      have H' := Aside0.mk H
      clear H
      go_wp2_with (first | ((with_reducible refine gate_callee (f := 18) rfl ?_); refine goesL_ (some 9) rfl rfl Try.func18 (by kernel_rfl) rfl #[.int .i64 a2] rfl (by (try simp only [List.map_toArray, List.map_cons, List.map_nil]); first | done | rfl | (simp only [List.length_drop, List.length_take]; rfl)) ?_; (with_reducible refine (modp_may.calls a2 false _ A5.out).mono ?_); rintro e w' ⟨rfl, ⟨nd, rfl⟩⟩; refine ⟨_, rfl, ?_⟩))
      go_meet
      case rel => exact ⟨_, (true), (by first | rfl | (simp; done) | (simp [*]; done)), H', ⟨by first | omega | exact Nat.le_refl _⟩, by repeat (first | exact Drawn0.refl _ | apply Drawn0.step)⟩
  case rest =>
    clear HC4
    try clear c1
    try clear p2
    try clear c6
    obtain ⟨kq, x14_3, rfl, HA, HJ3, ⟨mc3, rfl⟩⟩ := hcut
    cases kq with
    | zero => exact absurd HA.out (by simp [modp_Pow.j0])
    | succ kj3 =>
      have H := HA.out
      clear HA
      simp only [modp_Pow.j0] at H
      by_cases c7 : x14_3 = true
      · subst c7
        have H1 : (some 0) = some r := by rw [if_pos rfl] at H; exact H
        clear H
        have H := H1
        clear H1
        obtain rfl := Option.some.inj H
        go_wp2
        go_ret
        exact ⟨by first | rfl | (simp; done) | (simp [*]; done), by repeat (first | exact Drawn0.refl _ | apply Drawn0.step)⟩
      · replace c7 := Bool.eq_false_iff.mpr c7
        subst c7
        have H1 : ((modp_Mod.f a0 a2).bind fun t103 => ((modp_Mod.f 1 a2).bind fun t104 => (modp_Pow.l0 kj3 t103 a1 a2 t104))) = some r := by rw [if_neg (show ¬ (false = true) by decide)] at H; exact H
        clear H
        have H := H1
        clear H1
        replace H := Option.bind_eq_some_iff.mp H
        obtain ⟨t103, A80, H⟩ := H
        replace H : ((modp_Mod.f 1 a2).bind fun t104 => (modp_Pow.l0 kj3 t103 a1 a2 t104)) = some r := H
        have A8 := Aside0.mk A80
        clear A80
        replace H := Option.bind_eq_some_iff.mp H
        obtain ⟨t104, A90, H⟩ := H
        replace H : (modp_Pow.l0 kj3 t103 a1 a2 t104) = some r := H
        have A9 := Aside0.mk A90
        clear A90
        have H' := Aside0.mk H
        clear H
        go_wp2_with (first | ((with_reducible refine gate_callee (f := 13) rfl ?_); refine goesL_ (some 17) rfl rfl Try.func13 (by kernel_rfl) rfl #[.int .i64 a0, .int .i64 a2] rfl (by (try simp only [List.map_toArray, List.map_cons, List.map_nil]); first | done | rfl | (simp only [List.length_drop, List.length_take]; rfl)) ?_; (with_reducible refine (modp_Mod.calls a0 a2 t103 _ A8.out).mono ?_); rintro e w' ⟨rfl, ⟨nd, rfl⟩⟩; refine ⟨_, rfl, ?_⟩) | ((with_reducible refine gate_callee (f := 13) rfl ?_); refine goesL_ (some 19) rfl rfl Try.func13 (by kernel_rfl) rfl #[.int .i64 1, .int .i64 a2] rfl (by (try simp only [List.map_toArray, List.map_cons, List.map_nil]); first | done | rfl | (simp only [List.length_drop, List.length_take]; rfl)) ?_; (with_reducible refine (modp_Mod.calls 1 a2 t104 _ A9.out).mono ?_); rintro e w' ⟨rfl, ⟨nd, rfl⟩⟩; refine ⟨_, rfl, ?_⟩))
        go_loopg [0, 1, 7] kj3 (fun kq v0 v1 v7 w' => ∃ (x0_2 : Int) (x1_2 : Int) (x7_2 : Int), v0 = .int .i64 x0_2 ∧ v1 = .int .i64 x1_2 ∧ v7 = .int .i64 x7_2 ∧ Aside0 (modp_Pow.l0 kq x0_2 x1_2 a2 x7_2 = some r) ∧ Aside0 (kq ≤ kj3) ∧ Drawn0 w w')
        case atStart => exact ⟨(t103), (a1), (t104), (by first | rfl | (simp; done) | (simp [*]; done)), (by first | rfl | (simp; done) | (simp [*]; done)), (by first | rfl | (simp; done) | (simp [*]; done)), H', ⟨Nat.le_refl _⟩, by repeat (first | exact Drawn0.refl _ | apply Drawn0.step)⟩
        case round =>
          clear H'
          try clear c1
          try clear p2
          try clear c3
          try clear c6
          try clear c7
          try clear p2
          obtain ⟨x0_2, x1_2, x7_2, rfl, rfl, rfl, HA, HK2, ⟨m2, rfl⟩⟩ := hrel
          cases gk with
          | zero => exact absurd HA.out (by simp [modp_Pow.l0])
          | succ k2 =>
            have H := HA.out
            clear HA
            simp only [modp_Pow.l0] at H
            by_cases c10 : x1_2 > 0
            · rw [if_pos c10] at H
              have c10b0 : decide (0 < x1_2) = true := decide_eq_true c10
              clear c10
              by_cases c11 : (Go.bits .and .i64 x1_2 1) = 1
              · rw [if_pos c11] at H
                have c11b0 : ((Go.bits .and .i64 x1_2 1) == 1) = true := beq_iff_eq.mpr c11
                have c11b1 : ((Go.bits .and .i64 x1_2 1) != 1) = false := bne_eq_false_iff_eq.mpr c11
                clear c11
                by_cases c12 : a2 = 0
                · rw [if_pos c12] at H
                  exact absurd H (by simp)
                · rw [if_neg c12] at H
                  have c12b0 : (a2 == 0) = false := beq_eq_false_iff_ne.mpr c12
                  have c12b1 : (a2 != 0) = true := bne_iff_ne.mpr c12
                  have H' := Aside0.mk H
                  clear H
                  go_wp2
                  go_roundg k2
                  case measure => have := HJ3.out; have := HK2.out; omega
                  case rel => exact ⟨(Int.tmod (wrap64 (x0_2 * x0_2)) a2), (x1_2 / 2), (Int.tmod (wrap64 (x7_2 * x0_2)) a2), (by first | rfl | (simp; done) | (simp [*]; done)), (by first | rfl | (simp; done) | (simp [*]; done)), (by first | rfl | (simp; done) | (simp [*]; done)), H', ⟨by have := HJ3.out; have := HK2.out; omega⟩, by repeat (first | exact Drawn0.refl _ | apply Drawn0.step)⟩
              · rw [if_neg c11] at H
                have c11b0 : ((Go.bits .and .i64 x1_2 1) == 1) = false := beq_eq_false_iff_ne.mpr c11
                have c11b1 : ((Go.bits .and .i64 x1_2 1) != 1) = true := bne_iff_ne.mpr c11
                by_cases c13 : a2 = 0
                · rw [if_pos c13] at H
                  exact absurd H (by simp)
                · rw [if_neg c13] at H
                  have c13b0 : (a2 == 0) = false := beq_eq_false_iff_ne.mpr c13
                  have c13b1 : (a2 != 0) = true := bne_iff_ne.mpr c13
                  have H' := Aside0.mk H
                  clear H
                  go_wp2
                  go_roundg k2
                  case measure => have := HJ3.out; have := HK2.out; omega
                  case rel => exact ⟨(Int.tmod (wrap64 (x0_2 * x0_2)) a2), (x1_2 / 2), (x7_2), (by first | rfl | (simp; done) | (simp [*]; done)), (by first | rfl | (simp; done) | (simp [*]; done)), (by first | rfl | (simp; done) | (simp [*]; done)), H', ⟨by have := HJ3.out; have := HK2.out; omega⟩, by repeat (first | exact Drawn0.refl _ | apply Drawn0.step)⟩
            · rw [if_neg c10] at H
              have c10b0 : decide (0 < x1_2) = false := decide_eq_false c10
              clear c10
              obtain rfl := Option.some.inj H
              go_wp2
              go_ret
              exact ⟨by first | rfl | (simp; done) | (simp [*]; done), by repeat (first | exact Drawn0.refl _ | apply Drawn0.step)⟩

/-! ### modp_witness: function 17 -/
mutual
def modp_witness.j0 : Nat → Int → Int → Int → Bool → Option (Bool)
  | 0, _, _, _, _ => none
  | k + 1, x2, x3, x9, x25 => if x25 = true then (some false) else (modp_witness.l0 k x3 x9 (wrap64 (x2 - 1)) 0)
def modp_witness.l0 : Nat → Int → Int → Int → Int → Option (Bool)
  | 0, _, _, _, _ => none
  | k + 1, x3, x9, x27, x28 => if x28 < x27 then (if x3 = 0 then (none) else (if (Int.tmod (wrap64 (x9 * x9)) x3) = (wrap64 (x3 - 1)) then (some false) else (modp_witness.l0 k x3 (Int.tmod (wrap64 (x9 * x9)) x3) x27 (wrap64 (x28 + 1))))) else (some true)
end
def modp_witness.f (k : Nat) (a0 : Int) (a1 : Int) (a2 : Int) (a3 : Int) : Option (Bool) := (modp_Pow.f k a0 a1 a3).bind fun t105 => (if t105 = 1 then (modp_witness.j0 k a2 a3 t105 true) else (if t105 = (wrap64 (a3 - 1)) then (modp_witness.j0 k a2 a3 t105 true) else (modp_witness.j0 k a2 a3 t105 (t105 == 0))))
theorem modp_witness.mono_l : ∀ k, (∀ y0 y1 y2 y3, LeO (modp_witness.j0 k y0 y1 y2 y3) (modp_witness.j0 (k + 1) y0 y1 y2 y3)) ∧ (∀ y0 y1 y2 y3, LeO (modp_witness.l0 k y0 y1 y2 y3) (modp_witness.l0 (k + 1) y0 y1 y2 y3))
  | 0 => ⟨fun _ _ _ _ r h => by simp [modp_witness.j0] at h, fun _ _ _ _ r h => by simp [modp_witness.l0] at h⟩
  | k + 1 => by
    obtain ⟨ih0, ih1⟩ := modp_witness.mono_l k
    refine ⟨?_, ?_⟩
    · intro y0 y1 y2 y3
      unfold modp_witness.j0
      repeat' first
      | (with_reducible exact ih0 _ _ _ _)
      | (with_reducible exact ih1 _ _ _ _)
      | (with_reducible exact modp_Pow.mono _ _ _ _)
      | (with_reducible exact LeO.refl _)
      | (with_reducible exact LeO.none _)
      | (with_reducible refine LeO.ite ?_ ?_)
      | (with_reducible refine LeO.bind ?_ (fun _ => ?_))
      | exact ih0 _ _ _ _
      | exact ih1 _ _ _ _
      | exact modp_Pow.mono _ _ _ _
      | exact LeO.none _
      | refine LeO.ite ?_ ?_
      | refine LeO.bind ?_ (fun _ => ?_)
    · intro y0 y1 y2 y3
      unfold modp_witness.l0
      repeat' first
      | (with_reducible exact ih0 _ _ _ _)
      | (with_reducible exact ih1 _ _ _ _)
      | (with_reducible exact modp_Pow.mono _ _ _ _)
      | (with_reducible exact LeO.refl _)
      | (with_reducible exact LeO.none _)
      | (with_reducible refine LeO.ite ?_ ?_)
      | (with_reducible refine LeO.bind ?_ (fun _ => ?_))
      | exact ih0 _ _ _ _
      | exact ih1 _ _ _ _
      | exact modp_Pow.mono _ _ _ _
      | exact LeO.none _
      | refine LeO.ite ?_ ?_
      | refine LeO.bind ?_ (fun _ => ?_)
theorem modp_witness.mono : ∀ a0 a1 a2 a3 k, LeO (modp_witness.f k a0 a1 a2 a3) (modp_witness.f (k + 1) a0 a1 a2 a3) := by
  intro a0 a1 a2 a3 k
  obtain ⟨ih0, ih1⟩ := modp_witness.mono_l k
  unfold modp_witness.f
  repeat' first
      | (with_reducible exact ih0 _ _ _ _)
      | (with_reducible exact ih1 _ _ _ _)
      | (with_reducible exact modp_Pow.mono _ _ _ _)
      | (with_reducible exact LeO.refl _)
      | (with_reducible exact LeO.none _)
      | (with_reducible refine LeO.ite ?_ ?_)
      | (with_reducible refine LeO.bind ?_ (fun _ => ?_))
      | exact ih0 _ _ _ _
      | exact ih1 _ _ _ _
      | exact modp_Pow.mono _ _ _ _
      | exact LeO.none _
      | refine LeO.ite ?_ ?_
      | refine LeO.bind ?_ (fun _ => ?_)
set_option maxHeartbeats 8000000 in
set_option maxRecDepth 100000 in
theorem modp_witness.calls (k : Nat) (a0 : Int) (a1 : Int) (a2 : Int) (a3 : Int) (r : Bool) (w : World) (h : modp_witness.f k a0 a1 a2 a3 = some r) :
    Calls Try.prog 17 #[.int .i64 a0, .int .i64 a1, .int .i64 a2, .int .i64 a3] w fun e w' => e = .returned (.bool r) ∧ Drawn0 w w' := by
  have H : ((modp_Pow.f k a0 a1 a3).bind fun t105 => (if t105 = 1 then (modp_witness.j0 k a2 a3 t105 true) else (if t105 = (wrap64 (a3 - 1)) then (modp_witness.j0 k a2 a3 t105 true) else (modp_witness.j0 k a2 a3 t105 (t105 == 0))))) = some r := h
  clear h
  replace H := Option.bind_eq_some_iff.mp H
  obtain ⟨t105, A50, H⟩ := H
  replace H : (if t105 = 1 then (modp_witness.j0 k a2 a3 t105 true) else (if t105 = (wrap64 (a3 - 1)) then (modp_witness.j0 k a2 a3 t105 true) else (modp_witness.j0 k a2 a3 t105 (t105 == 0)))) = some r := H
  have A5 := Aside0.mk A50
  clear A50
  have HC6 := Aside0.mk H
  clear H
  go_enter Try.func17, Try.ntmps17
  go_upto_region 2 with (first | ((with_reducible refine gate_callee (f := 15) rfl ?_); refine goesL_ (some 13) rfl rfl Try.func15 (by kernel_rfl) rfl #[.int .i64 a0, .int .i64 a1, .int .i64 a3] rfl (by (try simp only [List.map_toArray, List.map_cons, List.map_nil]); first | done | rfl | (simp only [List.length_drop, List.length_take]; rfl)) ?_; (with_reducible refine (modp_Pow.calls k a0 a1 a3 t105 _ A5.out).mono ?_); rintro e w' ⟨rfl, ⟨nd, rfl⟩⟩; refine ⟨_, rfl, ?_⟩))
  (try simp only [Act.put, List.setIfInBounds_toArray, List.set_cons_zero, List.set_cons_succ])
  go_cut [25] (fun v25 wc => ∃ (kq : Nat) (x25_5 : Bool), v25 = .bool x25_5 ∧ Aside0 (modp_witness.j0 kq a2 a3 t105 x25_5 = some r) ∧ Aside0 (kq ≤ k) ∧ Drawn0 w wc)
  case first =>
    have H := HC6.out
    clear HC6
    by_cases c7 : t105 = 1
    · rw [if_pos c7] at H
      have c7b0 : (t105 == 1) = true := beq_iff_eq.mpr c7
      have c7b1 : (t105 != 1) = false := bne_eq_false_iff_eq.mpr c7
      clear c7
      (first | rw [c7b0] | (simp only [i64_w, i32_w]; rw [c7b0]) | skip)
      have H' := Aside0.mk H
      clear H
      go_wp2
      go_meet
      case rel => exact ⟨_, (true), (by first | rfl | (simp; done) | (simp [*]; done)), H', ⟨by first | omega | exact Nat.le_refl _⟩, by repeat (first | exact Drawn0.refl _ | apply Drawn0.step)⟩
    · rw [if_neg c7] at H
      have c7b0 : (t105 == 1) = false := beq_eq_false_iff_ne.mpr c7
      have c7b1 : (t105 != 1) = true := bne_iff_ne.mpr c7
      (first | rw [c7b0] | (simp only [i64_w, i32_w]; rw [c7b0]) | skip)
      by_cases c8 : t105 = (wrap64 (a3 - 1))
      · rw [if_pos c8] at H
        have c8b0 : (t105 == (wrap64 (a3 - 1))) = true := beq_iff_eq.mpr c8
        have c8b1 : (t105 != (wrap64 (a3 - 1))) = false := bne_eq_false_iff_eq.mpr c8
        clear c8
        have H' := Aside0.mk H
        clear H
        go_wp2
        go_meet
        case rel => exact ⟨_, (true), (by first | rfl | (simp; done) | (simp [*]; done)), H', ⟨by first | omega | exact Nat.le_refl _⟩, by repeat (first | exact Drawn0.refl _ | apply Drawn0.step)⟩
      · rw [if_neg c8] at H
        have c8b0 : (t105 == (wrap64 (a3 - 1))) = false := beq_eq_false_iff_ne.mpr c8
        have c8b1 : (t105 != (wrap64 (a3 - 1))) = true := bne_iff_ne.mpr c8
        have H' := Aside0.mk H
        clear H
        go_wp2
        go_meet
        case rel => exact ⟨_, ((t105 == 0)), (by first | rfl | (simp; done) | (simp [*]; done)), H', ⟨by first | omega | exact Nat.le_refl _⟩, by repeat (first | exact Drawn0.refl _ | apply Drawn0.step)⟩
  case rest =>
    clear HC6
    try clear c1
    try clear p2
    try clear p6
    try clear c7
    try clear c7b0
    try clear c7b1
    try clear c8
    try clear c8b0
    try clear c8b1
    obtain ⟨kq, x25_5, rfl, HA, HJ5, ⟨mc5, rfl⟩⟩ := hcut
    cases kq with
    | zero => exact absurd HA.out (by simp [modp_witness.j0])
    | succ kj5 =>
      have H := HA.out
      clear HA
      simp only [modp_witness.j0] at H
      by_cases c9 : x25_5 = true
      · subst c9
        have H1 : (some false) = some r := by rw [if_pos rfl] at H; exact H
        clear H
        have H := H1
        clear H1
        obtain rfl := Option.some.inj H
        go_wp2
        go_ret
        exact ⟨by first | rfl | (simp; done) | (simp [*]; done), by repeat (first | exact Drawn0.refl _ | apply Drawn0.step)⟩
      · replace c9 := Bool.eq_false_iff.mpr c9
        subst c9
        have H1 : (modp_witness.l0 kj5 a3 t105 (wrap64 (a2 - 1)) 0) = some r := by rw [if_neg (show ¬ (false = true) by decide)] at H; exact H
        clear H
        have H := H1
        clear H1
        have H' := Aside0.mk H
        clear H
        go_wp2
        go_loopg [9, 28] kj5 (fun kq v9 v28 w' => ∃ (x9_2 : Int) (x28_2 : Int), v9 = .int .i64 x9_2 ∧ v28 = .int .i64 x28_2 ∧ Aside0 (modp_witness.l0 kq a3 x9_2 (wrap64 (a2 - 1)) x28_2 = some r) ∧ Aside0 (kq ≤ kj5) ∧ Drawn0 w w')
        case atStart => exact ⟨(t105), (0), (by first | rfl | (simp; done) | (simp [*]; done)), (by first | rfl | (simp; done) | (simp [*]; done)), H', ⟨Nat.le_refl _⟩, by repeat (first | exact Drawn0.refl _ | apply Drawn0.step)⟩
        case round =>
          clear H'
          try clear c1
          try clear p2
          try clear c5
          try clear p6
          try clear c7
          try clear c7b0
          try clear c7b1
          try clear c8
          try clear c8b0
          try clear c8b1
          try clear c9
          try clear p2
          try clear p6
          obtain ⟨x9_2, x28_2, rfl, rfl, HA, HK2, ⟨m2, rfl⟩⟩ := hrel
          cases gk with
          | zero => exact absurd HA.out (by simp [modp_witness.l0])
          | succ k2 =>
            have H := HA.out
            clear HA
            simp only [modp_witness.l0] at H
            by_cases c10 : x28_2 < (wrap64 (a2 - 1))
            · rw [if_pos c10] at H
              have c10b0 : decide (x28_2 < (wrap64 (a2 - 1))) = true := decide_eq_true c10
              clear c10
              by_cases c11 : a3 = 0
              · rw [if_pos c11] at H
                exact absurd H (by simp)
              · rw [if_neg c11] at H
                have c11b0 : (a3 == 0) = false := beq_eq_false_iff_ne.mpr c11
                have c11b1 : (a3 != 0) = true := bne_iff_ne.mpr c11
                by_cases c12 : (Int.tmod (wrap64 (x9_2 * x9_2)) a3) = (wrap64 (a3 - 1))
                · rw [if_pos c12] at H
                  have c12b0 : ((Int.tmod (wrap64 (x9_2 * x9_2)) a3) == (wrap64 (a3 - 1))) = true := beq_iff_eq.mpr c12
                  have c12b1 : ((Int.tmod (wrap64 (x9_2 * x9_2)) a3) != (wrap64 (a3 - 1))) = false := bne_eq_false_iff_eq.mpr c12
                  clear c12
                  obtain rfl := Option.some.inj H
                  go_wp2
                  go_ret
                  exact ⟨by first | rfl | (simp; done) | (simp [*]; done), by repeat (first | exact Drawn0.refl _ | apply Drawn0.step)⟩
                · rw [if_neg c12] at H
                  have c12b0 : ((Int.tmod (wrap64 (x9_2 * x9_2)) a3) == (wrap64 (a3 - 1))) = false := beq_eq_false_iff_ne.mpr c12
                  have c12b1 : ((Int.tmod (wrap64 (x9_2 * x9_2)) a3) != (wrap64 (a3 - 1))) = true := bne_iff_ne.mpr c12
                  have H' := Aside0.mk H
                  clear H
                  go_wp2
                  go_roundg k2
                  case measure => have := HJ5.out; have := HK2.out; omega
                  case rel => exact ⟨(Int.tmod (wrap64 (x9_2 * x9_2)) a3), (wrap64 (x28_2 + 1)), (by first | rfl | (simp; done) | (simp [*]; done)), (by first | rfl | (simp; done) | (simp [*]; done)), H', ⟨by have := HJ5.out; have := HK2.out; omega⟩, by repeat (first | exact Drawn0.refl _ | apply Drawn0.step)⟩
            · rw [if_neg c10] at H
              have c10b0 : decide (x28_2 < (wrap64 (a2 - 1))) = false := decide_eq_false c10
              clear c10
              obtain rfl := Option.some.inj H
              go_wp2
              go_ret
              exact ⟨by first | rfl | (simp; done) | (simp [*]; done), by repeat (first | exact Drawn0.refl _ | apply Drawn0.step)⟩

/-! ### modp_Prime: function 11 -/
def modp_Prime.at4 (k : Nat) (a0 d tw : Int) : List Int → Option Bool
  | [] => some true
  | q :: r => if a0 = q then some true else if (Int.tmod a0 q) = 0 then some false else (modp_witness.f k q d tw a0).bind fun t => if t = true then some false else modp_Prime.at4 k a0 d tw r
def modp_Prime.l0 : Nat → Int → Int → Int → Option Bool
  | 0, _, _, _ => none
  | k + 1, a0, d, tw => if (Int.tmod d 2) = 0 then modp_Prime.l0 k a0 (wrap64 (Int.tdiv d 2)) (wrap64 (tw + 1)) else modp_Prime.at4 k a0 d tw [2, 3, 5, 7]
def modp_Prime.f (k : Nat) (a0 : Int) : Option Bool :=
  if a0 < 2 then some (a0 == 2) else if a0 > 2147483647 then some (a0 == 2) else if (Int.tmod a0 2) = 0 then some (a0 == 2) else modp_Prime.l0 k a0 (wrap64 (a0 - 1)) 0
theorem modp_Prime.at4.mono (k : Nat) (a0 d tw : Int) : ∀ l, LeO (modp_Prime.at4 k a0 d tw l) (modp_Prime.at4 (k + 1) a0 d tw l) := by
  intro l
  induction l with
  | nil => exact LeO.refl _
  | cons q l ih =>
    unfold modp_Prime.at4
    exact LeO.ite (LeO.refl _) (LeO.ite (LeO.refl _) (LeO.bind (modp_witness.mono _ _ _ _ _) (fun _ => LeO.ite (LeO.refl _) ih)))
theorem modp_Prime.at4.mono_to (k : Nat) : ∀ k' : Nat, k ≤ k' → ∀ (a0 d tw : Int) l r, modp_Prime.at4 k a0 d tw l = some r → modp_Prime.at4 k' a0 d tw l = some r := by
  intro k' h
  induction h with
  | refl => intro a0 d tw l r h; exact h
  | step _ ih => intro a0 d tw l r h; exact modp_Prime.at4.mono _ a0 d tw l _ (ih a0 d tw l r h)
theorem modp_Prime.mono_l : ∀ k a0 d tw, LeO (modp_Prime.l0 k a0 d tw) (modp_Prime.l0 (k + 1) a0 d tw)
  | 0 => fun _ _ _ r h => by simp [modp_Prime.l0] at h
  | k + 1 => by
    intro a0 d tw
    unfold modp_Prime.l0
    exact LeO.ite (modp_Prime.mono_l k _ _ _) (modp_Prime.at4.mono _ _ _ _ _)
theorem modp_Prime.mono : ∀ a0 k, LeO (modp_Prime.f k a0) (modp_Prime.f (k + 1) a0) := by
  intro a0 k
  unfold modp_Prime.f
  exact LeO.ite (LeO.refl _) (LeO.ite (LeO.refl _) (LeO.ite (LeO.refl _) (modp_Prime.mono_l _ _ _ _)))
set_option maxHeartbeats 8000000 in
set_option maxRecDepth 100000 in
theorem modp_Prime.calls (k : Nat) (a0 : Int) (r : Bool) (w : World) (h : modp_Prime.f k a0 = some r) :
    Calls Try.prog 11 #[.int .i64 a0] w fun e w' => e = .returned (.bool r) ∧ Drawn0 w w' := by
  have H := h
  clear h
  unfold modp_Prime.f at H
  by_cases c1 : a0 < 2
  · rw [if_pos c1] at H
    have c1b : decide (a0 < 2) = true := decide_eq_true c1
    clear c1
    obtain rfl := Option.some.inj H
    go_enter Try.func11, Try.ntmps11
    go_wp2
    go_ret
    exact ⟨by first | rfl | (simp; done) | (simp [*]; done), by repeat (first | exact Drawn0.refl _ | apply Drawn0.step)⟩
  rw [if_neg c1] at H
  have c1b : decide (a0 < 2) = false := decide_eq_false c1
  clear c1
  by_cases c2 : a0 > 2147483647
  · rw [if_pos c2] at H
    have c2b : decide (2147483647 < a0) = true := decide_eq_true c2
    clear c2
    obtain rfl := Option.some.inj H
    go_enter Try.func11, Try.ntmps11
    go_wp2
    go_ret
    exact ⟨by first | rfl | (simp; done) | (simp [*]; done), by repeat (first | exact Drawn0.refl _ | apply Drawn0.step)⟩
  rw [if_neg c2] at H
  have c2b : decide (2147483647 < a0) = false := decide_eq_false c2
  clear c2
  by_cases c3 : (Int.tmod a0 2) = 0
  · rw [if_pos c3] at H
    have c3b : ((Int.tmod a0 2) == 0) = true := beq_iff_eq.mpr c3
    clear c3
    obtain rfl := Option.some.inj H
    go_enter Try.func11, Try.ntmps11
    go_wp2
    go_ret
    exact ⟨by first | rfl | (simp; done) | (simp [*]; done), by repeat (first | exact Drawn0.refl _ | apply Drawn0.step)⟩
  rw [if_neg c3] at H
  have c3b : ((Int.tmod a0 2) == 0) = false := beq_eq_false_iff_ne.mpr c3
  clear c3
  have H' := Aside0.mk H
  clear H
  have ix0 : ∀ w, (Instr.index 32 (.agg #[.int .i64 2, .int .i64 3, .int .i64 5, .int .i64 7]) (.int .i64 0)).run Try.prog w = .ok (.int .i64 2) w := fun _ => by kernel_rfl
  have ix1 : ∀ w, (Instr.index 32 (.agg #[.int .i64 2, .int .i64 3, .int .i64 5, .int .i64 7]) (.int .i64 1)).run Try.prog w = .ok (.int .i64 3) w := fun _ => by kernel_rfl
  have ix2 : ∀ w, (Instr.index 32 (.agg #[.int .i64 2, .int .i64 3, .int .i64 5, .int .i64 7]) (.int .i64 2)).run Try.prog w = .ok (.int .i64 5) w := fun _ => by kernel_rfl
  have ix3 : ∀ w, (Instr.index 32 (.agg #[.int .i64 2, .int .i64 3, .int .i64 5, .int .i64 7]) (.int .i64 3)).run Try.prog w = .ok (.int .i64 7) w := fun _ => by kernel_rfl
  go_enter Try.func11, Try.ntmps11
  go_wp2
  go_loopg [3, 4] k (fun kq v3 v4 w' => ∃ (d tw : Int), v3 = .int .i64 d ∧ v4 = .int .i64 tw ∧ Aside0 (modp_Prime.l0 kq a0 d tw = some r) ∧ Aside0 (kq ≤ k) ∧ Drawn0 w w')
  case atStart => exact ⟨_, _, (by first | rfl | (simp; done) | (simp [*]; done)), (by first | rfl | (simp; done) | (simp [*]; done)), H', ⟨Nat.le_refl _⟩, by repeat (first | exact Drawn0.refl _ | apply Drawn0.step)⟩
  case round =>
    clear H'
    obtain ⟨d, tw, rfl, rfl, HA, HK, ⟨m, rfl⟩⟩ := hrel
    cases gk with
    | zero => exact absurd HA.out (by simp [modp_Prime.l0])
    | succ k2 =>
      have H := HA.out
      clear HA
      simp only [modp_Prime.l0] at H
      by_cases c4 : (Int.tmod d 2) = 0
      · rw [if_pos c4] at H
        have c4b : ((Int.tmod d 2) == 0) = true := beq_iff_eq.mpr c4
        clear c4
        have H' := Aside0.mk H
        clear H
        go_wp2
        go_roundg k2
        case measure => have := HK.out; omega
        case rel => exact ⟨_, _, (by first | rfl | (simp; done) | (simp [*]; done)), (by first | rfl | (simp; done) | (simp [*]; done)), H', ⟨by have := HK.out; omega⟩, by repeat (first | exact Drawn0.refl _ | apply Drawn0.step)⟩
      · rw [if_neg c4] at H
        have c4b : ((Int.tmod d 2) == 0) = false := beq_eq_false_iff_ne.mpr c4
        clear c4
        have H' := Aside0.mk H
        clear H
        go_wp2
        clear c4b
        have Hz : Aside0 (modp_Prime.at4 k a0 d tw (([2, 3, 5, 7] : List Int).drop 0) = some r) := ⟨(modp_Prime.at4.mono_to k2 k (by have := HK.out; omega) _ _ _ _ _ H'.out)⟩
        clear H' HK
        go_loopg [30] 4 (fun kq v30 w' => ∃ (j : Nat), kq + j = 4 ∧ j ≤ 4 ∧ v30 = .int .i64 (j : Int) ∧ Aside0 (modp_Prime.at4 k a0 d tw (([2, 3, 5, 7] : List Int).drop j) = some r) ∧ Drawn0 w w')
        case atStart => exact ⟨0, by omega, by omega, (by first | rfl | (simp; done) | (simp [*]; done)), Hz, by repeat (first | exact Drawn0.refl _ | apply Drawn0.step)⟩
        case round =>
          clear Hz
          obtain ⟨j, hkj, hj, rfl, HA, ⟨m2, rfl⟩⟩ := hrel
          obtain rfl | rfl | rfl | rfl | rfl : j = 0 ∨ j = 1 ∨ j = 2 ∨ j = 3 ∨ j = 4 := by omega
          · have H : modp_Prime.at4 k a0 d tw [2, 3, 5, 7] = some r := HA.out
            clear HA
            rw [modp_Prime.at4] at H
            by_cases e1 : a0 = 2
            · rw [if_pos e1] at H
              have e1b : (a0 == 2) = true := beq_iff_eq.mpr e1
              clear e1
              obtain rfl := Option.some.inj H
              go_wp2
              go_ret
              exact ⟨by first | rfl | (simp; done) | (simp [*]; done), by repeat (first | exact Drawn0.refl _ | apply Drawn0.step)⟩
            rw [if_neg e1] at H
            have e1b : (a0 == 2) = false := beq_eq_false_iff_ne.mpr e1
            clear e1
            rw [if_neg (show ¬ Int.tmod a0 2 = 0 by simpa using c3b)] at H
            replace H := Option.bind_eq_some_iff.mp H
            obtain ⟨t, A50, H⟩ := H
            have A5 := Aside0.mk A50
            clear A50
            by_cases e3 : t = true
            · subst e3
              have H1 : some false = some r := by rw [if_pos rfl] at H; exact H
              clear H
              obtain rfl := Option.some.inj H1
              go_wp2_with (go_at_call 17; refine (modp_witness.calls k 2 d tw a0 true _ A5.out).mono ?_; rintro e w' ⟨rfl, ⟨nd, rfl⟩⟩)
              go_ret
              exact ⟨by first | rfl | (simp; done) | (simp [*]; done), by repeat (first | exact Drawn0.refl _ | apply Drawn0.step)⟩
            replace e3 := Bool.eq_false_iff.mpr e3
            subst e3
            have H1 : modp_Prime.at4 k a0 d tw (([2, 3, 5, 7] : List Int).drop 1) = some r := by rw [if_neg (show ¬ (false = true) by decide)] at H; exact H
            clear H
            have H' := Aside0.mk H1
            clear H1
            go_wp2_with (go_at_call 17; refine (modp_witness.calls k 2 d tw a0 false _ A5.out).mono ?_; rintro e w' ⟨rfl, ⟨nd, rfl⟩⟩)
            go_roundg 3
            case measure => omega
            case rel => exact ⟨1, by omega, by omega, (by first | rfl | (simp; done) | (simp [*]; done)), H', by repeat (first | exact Drawn0.refl _ | apply Drawn0.step)⟩
          · have H : modp_Prime.at4 k a0 d tw [3, 5, 7] = some r := HA.out
            clear HA
            rw [modp_Prime.at4] at H
            by_cases e1 : a0 = 3
            · rw [if_pos e1] at H
              have e1b : (a0 == 3) = true := beq_iff_eq.mpr e1
              clear e1
              obtain rfl := Option.some.inj H
              go_wp2
              go_ret
              exact ⟨by first | rfl | (simp; done) | (simp [*]; done), by repeat (first | exact Drawn0.refl _ | apply Drawn0.step)⟩
            rw [if_neg e1] at H
            have e1b : (a0 == 3) = false := beq_eq_false_iff_ne.mpr e1
            clear e1
            by_cases e2 : Int.tmod a0 3 = 0
            · rw [if_pos e2] at H
              have e2b : (Int.tmod a0 3 == 0) = true := beq_iff_eq.mpr e2
              clear e2
              obtain rfl := Option.some.inj H
              go_wp2
              go_ret
              exact ⟨by first | rfl | (simp; done) | (simp [*]; done), by repeat (first | exact Drawn0.refl _ | apply Drawn0.step)⟩
            rw [if_neg e2] at H
            have e2b : (Int.tmod a0 3 == 0) = false := beq_eq_false_iff_ne.mpr e2
            clear e2
            replace H := Option.bind_eq_some_iff.mp H
            obtain ⟨t, A50, H⟩ := H
            have A5 := Aside0.mk A50
            clear A50
            by_cases e3 : t = true
            · subst e3
              have H1 : some false = some r := by rw [if_pos rfl] at H; exact H
              clear H
              obtain rfl := Option.some.inj H1
              go_wp2_with (go_at_call 17; refine (modp_witness.calls k 3 d tw a0 true _ A5.out).mono ?_; rintro e w' ⟨rfl, ⟨nd, rfl⟩⟩)
              go_ret
              exact ⟨by first | rfl | (simp; done) | (simp [*]; done), by repeat (first | exact Drawn0.refl _ | apply Drawn0.step)⟩
            replace e3 := Bool.eq_false_iff.mpr e3
            subst e3
            have H1 : modp_Prime.at4 k a0 d tw (([2, 3, 5, 7] : List Int).drop 2) = some r := by rw [if_neg (show ¬ (false = true) by decide)] at H; exact H
            clear H
            have H' := Aside0.mk H1
            clear H1
            go_wp2_with (go_at_call 17; refine (modp_witness.calls k 3 d tw a0 false _ A5.out).mono ?_; rintro e w' ⟨rfl, ⟨nd, rfl⟩⟩)
            go_roundg 2
            case measure => omega
            case rel => exact ⟨2, by omega, by omega, (by first | rfl | (simp; done) | (simp [*]; done)), H', by repeat (first | exact Drawn0.refl _ | apply Drawn0.step)⟩
          · have H : modp_Prime.at4 k a0 d tw [5, 7] = some r := HA.out
            clear HA
            rw [modp_Prime.at4] at H
            by_cases e1 : a0 = 5
            · rw [if_pos e1] at H
              have e1b : (a0 == 5) = true := beq_iff_eq.mpr e1
              clear e1
              obtain rfl := Option.some.inj H
              go_wp2
              go_ret
              exact ⟨by first | rfl | (simp; done) | (simp [*]; done), by repeat (first | exact Drawn0.refl _ | apply Drawn0.step)⟩
            rw [if_neg e1] at H
            have e1b : (a0 == 5) = false := beq_eq_false_iff_ne.mpr e1
            clear e1
            by_cases e2 : Int.tmod a0 5 = 0
            · rw [if_pos e2] at H
              have e2b : (Int.tmod a0 5 == 0) = true := beq_iff_eq.mpr e2
              clear e2
              obtain rfl := Option.some.inj H
              go_wp2
              go_ret
              exact ⟨by first | rfl | (simp; done) | (simp [*]; done), by repeat (first | exact Drawn0.refl _ | apply Drawn0.step)⟩
            rw [if_neg e2] at H
            have e2b : (Int.tmod a0 5 == 0) = false := beq_eq_false_iff_ne.mpr e2
            clear e2
            replace H := Option.bind_eq_some_iff.mp H
            obtain ⟨t, A50, H⟩ := H
            have A5 := Aside0.mk A50
            clear A50
            by_cases e3 : t = true
            · subst e3
              have H1 : some false = some r := by rw [if_pos rfl] at H; exact H
              clear H
              obtain rfl := Option.some.inj H1
              go_wp2_with (go_at_call 17; refine (modp_witness.calls k 5 d tw a0 true _ A5.out).mono ?_; rintro e w' ⟨rfl, ⟨nd, rfl⟩⟩)
              go_ret
              exact ⟨by first | rfl | (simp; done) | (simp [*]; done), by repeat (first | exact Drawn0.refl _ | apply Drawn0.step)⟩
            replace e3 := Bool.eq_false_iff.mpr e3
            subst e3
            have H1 : modp_Prime.at4 k a0 d tw (([2, 3, 5, 7] : List Int).drop 3) = some r := by rw [if_neg (show ¬ (false = true) by decide)] at H; exact H
            clear H
            have H' := Aside0.mk H1
            clear H1
            go_wp2_with (go_at_call 17; refine (modp_witness.calls k 5 d tw a0 false _ A5.out).mono ?_; rintro e w' ⟨rfl, ⟨nd, rfl⟩⟩)
            go_roundg 1
            case measure => omega
            case rel => exact ⟨3, by omega, by omega, (by first | rfl | (simp; done) | (simp [*]; done)), H', by repeat (first | exact Drawn0.refl _ | apply Drawn0.step)⟩
          · have H : modp_Prime.at4 k a0 d tw [7] = some r := HA.out
            clear HA
            rw [modp_Prime.at4] at H
            by_cases e1 : a0 = 7
            · rw [if_pos e1] at H
              have e1b : (a0 == 7) = true := beq_iff_eq.mpr e1
              clear e1
              obtain rfl := Option.some.inj H
              go_wp2
              go_ret
              exact ⟨by first | rfl | (simp; done) | (simp [*]; done), by repeat (first | exact Drawn0.refl _ | apply Drawn0.step)⟩
            rw [if_neg e1] at H
            have e1b : (a0 == 7) = false := beq_eq_false_iff_ne.mpr e1
            clear e1
            by_cases e2 : Int.tmod a0 7 = 0
            · rw [if_pos e2] at H
              have e2b : (Int.tmod a0 7 == 0) = true := beq_iff_eq.mpr e2
              clear e2
              obtain rfl := Option.some.inj H
              go_wp2
              go_ret
              exact ⟨by first | rfl | (simp; done) | (simp [*]; done), by repeat (first | exact Drawn0.refl _ | apply Drawn0.step)⟩
            rw [if_neg e2] at H
            have e2b : (Int.tmod a0 7 == 0) = false := beq_eq_false_iff_ne.mpr e2
            clear e2
            replace H := Option.bind_eq_some_iff.mp H
            obtain ⟨t, A50, H⟩ := H
            have A5 := Aside0.mk A50
            clear A50
            by_cases e3 : t = true
            · subst e3
              have H1 : some false = some r := by rw [if_pos rfl] at H; exact H
              clear H
              obtain rfl := Option.some.inj H1
              go_wp2_with (go_at_call 17; refine (modp_witness.calls k 7 d tw a0 true _ A5.out).mono ?_; rintro e w' ⟨rfl, ⟨nd, rfl⟩⟩)
              go_ret
              exact ⟨by first | rfl | (simp; done) | (simp [*]; done), by repeat (first | exact Drawn0.refl _ | apply Drawn0.step)⟩
            replace e3 := Bool.eq_false_iff.mpr e3
            subst e3
            have H1 : modp_Prime.at4 k a0 d tw (([2, 3, 5, 7] : List Int).drop 4) = some r := by rw [if_neg (show ¬ (false = true) by decide)] at H; exact H
            clear H
            have H' := Aside0.mk H1
            clear H1
            go_wp2_with (go_at_call 17; refine (modp_witness.calls k 7 d tw a0 false _ A5.out).mono ?_; rintro e w' ⟨rfl, ⟨nd, rfl⟩⟩)
            go_roundg 0
            case measure => omega
            case rel => exact ⟨4, by omega, by omega, (by first | rfl | (simp; done) | (simp [*]; done)), H', by repeat (first | exact Drawn0.refl _ | apply Drawn0.step)⟩
          · -- behind the last
            have H : modp_Prime.at4 k a0 d tw [] = some r := HA.out
            clear HA
            rw [modp_Prime.at4] at H
            obtain rfl := Option.some.inj H
            go_wp2
            go_ret
            exact ⟨by first | rfl | (simp; done) | (simp [*]; done), by repeat (first | exact Drawn0.refl _ | apply Drawn0.step)⟩

end Go.Proofs.Ytelinpgfjgoofaa.P
