-- written by wip/tool/ownprint.py of this claim's own repository, out of the translation's print
import Derived.Test.YtelinpgfjgoofaaPx0
import Derived.Test.YtelinpgfjgoofaaPx1
import Derived.Test.YtelinpgfjgoofaaPx2
import Derived.Test.YtelinpgfjgoofaaPx3
namespace Go.Proofs.Ytelinpgfjgoofaa.P
open Go.RowKit Go.Proofs.YtelinpgfjgoofaaW.PrintWords Go.Proofs.YtelinpgfjgoofaaW.PrintLast Go.Proofs.YtelinpgfjgoofaaW.PrintMore
attribute [local go_sem] max2_int min2_int max_two min_two max_three min_three max_four min_four   -- for this text's walks alone
set_option linter.unusedVariables false
set_option linter.unusedSimpArgs false

/-! ### greenwoodlaw04_ModpPrimes: function 7 -/
def greenwoodlaw04_ModpPrimes.j0 : Nat → Int → Int → Bool → Option (Bool)
  | 0, _, _, _ => none
  | k + 1, x0, x1, x30 => if x30 = true then ((greenwoodlaw04_fixed.f k).bind fun t163 => (some t163)) else ((modp_Prime.f k (wrap64 (x0 * x1))).bind fun t164 => (if t164 = true then (some false) else ((modp_Inv.f k x1 x0).bind fun bt165 => ((modp_Prime.f k x0).bind fun t167 => (if t167 = true then (if x0 = 0 then (none) else (some (bt165.2 == ((Int.tmod x1 x0) != 0)))) else (some (bt165.2 == false)))))))
def greenwoodlaw04_ModpPrimes.f (k : Nat) (a0 : Int) (a1 : Int) : Option (Bool) := (greenwoodlaw04_fixed.f k).bind fun t162 => (if t162 = true then (if a0 < 2 then (greenwoodlaw04_ModpPrimes.j0 k a0 a1 true) else (if a1 < 2 then (greenwoodlaw04_ModpPrimes.j0 k a0 a1 true) else (if a0 > 1073741824 then (greenwoodlaw04_ModpPrimes.j0 k a0 a1 true) else (if a1 > 1073741824 then (greenwoodlaw04_ModpPrimes.j0 k a0 a1 true) else (greenwoodlaw04_ModpPrimes.j0 k a0 a1 (decide ((wrap64 (a0 * a1)) > 2147483647))))))) else (greenwoodlaw04_ModpPrimes.j0 k a0 a1 true))
theorem greenwoodlaw04_ModpPrimes.mono_l : ∀ k, (∀ y0 y1 y2, LeO (greenwoodlaw04_ModpPrimes.j0 k y0 y1 y2) (greenwoodlaw04_ModpPrimes.j0 (k + 1) y0 y1 y2))
  | 0 => fun _ _ _ r h => by simp [greenwoodlaw04_ModpPrimes.j0] at h
  | k + 1 => by
    have ih0 := greenwoodlaw04_ModpPrimes.mono_l k
    · intro y0 y1 y2
      unfold greenwoodlaw04_ModpPrimes.j0
      repeat' first
      | (with_reducible exact ih0 _ _ _)
      | (with_reducible exact greenwoodlaw04_fixed.mono _)
      | (with_reducible exact modp_Inv.mono _ _ _)
      | (with_reducible exact modp_Prime.mono _ _)
      | (with_reducible exact LeO.refl _)
      | (with_reducible exact LeO.none _)
      | (with_reducible refine LeO.ite ?_ ?_)
      | (with_reducible refine LeO.bind ?_ (fun _ => ?_))
      | exact ih0 _ _ _
      | exact greenwoodlaw04_fixed.mono _
      | exact modp_Inv.mono _ _ _
      | exact modp_Prime.mono _ _
      | exact LeO.none _
      | refine LeO.ite ?_ ?_
      | refine LeO.bind ?_ (fun _ => ?_)
theorem greenwoodlaw04_ModpPrimes.mono : ∀ a0 a1 k, LeO (greenwoodlaw04_ModpPrimes.f k a0 a1) (greenwoodlaw04_ModpPrimes.f (k + 1) a0 a1) := by
  intro a0 a1 k
  have ih0 := greenwoodlaw04_ModpPrimes.mono_l k
  unfold greenwoodlaw04_ModpPrimes.f
  repeat' first
      | (with_reducible exact ih0 _ _ _)
      | (with_reducible exact greenwoodlaw04_fixed.mono _)
      | (with_reducible exact modp_Inv.mono _ _ _)
      | (with_reducible exact modp_Prime.mono _ _)
      | (with_reducible exact LeO.refl _)
      | (with_reducible exact LeO.none _)
      | (with_reducible refine LeO.ite ?_ ?_)
      | (with_reducible refine LeO.bind ?_ (fun _ => ?_))
      | exact ih0 _ _ _
      | exact greenwoodlaw04_fixed.mono _
      | exact modp_Inv.mono _ _ _
      | exact modp_Prime.mono _ _
      | exact LeO.none _
      | refine LeO.ite ?_ ?_
      | refine LeO.bind ?_ (fun _ => ?_)
set_option maxHeartbeats 8000000 in
set_option maxRecDepth 100000 in
theorem greenwoodlaw04_ModpPrimes.calls (k : Nat) (a0 : Int) (a1 : Int) (r : Bool) (w : World) (h : greenwoodlaw04_ModpPrimes.f k a0 a1 = some r) :
    Calls Try.prog 7 #[.int .i64 a0, .int .i64 a1] w fun e w' => e = .returned (.bool r) ∧ Drawn0 w w' := by
  have H : ((greenwoodlaw04_fixed.f k).bind fun t162 => (if t162 = true then (if a0 < 2 then (greenwoodlaw04_ModpPrimes.j0 k a0 a1 true) else (if a1 < 2 then (greenwoodlaw04_ModpPrimes.j0 k a0 a1 true) else (if a0 > 1073741824 then (greenwoodlaw04_ModpPrimes.j0 k a0 a1 true) else (if a1 > 1073741824 then (greenwoodlaw04_ModpPrimes.j0 k a0 a1 true) else (greenwoodlaw04_ModpPrimes.j0 k a0 a1 (decide ((wrap64 (a0 * a1)) > 2147483647))))))) else (greenwoodlaw04_ModpPrimes.j0 k a0 a1 true))) = some r := h
  clear h
  have HC3 := Aside0.mk H
  clear H
  go_enter Try.func7, Try.ntmps7
  go_upto_region 1 with (fail)
  go_cut [30] (fun v30 wc => ∃ (kq : Nat) (x30_2 : Bool), v30 = .bool x30_2 ∧ Aside0 (greenwoodlaw04_ModpPrimes.j0 kq a0 a1 x30_2 = some r) ∧ Aside0 (kq ≤ k) ∧ Drawn0 w wc)
  case first =>
    have H := HC3.out
    clear HC3
    replace H := Option.bind_eq_some_iff.mp H
    obtain ⟨t162, A40, H⟩ := H
    replace H : (if t162 = true then (if a0 < 2 then (greenwoodlaw04_ModpPrimes.j0 k a0 a1 true) else (if a1 < 2 then (greenwoodlaw04_ModpPrimes.j0 k a0 a1 true) else (if a0 > 1073741824 then (greenwoodlaw04_ModpPrimes.j0 k a0 a1 true) else (if a1 > 1073741824 then (greenwoodlaw04_ModpPrimes.j0 k a0 a1 true) else (greenwoodlaw04_ModpPrimes.j0 k a0 a1 (decide ((wrap64 (a0 * a1)) > 2147483647))))))) else (greenwoodlaw04_ModpPrimes.j0 k a0 a1 true)) = some r := H
    have A4 := Aside0.mk A40
    clear A40
    by_cases c5 : t162 = true
    · subst c5
      have H1 : (if a0 < 2 then (greenwoodlaw04_ModpPrimes.j0 k a0 a1 true) else (if a1 < 2 then (greenwoodlaw04_ModpPrimes.j0 k a0 a1 true) else (if a0 > 1073741824 then (greenwoodlaw04_ModpPrimes.j0 k a0 a1 true) else (if a1 > 1073741824 then (greenwoodlaw04_ModpPrimes.j0 k a0 a1 true) else (greenwoodlaw04_ModpPrimes.j0 k a0 a1 (decide ((wrap64 (a0 * a1)) > 2147483647))))))) = some r := by rw [if_pos rfl] at H; exact H
      clear H
      have H := H1
      clear H1
      by_cases c6 : a0 < 2
      · rw [if_pos c6] at H
        have c6b0 : decide (a0 < 2) = true := decide_eq_true c6
        clear c6
        (first | rw [c6b0] | (simp only [i64_w, i32_w]; rw [c6b0]) | skip)
        have H' := Aside0.mk H
        clear H
        go_wp2_with (first | ((with_reducible refine gate_callee (f := 10) rfl ?_); refine goesL_ (some 7) rfl rfl Try.func10 (by kernel_rfl) rfl #[] rfl (by (try simp only [List.map_toArray, List.map_cons, List.map_nil]); first | done | rfl | (simp only [List.length_drop, List.length_take]; rfl)) ?_; (with_reducible refine (greenwoodlaw04_fixed.calls k  true _ A4.out).mono ?_); rintro e w' ⟨rfl, ⟨nd, rfl⟩⟩; refine ⟨_, rfl, ?_⟩))
        go_meet
        case rel => exact ⟨_, (true), (by first | rfl | (simp; done) | (simp [*]; done)), H', ⟨by first | omega | exact Nat.le_refl _⟩, by repeat (first | exact Drawn0.refl _ | apply Drawn0.step)⟩
      · rw [if_neg c6] at H
        have c6b0 : decide (a0 < 2) = false := decide_eq_false c6
        clear c6
        (first | rw [c6b0] | (simp only [i64_w, i32_w]; rw [c6b0]) | skip)
        by_cases c7 : a1 < 2
        · rw [if_pos c7] at H
          have c7b0 : decide (a1 < 2) = true := decide_eq_true c7
          clear c7
          have H' := Aside0.mk H
          clear H
          go_wp2_with (first | ((with_reducible refine gate_callee (f := 10) rfl ?_); refine goesL_ (some 7) rfl rfl Try.func10 (by kernel_rfl) rfl #[] rfl (by (try simp only [List.map_toArray, List.map_cons, List.map_nil]); first | done | rfl | (simp only [List.length_drop, List.length_take]; rfl)) ?_; (with_reducible refine (greenwoodlaw04_fixed.calls k  true _ A4.out).mono ?_); rintro e w' ⟨rfl, ⟨nd, rfl⟩⟩; refine ⟨_, rfl, ?_⟩))
          go_meet
          case rel => exact ⟨_, (true), (by first | rfl | (simp; done) | (simp [*]; done)), H', ⟨by first | omega | exact Nat.le_refl _⟩, by repeat (first | exact Drawn0.refl _ | apply Drawn0.step)⟩
        · rw [if_neg c7] at H
          have c7b0 : decide (a1 < 2) = false := decide_eq_false c7
          clear c7
          by_cases c8 : a0 > 1073741824
          · rw [if_pos c8] at H
            have c8b0 : decide (1073741824 < a0) = true := decide_eq_true c8
            clear c8
            have H' := Aside0.mk H
            clear H
            go_wp2_with (first | ((with_reducible refine gate_callee (f := 10) rfl ?_); refine goesL_ (some 7) rfl rfl Try.func10 (by kernel_rfl) rfl #[] rfl (by (try simp only [List.map_toArray, List.map_cons, List.map_nil]); first | done | rfl | (simp only [List.length_drop, List.length_take]; rfl)) ?_; (with_reducible refine (greenwoodlaw04_fixed.calls k  true _ A4.out).mono ?_); rintro e w' ⟨rfl, ⟨nd, rfl⟩⟩; refine ⟨_, rfl, ?_⟩))
            go_meet
            case rel => exact ⟨_, (true), (by first | rfl | (simp; done) | (simp [*]; done)), H', ⟨by first | omega | exact Nat.le_refl _⟩, by repeat (first | exact Drawn0.refl _ | apply Drawn0.step)⟩
          · rw [if_neg c8] at H
            have c8b0 : decide (1073741824 < a0) = false := decide_eq_false c8
            clear c8
            by_cases c9 : a1 > 1073741824
            · rw [if_pos c9] at H
              have c9b0 : decide (1073741824 < a1) = true := decide_eq_true c9
              clear c9
              have H' := Aside0.mk H
              clear H
              go_wp2_with (first | ((with_reducible refine gate_callee (f := 10) rfl ?_); refine goesL_ (some 7) rfl rfl Try.func10 (by kernel_rfl) rfl #[] rfl (by (try simp only [List.map_toArray, List.map_cons, List.map_nil]); first | done | rfl | (simp only [List.length_drop, List.length_take]; rfl)) ?_; (with_reducible refine (greenwoodlaw04_fixed.calls k  true _ A4.out).mono ?_); rintro e w' ⟨rfl, ⟨nd, rfl⟩⟩; refine ⟨_, rfl, ?_⟩))
              go_meet
              case rel => exact ⟨_, (true), (by first | rfl | (simp; done) | (simp [*]; done)), H', ⟨by first | omega | exact Nat.le_refl _⟩, by repeat (first | exact Drawn0.refl _ | apply Drawn0.step)⟩
            · rw [if_neg c9] at H
              have c9b0 : decide (1073741824 < a1) = false := decide_eq_false c9
              clear c9
              have H' := Aside0.mk H
              clear H
              go_wp2_with (first | ((with_reducible refine gate_callee (f := 10) rfl ?_); refine goesL_ (some 7) rfl rfl Try.func10 (by kernel_rfl) rfl #[] rfl (by (try simp only [List.map_toArray, List.map_cons, List.map_nil]); first | done | rfl | (simp only [List.length_drop, List.length_take]; rfl)) ?_; (with_reducible refine (greenwoodlaw04_fixed.calls k  true _ A4.out).mono ?_); rintro e w' ⟨rfl, ⟨nd, rfl⟩⟩; refine ⟨_, rfl, ?_⟩))
              go_meet
              case rel => exact ⟨_, (decide ((wrap64 (a0 * a1)) > 2147483647)), (by first | rfl | (simp; done) | (simp [*]; done)), H', ⟨by first | omega | exact Nat.le_refl _⟩, by repeat (first | exact Drawn0.refl _ | apply Drawn0.step)⟩
    · replace c5 := Bool.eq_false_iff.mpr c5
      subst c5
      have H1 : (greenwoodlaw04_ModpPrimes.j0 k a0 a1 true) = some r := by rw [if_neg (show ¬ (false = true) by decide)] at H; exact H
      clear H
      have H := H1
      clear H1
      have H' := Aside0.mk H
      clear H
      go_wp2_with (first | ((with_reducible refine gate_callee (f := 10) rfl ?_); refine goesL_ (some 7) rfl rfl Try.func10 (by kernel_rfl) rfl #[] rfl (by (try simp only [List.map_toArray, List.map_cons, List.map_nil]); first | done | rfl | (simp only [List.length_drop, List.length_take]; rfl)) ?_; (with_reducible refine (greenwoodlaw04_fixed.calls k  false _ A4.out).mono ?_); rintro e w' ⟨rfl, ⟨nd, rfl⟩⟩; refine ⟨_, rfl, ?_⟩))
      go_meet
      case rel => exact ⟨_, (true), (by first | rfl | (simp; done) | (simp [*]; done)), H', ⟨by first | omega | exact Nat.le_refl _⟩, by repeat (first | exact Drawn0.refl _ | apply Drawn0.step)⟩
  case rest =>
    clear HC3
    try clear c1
    try clear p2
    try clear c5
    try clear c6
    try clear c6b0
    try clear p6
    try clear c7
    try clear c7b0
    try clear c8
    try clear c8b0
    try clear c9
    try clear c9b0
    obtain ⟨kq, x30_2, rfl, HA, HJ2, ⟨mc2, rfl⟩⟩ := hcut
    cases kq with
    | zero => exact absurd HA.out (by simp [greenwoodlaw04_ModpPrimes.j0])
    | succ kj2 =>
      have H := HA.out
      clear HA
      simp only [greenwoodlaw04_ModpPrimes.j0] at H
      by_cases c10 : x30_2 = true
      · subst c10
        have H1 : ((greenwoodlaw04_fixed.f kj2).bind fun t163 => (some t163)) = some r := by rw [if_pos rfl] at H; exact H
        clear H
        have H := H1
        clear H1
        replace H := Option.bind_eq_some_iff.mp H
        obtain ⟨t163, A110, H⟩ := H
        replace H : (some t163) = some r := H
        have A11 := Aside0.mk A110
        clear A110
        obtain rfl := Option.some.inj H
        go_wp2_with (first | ((with_reducible refine gate_callee (f := 10) rfl ?_); refine goesL_ (some 31) rfl rfl Try.func10 (by kernel_rfl) rfl #[] rfl (by (try simp only [List.map_toArray, List.map_cons, List.map_nil]); first | done | rfl | (simp only [List.length_drop, List.length_take]; rfl)) ?_; (with_reducible refine (greenwoodlaw04_fixed.calls kj2  t163 _ A11.out).mono ?_); rintro e w' ⟨rfl, ⟨nd, rfl⟩⟩; refine ⟨_, rfl, ?_⟩))
        go_ret
        exact ⟨by first | rfl | (simp; done) | (simp [*]; done), by repeat (first | exact Drawn0.refl _ | apply Drawn0.step)⟩
      · replace c10 := Bool.eq_false_iff.mpr c10
        subst c10
        have H1 : ((modp_Prime.f kj2 (wrap64 (a0 * a1))).bind fun t164 => (if t164 = true then (some false) else ((modp_Inv.f kj2 a1 a0).bind fun bt165 => ((modp_Prime.f kj2 a0).bind fun t167 => (if t167 = true then (if a0 = 0 then (none) else (some (bt165.2 == ((Int.tmod a1 a0) != 0)))) else (some (bt165.2 == false))))))) = some r := by rw [if_neg (show ¬ (false = true) by decide)] at H; exact H
        clear H
        have H := H1
        clear H1
        replace H := Option.bind_eq_some_iff.mp H
        obtain ⟨t164, A120, H⟩ := H
        replace H : (if t164 = true then (some false) else ((modp_Inv.f kj2 a1 a0).bind fun bt165 => ((modp_Prime.f kj2 a0).bind fun t167 => (if t167 = true then (if a0 = 0 then (none) else (some (bt165.2 == ((Int.tmod a1 a0) != 0)))) else (some (bt165.2 == false)))))) = some r := H
        have A12 := Aside0.mk A120
        clear A120
        by_cases c13 : t164 = true
        · subst c13
          have H1 : (some false) = some r := by rw [if_pos rfl] at H; exact H
          clear H
          have H := H1
          clear H1
          obtain rfl := Option.some.inj H
          go_wp2_with (first | ((with_reducible refine gate_callee (f := 11) rfl ?_); refine goesL_ (some 35) rfl rfl Try.func11 (by kernel_rfl) rfl #[.int .i64 (wrap64 (a0 * a1))] rfl (by (try simp only [List.map_toArray, List.map_cons, List.map_nil]); first | done | rfl | (simp only [List.length_drop, List.length_take]; rfl)) ?_; (with_reducible refine (modp_Prime.calls kj2 (wrap64 (a0 * a1)) true _ A12.out).mono ?_); rintro e w' ⟨rfl, ⟨nd, rfl⟩⟩; refine ⟨_, rfl, ?_⟩))
          go_ret
          exact ⟨by first | rfl | (simp; done) | (simp [*]; done), by repeat (first | exact Drawn0.refl _ | apply Drawn0.step)⟩
        · replace c13 := Bool.eq_false_iff.mpr c13
          subst c13
          have H1 : ((modp_Inv.f kj2 a1 a0).bind fun bt165 => ((modp_Prime.f kj2 a0).bind fun t167 => (if t167 = true then (if a0 = 0 then (none) else (some (bt165.2 == ((Int.tmod a1 a0) != 0)))) else (some (bt165.2 == false))))) = some r := by rw [if_neg (show ¬ (false = true) by decide)] at H; exact H
          clear H
          have H := H1
          clear H1
          replace H := Option.bind_eq_some_iff.mp H
          obtain ⟨⟨t165, t166⟩, A140, H⟩ := H
          replace H : ((modp_Prime.f kj2 a0).bind fun t167 => (if t167 = true then (if a0 = 0 then (none) else (some (t166 == ((Int.tmod a1 a0) != 0)))) else (some (t166 == false)))) = some r := H
          have A14 := Aside0.mk A140
          clear A140
          replace H := Option.bind_eq_some_iff.mp H
          obtain ⟨t167, A150, H⟩ := H
          replace H : (if t167 = true then (if a0 = 0 then (none) else (some (t166 == ((Int.tmod a1 a0) != 0)))) else (some (t166 == false))) = some r := H
          have A15 := Aside0.mk A150
          clear A150
          by_cases c16 : t167 = true
          · subst c16
            have H1 : (if a0 = 0 then (none) else (some (t166 == ((Int.tmod a1 a0) != 0)))) = some r := by rw [if_pos rfl] at H; exact H
            clear H
            have H := H1
            clear H1
            by_cases c17 : a0 = 0
            · rw [if_pos c17] at H
              exact absurd H (by simp)
            · rw [if_neg c17] at H
              have c17b0 : (a0 == 0) = false := beq_eq_false_iff_ne.mpr c17
              have c17b1 : (a0 != 0) = true := bne_iff_ne.mpr c17
              obtain rfl := Option.some.inj H
              go_wp2_with (first | ((with_reducible refine gate_callee (f := 11) rfl ?_); refine goesL_ (some 35) rfl rfl Try.func11 (by kernel_rfl) rfl #[.int .i64 (wrap64 (a0 * a1))] rfl (by (try simp only [List.map_toArray, List.map_cons, List.map_nil]); first | done | rfl | (simp only [List.length_drop, List.length_take]; rfl)) ?_; (with_reducible refine (modp_Prime.calls kj2 (wrap64 (a0 * a1)) false _ A12.out).mono ?_); rintro e w' ⟨rfl, ⟨nd, rfl⟩⟩; refine ⟨_, rfl, ?_⟩) | ((with_reducible refine gate_callee (f := 8) rfl ?_); refine goesL_ (some 39) rfl rfl Try.func8 (by kernel_rfl) rfl #[.int .i64 a1, .int .i64 a0] rfl (by (try simp only [List.map_toArray, List.map_cons, List.map_nil]); first | done | rfl | (simp only [List.length_drop, List.length_take]; rfl)) ?_; (with_reducible refine (modp_Inv.calls kj2 a1 a0 t165 t166 _ A14.out).mono ?_); rintro e w' ⟨rfl, ⟨nd, rfl⟩⟩; refine ⟨_, rfl, ?_⟩) | ((with_reducible refine gate_callee (f := 11) rfl ?_); refine goesL_ (some 44) rfl rfl Try.func11 (by kernel_rfl) rfl #[.int .i64 a0] rfl (by (try simp only [List.map_toArray, List.map_cons, List.map_nil]); first | done | rfl | (simp only [List.length_drop, List.length_take]; rfl)) ?_; (with_reducible refine (modp_Prime.calls kj2 a0 true _ A15.out).mono ?_); rintro e w' ⟨rfl, ⟨nd, rfl⟩⟩; refine ⟨_, rfl, ?_⟩))
              go_ret
              exact ⟨by first | rfl | (simp; done) | (simp [*]; done), by repeat (first | exact Drawn0.refl _ | apply Drawn0.step)⟩
          · replace c16 := Bool.eq_false_iff.mpr c16
            subst c16
            have H1 : (some (t166 == false)) = some r := by rw [if_neg (show ¬ (false = true) by decide)] at H; exact H
            clear H
            have H := H1
            clear H1
            obtain rfl := Option.some.inj H
            go_wp2_with (first | ((with_reducible refine gate_callee (f := 11) rfl ?_); refine goesL_ (some 35) rfl rfl Try.func11 (by kernel_rfl) rfl #[.int .i64 (wrap64 (a0 * a1))] rfl (by (try simp only [List.map_toArray, List.map_cons, List.map_nil]); first | done | rfl | (simp only [List.length_drop, List.length_take]; rfl)) ?_; (with_reducible refine (modp_Prime.calls kj2 (wrap64 (a0 * a1)) false _ A12.out).mono ?_); rintro e w' ⟨rfl, ⟨nd, rfl⟩⟩; refine ⟨_, rfl, ?_⟩) | ((with_reducible refine gate_callee (f := 8) rfl ?_); refine goesL_ (some 39) rfl rfl Try.func8 (by kernel_rfl) rfl #[.int .i64 a1, .int .i64 a0] rfl (by (try simp only [List.map_toArray, List.map_cons, List.map_nil]); first | done | rfl | (simp only [List.length_drop, List.length_take]; rfl)) ?_; (with_reducible refine (modp_Inv.calls kj2 a1 a0 t165 t166 _ A14.out).mono ?_); rintro e w' ⟨rfl, ⟨nd, rfl⟩⟩; refine ⟨_, rfl, ?_⟩) | ((with_reducible refine gate_callee (f := 11) rfl ?_); refine goesL_ (some 44) rfl rfl Try.func11 (by kernel_rfl) rfl #[.int .i64 a0] rfl (by (try simp only [List.map_toArray, List.map_cons, List.map_nil]); first | done | rfl | (simp only [List.length_drop, List.length_take]; rfl)) ?_; (with_reducible refine (modp_Prime.calls kj2 a0 false _ A15.out).mono ?_); rintro e w' ⟨rfl, ⟨nd, rfl⟩⟩; refine ⟨_, rfl, ?_⟩))
            go_ret
            exact ⟨by first | rfl | (simp; done) | (simp [*]; done), by repeat (first | exact Drawn0.refl _ | apply Drawn0.step)⟩

/-- THE ONE PURE STATEMENT of greenwoodlaw04_ModpPrimes: yours. -/
def greenwoodlaw04_ModpPrimes.Pure : Prop := ∀ (a0 : Int) (a1 : Int), (Lit.int .i64 a0).wf = true → (Lit.int .i64 a1).wf = true → ∃ k, greenwoodlaw04_ModpPrimes.f k a0 a1 = some true
theorem greenwoodlaw04_ModpPrimes.walk (P : greenwoodlaw04_ModpPrimes.Pure) (a0 : Int) (a1 : Int) (w : World) (w0 : (Lit.int .i64 a0).wf = true) (w1 : (Lit.int .i64 a1).wf = true) :
    Calls Try.prog 7 #[.int .i64 a0, .int .i64 a1] w fun e w' => e = .returned (.bool true) ∧ Below w.heap.size w w' := by
  obtain ⟨k, h⟩ := P a0 a1 w0 w1
  refine (greenwoodlaw04_ModpPrimes.calls k a0 a1 true w h).mono ?_
  rintro e w' ⟨rfl, hd⟩
  exact ⟨rfl, hd.below⟩

end Go.Proofs.Ytelinpgfjgoofaa.P
