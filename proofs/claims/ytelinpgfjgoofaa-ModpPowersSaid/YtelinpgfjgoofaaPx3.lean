-- written by wip/tool/ownprint.py of this claim's own repository, out of the translation's print
import Derived.Test.YtelinpgfjgoofaaPx0
import Derived.Test.YtelinpgfjgoofaaPx1
import Derived.Test.YtelinpgfjgoofaaPx2
namespace Go.Proofs.Ytelinpgfjgoofaa.P
open Go.RowKit Go.Proofs.YtelinpgfjgoofaaW.PrintWords Go.Proofs.YtelinpgfjgoofaaW.PrintLast Go.Proofs.YtelinpgfjgoofaaW.PrintMore
attribute [local go_sem] max2_int min2_int max_two min_two max_three min_three max_four min_four   -- for this text's walks alone
set_option linter.unusedVariables false
set_option linter.unusedSimpArgs false

/-! ### greenwoodlaw04_fixed: function 10 -/
def greenwoodlaw04_fixed.f (k : Nat)  : Option (Bool) := (modp_Inv.f k 3 7).bind fun bt114 => ((modp_Inv.f k 7 7).bind fun bt116 => ((modp_Inv.f k 3 8).bind fun bt118 => (if bt114.1 = 5 then (if bt114.2 = true then (if bt116.2 = true then (some false) else (if bt118.2 = true then (some false) else ((modp_Prime.f k 2).bind fun t120 => (if t120 = true then ((modp_Prime.f k 2147483647).bind fun t121 => (if t121 = true then ((modp_Prime.f k 1).bind fun t122 => (if t122 = true then (some false) else ((modp_Prime.f k 49).bind fun t123 => (if t123 = true then (some false) else ((modp_Prime.f k 25326001).bind fun t124 => (if t124 = true then (some false) else ((modp_Mod.f (-1) 7).bind fun t125 => (if t125 = 6 then ((modp_Pow.f k 2 10 1000).bind fun t126 => (if t126 = 24 then ((modp_Pow.f k 5 0 1).bind fun t127 => (if t127 = 0 then ((modp_Mod.f 5 0).bind fun t128 => (some (t128 == 0))) else (some false))) else (some false))) else (some false))))))))) else (some false))) else (some false))))) else (some false)) else (some false))))
theorem greenwoodlaw04_fixed.mono : ∀ k, LeO (greenwoodlaw04_fixed.f k ) (greenwoodlaw04_fixed.f (k + 1) ) := by
  intro  k
  unfold greenwoodlaw04_fixed.f
  repeat' first
      | (with_reducible exact modp_Inv.mono _ _ _)
      | (with_reducible exact modp_Pow.mono _ _ _ _)
      | (with_reducible exact modp_Prime.mono _ _)
      | (with_reducible exact LeO.refl _)
      | (with_reducible exact LeO.none _)
      | (with_reducible refine LeO.ite ?_ ?_)
      | (with_reducible refine LeO.bind ?_ (fun _ => ?_))
      | exact modp_Inv.mono _ _ _
      | exact modp_Pow.mono _ _ _ _
      | exact modp_Prime.mono _ _
      | exact LeO.none _
      | refine LeO.ite ?_ ?_
      | refine LeO.bind ?_ (fun _ => ?_)
set_option maxHeartbeats 8000000 in
set_option maxRecDepth 100000 in
theorem greenwoodlaw04_fixed.calls (k : Nat)  (r : Bool) (w : World) (h : greenwoodlaw04_fixed.f k  = some r) :
    Calls Try.prog 10 #[] w fun e w' => e = .returned (.bool r) ∧ Drawn0 w w' := by
  have H : ((modp_Inv.f k 3 7).bind fun bt114 => ((modp_Inv.f k 7 7).bind fun bt116 => ((modp_Inv.f k 3 8).bind fun bt118 => (if bt114.1 = 5 then (if bt114.2 = true then (if bt116.2 = true then (some false) else (if bt118.2 = true then (some false) else ((modp_Prime.f k 2).bind fun t120 => (if t120 = true then ((modp_Prime.f k 2147483647).bind fun t121 => (if t121 = true then ((modp_Prime.f k 1).bind fun t122 => (if t122 = true then (some false) else ((modp_Prime.f k 49).bind fun t123 => (if t123 = true then (some false) else ((modp_Prime.f k 25326001).bind fun t124 => (if t124 = true then (some false) else ((modp_Mod.f (-1) 7).bind fun t125 => (if t125 = 6 then ((modp_Pow.f k 2 10 1000).bind fun t126 => (if t126 = 24 then ((modp_Pow.f k 5 0 1).bind fun t127 => (if t127 = 0 then ((modp_Mod.f 5 0).bind fun t128 => (some (t128 == 0))) else (some false))) else (some false))) else (some false))))))))) else (some false))) else (some false))))) else (some false)) else (some false))))) = some r := h
  clear h
  replace H := Option.bind_eq_some_iff.mp H
  obtain ⟨⟨t114, t115⟩, A10, H⟩ := H
  replace H : ((modp_Inv.f k 7 7).bind fun bt116 => ((modp_Inv.f k 3 8).bind fun bt118 => (if t114 = 5 then (if t115 = true then (if bt116.2 = true then (some false) else (if bt118.2 = true then (some false) else ((modp_Prime.f k 2).bind fun t120 => (if t120 = true then ((modp_Prime.f k 2147483647).bind fun t121 => (if t121 = true then ((modp_Prime.f k 1).bind fun t122 => (if t122 = true then (some false) else ((modp_Prime.f k 49).bind fun t123 => (if t123 = true then (some false) else ((modp_Prime.f k 25326001).bind fun t124 => (if t124 = true then (some false) else ((modp_Mod.f (-1) 7).bind fun t125 => (if t125 = 6 then ((modp_Pow.f k 2 10 1000).bind fun t126 => (if t126 = 24 then ((modp_Pow.f k 5 0 1).bind fun t127 => (if t127 = 0 then ((modp_Mod.f 5 0).bind fun t128 => (some (t128 == 0))) else (some false))) else (some false))) else (some false))))))))) else (some false))) else (some false))))) else (some false)) else (some false)))) = some r := H
  have A1 := Aside0.mk A10
  clear A10
  replace H := Option.bind_eq_some_iff.mp H
  obtain ⟨⟨t116, t117⟩, A20, H⟩ := H
  replace H : ((modp_Inv.f k 3 8).bind fun bt118 => (if t114 = 5 then (if t115 = true then (if t117 = true then (some false) else (if bt118.2 = true then (some false) else ((modp_Prime.f k 2).bind fun t120 => (if t120 = true then ((modp_Prime.f k 2147483647).bind fun t121 => (if t121 = true then ((modp_Prime.f k 1).bind fun t122 => (if t122 = true then (some false) else ((modp_Prime.f k 49).bind fun t123 => (if t123 = true then (some false) else ((modp_Prime.f k 25326001).bind fun t124 => (if t124 = true then (some false) else ((modp_Mod.f (-1) 7).bind fun t125 => (if t125 = 6 then ((modp_Pow.f k 2 10 1000).bind fun t126 => (if t126 = 24 then ((modp_Pow.f k 5 0 1).bind fun t127 => (if t127 = 0 then ((modp_Mod.f 5 0).bind fun t128 => (some (t128 == 0))) else (some false))) else (some false))) else (some false))))))))) else (some false))) else (some false))))) else (some false)) else (some false))) = some r := H
  have A2 := Aside0.mk A20
  clear A20
  replace H := Option.bind_eq_some_iff.mp H
  obtain ⟨⟨t118, t119⟩, A30, H⟩ := H
  replace H : (if t114 = 5 then (if t115 = true then (if t117 = true then (some false) else (if t119 = true then (some false) else ((modp_Prime.f k 2).bind fun t120 => (if t120 = true then ((modp_Prime.f k 2147483647).bind fun t121 => (if t121 = true then ((modp_Prime.f k 1).bind fun t122 => (if t122 = true then (some false) else ((modp_Prime.f k 49).bind fun t123 => (if t123 = true then (some false) else ((modp_Prime.f k 25326001).bind fun t124 => (if t124 = true then (some false) else ((modp_Mod.f (-1) 7).bind fun t125 => (if t125 = 6 then ((modp_Pow.f k 2 10 1000).bind fun t126 => (if t126 = 24 then ((modp_Pow.f k 5 0 1).bind fun t127 => (if t127 = 0 then ((modp_Mod.f 5 0).bind fun t128 => (some (t128 == 0))) else (some false))) else (some false))) else (some false))))))))) else (some false))) else (some false))))) else (some false)) else (some false)) = some r := H
  have A3 := Aside0.mk A30
  clear A30
  by_cases c4 : t114 = 5
  · rw [if_pos c4] at H
    have c4b0 : (t114 == 5) = true := beq_iff_eq.mpr c4
    have c4b1 : (t114 != 5) = false := bne_eq_false_iff_eq.mpr c4
    clear c4
    by_cases c5 : t115 = true
    · subst c5
      have H1 : (if t117 = true then (some false) else (if t119 = true then (some false) else ((modp_Prime.f k 2).bind fun t120 => (if t120 = true then ((modp_Prime.f k 2147483647).bind fun t121 => (if t121 = true then ((modp_Prime.f k 1).bind fun t122 => (if t122 = true then (some false) else ((modp_Prime.f k 49).bind fun t123 => (if t123 = true then (some false) else ((modp_Prime.f k 25326001).bind fun t124 => (if t124 = true then (some false) else ((modp_Mod.f (-1) 7).bind fun t125 => (if t125 = 6 then ((modp_Pow.f k 2 10 1000).bind fun t126 => (if t126 = 24 then ((modp_Pow.f k 5 0 1).bind fun t127 => (if t127 = 0 then ((modp_Mod.f 5 0).bind fun t128 => (some (t128 == 0))) else (some false))) else (some false))) else (some false))))))))) else (some false))) else (some false))))) = some r := by rw [if_pos rfl] at H; exact H
      clear H
      have H := H1
      clear H1
      by_cases c6 : t117 = true
      · subst c6
        have H1 : (some false) = some r := by rw [if_pos rfl] at H; exact H
        clear H
        have H := H1
        clear H1
        obtain rfl := Option.some.inj H
        go_enter Try.func10, Try.ntmps10
        go_wp2_with (first | ((with_reducible refine gate_callee (f := 8) rfl ?_); refine goesL_ (some 8) rfl rfl Try.func8 (by kernel_rfl) rfl #[.int .i64 3, .int .i64 7] rfl (by (try simp only [List.map_toArray, List.map_cons, List.map_nil]); first | done | rfl | (simp only [List.length_drop, List.length_take]; rfl)) ?_; (with_reducible refine (modp_Inv.calls k 3 7 t114 true _ A1.out).mono ?_); rintro e w' ⟨rfl, ⟨nd, rfl⟩⟩; refine ⟨_, rfl, ?_⟩) | ((with_reducible refine gate_callee (f := 8) rfl ?_); refine goesL_ (some 12) rfl rfl Try.func8 (by kernel_rfl) rfl #[.int .i64 7, .int .i64 7] rfl (by (try simp only [List.map_toArray, List.map_cons, List.map_nil]); first | done | rfl | (simp only [List.length_drop, List.length_take]; rfl)) ?_; (with_reducible refine (modp_Inv.calls k 7 7 t116 true _ A2.out).mono ?_); rintro e w' ⟨rfl, ⟨nd, rfl⟩⟩; refine ⟨_, rfl, ?_⟩) | ((with_reducible refine gate_callee (f := 8) rfl ?_); refine goesL_ (some 16) rfl rfl Try.func8 (by kernel_rfl) rfl #[.int .i64 3, .int .i64 8] rfl (by (try simp only [List.map_toArray, List.map_cons, List.map_nil]); first | done | rfl | (simp only [List.length_drop, List.length_take]; rfl)) ?_; (with_reducible refine (modp_Inv.calls k 3 8 t118 t119 _ A3.out).mono ?_); rintro e w' ⟨rfl, ⟨nd, rfl⟩⟩; refine ⟨_, rfl, ?_⟩))
        go_ret
        exact ⟨by first | rfl | (simp; done) | (simp [*]; done), by repeat (first | exact Drawn0.refl _ | apply Drawn0.step)⟩
      · replace c6 := Bool.eq_false_iff.mpr c6
        subst c6
        have H1 : (if t119 = true then (some false) else ((modp_Prime.f k 2).bind fun t120 => (if t120 = true then ((modp_Prime.f k 2147483647).bind fun t121 => (if t121 = true then ((modp_Prime.f k 1).bind fun t122 => (if t122 = true then (some false) else ((modp_Prime.f k 49).bind fun t123 => (if t123 = true then (some false) else ((modp_Prime.f k 25326001).bind fun t124 => (if t124 = true then (some false) else ((modp_Mod.f (-1) 7).bind fun t125 => (if t125 = 6 then ((modp_Pow.f k 2 10 1000).bind fun t126 => (if t126 = 24 then ((modp_Pow.f k 5 0 1).bind fun t127 => (if t127 = 0 then ((modp_Mod.f 5 0).bind fun t128 => (some (t128 == 0))) else (some false))) else (some false))) else (some false))))))))) else (some false))) else (some false)))) = some r := by rw [if_neg (show ¬ (false = true) by decide)] at H; exact H
        clear H
        have H := H1
        clear H1
        by_cases c7 : t119 = true
        · subst c7
          have H1 : (some false) = some r := by rw [if_pos rfl] at H; exact H
          clear H
          have H := H1
          clear H1
          obtain rfl := Option.some.inj H
          go_enter Try.func10, Try.ntmps10
          go_wp2_with (first | ((with_reducible refine gate_callee (f := 8) rfl ?_); refine goesL_ (some 8) rfl rfl Try.func8 (by kernel_rfl) rfl #[.int .i64 3, .int .i64 7] rfl (by (try simp only [List.map_toArray, List.map_cons, List.map_nil]); first | done | rfl | (simp only [List.length_drop, List.length_take]; rfl)) ?_; (with_reducible refine (modp_Inv.calls k 3 7 t114 true _ A1.out).mono ?_); rintro e w' ⟨rfl, ⟨nd, rfl⟩⟩; refine ⟨_, rfl, ?_⟩) | ((with_reducible refine gate_callee (f := 8) rfl ?_); refine goesL_ (some 12) rfl rfl Try.func8 (by kernel_rfl) rfl #[.int .i64 7, .int .i64 7] rfl (by (try simp only [List.map_toArray, List.map_cons, List.map_nil]); first | done | rfl | (simp only [List.length_drop, List.length_take]; rfl)) ?_; (with_reducible refine (modp_Inv.calls k 7 7 t116 false _ A2.out).mono ?_); rintro e w' ⟨rfl, ⟨nd, rfl⟩⟩; refine ⟨_, rfl, ?_⟩) | ((with_reducible refine gate_callee (f := 8) rfl ?_); refine goesL_ (some 16) rfl rfl Try.func8 (by kernel_rfl) rfl #[.int .i64 3, .int .i64 8] rfl (by (try simp only [List.map_toArray, List.map_cons, List.map_nil]); first | done | rfl | (simp only [List.length_drop, List.length_take]; rfl)) ?_; (with_reducible refine (modp_Inv.calls k 3 8 t118 true _ A3.out).mono ?_); rintro e w' ⟨rfl, ⟨nd, rfl⟩⟩; refine ⟨_, rfl, ?_⟩))
          go_ret
          exact ⟨by first | rfl | (simp; done) | (simp [*]; done), by repeat (first | exact Drawn0.refl _ | apply Drawn0.step)⟩
        · replace c7 := Bool.eq_false_iff.mpr c7
          subst c7
          have H1 : ((modp_Prime.f k 2).bind fun t120 => (if t120 = true then ((modp_Prime.f k 2147483647).bind fun t121 => (if t121 = true then ((modp_Prime.f k 1).bind fun t122 => (if t122 = true then (some false) else ((modp_Prime.f k 49).bind fun t123 => (if t123 = true then (some false) else ((modp_Prime.f k 25326001).bind fun t124 => (if t124 = true then (some false) else ((modp_Mod.f (-1) 7).bind fun t125 => (if t125 = 6 then ((modp_Pow.f k 2 10 1000).bind fun t126 => (if t126 = 24 then ((modp_Pow.f k 5 0 1).bind fun t127 => (if t127 = 0 then ((modp_Mod.f 5 0).bind fun t128 => (some (t128 == 0))) else (some false))) else (some false))) else (some false))))))))) else (some false))) else (some false))) = some r := by rw [if_neg (show ¬ (false = true) by decide)] at H; exact H
          clear H
          have H := H1
          clear H1
          replace H := Option.bind_eq_some_iff.mp H
          obtain ⟨t120, A80, H⟩ := H
          replace H : (if t120 = true then ((modp_Prime.f k 2147483647).bind fun t121 => (if t121 = true then ((modp_Prime.f k 1).bind fun t122 => (if t122 = true then (some false) else ((modp_Prime.f k 49).bind fun t123 => (if t123 = true then (some false) else ((modp_Prime.f k 25326001).bind fun t124 => (if t124 = true then (some false) else ((modp_Mod.f (-1) 7).bind fun t125 => (if t125 = 6 then ((modp_Pow.f k 2 10 1000).bind fun t126 => (if t126 = 24 then ((modp_Pow.f k 5 0 1).bind fun t127 => (if t127 = 0 then ((modp_Mod.f 5 0).bind fun t128 => (some (t128 == 0))) else (some false))) else (some false))) else (some false))))))))) else (some false))) else (some false)) = some r := H
          have A8 := Aside0.mk A80
          clear A80
          by_cases c9 : t120 = true
          · subst c9
            have H1 : ((modp_Prime.f k 2147483647).bind fun t121 => (if t121 = true then ((modp_Prime.f k 1).bind fun t122 => (if t122 = true then (some false) else ((modp_Prime.f k 49).bind fun t123 => (if t123 = true then (some false) else ((modp_Prime.f k 25326001).bind fun t124 => (if t124 = true then (some false) else ((modp_Mod.f (-1) 7).bind fun t125 => (if t125 = 6 then ((modp_Pow.f k 2 10 1000).bind fun t126 => (if t126 = 24 then ((modp_Pow.f k 5 0 1).bind fun t127 => (if t127 = 0 then ((modp_Mod.f 5 0).bind fun t128 => (some (t128 == 0))) else (some false))) else (some false))) else (some false))))))))) else (some false))) = some r := by rw [if_pos rfl] at H; exact H
            clear H
            have H := H1
            clear H1
            replace H := Option.bind_eq_some_iff.mp H
            obtain ⟨t121, A100, H⟩ := H
            replace H : (if t121 = true then ((modp_Prime.f k 1).bind fun t122 => (if t122 = true then (some false) else ((modp_Prime.f k 49).bind fun t123 => (if t123 = true then (some false) else ((modp_Prime.f k 25326001).bind fun t124 => (if t124 = true then (some false) else ((modp_Mod.f (-1) 7).bind fun t125 => (if t125 = 6 then ((modp_Pow.f k 2 10 1000).bind fun t126 => (if t126 = 24 then ((modp_Pow.f k 5 0 1).bind fun t127 => (if t127 = 0 then ((modp_Mod.f 5 0).bind fun t128 => (some (t128 == 0))) else (some false))) else (some false))) else (some false))))))))) else (some false)) = some r := H
            have A10 := Aside0.mk A100
            clear A100
            by_cases c11 : t121 = true
            · subst c11
              have H1 : ((modp_Prime.f k 1).bind fun t122 => (if t122 = true then (some false) else ((modp_Prime.f k 49).bind fun t123 => (if t123 = true then (some false) else ((modp_Prime.f k 25326001).bind fun t124 => (if t124 = true then (some false) else ((modp_Mod.f (-1) 7).bind fun t125 => (if t125 = 6 then ((modp_Pow.f k 2 10 1000).bind fun t126 => (if t126 = 24 then ((modp_Pow.f k 5 0 1).bind fun t127 => (if t127 = 0 then ((modp_Mod.f 5 0).bind fun t128 => (some (t128 == 0))) else (some false))) else (some false))) else (some false))))))))) = some r := by rw [if_pos rfl] at H; exact H
              clear H
              have H := H1
              clear H1
              replace H := Option.bind_eq_some_iff.mp H
              obtain ⟨t122, A120, H⟩ := H
              replace H : (if t122 = true then (some false) else ((modp_Prime.f k 49).bind fun t123 => (if t123 = true then (some false) else ((modp_Prime.f k 25326001).bind fun t124 => (if t124 = true then (some false) else ((modp_Mod.f (-1) 7).bind fun t125 => (if t125 = 6 then ((modp_Pow.f k 2 10 1000).bind fun t126 => (if t126 = 24 then ((modp_Pow.f k 5 0 1).bind fun t127 => (if t127 = 0 then ((modp_Mod.f 5 0).bind fun t128 => (some (t128 == 0))) else (some false))) else (some false))) else (some false)))))))) = some r := H
              have A12 := Aside0.mk A120
              clear A120
              by_cases c13 : t122 = true
              · subst c13
                have H1 : (some false) = some r := by rw [if_pos rfl] at H; exact H
                clear H
                have H := H1
                clear H1
                obtain rfl := Option.some.inj H
                go_enter Try.func10, Try.ntmps10
                go_wp2_with (first | ((with_reducible refine gate_callee (f := 8) rfl ?_); refine goesL_ (some 8) rfl rfl Try.func8 (by kernel_rfl) rfl #[.int .i64 3, .int .i64 7] rfl (by (try simp only [List.map_toArray, List.map_cons, List.map_nil]); first | done | rfl | (simp only [List.length_drop, List.length_take]; rfl)) ?_; (with_reducible refine (modp_Inv.calls k 3 7 t114 true _ A1.out).mono ?_); rintro e w' ⟨rfl, ⟨nd, rfl⟩⟩; refine ⟨_, rfl, ?_⟩) | ((with_reducible refine gate_callee (f := 8) rfl ?_); refine goesL_ (some 12) rfl rfl Try.func8 (by kernel_rfl) rfl #[.int .i64 7, .int .i64 7] rfl (by (try simp only [List.map_toArray, List.map_cons, List.map_nil]); first | done | rfl | (simp only [List.length_drop, List.length_take]; rfl)) ?_; (with_reducible refine (modp_Inv.calls k 7 7 t116 false _ A2.out).mono ?_); rintro e w' ⟨rfl, ⟨nd, rfl⟩⟩; refine ⟨_, rfl, ?_⟩) | ((with_reducible refine gate_callee (f := 8) rfl ?_); refine goesL_ (some 16) rfl rfl Try.func8 (by kernel_rfl) rfl #[.int .i64 3, .int .i64 8] rfl (by (try simp only [List.map_toArray, List.map_cons, List.map_nil]); first | done | rfl | (simp only [List.length_drop, List.length_take]; rfl)) ?_; (with_reducible refine (modp_Inv.calls k 3 8 t118 false _ A3.out).mono ?_); rintro e w' ⟨rfl, ⟨nd, rfl⟩⟩; refine ⟨_, rfl, ?_⟩) | (go_at_call 11; (with_reducible refine (modp_Prime.calls k 2 true _ A8.out).mono ?_); rintro e w' ⟨rfl, ⟨nd, rfl⟩⟩) | (go_at_call 11; (with_reducible refine (modp_Prime.calls k 2147483647 true _ A10.out).mono ?_); rintro e w' ⟨rfl, ⟨nd, rfl⟩⟩) | (go_at_call 11; (with_reducible refine (modp_Prime.calls k 1 true _ A12.out).mono ?_); rintro e w' ⟨rfl, ⟨nd, rfl⟩⟩))
                go_ret
                exact ⟨by first | rfl | (simp; done) | (simp [*]; done), by repeat (first | exact Drawn0.refl _ | apply Drawn0.step)⟩
              · replace c13 := Bool.eq_false_iff.mpr c13
                subst c13
                have H1 : ((modp_Prime.f k 49).bind fun t123 => (if t123 = true then (some false) else ((modp_Prime.f k 25326001).bind fun t124 => (if t124 = true then (some false) else ((modp_Mod.f (-1) 7).bind fun t125 => (if t125 = 6 then ((modp_Pow.f k 2 10 1000).bind fun t126 => (if t126 = 24 then ((modp_Pow.f k 5 0 1).bind fun t127 => (if t127 = 0 then ((modp_Mod.f 5 0).bind fun t128 => (some (t128 == 0))) else (some false))) else (some false))) else (some false))))))) = some r := by rw [if_neg (show ¬ (false = true) by decide)] at H; exact H
                clear H
                have H := H1
                clear H1
                replace H := Option.bind_eq_some_iff.mp H
                obtain ⟨t123, A140, H⟩ := H
                replace H : (if t123 = true then (some false) else ((modp_Prime.f k 25326001).bind fun t124 => (if t124 = true then (some false) else ((modp_Mod.f (-1) 7).bind fun t125 => (if t125 = 6 then ((modp_Pow.f k 2 10 1000).bind fun t126 => (if t126 = 24 then ((modp_Pow.f k 5 0 1).bind fun t127 => (if t127 = 0 then ((modp_Mod.f 5 0).bind fun t128 => (some (t128 == 0))) else (some false))) else (some false))) else (some false)))))) = some r := H
                have A14 := Aside0.mk A140
                clear A140
                by_cases c15 : t123 = true
                · subst c15
                  have H1 : (some false) = some r := by rw [if_pos rfl] at H; exact H
                  clear H
                  have H := H1
                  clear H1
                  obtain rfl := Option.some.inj H
                  go_enter Try.func10, Try.ntmps10
                  go_wp2_with (first | ((with_reducible refine gate_callee (f := 8) rfl ?_); refine goesL_ (some 8) rfl rfl Try.func8 (by kernel_rfl) rfl #[.int .i64 3, .int .i64 7] rfl (by (try simp only [List.map_toArray, List.map_cons, List.map_nil]); first | done | rfl | (simp only [List.length_drop, List.length_take]; rfl)) ?_; (with_reducible refine (modp_Inv.calls k 3 7 t114 true _ A1.out).mono ?_); rintro e w' ⟨rfl, ⟨nd, rfl⟩⟩; refine ⟨_, rfl, ?_⟩) | ((with_reducible refine gate_callee (f := 8) rfl ?_); refine goesL_ (some 12) rfl rfl Try.func8 (by kernel_rfl) rfl #[.int .i64 7, .int .i64 7] rfl (by (try simp only [List.map_toArray, List.map_cons, List.map_nil]); first | done | rfl | (simp only [List.length_drop, List.length_take]; rfl)) ?_; (with_reducible refine (modp_Inv.calls k 7 7 t116 false _ A2.out).mono ?_); rintro e w' ⟨rfl, ⟨nd, rfl⟩⟩; refine ⟨_, rfl, ?_⟩) | ((with_reducible refine gate_callee (f := 8) rfl ?_); refine goesL_ (some 16) rfl rfl Try.func8 (by kernel_rfl) rfl #[.int .i64 3, .int .i64 8] rfl (by (try simp only [List.map_toArray, List.map_cons, List.map_nil]); first | done | rfl | (simp only [List.length_drop, List.length_take]; rfl)) ?_; (with_reducible refine (modp_Inv.calls k 3 8 t118 false _ A3.out).mono ?_); rintro e w' ⟨rfl, ⟨nd, rfl⟩⟩; refine ⟨_, rfl, ?_⟩) | (go_at_call 11; (with_reducible refine (modp_Prime.calls k 2 true _ A8.out).mono ?_); rintro e w' ⟨rfl, ⟨nd, rfl⟩⟩) | (go_at_call 11; (with_reducible refine (modp_Prime.calls k 2147483647 true _ A10.out).mono ?_); rintro e w' ⟨rfl, ⟨nd, rfl⟩⟩) | (go_at_call 11; (with_reducible refine (modp_Prime.calls k 1 false _ A12.out).mono ?_); rintro e w' ⟨rfl, ⟨nd, rfl⟩⟩) | (go_at_call 11; (with_reducible refine (modp_Prime.calls k 49 true _ A14.out).mono ?_); rintro e w' ⟨rfl, ⟨nd, rfl⟩⟩))
                  go_ret
                  exact ⟨by first | rfl | (simp; done) | (simp [*]; done), by repeat (first | exact Drawn0.refl _ | apply Drawn0.step)⟩
                · replace c15 := Bool.eq_false_iff.mpr c15
                  subst c15
                  have H1 : ((modp_Prime.f k 25326001).bind fun t124 => (if t124 = true then (some false) else ((modp_Mod.f (-1) 7).bind fun t125 => (if t125 = 6 then ((modp_Pow.f k 2 10 1000).bind fun t126 => (if t126 = 24 then ((modp_Pow.f k 5 0 1).bind fun t127 => (if t127 = 0 then ((modp_Mod.f 5 0).bind fun t128 => (some (t128 == 0))) else (some false))) else (some false))) else (some false))))) = some r := by rw [if_neg (show ¬ (false = true) by decide)] at H; exact H
                  clear H
                  have H := H1
                  clear H1
                  replace H := Option.bind_eq_some_iff.mp H
                  obtain ⟨t124, A160, H⟩ := H
                  replace H : (if t124 = true then (some false) else ((modp_Mod.f (-1) 7).bind fun t125 => (if t125 = 6 then ((modp_Pow.f k 2 10 1000).bind fun t126 => (if t126 = 24 then ((modp_Pow.f k 5 0 1).bind fun t127 => (if t127 = 0 then ((modp_Mod.f 5 0).bind fun t128 => (some (t128 == 0))) else (some false))) else (some false))) else (some false)))) = some r := H
                  have A16 := Aside0.mk A160
                  clear A160
                  by_cases c17 : t124 = true
                  · subst c17
                    have H1 : (some false) = some r := by rw [if_pos rfl] at H; exact H
                    clear H
                    have H := H1
                    clear H1
                    obtain rfl := Option.some.inj H
                    go_enter Try.func10, Try.ntmps10
                    go_wp2_with (first | ((with_reducible refine gate_callee (f := 8) rfl ?_); refine goesL_ (some 8) rfl rfl Try.func8 (by kernel_rfl) rfl #[.int .i64 3, .int .i64 7] rfl (by (try simp only [List.map_toArray, List.map_cons, List.map_nil]); first | done | rfl | (simp only [List.length_drop, List.length_take]; rfl)) ?_; (with_reducible refine (modp_Inv.calls k 3 7 t114 true _ A1.out).mono ?_); rintro e w' ⟨rfl, ⟨nd, rfl⟩⟩; refine ⟨_, rfl, ?_⟩) | ((with_reducible refine gate_callee (f := 8) rfl ?_); refine goesL_ (some 12) rfl rfl Try.func8 (by kernel_rfl) rfl #[.int .i64 7, .int .i64 7] rfl (by (try simp only [List.map_toArray, List.map_cons, List.map_nil]); first | done | rfl | (simp only [List.length_drop, List.length_take]; rfl)) ?_; (with_reducible refine (modp_Inv.calls k 7 7 t116 false _ A2.out).mono ?_); rintro e w' ⟨rfl, ⟨nd, rfl⟩⟩; refine ⟨_, rfl, ?_⟩) | ((with_reducible refine gate_callee (f := 8) rfl ?_); refine goesL_ (some 16) rfl rfl Try.func8 (by kernel_rfl) rfl #[.int .i64 3, .int .i64 8] rfl (by (try simp only [List.map_toArray, List.map_cons, List.map_nil]); first | done | rfl | (simp only [List.length_drop, List.length_take]; rfl)) ?_; (with_reducible refine (modp_Inv.calls k 3 8 t118 false _ A3.out).mono ?_); rintro e w' ⟨rfl, ⟨nd, rfl⟩⟩; refine ⟨_, rfl, ?_⟩) | (go_at_call 11; (with_reducible refine (modp_Prime.calls k 2 true _ A8.out).mono ?_); rintro e w' ⟨rfl, ⟨nd, rfl⟩⟩) | (go_at_call 11; (with_reducible refine (modp_Prime.calls k 2147483647 true _ A10.out).mono ?_); rintro e w' ⟨rfl, ⟨nd, rfl⟩⟩) | (go_at_call 11; (with_reducible refine (modp_Prime.calls k 1 false _ A12.out).mono ?_); rintro e w' ⟨rfl, ⟨nd, rfl⟩⟩) | (go_at_call 11; (with_reducible refine (modp_Prime.calls k 49 false _ A14.out).mono ?_); rintro e w' ⟨rfl, ⟨nd, rfl⟩⟩) | (go_at_call 11; (with_reducible refine (modp_Prime.calls k 25326001 true _ A16.out).mono ?_); rintro e w' ⟨rfl, ⟨nd, rfl⟩⟩))
                    go_ret
                    exact ⟨by first | rfl | (simp; done) | (simp [*]; done), by repeat (first | exact Drawn0.refl _ | apply Drawn0.step)⟩
                  · replace c17 := Bool.eq_false_iff.mpr c17
                    subst c17
                    have H1 : ((modp_Mod.f (-1) 7).bind fun t125 => (if t125 = 6 then ((modp_Pow.f k 2 10 1000).bind fun t126 => (if t126 = 24 then ((modp_Pow.f k 5 0 1).bind fun t127 => (if t127 = 0 then ((modp_Mod.f 5 0).bind fun t128 => (some (t128 == 0))) else (some false))) else (some false))) else (some false))) = some r := by rw [if_neg (show ¬ (false = true) by decide)] at H; exact H
                    clear H
                    have H := H1
                    clear H1
                    replace H := Option.bind_eq_some_iff.mp H
                    obtain ⟨t125, A180, H⟩ := H
                    replace H : (if t125 = 6 then ((modp_Pow.f k 2 10 1000).bind fun t126 => (if t126 = 24 then ((modp_Pow.f k 5 0 1).bind fun t127 => (if t127 = 0 then ((modp_Mod.f 5 0).bind fun t128 => (some (t128 == 0))) else (some false))) else (some false))) else (some false)) = some r := H
                    have A18 := Aside0.mk A180
                    clear A180
                    by_cases c19 : t125 = 6
                    · rw [if_pos c19] at H
                      have c19b0 : (t125 == 6) = true := beq_iff_eq.mpr c19
                      have c19b1 : (t125 != 6) = false := bne_eq_false_iff_eq.mpr c19
                      clear c19
                      replace H := Option.bind_eq_some_iff.mp H
                      obtain ⟨t126, A200, H⟩ := H
                      replace H : (if t126 = 24 then ((modp_Pow.f k 5 0 1).bind fun t127 => (if t127 = 0 then ((modp_Mod.f 5 0).bind fun t128 => (some (t128 == 0))) else (some false))) else (some false)) = some r := H
                      have A20 := Aside0.mk A200
                      clear A200
                      by_cases c21 : t126 = 24
                      · rw [if_pos c21] at H
                        have c21b0 : (t126 == 24) = true := beq_iff_eq.mpr c21
                        have c21b1 : (t126 != 24) = false := bne_eq_false_iff_eq.mpr c21
                        clear c21
                        replace H := Option.bind_eq_some_iff.mp H
                        obtain ⟨t127, A220, H⟩ := H
                        replace H : (if t127 = 0 then ((modp_Mod.f 5 0).bind fun t128 => (some (t128 == 0))) else (some false)) = some r := H
                        have A22 := Aside0.mk A220
                        clear A220
                        by_cases c23 : t127 = 0
                        · rw [if_pos c23] at H
                          have c23b0 : (t127 == 0) = true := beq_iff_eq.mpr c23
                          have c23b1 : (t127 != 0) = false := bne_eq_false_iff_eq.mpr c23
                          clear c23
                          replace H := Option.bind_eq_some_iff.mp H
                          obtain ⟨t128, A240, H⟩ := H
                          replace H : (some (t128 == 0)) = some r := H
                          have A24 := Aside0.mk A240
                          clear A240
                          obtain rfl := Option.some.inj H
                          go_enter Try.func10, Try.ntmps10
                          go_wp2_with (first | ((with_reducible refine gate_callee (f := 8) rfl ?_); refine goesL_ (some 8) rfl rfl Try.func8 (by kernel_rfl) rfl #[.int .i64 3, .int .i64 7] rfl (by (try simp only [List.map_toArray, List.map_cons, List.map_nil]); first | done | rfl | (simp only [List.length_drop, List.length_take]; rfl)) ?_; (with_reducible refine (modp_Inv.calls k 3 7 t114 true _ A1.out).mono ?_); rintro e w' ⟨rfl, ⟨nd, rfl⟩⟩; refine ⟨_, rfl, ?_⟩) | ((with_reducible refine gate_callee (f := 8) rfl ?_); refine goesL_ (some 12) rfl rfl Try.func8 (by kernel_rfl) rfl #[.int .i64 7, .int .i64 7] rfl (by (try simp only [List.map_toArray, List.map_cons, List.map_nil]); first | done | rfl | (simp only [List.length_drop, List.length_take]; rfl)) ?_; (with_reducible refine (modp_Inv.calls k 7 7 t116 false _ A2.out).mono ?_); rintro e w' ⟨rfl, ⟨nd, rfl⟩⟩; refine ⟨_, rfl, ?_⟩) | ((with_reducible refine gate_callee (f := 8) rfl ?_); refine goesL_ (some 16) rfl rfl Try.func8 (by kernel_rfl) rfl #[.int .i64 3, .int .i64 8] rfl (by (try simp only [List.map_toArray, List.map_cons, List.map_nil]); first | done | rfl | (simp only [List.length_drop, List.length_take]; rfl)) ?_; (with_reducible refine (modp_Inv.calls k 3 8 t118 false _ A3.out).mono ?_); rintro e w' ⟨rfl, ⟨nd, rfl⟩⟩; refine ⟨_, rfl, ?_⟩) | (go_at_call 11; (with_reducible refine (modp_Prime.calls k 2 true _ A8.out).mono ?_); rintro e w' ⟨rfl, ⟨nd, rfl⟩⟩) | (go_at_call 11; (with_reducible refine (modp_Prime.calls k 2147483647 true _ A10.out).mono ?_); rintro e w' ⟨rfl, ⟨nd, rfl⟩⟩) | (go_at_call 11; (with_reducible refine (modp_Prime.calls k 1 false _ A12.out).mono ?_); rintro e w' ⟨rfl, ⟨nd, rfl⟩⟩) | (go_at_call 11; (with_reducible refine (modp_Prime.calls k 49 false _ A14.out).mono ?_); rintro e w' ⟨rfl, ⟨nd, rfl⟩⟩) | (go_at_call 11; (with_reducible refine (modp_Prime.calls k 25326001 false _ A16.out).mono ?_); rintro e w' ⟨rfl, ⟨nd, rfl⟩⟩) | (go_at_call 13; (with_reducible refine (modp_Mod.calls (-1) 7 t125 _ A18.out).mono ?_); rintro e w' ⟨rfl, ⟨nd, rfl⟩⟩) | (go_at_call 15; (with_reducible refine (modp_Pow.calls k 2 10 1000 t126 _ A20.out).mono ?_); rintro e w' ⟨rfl, ⟨nd, rfl⟩⟩) | (go_at_call 15; (with_reducible refine (modp_Pow.calls k 5 0 1 t127 _ A22.out).mono ?_); rintro e w' ⟨rfl, ⟨nd, rfl⟩⟩) | (go_at_call 13; (with_reducible refine (modp_Mod.calls 5 0 t128 _ A24.out).mono ?_); rintro e w' ⟨rfl, ⟨nd, rfl⟩⟩))
                          go_ret
                          exact ⟨by first | rfl | (simp; done) | (simp [*]; done), by repeat (first | exact Drawn0.refl _ | apply Drawn0.step)⟩
                        · rw [if_neg c23] at H
                          have c23b0 : (t127 == 0) = false := beq_eq_false_iff_ne.mpr c23
                          have c23b1 : (t127 != 0) = true := bne_iff_ne.mpr c23
                          obtain rfl := Option.some.inj H
                          go_enter Try.func10, Try.ntmps10
                          go_wp2_with (first | ((with_reducible refine gate_callee (f := 8) rfl ?_); refine goesL_ (some 8) rfl rfl Try.func8 (by kernel_rfl) rfl #[.int .i64 3, .int .i64 7] rfl (by (try simp only [List.map_toArray, List.map_cons, List.map_nil]); first | done | rfl | (simp only [List.length_drop, List.length_take]; rfl)) ?_; (with_reducible refine (modp_Inv.calls k 3 7 t114 true _ A1.out).mono ?_); rintro e w' ⟨rfl, ⟨nd, rfl⟩⟩; refine ⟨_, rfl, ?_⟩) | ((with_reducible refine gate_callee (f := 8) rfl ?_); refine goesL_ (some 12) rfl rfl Try.func8 (by kernel_rfl) rfl #[.int .i64 7, .int .i64 7] rfl (by (try simp only [List.map_toArray, List.map_cons, List.map_nil]); first | done | rfl | (simp only [List.length_drop, List.length_take]; rfl)) ?_; (with_reducible refine (modp_Inv.calls k 7 7 t116 false _ A2.out).mono ?_); rintro e w' ⟨rfl, ⟨nd, rfl⟩⟩; refine ⟨_, rfl, ?_⟩) | ((with_reducible refine gate_callee (f := 8) rfl ?_); refine goesL_ (some 16) rfl rfl Try.func8 (by kernel_rfl) rfl #[.int .i64 3, .int .i64 8] rfl (by (try simp only [List.map_toArray, List.map_cons, List.map_nil]); first | done | rfl | (simp only [List.length_drop, List.length_take]; rfl)) ?_; (with_reducible refine (modp_Inv.calls k 3 8 t118 false _ A3.out).mono ?_); rintro e w' ⟨rfl, ⟨nd, rfl⟩⟩; refine ⟨_, rfl, ?_⟩) | (go_at_call 11; (with_reducible refine (modp_Prime.calls k 2 true _ A8.out).mono ?_); rintro e w' ⟨rfl, ⟨nd, rfl⟩⟩) | (go_at_call 11; (with_reducible refine (modp_Prime.calls k 2147483647 true _ A10.out).mono ?_); rintro e w' ⟨rfl, ⟨nd, rfl⟩⟩) | (go_at_call 11; (with_reducible refine (modp_Prime.calls k 1 false _ A12.out).mono ?_); rintro e w' ⟨rfl, ⟨nd, rfl⟩⟩) | (go_at_call 11; (with_reducible refine (modp_Prime.calls k 49 false _ A14.out).mono ?_); rintro e w' ⟨rfl, ⟨nd, rfl⟩⟩) | (go_at_call 11; (with_reducible refine (modp_Prime.calls k 25326001 false _ A16.out).mono ?_); rintro e w' ⟨rfl, ⟨nd, rfl⟩⟩) | (go_at_call 13; (with_reducible refine (modp_Mod.calls (-1) 7 t125 _ A18.out).mono ?_); rintro e w' ⟨rfl, ⟨nd, rfl⟩⟩) | (go_at_call 15; (with_reducible refine (modp_Pow.calls k 2 10 1000 t126 _ A20.out).mono ?_); rintro e w' ⟨rfl, ⟨nd, rfl⟩⟩) | (go_at_call 15; (with_reducible refine (modp_Pow.calls k 5 0 1 t127 _ A22.out).mono ?_); rintro e w' ⟨rfl, ⟨nd, rfl⟩⟩))
                          go_ret
                          exact ⟨by first | rfl | (simp; done) | (simp [*]; done), by repeat (first | exact Drawn0.refl _ | apply Drawn0.step)⟩
                      · rw [if_neg c21] at H
                        have c21b0 : (t126 == 24) = false := beq_eq_false_iff_ne.mpr c21
                        have c21b1 : (t126 != 24) = true := bne_iff_ne.mpr c21
                        obtain rfl := Option.some.inj H
                        go_enter Try.func10, Try.ntmps10
                        go_wp2_with (first | ((with_reducible refine gate_callee (f := 8) rfl ?_); refine goesL_ (some 8) rfl rfl Try.func8 (by kernel_rfl) rfl #[.int .i64 3, .int .i64 7] rfl (by (try simp only [List.map_toArray, List.map_cons, List.map_nil]); first | done | rfl | (simp only [List.length_drop, List.length_take]; rfl)) ?_; (with_reducible refine (modp_Inv.calls k 3 7 t114 true _ A1.out).mono ?_); rintro e w' ⟨rfl, ⟨nd, rfl⟩⟩; refine ⟨_, rfl, ?_⟩) | ((with_reducible refine gate_callee (f := 8) rfl ?_); refine goesL_ (some 12) rfl rfl Try.func8 (by kernel_rfl) rfl #[.int .i64 7, .int .i64 7] rfl (by (try simp only [List.map_toArray, List.map_cons, List.map_nil]); first | done | rfl | (simp only [List.length_drop, List.length_take]; rfl)) ?_; (with_reducible refine (modp_Inv.calls k 7 7 t116 false _ A2.out).mono ?_); rintro e w' ⟨rfl, ⟨nd, rfl⟩⟩; refine ⟨_, rfl, ?_⟩) | ((with_reducible refine gate_callee (f := 8) rfl ?_); refine goesL_ (some 16) rfl rfl Try.func8 (by kernel_rfl) rfl #[.int .i64 3, .int .i64 8] rfl (by (try simp only [List.map_toArray, List.map_cons, List.map_nil]); first | done | rfl | (simp only [List.length_drop, List.length_take]; rfl)) ?_; (with_reducible refine (modp_Inv.calls k 3 8 t118 false _ A3.out).mono ?_); rintro e w' ⟨rfl, ⟨nd, rfl⟩⟩; refine ⟨_, rfl, ?_⟩) | (go_at_call 11; (with_reducible refine (modp_Prime.calls k 2 true _ A8.out).mono ?_); rintro e w' ⟨rfl, ⟨nd, rfl⟩⟩) | (go_at_call 11; (with_reducible refine (modp_Prime.calls k 2147483647 true _ A10.out).mono ?_); rintro e w' ⟨rfl, ⟨nd, rfl⟩⟩) | (go_at_call 11; (with_reducible refine (modp_Prime.calls k 1 false _ A12.out).mono ?_); rintro e w' ⟨rfl, ⟨nd, rfl⟩⟩) | (go_at_call 11; (with_reducible refine (modp_Prime.calls k 49 false _ A14.out).mono ?_); rintro e w' ⟨rfl, ⟨nd, rfl⟩⟩) | (go_at_call 11; (with_reducible refine (modp_Prime.calls k 25326001 false _ A16.out).mono ?_); rintro e w' ⟨rfl, ⟨nd, rfl⟩⟩) | (go_at_call 13; (with_reducible refine (modp_Mod.calls (-1) 7 t125 _ A18.out).mono ?_); rintro e w' ⟨rfl, ⟨nd, rfl⟩⟩) | (go_at_call 15; (with_reducible refine (modp_Pow.calls k 2 10 1000 t126 _ A20.out).mono ?_); rintro e w' ⟨rfl, ⟨nd, rfl⟩⟩))
                        go_ret
                        exact ⟨by first | rfl | (simp; done) | (simp [*]; done), by repeat (first | exact Drawn0.refl _ | apply Drawn0.step)⟩
                    · rw [if_neg c19] at H
                      have c19b0 : (t125 == 6) = false := beq_eq_false_iff_ne.mpr c19
                      have c19b1 : (t125 != 6) = true := bne_iff_ne.mpr c19
                      obtain rfl := Option.some.inj H
                      go_enter Try.func10, Try.ntmps10
                      go_wp2_with (first | ((with_reducible refine gate_callee (f := 8) rfl ?_); refine goesL_ (some 8) rfl rfl Try.func8 (by kernel_rfl) rfl #[.int .i64 3, .int .i64 7] rfl (by (try simp only [List.map_toArray, List.map_cons, List.map_nil]); first | done | rfl | (simp only [List.length_drop, List.length_take]; rfl)) ?_; (with_reducible refine (modp_Inv.calls k 3 7 t114 true _ A1.out).mono ?_); rintro e w' ⟨rfl, ⟨nd, rfl⟩⟩; refine ⟨_, rfl, ?_⟩) | ((with_reducible refine gate_callee (f := 8) rfl ?_); refine goesL_ (some 12) rfl rfl Try.func8 (by kernel_rfl) rfl #[.int .i64 7, .int .i64 7] rfl (by (try simp only [List.map_toArray, List.map_cons, List.map_nil]); first | done | rfl | (simp only [List.length_drop, List.length_take]; rfl)) ?_; (with_reducible refine (modp_Inv.calls k 7 7 t116 false _ A2.out).mono ?_); rintro e w' ⟨rfl, ⟨nd, rfl⟩⟩; refine ⟨_, rfl, ?_⟩) | ((with_reducible refine gate_callee (f := 8) rfl ?_); refine goesL_ (some 16) rfl rfl Try.func8 (by kernel_rfl) rfl #[.int .i64 3, .int .i64 8] rfl (by (try simp only [List.map_toArray, List.map_cons, List.map_nil]); first | done | rfl | (simp only [List.length_drop, List.length_take]; rfl)) ?_; (with_reducible refine (modp_Inv.calls k 3 8 t118 false _ A3.out).mono ?_); rintro e w' ⟨rfl, ⟨nd, rfl⟩⟩; refine ⟨_, rfl, ?_⟩) | (go_at_call 11; (with_reducible refine (modp_Prime.calls k 2 true _ A8.out).mono ?_); rintro e w' ⟨rfl, ⟨nd, rfl⟩⟩) | (go_at_call 11; (with_reducible refine (modp_Prime.calls k 2147483647 true _ A10.out).mono ?_); rintro e w' ⟨rfl, ⟨nd, rfl⟩⟩) | (go_at_call 11; (with_reducible refine (modp_Prime.calls k 1 false _ A12.out).mono ?_); rintro e w' ⟨rfl, ⟨nd, rfl⟩⟩) | (go_at_call 11; (with_reducible refine (modp_Prime.calls k 49 false _ A14.out).mono ?_); rintro e w' ⟨rfl, ⟨nd, rfl⟩⟩) | (go_at_call 11; (with_reducible refine (modp_Prime.calls k 25326001 false _ A16.out).mono ?_); rintro e w' ⟨rfl, ⟨nd, rfl⟩⟩) | (go_at_call 13; (with_reducible refine (modp_Mod.calls (-1) 7 t125 _ A18.out).mono ?_); rintro e w' ⟨rfl, ⟨nd, rfl⟩⟩))
                      go_ret
                      exact ⟨by first | rfl | (simp; done) | (simp [*]; done), by repeat (first | exact Drawn0.refl _ | apply Drawn0.step)⟩
            · replace c11 := Bool.eq_false_iff.mpr c11
              subst c11
              have H1 : (some false) = some r := by rw [if_neg (show ¬ (false = true) by decide)] at H; exact H
              clear H
              have H := H1
              clear H1
              obtain rfl := Option.some.inj H
              go_enter Try.func10, Try.ntmps10
              go_wp2_with (first | ((with_reducible refine gate_callee (f := 8) rfl ?_); refine goesL_ (some 8) rfl rfl Try.func8 (by kernel_rfl) rfl #[.int .i64 3, .int .i64 7] rfl (by (try simp only [List.map_toArray, List.map_cons, List.map_nil]); first | done | rfl | (simp only [List.length_drop, List.length_take]; rfl)) ?_; (with_reducible refine (modp_Inv.calls k 3 7 t114 true _ A1.out).mono ?_); rintro e w' ⟨rfl, ⟨nd, rfl⟩⟩; refine ⟨_, rfl, ?_⟩) | ((with_reducible refine gate_callee (f := 8) rfl ?_); refine goesL_ (some 12) rfl rfl Try.func8 (by kernel_rfl) rfl #[.int .i64 7, .int .i64 7] rfl (by (try simp only [List.map_toArray, List.map_cons, List.map_nil]); first | done | rfl | (simp only [List.length_drop, List.length_take]; rfl)) ?_; (with_reducible refine (modp_Inv.calls k 7 7 t116 false _ A2.out).mono ?_); rintro e w' ⟨rfl, ⟨nd, rfl⟩⟩; refine ⟨_, rfl, ?_⟩) | ((with_reducible refine gate_callee (f := 8) rfl ?_); refine goesL_ (some 16) rfl rfl Try.func8 (by kernel_rfl) rfl #[.int .i64 3, .int .i64 8] rfl (by (try simp only [List.map_toArray, List.map_cons, List.map_nil]); first | done | rfl | (simp only [List.length_drop, List.length_take]; rfl)) ?_; (with_reducible refine (modp_Inv.calls k 3 8 t118 false _ A3.out).mono ?_); rintro e w' ⟨rfl, ⟨nd, rfl⟩⟩; refine ⟨_, rfl, ?_⟩) | (go_at_call 11; (with_reducible refine (modp_Prime.calls k 2 true _ A8.out).mono ?_); rintro e w' ⟨rfl, ⟨nd, rfl⟩⟩) | (go_at_call 11; (with_reducible refine (modp_Prime.calls k 2147483647 false _ A10.out).mono ?_); rintro e w' ⟨rfl, ⟨nd, rfl⟩⟩))
              go_ret
              exact ⟨by first | rfl | (simp; done) | (simp [*]; done), by repeat (first | exact Drawn0.refl _ | apply Drawn0.step)⟩
          · replace c9 := Bool.eq_false_iff.mpr c9
            subst c9
            have H1 : (some false) = some r := by rw [if_neg (show ¬ (false = true) by decide)] at H; exact H
            clear H
            have H := H1
            clear H1
            obtain rfl := Option.some.inj H
            go_enter Try.func10, Try.ntmps10
            go_wp2_with (first | ((with_reducible refine gate_callee (f := 8) rfl ?_); refine goesL_ (some 8) rfl rfl Try.func8 (by kernel_rfl) rfl #[.int .i64 3, .int .i64 7] rfl (by (try simp only [List.map_toArray, List.map_cons, List.map_nil]); first | done | rfl | (simp only [List.length_drop, List.length_take]; rfl)) ?_; (with_reducible refine (modp_Inv.calls k 3 7 t114 true _ A1.out).mono ?_); rintro e w' ⟨rfl, ⟨nd, rfl⟩⟩; refine ⟨_, rfl, ?_⟩) | ((with_reducible refine gate_callee (f := 8) rfl ?_); refine goesL_ (some 12) rfl rfl Try.func8 (by kernel_rfl) rfl #[.int .i64 7, .int .i64 7] rfl (by (try simp only [List.map_toArray, List.map_cons, List.map_nil]); first | done | rfl | (simp only [List.length_drop, List.length_take]; rfl)) ?_; (with_reducible refine (modp_Inv.calls k 7 7 t116 false _ A2.out).mono ?_); rintro e w' ⟨rfl, ⟨nd, rfl⟩⟩; refine ⟨_, rfl, ?_⟩) | ((with_reducible refine gate_callee (f := 8) rfl ?_); refine goesL_ (some 16) rfl rfl Try.func8 (by kernel_rfl) rfl #[.int .i64 3, .int .i64 8] rfl (by (try simp only [List.map_toArray, List.map_cons, List.map_nil]); first | done | rfl | (simp only [List.length_drop, List.length_take]; rfl)) ?_; (with_reducible refine (modp_Inv.calls k 3 8 t118 false _ A3.out).mono ?_); rintro e w' ⟨rfl, ⟨nd, rfl⟩⟩; refine ⟨_, rfl, ?_⟩) | (go_at_call 11; (with_reducible refine (modp_Prime.calls k 2 false _ A8.out).mono ?_); rintro e w' ⟨rfl, ⟨nd, rfl⟩⟩))
            go_ret
            exact ⟨by first | rfl | (simp; done) | (simp [*]; done), by repeat (first | exact Drawn0.refl _ | apply Drawn0.step)⟩
    · replace c5 := Bool.eq_false_iff.mpr c5
      subst c5
      have H1 : (some false) = some r := by rw [if_neg (show ¬ (false = true) by decide)] at H; exact H
      clear H
      have H := H1
      clear H1
      obtain rfl := Option.some.inj H
      go_enter Try.func10, Try.ntmps10
      go_wp2_with (first | ((with_reducible refine gate_callee (f := 8) rfl ?_); refine goesL_ (some 8) rfl rfl Try.func8 (by kernel_rfl) rfl #[.int .i64 3, .int .i64 7] rfl (by (try simp only [List.map_toArray, List.map_cons, List.map_nil]); first | done | rfl | (simp only [List.length_drop, List.length_take]; rfl)) ?_; (with_reducible refine (modp_Inv.calls k 3 7 t114 false _ A1.out).mono ?_); rintro e w' ⟨rfl, ⟨nd, rfl⟩⟩; refine ⟨_, rfl, ?_⟩) | ((with_reducible refine gate_callee (f := 8) rfl ?_); refine goesL_ (some 12) rfl rfl Try.func8 (by kernel_rfl) rfl #[.int .i64 7, .int .i64 7] rfl (by (try simp only [List.map_toArray, List.map_cons, List.map_nil]); first | done | rfl | (simp only [List.length_drop, List.length_take]; rfl)) ?_; (with_reducible refine (modp_Inv.calls k 7 7 t116 t117 _ A2.out).mono ?_); rintro e w' ⟨rfl, ⟨nd, rfl⟩⟩; refine ⟨_, rfl, ?_⟩) | ((with_reducible refine gate_callee (f := 8) rfl ?_); refine goesL_ (some 16) rfl rfl Try.func8 (by kernel_rfl) rfl #[.int .i64 3, .int .i64 8] rfl (by (try simp only [List.map_toArray, List.map_cons, List.map_nil]); first | done | rfl | (simp only [List.length_drop, List.length_take]; rfl)) ?_; (with_reducible refine (modp_Inv.calls k 3 8 t118 t119 _ A3.out).mono ?_); rintro e w' ⟨rfl, ⟨nd, rfl⟩⟩; refine ⟨_, rfl, ?_⟩))
      go_ret
      exact ⟨by first | rfl | (simp; done) | (simp [*]; done), by repeat (first | exact Drawn0.refl _ | apply Drawn0.step)⟩
  · rw [if_neg c4] at H
    have c4b0 : (t114 == 5) = false := beq_eq_false_iff_ne.mpr c4
    have c4b1 : (t114 != 5) = true := bne_iff_ne.mpr c4
    obtain rfl := Option.some.inj H
    go_enter Try.func10, Try.ntmps10
    go_wp2_with (first | ((with_reducible refine gate_callee (f := 8) rfl ?_); refine goesL_ (some 8) rfl rfl Try.func8 (by kernel_rfl) rfl #[.int .i64 3, .int .i64 7] rfl (by (try simp only [List.map_toArray, List.map_cons, List.map_nil]); first | done | rfl | (simp only [List.length_drop, List.length_take]; rfl)) ?_; (with_reducible refine (modp_Inv.calls k 3 7 t114 t115 _ A1.out).mono ?_); rintro e w' ⟨rfl, ⟨nd, rfl⟩⟩; refine ⟨_, rfl, ?_⟩) | ((with_reducible refine gate_callee (f := 8) rfl ?_); refine goesL_ (some 12) rfl rfl Try.func8 (by kernel_rfl) rfl #[.int .i64 7, .int .i64 7] rfl (by (try simp only [List.map_toArray, List.map_cons, List.map_nil]); first | done | rfl | (simp only [List.length_drop, List.length_take]; rfl)) ?_; (with_reducible refine (modp_Inv.calls k 7 7 t116 t117 _ A2.out).mono ?_); rintro e w' ⟨rfl, ⟨nd, rfl⟩⟩; refine ⟨_, rfl, ?_⟩) | ((with_reducible refine gate_callee (f := 8) rfl ?_); refine goesL_ (some 16) rfl rfl Try.func8 (by kernel_rfl) rfl #[.int .i64 3, .int .i64 8] rfl (by (try simp only [List.map_toArray, List.map_cons, List.map_nil]); first | done | rfl | (simp only [List.length_drop, List.length_take]; rfl)) ?_; (with_reducible refine (modp_Inv.calls k 3 8 t118 t119 _ A3.out).mono ?_); rintro e w' ⟨rfl, ⟨nd, rfl⟩⟩; refine ⟨_, rfl, ?_⟩))
    go_ret
    exact ⟨by first | rfl | (simp; done) | (simp [*]; done), by repeat (first | exact Drawn0.refl _ | apply Drawn0.step)⟩

/-! ### greenwoodlaw04_ModpTells: function 3 -/
def greenwoodlaw04_ModpTells.f (k : Nat) (a0 : Int) (a1 : Int) (a2 : Int) : Option (Bool) := (modp_Inv.f k a0 a2).bind fun bt129 => ((greenwoodref04_Inv.f k a0 a2).bind fun bt131 => ((greenwoodlaw04_fixed.f k).bind fun t133 => (if t133 = true then ((modp_Prime.f k a2).bind fun t134 => ((greenwoodref04_Prime.f k a2).bind fun t135 => (if (t134 == t135) = true then ((modp_Mod.f a0 a2).bind fun t136 => ((greenwoodref04_Mod.f a0 a2).bind fun t137 => (if t136 = t137 then ((modp_Pow.f k a0 a1 a2).bind fun t138 => ((greenwoodref04_Pow.f k a0 a1 a2).bind fun t139 => (if t138 = t139 then (if bt129.1 = bt131.1 then (some (bt129.2 == bt131.2)) else (some false)) else (some false)))) else (some false)))) else (some false)))) else (some false))))
theorem greenwoodlaw04_ModpTells.mono : ∀ a0 a1 a2 k, LeO (greenwoodlaw04_ModpTells.f k a0 a1 a2) (greenwoodlaw04_ModpTells.f (k + 1) a0 a1 a2) := by
  intro a0 a1 a2 k
  unfold greenwoodlaw04_ModpTells.f
  repeat' first
      | (with_reducible exact greenwoodlaw04_fixed.mono _)
      | (with_reducible exact greenwoodref04_Inv.mono _ _ _)
      | (with_reducible exact greenwoodref04_Pow.mono _ _ _ _)
      | (with_reducible exact greenwoodref04_Prime.mono _ _)
      | (with_reducible exact modp_Inv.mono _ _ _)
      | (with_reducible exact modp_Pow.mono _ _ _ _)
      | (with_reducible exact modp_Prime.mono _ _)
      | (with_reducible exact LeO.refl _)
      | (with_reducible exact LeO.none _)
      | (with_reducible refine LeO.ite ?_ ?_)
      | (with_reducible refine LeO.bind ?_ (fun _ => ?_))
      | exact greenwoodlaw04_fixed.mono _
      | exact greenwoodref04_Inv.mono _ _ _
      | exact greenwoodref04_Pow.mono _ _ _ _
      | exact greenwoodref04_Prime.mono _ _
      | exact modp_Inv.mono _ _ _
      | exact modp_Pow.mono _ _ _ _
      | exact modp_Prime.mono _ _
      | exact LeO.none _
      | refine LeO.ite ?_ ?_
      | refine LeO.bind ?_ (fun _ => ?_)
set_option maxHeartbeats 8000000 in
set_option maxRecDepth 100000 in
theorem greenwoodlaw04_ModpTells.calls (k : Nat) (a0 : Int) (a1 : Int) (a2 : Int) (r : Bool) (w : World) (h : greenwoodlaw04_ModpTells.f k a0 a1 a2 = some r) :
    Calls Try.prog 3 #[.int .i64 a0, .int .i64 a1, .int .i64 a2] w fun e w' => e = .returned (.bool r) ∧ Drawn0 w w' := by
  have H : ((modp_Inv.f k a0 a2).bind fun bt129 => ((greenwoodref04_Inv.f k a0 a2).bind fun bt131 => ((greenwoodlaw04_fixed.f k).bind fun t133 => (if t133 = true then ((modp_Prime.f k a2).bind fun t134 => ((greenwoodref04_Prime.f k a2).bind fun t135 => (if (t134 == t135) = true then ((modp_Mod.f a0 a2).bind fun t136 => ((greenwoodref04_Mod.f a0 a2).bind fun t137 => (if t136 = t137 then ((modp_Pow.f k a0 a1 a2).bind fun t138 => ((greenwoodref04_Pow.f k a0 a1 a2).bind fun t139 => (if t138 = t139 then (if bt129.1 = bt131.1 then (some (bt129.2 == bt131.2)) else (some false)) else (some false)))) else (some false)))) else (some false)))) else (some false))))) = some r := h
  clear h
  replace H := Option.bind_eq_some_iff.mp H
  obtain ⟨⟨t129, t130⟩, A40, H⟩ := H
  replace H : ((greenwoodref04_Inv.f k a0 a2).bind fun bt131 => ((greenwoodlaw04_fixed.f k).bind fun t133 => (if t133 = true then ((modp_Prime.f k a2).bind fun t134 => ((greenwoodref04_Prime.f k a2).bind fun t135 => (if (t134 == t135) = true then ((modp_Mod.f a0 a2).bind fun t136 => ((greenwoodref04_Mod.f a0 a2).bind fun t137 => (if t136 = t137 then ((modp_Pow.f k a0 a1 a2).bind fun t138 => ((greenwoodref04_Pow.f k a0 a1 a2).bind fun t139 => (if t138 = t139 then (if t129 = bt131.1 then (some (t130 == bt131.2)) else (some false)) else (some false)))) else (some false)))) else (some false)))) else (some false)))) = some r := H
  have A4 := Aside0.mk A40
  clear A40
  replace H := Option.bind_eq_some_iff.mp H
  obtain ⟨⟨t131, t132⟩, A50, H⟩ := H
  replace H : ((greenwoodlaw04_fixed.f k).bind fun t133 => (if t133 = true then ((modp_Prime.f k a2).bind fun t134 => ((greenwoodref04_Prime.f k a2).bind fun t135 => (if (t134 == t135) = true then ((modp_Mod.f a0 a2).bind fun t136 => ((greenwoodref04_Mod.f a0 a2).bind fun t137 => (if t136 = t137 then ((modp_Pow.f k a0 a1 a2).bind fun t138 => ((greenwoodref04_Pow.f k a0 a1 a2).bind fun t139 => (if t138 = t139 then (if t129 = t131 then (some (t130 == t132)) else (some false)) else (some false)))) else (some false)))) else (some false)))) else (some false))) = some r := H
  have A5 := Aside0.mk A50
  clear A50
  replace H := Option.bind_eq_some_iff.mp H
  obtain ⟨t133, A60, H⟩ := H
  replace H : (if t133 = true then ((modp_Prime.f k a2).bind fun t134 => ((greenwoodref04_Prime.f k a2).bind fun t135 => (if (t134 == t135) = true then ((modp_Mod.f a0 a2).bind fun t136 => ((greenwoodref04_Mod.f a0 a2).bind fun t137 => (if t136 = t137 then ((modp_Pow.f k a0 a1 a2).bind fun t138 => ((greenwoodref04_Pow.f k a0 a1 a2).bind fun t139 => (if t138 = t139 then (if t129 = t131 then (some (t130 == t132)) else (some false)) else (some false)))) else (some false)))) else (some false)))) else (some false)) = some r := H
  have A6 := Aside0.mk A60
  clear A60
  by_cases c7 : t133 = true
  · subst c7
    have H1 : ((modp_Prime.f k a2).bind fun t134 => ((greenwoodref04_Prime.f k a2).bind fun t135 => (if (t134 == t135) = true then ((modp_Mod.f a0 a2).bind fun t136 => ((greenwoodref04_Mod.f a0 a2).bind fun t137 => (if t136 = t137 then ((modp_Pow.f k a0 a1 a2).bind fun t138 => ((greenwoodref04_Pow.f k a0 a1 a2).bind fun t139 => (if t138 = t139 then (if t129 = t131 then (some (t130 == t132)) else (some false)) else (some false)))) else (some false)))) else (some false)))) = some r := by rw [if_pos rfl] at H; exact H
    clear H
    have H := H1
    clear H1
    replace H := Option.bind_eq_some_iff.mp H
    obtain ⟨t134, A80, H⟩ := H
    replace H : ((greenwoodref04_Prime.f k a2).bind fun t135 => (if (t134 == t135) = true then ((modp_Mod.f a0 a2).bind fun t136 => ((greenwoodref04_Mod.f a0 a2).bind fun t137 => (if t136 = t137 then ((modp_Pow.f k a0 a1 a2).bind fun t138 => ((greenwoodref04_Pow.f k a0 a1 a2).bind fun t139 => (if t138 = t139 then (if t129 = t131 then (some (t130 == t132)) else (some false)) else (some false)))) else (some false)))) else (some false))) = some r := H
    have A8 := Aside0.mk A80
    clear A80
    replace H := Option.bind_eq_some_iff.mp H
    obtain ⟨t135, A90, H⟩ := H
    replace H : (if (t134 == t135) = true then ((modp_Mod.f a0 a2).bind fun t136 => ((greenwoodref04_Mod.f a0 a2).bind fun t137 => (if t136 = t137 then ((modp_Pow.f k a0 a1 a2).bind fun t138 => ((greenwoodref04_Pow.f k a0 a1 a2).bind fun t139 => (if t138 = t139 then (if t129 = t131 then (some (t130 == t132)) else (some false)) else (some false)))) else (some false)))) else (some false)) = some r := H
    have A9 := Aside0.mk A90
    clear A90
    by_cases c10 : (t134 == t135) = true
    · rw [if_pos c10] at H
      have c10b0 : (t134 == t135) = true := c10
      (try (have c10b1 : decide (t134 = t135) = true := by simpa using c10))
      (try (have c10b2 : (t134 == t135) = true := by simpa using c10))
      clear c10
      replace H := Option.bind_eq_some_iff.mp H
      obtain ⟨t136, A110, H⟩ := H
      replace H : ((greenwoodref04_Mod.f a0 a2).bind fun t137 => (if t136 = t137 then ((modp_Pow.f k a0 a1 a2).bind fun t138 => ((greenwoodref04_Pow.f k a0 a1 a2).bind fun t139 => (if t138 = t139 then (if t129 = t131 then (some (t130 == t132)) else (some false)) else (some false)))) else (some false))) = some r := H
      have A11 := Aside0.mk A110
      clear A110
      replace H := Option.bind_eq_some_iff.mp H
      obtain ⟨t137, A120, H⟩ := H
      replace H : (if t136 = t137 then ((modp_Pow.f k a0 a1 a2).bind fun t138 => ((greenwoodref04_Pow.f k a0 a1 a2).bind fun t139 => (if t138 = t139 then (if t129 = t131 then (some (t130 == t132)) else (some false)) else (some false)))) else (some false)) = some r := H
      have A12 := Aside0.mk A120
      clear A120
      by_cases c13 : t136 = t137
      · rw [if_pos c13] at H
        have c13b0 : (t136 == t137) = true := beq_iff_eq.mpr c13
        have c13b1 : (t136 != t137) = false := bne_eq_false_iff_eq.mpr c13
        clear c13
        replace H := Option.bind_eq_some_iff.mp H
        obtain ⟨t138, A140, H⟩ := H
        replace H : ((greenwoodref04_Pow.f k a0 a1 a2).bind fun t139 => (if t138 = t139 then (if t129 = t131 then (some (t130 == t132)) else (some false)) else (some false))) = some r := H
        have A14 := Aside0.mk A140
        clear A140
        replace H := Option.bind_eq_some_iff.mp H
        obtain ⟨t139, A150, H⟩ := H
        replace H : (if t138 = t139 then (if t129 = t131 then (some (t130 == t132)) else (some false)) else (some false)) = some r := H
        have A15 := Aside0.mk A150
        clear A150
        by_cases c16 : t138 = t139
        · rw [if_pos c16] at H
          have c16b0 : (t138 == t139) = true := beq_iff_eq.mpr c16
          have c16b1 : (t138 != t139) = false := bne_eq_false_iff_eq.mpr c16
          clear c16
          by_cases c17 : t129 = t131
          · rw [if_pos c17] at H
            have c17b0 : (t129 == t131) = true := beq_iff_eq.mpr c17
            have c17b1 : (t129 != t131) = false := bne_eq_false_iff_eq.mpr c17
            clear c17
            obtain rfl := Option.some.inj H
            go_enter Try.func3, Try.ntmps3
            go_wp2_with (first | ((with_reducible refine gate_callee (f := 8) rfl ?_); refine goesL_ (some 14) rfl rfl Try.func8 (by kernel_rfl) rfl #[.int .i64 a0, .int .i64 a2] rfl (by (try simp only [List.map_toArray, List.map_cons, List.map_nil]); first | done | rfl | (simp only [List.length_drop, List.length_take]; rfl)) ?_; (with_reducible refine (modp_Inv.calls k a0 a2 t129 t130 _ A4.out).mono ?_); rintro e w' ⟨rfl, ⟨nd, rfl⟩⟩; refine ⟨_, rfl, ?_⟩) | ((with_reducible refine gate_callee (f := 9) rfl ?_); refine goesL_ (some 20) rfl rfl Try.func9 (by kernel_rfl) rfl #[.int .i64 a0, .int .i64 a2] rfl (by (try simp only [List.map_toArray, List.map_cons, List.map_nil]); first | done | rfl | (simp only [List.length_drop, List.length_take]; rfl)) ?_; (with_reducible refine (greenwoodref04_Inv.calls k a0 a2 t131 t132 _ A5.out).mono ?_); rintro e w' ⟨rfl, ⟨nd, rfl⟩⟩; refine ⟨_, rfl, ?_⟩) | ((with_reducible refine gate_callee (f := 10) rfl ?_); refine goesL_ (some 23) rfl rfl Try.func10 (by kernel_rfl) rfl #[] rfl (by (try simp only [List.map_toArray, List.map_cons, List.map_nil]); first | done | rfl | (simp only [List.length_drop, List.length_take]; rfl)) ?_; (with_reducible refine (greenwoodlaw04_fixed.calls k  true _ A6.out).mono ?_); rintro e w' ⟨rfl, ⟨nd, rfl⟩⟩; refine ⟨_, rfl, ?_⟩) | (go_at_call 11; (with_reducible refine (modp_Prime.calls k a2 t134 _ A8.out).mono ?_); rintro e w' ⟨rfl, ⟨nd, rfl⟩⟩) | (go_at_call 12; (with_reducible refine (greenwoodref04_Prime.calls k a2 t135 _ A9.out).mono ?_); rintro e w' ⟨rfl, ⟨nd, rfl⟩⟩) | (go_at_call 13; (with_reducible refine (modp_Mod.calls a0 a2 t136 _ A11.out).mono ?_); rintro e w' ⟨rfl, ⟨nd, rfl⟩⟩) | (go_at_call 14; (with_reducible refine (greenwoodref04_Mod.calls a0 a2 t137 _ A12.out).mono ?_); rintro e w' ⟨rfl, ⟨nd, rfl⟩⟩) | (go_at_call 15; (with_reducible refine (modp_Pow.calls k a0 a1 a2 t138 _ A14.out).mono ?_); rintro e w' ⟨rfl, ⟨nd, rfl⟩⟩) | (go_at_call 16; (with_reducible refine (greenwoodref04_Pow.calls k a0 a1 a2 t139 _ A15.out).mono ?_); rintro e w' ⟨rfl, ⟨nd, rfl⟩⟩))
            go_ret
            exact ⟨by first | rfl | (simp; done) | (simp [*]; done), by repeat (first | exact Drawn0.refl _ | apply Drawn0.step)⟩
          · rw [if_neg c17] at H
            have c17b0 : (t129 == t131) = false := beq_eq_false_iff_ne.mpr c17
            have c17b1 : (t129 != t131) = true := bne_iff_ne.mpr c17
            obtain rfl := Option.some.inj H
            go_enter Try.func3, Try.ntmps3
            go_wp2_with (first | ((with_reducible refine gate_callee (f := 8) rfl ?_); refine goesL_ (some 14) rfl rfl Try.func8 (by kernel_rfl) rfl #[.int .i64 a0, .int .i64 a2] rfl (by (try simp only [List.map_toArray, List.map_cons, List.map_nil]); first | done | rfl | (simp only [List.length_drop, List.length_take]; rfl)) ?_; (with_reducible refine (modp_Inv.calls k a0 a2 t129 t130 _ A4.out).mono ?_); rintro e w' ⟨rfl, ⟨nd, rfl⟩⟩; refine ⟨_, rfl, ?_⟩) | ((with_reducible refine gate_callee (f := 9) rfl ?_); refine goesL_ (some 20) rfl rfl Try.func9 (by kernel_rfl) rfl #[.int .i64 a0, .int .i64 a2] rfl (by (try simp only [List.map_toArray, List.map_cons, List.map_nil]); first | done | rfl | (simp only [List.length_drop, List.length_take]; rfl)) ?_; (with_reducible refine (greenwoodref04_Inv.calls k a0 a2 t131 t132 _ A5.out).mono ?_); rintro e w' ⟨rfl, ⟨nd, rfl⟩⟩; refine ⟨_, rfl, ?_⟩) | ((with_reducible refine gate_callee (f := 10) rfl ?_); refine goesL_ (some 23) rfl rfl Try.func10 (by kernel_rfl) rfl #[] rfl (by (try simp only [List.map_toArray, List.map_cons, List.map_nil]); first | done | rfl | (simp only [List.length_drop, List.length_take]; rfl)) ?_; (with_reducible refine (greenwoodlaw04_fixed.calls k  true _ A6.out).mono ?_); rintro e w' ⟨rfl, ⟨nd, rfl⟩⟩; refine ⟨_, rfl, ?_⟩) | (go_at_call 11; (with_reducible refine (modp_Prime.calls k a2 t134 _ A8.out).mono ?_); rintro e w' ⟨rfl, ⟨nd, rfl⟩⟩) | (go_at_call 12; (with_reducible refine (greenwoodref04_Prime.calls k a2 t135 _ A9.out).mono ?_); rintro e w' ⟨rfl, ⟨nd, rfl⟩⟩) | (go_at_call 13; (with_reducible refine (modp_Mod.calls a0 a2 t136 _ A11.out).mono ?_); rintro e w' ⟨rfl, ⟨nd, rfl⟩⟩) | (go_at_call 14; (with_reducible refine (greenwoodref04_Mod.calls a0 a2 t137 _ A12.out).mono ?_); rintro e w' ⟨rfl, ⟨nd, rfl⟩⟩) | (go_at_call 15; (with_reducible refine (modp_Pow.calls k a0 a1 a2 t138 _ A14.out).mono ?_); rintro e w' ⟨rfl, ⟨nd, rfl⟩⟩) | (go_at_call 16; (with_reducible refine (greenwoodref04_Pow.calls k a0 a1 a2 t139 _ A15.out).mono ?_); rintro e w' ⟨rfl, ⟨nd, rfl⟩⟩))
            go_ret
            exact ⟨by first | rfl | (simp; done) | (simp [*]; done), by repeat (first | exact Drawn0.refl _ | apply Drawn0.step)⟩
        · rw [if_neg c16] at H
          have c16b0 : (t138 == t139) = false := beq_eq_false_iff_ne.mpr c16
          have c16b1 : (t138 != t139) = true := bne_iff_ne.mpr c16
          obtain rfl := Option.some.inj H
          go_enter Try.func3, Try.ntmps3
          go_wp2_with (first | ((with_reducible refine gate_callee (f := 8) rfl ?_); refine goesL_ (some 14) rfl rfl Try.func8 (by kernel_rfl) rfl #[.int .i64 a0, .int .i64 a2] rfl (by (try simp only [List.map_toArray, List.map_cons, List.map_nil]); first | done | rfl | (simp only [List.length_drop, List.length_take]; rfl)) ?_; (with_reducible refine (modp_Inv.calls k a0 a2 t129 t130 _ A4.out).mono ?_); rintro e w' ⟨rfl, ⟨nd, rfl⟩⟩; refine ⟨_, rfl, ?_⟩) | ((with_reducible refine gate_callee (f := 9) rfl ?_); refine goesL_ (some 20) rfl rfl Try.func9 (by kernel_rfl) rfl #[.int .i64 a0, .int .i64 a2] rfl (by (try simp only [List.map_toArray, List.map_cons, List.map_nil]); first | done | rfl | (simp only [List.length_drop, List.length_take]; rfl)) ?_; (with_reducible refine (greenwoodref04_Inv.calls k a0 a2 t131 t132 _ A5.out).mono ?_); rintro e w' ⟨rfl, ⟨nd, rfl⟩⟩; refine ⟨_, rfl, ?_⟩) | ((with_reducible refine gate_callee (f := 10) rfl ?_); refine goesL_ (some 23) rfl rfl Try.func10 (by kernel_rfl) rfl #[] rfl (by (try simp only [List.map_toArray, List.map_cons, List.map_nil]); first | done | rfl | (simp only [List.length_drop, List.length_take]; rfl)) ?_; (with_reducible refine (greenwoodlaw04_fixed.calls k  true _ A6.out).mono ?_); rintro e w' ⟨rfl, ⟨nd, rfl⟩⟩; refine ⟨_, rfl, ?_⟩) | (go_at_call 11; (with_reducible refine (modp_Prime.calls k a2 t134 _ A8.out).mono ?_); rintro e w' ⟨rfl, ⟨nd, rfl⟩⟩) | (go_at_call 12; (with_reducible refine (greenwoodref04_Prime.calls k a2 t135 _ A9.out).mono ?_); rintro e w' ⟨rfl, ⟨nd, rfl⟩⟩) | (go_at_call 13; (with_reducible refine (modp_Mod.calls a0 a2 t136 _ A11.out).mono ?_); rintro e w' ⟨rfl, ⟨nd, rfl⟩⟩) | (go_at_call 14; (with_reducible refine (greenwoodref04_Mod.calls a0 a2 t137 _ A12.out).mono ?_); rintro e w' ⟨rfl, ⟨nd, rfl⟩⟩) | (go_at_call 15; (with_reducible refine (modp_Pow.calls k a0 a1 a2 t138 _ A14.out).mono ?_); rintro e w' ⟨rfl, ⟨nd, rfl⟩⟩) | (go_at_call 16; (with_reducible refine (greenwoodref04_Pow.calls k a0 a1 a2 t139 _ A15.out).mono ?_); rintro e w' ⟨rfl, ⟨nd, rfl⟩⟩))
          go_ret
          exact ⟨by first | rfl | (simp; done) | (simp [*]; done), by repeat (first | exact Drawn0.refl _ | apply Drawn0.step)⟩
      · rw [if_neg c13] at H
        have c13b0 : (t136 == t137) = false := beq_eq_false_iff_ne.mpr c13
        have c13b1 : (t136 != t137) = true := bne_iff_ne.mpr c13
        obtain rfl := Option.some.inj H
        go_enter Try.func3, Try.ntmps3
        go_wp2_with (first | ((with_reducible refine gate_callee (f := 8) rfl ?_); refine goesL_ (some 14) rfl rfl Try.func8 (by kernel_rfl) rfl #[.int .i64 a0, .int .i64 a2] rfl (by (try simp only [List.map_toArray, List.map_cons, List.map_nil]); first | done | rfl | (simp only [List.length_drop, List.length_take]; rfl)) ?_; (with_reducible refine (modp_Inv.calls k a0 a2 t129 t130 _ A4.out).mono ?_); rintro e w' ⟨rfl, ⟨nd, rfl⟩⟩; refine ⟨_, rfl, ?_⟩) | ((with_reducible refine gate_callee (f := 9) rfl ?_); refine goesL_ (some 20) rfl rfl Try.func9 (by kernel_rfl) rfl #[.int .i64 a0, .int .i64 a2] rfl (by (try simp only [List.map_toArray, List.map_cons, List.map_nil]); first | done | rfl | (simp only [List.length_drop, List.length_take]; rfl)) ?_; (with_reducible refine (greenwoodref04_Inv.calls k a0 a2 t131 t132 _ A5.out).mono ?_); rintro e w' ⟨rfl, ⟨nd, rfl⟩⟩; refine ⟨_, rfl, ?_⟩) | ((with_reducible refine gate_callee (f := 10) rfl ?_); refine goesL_ (some 23) rfl rfl Try.func10 (by kernel_rfl) rfl #[] rfl (by (try simp only [List.map_toArray, List.map_cons, List.map_nil]); first | done | rfl | (simp only [List.length_drop, List.length_take]; rfl)) ?_; (with_reducible refine (greenwoodlaw04_fixed.calls k  true _ A6.out).mono ?_); rintro e w' ⟨rfl, ⟨nd, rfl⟩⟩; refine ⟨_, rfl, ?_⟩) | (go_at_call 11; (with_reducible refine (modp_Prime.calls k a2 t134 _ A8.out).mono ?_); rintro e w' ⟨rfl, ⟨nd, rfl⟩⟩) | (go_at_call 12; (with_reducible refine (greenwoodref04_Prime.calls k a2 t135 _ A9.out).mono ?_); rintro e w' ⟨rfl, ⟨nd, rfl⟩⟩) | (go_at_call 13; (with_reducible refine (modp_Mod.calls a0 a2 t136 _ A11.out).mono ?_); rintro e w' ⟨rfl, ⟨nd, rfl⟩⟩) | (go_at_call 14; (with_reducible refine (greenwoodref04_Mod.calls a0 a2 t137 _ A12.out).mono ?_); rintro e w' ⟨rfl, ⟨nd, rfl⟩⟩))
        go_ret
        exact ⟨by first | rfl | (simp; done) | (simp [*]; done), by repeat (first | exact Drawn0.refl _ | apply Drawn0.step)⟩
    · rw [if_neg c10] at H
      have c10b0 : (t134 == t135) = false := by simpa using c10
      (try (have c10b1 : decide (t134 = t135) = false := by simpa using c10))
      (try (have c10b2 : (t134 == t135) = false := by simpa using c10))
      (try (have c10b3 : ¬ (t134 = t135) := by simpa using c10))
      clear c10
      obtain rfl := Option.some.inj H
      go_enter Try.func3, Try.ntmps3
      go_wp2_with (first | ((with_reducible refine gate_callee (f := 8) rfl ?_); refine goesL_ (some 14) rfl rfl Try.func8 (by kernel_rfl) rfl #[.int .i64 a0, .int .i64 a2] rfl (by (try simp only [List.map_toArray, List.map_cons, List.map_nil]); first | done | rfl | (simp only [List.length_drop, List.length_take]; rfl)) ?_; (with_reducible refine (modp_Inv.calls k a0 a2 t129 t130 _ A4.out).mono ?_); rintro e w' ⟨rfl, ⟨nd, rfl⟩⟩; refine ⟨_, rfl, ?_⟩) | ((with_reducible refine gate_callee (f := 9) rfl ?_); refine goesL_ (some 20) rfl rfl Try.func9 (by kernel_rfl) rfl #[.int .i64 a0, .int .i64 a2] rfl (by (try simp only [List.map_toArray, List.map_cons, List.map_nil]); first | done | rfl | (simp only [List.length_drop, List.length_take]; rfl)) ?_; (with_reducible refine (greenwoodref04_Inv.calls k a0 a2 t131 t132 _ A5.out).mono ?_); rintro e w' ⟨rfl, ⟨nd, rfl⟩⟩; refine ⟨_, rfl, ?_⟩) | ((with_reducible refine gate_callee (f := 10) rfl ?_); refine goesL_ (some 23) rfl rfl Try.func10 (by kernel_rfl) rfl #[] rfl (by (try simp only [List.map_toArray, List.map_cons, List.map_nil]); first | done | rfl | (simp only [List.length_drop, List.length_take]; rfl)) ?_; (with_reducible refine (greenwoodlaw04_fixed.calls k  true _ A6.out).mono ?_); rintro e w' ⟨rfl, ⟨nd, rfl⟩⟩; refine ⟨_, rfl, ?_⟩) | (go_at_call 11; (with_reducible refine (modp_Prime.calls k a2 t134 _ A8.out).mono ?_); rintro e w' ⟨rfl, ⟨nd, rfl⟩⟩) | (go_at_call 12; (with_reducible refine (greenwoodref04_Prime.calls k a2 t135 _ A9.out).mono ?_); rintro e w' ⟨rfl, ⟨nd, rfl⟩⟩))
      go_ret
      exact ⟨by first | rfl | (simp; done) | (simp [*]; done), by repeat (first | exact Drawn0.refl _ | apply Drawn0.step)⟩
  · replace c7 := Bool.eq_false_iff.mpr c7
    subst c7
    have H1 : (some false) = some r := by rw [if_neg (show ¬ (false = true) by decide)] at H; exact H
    clear H
    have H := H1
    clear H1
    obtain rfl := Option.some.inj H
    go_enter Try.func3, Try.ntmps3
    go_wp2_with (first | ((with_reducible refine gate_callee (f := 8) rfl ?_); refine goesL_ (some 14) rfl rfl Try.func8 (by kernel_rfl) rfl #[.int .i64 a0, .int .i64 a2] rfl (by (try simp only [List.map_toArray, List.map_cons, List.map_nil]); first | done | rfl | (simp only [List.length_drop, List.length_take]; rfl)) ?_; (with_reducible refine (modp_Inv.calls k a0 a2 t129 t130 _ A4.out).mono ?_); rintro e w' ⟨rfl, ⟨nd, rfl⟩⟩; refine ⟨_, rfl, ?_⟩) | ((with_reducible refine gate_callee (f := 9) rfl ?_); refine goesL_ (some 20) rfl rfl Try.func9 (by kernel_rfl) rfl #[.int .i64 a0, .int .i64 a2] rfl (by (try simp only [List.map_toArray, List.map_cons, List.map_nil]); first | done | rfl | (simp only [List.length_drop, List.length_take]; rfl)) ?_; (with_reducible refine (greenwoodref04_Inv.calls k a0 a2 t131 t132 _ A5.out).mono ?_); rintro e w' ⟨rfl, ⟨nd, rfl⟩⟩; refine ⟨_, rfl, ?_⟩) | ((with_reducible refine gate_callee (f := 10) rfl ?_); refine goesL_ (some 23) rfl rfl Try.func10 (by kernel_rfl) rfl #[] rfl (by (try simp only [List.map_toArray, List.map_cons, List.map_nil]); first | done | rfl | (simp only [List.length_drop, List.length_take]; rfl)) ?_; (with_reducible refine (greenwoodlaw04_fixed.calls k  false _ A6.out).mono ?_); rintro e w' ⟨rfl, ⟨nd, rfl⟩⟩; refine ⟨_, rfl, ?_⟩))
    go_ret
    exact ⟨by first | rfl | (simp; done) | (simp [*]; done), by repeat (first | exact Drawn0.refl _ | apply Drawn0.step)⟩

/-- THE ONE PURE STATEMENT of greenwoodlaw04_ModpTells: yours. -/
def greenwoodlaw04_ModpTells.Pure : Prop := ∀ (a0 : Int) (a1 : Int) (a2 : Int), (Lit.int .i64 a0).wf = true → (Lit.int .i64 a1).wf = true → (Lit.int .i64 a2).wf = true → ∃ k, greenwoodlaw04_ModpTells.f k a0 a1 a2 = some true
theorem greenwoodlaw04_ModpTells.walk (P : greenwoodlaw04_ModpTells.Pure) (a0 : Int) (a1 : Int) (a2 : Int) (w : World) (w0 : (Lit.int .i64 a0).wf = true) (w1 : (Lit.int .i64 a1).wf = true) (w2 : (Lit.int .i64 a2).wf = true) :
    Calls Try.prog 3 #[.int .i64 a0, .int .i64 a1, .int .i64 a2] w fun e w' => e = .returned (.bool true) ∧ Below w.heap.size w w' := by
  obtain ⟨k, h⟩ := P a0 a1 a2 w0 w1 w2
  refine (greenwoodlaw04_ModpTells.calls k a0 a1 a2 true w h).mono ?_
  rintro e w' ⟨rfl, hd⟩
  exact ⟨rfl, hd.below⟩

/-! ### greenwoodlaw04_ModpInverts: function 4 -/
mutual
def greenwoodlaw04_ModpInverts.j0 : Nat → Int → Int → Int → Bool → Option (Bool)
  | 0, _, _, _, _ => none
  | k + 1, x0, x1, x2, x23 => if x23 = true then ((greenwoodlaw04_fixed.f k).bind fun t142 => (some t142)) else ((greenwoodref04_Mod.f x0 x2).bind fun t143 => ((greenwoodref04_Mod.f x1 x2).bind fun t144 => ((modp_Inv.f k x0 x2).bind fun bt145 => ((modp_Inv.f k x1 x2).bind fun bt147 => (if (bt145.2 != (t143 != 0)) = true then (greenwoodlaw04_ModpInverts.j1 k x2 t143 t144 bt145.1 bt147.1 true) else (greenwoodlaw04_ModpInverts.j1 k x2 t143 t144 bt145.1 bt147.1 (bt147.2 != (t144 != 0))))))))
def greenwoodlaw04_ModpInverts.j1 : Nat → Int → Int → Int → Int → Int → Bool → Option (Bool)
  | 0, _, _, _, _, _, _ => none
  | k + 1, x2, x7, x8, x9, x11, x52 => if x52 = true then (some false) else (if x7 = 0 then (greenwoodlaw04_ModpInverts.j2 k x2 x7 x8 x9 x11 true) else (greenwoodlaw04_ModpInverts.j2 k x2 x7 x8 x9 x11 (x8 == 0)))
def greenwoodlaw04_ModpInverts.j2 : Nat → Int → Int → Int → Int → Int → Bool → Option (Bool)
  | 0, _, _, _, _, _, _ => none
  | k + 1, x2, x7, x8, x9, x11, x58 => if x58 = true then (some true) else (if x2 = 0 then (none) else ((modp_Inv.f k (Int.tmod (wrap64 (x7 * x8)) x2) x2).bind fun bt149 => ((modp_Inv.f k x9 x2).bind fun bt151 => (if x9 ≥ 1 then (if x9 < x2 then (if (Int.tmod (wrap64 (x9 * x7)) x2) = 1 then (if bt149.2 = true then (if bt149.1 = (Int.tmod (wrap64 (x9 * x11)) x2) then (if bt151.2 = true then (some (bt151.1 == x7)) else (some false)) else (some false)) else (some false)) else (some false)) else (some false)) else (some false)))))
end
def greenwoodlaw04_ModpInverts.f (k : Nat) (a0 : Int) (a1 : Int) (a2 : Int) : Option (Bool) := (greenwoodlaw04_fixed.f k).bind fun t140 => (if t140 = true then ((greenwoodref04_Prime.f k a2).bind fun t141 => (greenwoodlaw04_ModpInverts.j0 k a0 a1 a2 (!t141))) else (greenwoodlaw04_ModpInverts.j0 k a0 a1 a2 true))
theorem greenwoodlaw04_ModpInverts.mono_l : ∀ k, (∀ y0 y1 y2 y3, LeO (greenwoodlaw04_ModpInverts.j0 k y0 y1 y2 y3) (greenwoodlaw04_ModpInverts.j0 (k + 1) y0 y1 y2 y3)) ∧ (∀ y0 y1 y2 y3 y4 y5, LeO (greenwoodlaw04_ModpInverts.j1 k y0 y1 y2 y3 y4 y5) (greenwoodlaw04_ModpInverts.j1 (k + 1) y0 y1 y2 y3 y4 y5)) ∧ (∀ y0 y1 y2 y3 y4 y5, LeO (greenwoodlaw04_ModpInverts.j2 k y0 y1 y2 y3 y4 y5) (greenwoodlaw04_ModpInverts.j2 (k + 1) y0 y1 y2 y3 y4 y5))
  | 0 => ⟨fun _ _ _ _ r h => by simp [greenwoodlaw04_ModpInverts.j0] at h, fun _ _ _ _ _ _ r h => by simp [greenwoodlaw04_ModpInverts.j1] at h, fun _ _ _ _ _ _ r h => by simp [greenwoodlaw04_ModpInverts.j2] at h⟩
  | k + 1 => by
    obtain ⟨ih0, ih1, ih2⟩ := greenwoodlaw04_ModpInverts.mono_l k
    refine ⟨?_, ?_, ?_⟩
    · intro y0 y1 y2 y3
      unfold greenwoodlaw04_ModpInverts.j0
      repeat' first
      | (with_reducible exact ih0 _ _ _ _)
      | (with_reducible exact ih1 _ _ _ _ _ _)
      | (with_reducible exact ih2 _ _ _ _ _ _)
      | (with_reducible exact greenwoodlaw04_fixed.mono _)
      | (with_reducible exact greenwoodref04_Prime.mono _ _)
      | (with_reducible exact modp_Inv.mono _ _ _)
      | (with_reducible exact LeO.refl _)
      | (with_reducible exact LeO.none _)
      | (with_reducible refine LeO.ite ?_ ?_)
      | (with_reducible refine LeO.bind ?_ (fun _ => ?_))
      | exact ih0 _ _ _ _
      | exact ih1 _ _ _ _ _ _
      | exact ih2 _ _ _ _ _ _
      | exact greenwoodlaw04_fixed.mono _
      | exact greenwoodref04_Prime.mono _ _
      | exact modp_Inv.mono _ _ _
      | exact LeO.none _
      | refine LeO.ite ?_ ?_
      | refine LeO.bind ?_ (fun _ => ?_)
    · intro y0 y1 y2 y3 y4 y5
      unfold greenwoodlaw04_ModpInverts.j1
      repeat' first
      | (with_reducible exact ih0 _ _ _ _)
      | (with_reducible exact ih1 _ _ _ _ _ _)
      | (with_reducible exact ih2 _ _ _ _ _ _)
      | (with_reducible exact greenwoodlaw04_fixed.mono _)
      | (with_reducible exact greenwoodref04_Prime.mono _ _)
      | (with_reducible exact modp_Inv.mono _ _ _)
      | (with_reducible exact LeO.refl _)
      | (with_reducible exact LeO.none _)
      | (with_reducible refine LeO.ite ?_ ?_)
      | (with_reducible refine LeO.bind ?_ (fun _ => ?_))
      | exact ih0 _ _ _ _
      | exact ih1 _ _ _ _ _ _
      | exact ih2 _ _ _ _ _ _
      | exact greenwoodlaw04_fixed.mono _
      | exact greenwoodref04_Prime.mono _ _
      | exact modp_Inv.mono _ _ _
      | exact LeO.none _
      | refine LeO.ite ?_ ?_
      | refine LeO.bind ?_ (fun _ => ?_)
    · intro y0 y1 y2 y3 y4 y5
      unfold greenwoodlaw04_ModpInverts.j2
      repeat' first
      | (with_reducible exact ih0 _ _ _ _)
      | (with_reducible exact ih1 _ _ _ _ _ _)
      | (with_reducible exact ih2 _ _ _ _ _ _)
      | (with_reducible exact greenwoodlaw04_fixed.mono _)
      | (with_reducible exact greenwoodref04_Prime.mono _ _)
      | (with_reducible exact modp_Inv.mono _ _ _)
      | (with_reducible exact LeO.refl _)
      | (with_reducible exact LeO.none _)
      | (with_reducible refine LeO.ite ?_ ?_)
      | (with_reducible refine LeO.bind ?_ (fun _ => ?_))
      | exact ih0 _ _ _ _
      | exact ih1 _ _ _ _ _ _
      | exact ih2 _ _ _ _ _ _
      | exact greenwoodlaw04_fixed.mono _
      | exact greenwoodref04_Prime.mono _ _
      | exact modp_Inv.mono _ _ _
      | exact LeO.none _
      | refine LeO.ite ?_ ?_
      | refine LeO.bind ?_ (fun _ => ?_)
theorem greenwoodlaw04_ModpInverts.mono : ∀ a0 a1 a2 k, LeO (greenwoodlaw04_ModpInverts.f k a0 a1 a2) (greenwoodlaw04_ModpInverts.f (k + 1) a0 a1 a2) := by
  intro a0 a1 a2 k
  obtain ⟨ih0, ih1, ih2⟩ := greenwoodlaw04_ModpInverts.mono_l k
  unfold greenwoodlaw04_ModpInverts.f
  repeat' first
      | (with_reducible exact ih0 _ _ _ _)
      | (with_reducible exact ih1 _ _ _ _ _ _)
      | (with_reducible exact ih2 _ _ _ _ _ _)
      | (with_reducible exact greenwoodlaw04_fixed.mono _)
      | (with_reducible exact greenwoodref04_Prime.mono _ _)
      | (with_reducible exact modp_Inv.mono _ _ _)
      | (with_reducible exact LeO.refl _)
      | (with_reducible exact LeO.none _)
      | (with_reducible refine LeO.ite ?_ ?_)
      | (with_reducible refine LeO.bind ?_ (fun _ => ?_))
      | exact ih0 _ _ _ _
      | exact ih1 _ _ _ _ _ _
      | exact ih2 _ _ _ _ _ _
      | exact greenwoodlaw04_fixed.mono _
      | exact greenwoodref04_Prime.mono _ _
      | exact modp_Inv.mono _ _ _
      | exact LeO.none _
      | refine LeO.ite ?_ ?_
      | refine LeO.bind ?_ (fun _ => ?_)
set_option maxHeartbeats 8000000 in
set_option maxRecDepth 100000 in
theorem greenwoodlaw04_ModpInverts.calls (k : Nat) (a0 : Int) (a1 : Int) (a2 : Int) (r : Bool) (w : World) (h : greenwoodlaw04_ModpInverts.f k a0 a1 a2 = some r) :
    Calls Try.prog 4 #[.int .i64 a0, .int .i64 a1, .int .i64 a2] w fun e w' => e = .returned (.bool r) ∧ Drawn0 w w' := by
  have H : ((greenwoodlaw04_fixed.f k).bind fun t140 => (if t140 = true then ((greenwoodref04_Prime.f k a2).bind fun t141 => (greenwoodlaw04_ModpInverts.j0 k a0 a1 a2 (!t141))) else (greenwoodlaw04_ModpInverts.j0 k a0 a1 a2 true))) = some r := h
  clear h
  have HC4 := Aside0.mk H
  clear H
  go_enter Try.func4, Try.ntmps4
  go_upto_region 1 with (fail)
  go_cut [23] (fun v23 wc => ∃ (kq : Nat) (x23_3 : Bool), v23 = .bool x23_3 ∧ Aside0 (greenwoodlaw04_ModpInverts.j0 kq a0 a1 a2 x23_3 = some r) ∧ Aside0 (kq ≤ k) ∧ Drawn0 w wc)
  case first =>
    have H := HC4.out
    clear HC4
    replace H := Option.bind_eq_some_iff.mp H
    obtain ⟨t140, A50, H⟩ := H
    replace H : (if t140 = true then ((greenwoodref04_Prime.f k a2).bind fun t141 => (greenwoodlaw04_ModpInverts.j0 k a0 a1 a2 (!t141))) else (greenwoodlaw04_ModpInverts.j0 k a0 a1 a2 true)) = some r := H
    have A5 := Aside0.mk A50
    clear A50
    by_cases c6 : t140 = true
    · subst c6
      have H1 : ((greenwoodref04_Prime.f k a2).bind fun t141 => (greenwoodlaw04_ModpInverts.j0 k a0 a1 a2 (!t141))) = some r := by rw [if_pos rfl] at H; exact H
      clear H
      have H := H1
      clear H1
      replace H := Option.bind_eq_some_iff.mp H
      obtain ⟨t141, A70, H⟩ := H
      replace H : (greenwoodlaw04_ModpInverts.j0 k a0 a1 a2 (!t141)) = some r := H
      have A7 := Aside0.mk A70
      clear A70
      have H' := Aside0.mk H
      clear H
      go_wp2_with (first | ((with_reducible refine gate_callee (f := 10) rfl ?_); refine goesL_ (some 17) rfl rfl Try.func10 (by kernel_rfl) rfl #[] rfl (by (try simp only [List.map_toArray, List.map_cons, List.map_nil]); first | done | rfl | (simp only [List.length_drop, List.length_take]; rfl)) ?_; (with_reducible refine (greenwoodlaw04_fixed.calls k  true _ A5.out).mono ?_); rintro e w' ⟨rfl, ⟨nd, rfl⟩⟩; refine ⟨_, rfl, ?_⟩) | (go_at_call 12; (with_reducible refine (greenwoodref04_Prime.calls k a2 t141 _ A7.out).mono ?_); rintro e w' ⟨rfl, ⟨nd, rfl⟩⟩))
      go_meet
      case rel => exact ⟨_, (!t141), (by first | rfl | (simp; done) | (simp [*]; done)), H', ⟨by first | omega | exact Nat.le_refl _⟩, by repeat (first | exact Drawn0.refl _ | apply Drawn0.step)⟩
    · replace c6 := Bool.eq_false_iff.mpr c6
      subst c6
      have H1 : (greenwoodlaw04_ModpInverts.j0 k a0 a1 a2 true) = some r := by rw [if_neg (show ¬ (false = true) by decide)] at H; exact H
      clear H
      have H := H1
      clear H1
      have H' := Aside0.mk H
      clear H
      go_wp2_with (first | ((with_reducible refine gate_callee (f := 10) rfl ?_); refine goesL_ (some 17) rfl rfl Try.func10 (by kernel_rfl) rfl #[] rfl (by (try simp only [List.map_toArray, List.map_cons, List.map_nil]); first | done | rfl | (simp only [List.length_drop, List.length_take]; rfl)) ?_; (with_reducible refine (greenwoodlaw04_fixed.calls k  false _ A5.out).mono ?_); rintro e w' ⟨rfl, ⟨nd, rfl⟩⟩; refine ⟨_, rfl, ?_⟩))
      go_meet
      case rel => exact ⟨_, (true), (by first | rfl | (simp; done) | (simp [*]; done)), H', ⟨by first | omega | exact Nat.le_refl _⟩, by repeat (first | exact Drawn0.refl _ | apply Drawn0.step)⟩
  case rest =>
    clear HC4
    try clear c1
    try clear p2
    try clear c4
    try clear c6
    obtain ⟨kq, x23_3, rfl, HA, HJ3, ⟨mc3, rfl⟩⟩ := hcut
    cases kq with
    | zero => exact absurd HA.out (by simp [greenwoodlaw04_ModpInverts.j0])
    | succ kj3 =>
      have H := HA.out
      clear HA
      simp only [greenwoodlaw04_ModpInverts.j0] at H
      by_cases c8 : x23_3 = true
      · subst c8
        have H1 : ((greenwoodlaw04_fixed.f kj3).bind fun t142 => (some t142)) = some r := by rw [if_pos rfl] at H; exact H
        clear H
        have H := H1
        clear H1
        replace H := Option.bind_eq_some_iff.mp H
        obtain ⟨t142, A90, H⟩ := H
        replace H : (some t142) = some r := H
        have A9 := Aside0.mk A90
        clear A90
        obtain rfl := Option.some.inj H
        go_wp2_with (first | ((with_reducible refine gate_callee (f := 10) rfl ?_); refine goesL_ (some 24) rfl rfl Try.func10 (by kernel_rfl) rfl #[] rfl (by (try simp only [List.map_toArray, List.map_cons, List.map_nil]); first | done | rfl | (simp only [List.length_drop, List.length_take]; rfl)) ?_; (with_reducible refine (greenwoodlaw04_fixed.calls kj3  t142 _ A9.out).mono ?_); rintro e w' ⟨rfl, ⟨nd, rfl⟩⟩; refine ⟨_, rfl, ?_⟩))
        go_ret
        exact ⟨by first | rfl | (simp; done) | (simp [*]; done), by repeat (first | exact Drawn0.refl _ | apply Drawn0.step)⟩
      · replace c8 := Bool.eq_false_iff.mpr c8
        subst c8
        have H1 : ((greenwoodref04_Mod.f a0 a2).bind fun t143 => ((greenwoodref04_Mod.f a1 a2).bind fun t144 => ((modp_Inv.f kj3 a0 a2).bind fun bt145 => ((modp_Inv.f kj3 a1 a2).bind fun bt147 => (if (bt145.2 != (t143 != 0)) = true then (greenwoodlaw04_ModpInverts.j1 kj3 a2 t143 t144 bt145.1 bt147.1 true) else (greenwoodlaw04_ModpInverts.j1 kj3 a2 t143 t144 bt145.1 bt147.1 (bt147.2 != (t144 != 0)))))))) = some r := by rw [if_neg (show ¬ (false = true) by decide)] at H; exact H
        clear H
        have H := H1
        clear H1
        replace H := Option.bind_eq_some_iff.mp H
        obtain ⟨t143, A100, H⟩ := H
        replace H : ((greenwoodref04_Mod.f a1 a2).bind fun t144 => ((modp_Inv.f kj3 a0 a2).bind fun bt145 => ((modp_Inv.f kj3 a1 a2).bind fun bt147 => (if (bt145.2 != (t143 != 0)) = true then (greenwoodlaw04_ModpInverts.j1 kj3 a2 t143 t144 bt145.1 bt147.1 true) else (greenwoodlaw04_ModpInverts.j1 kj3 a2 t143 t144 bt145.1 bt147.1 (bt147.2 != (t144 != 0))))))) = some r := H
        have A10 := Aside0.mk A100
        clear A100
        replace H := Option.bind_eq_some_iff.mp H
        obtain ⟨t144, A110, H⟩ := H
        replace H : ((modp_Inv.f kj3 a0 a2).bind fun bt145 => ((modp_Inv.f kj3 a1 a2).bind fun bt147 => (if (bt145.2 != (t143 != 0)) = true then (greenwoodlaw04_ModpInverts.j1 kj3 a2 t143 t144 bt145.1 bt147.1 true) else (greenwoodlaw04_ModpInverts.j1 kj3 a2 t143 t144 bt145.1 bt147.1 (bt147.2 != (t144 != 0)))))) = some r := H
        have A11 := Aside0.mk A110
        clear A110
        replace H := Option.bind_eq_some_iff.mp H
        obtain ⟨⟨t145, t146⟩, A120, H⟩ := H
        replace H : ((modp_Inv.f kj3 a1 a2).bind fun bt147 => (if (t146 != (t143 != 0)) = true then (greenwoodlaw04_ModpInverts.j1 kj3 a2 t143 t144 t145 bt147.1 true) else (greenwoodlaw04_ModpInverts.j1 kj3 a2 t143 t144 t145 bt147.1 (bt147.2 != (t144 != 0))))) = some r := H
        have A12 := Aside0.mk A120
        clear A120
        replace H := Option.bind_eq_some_iff.mp H
        obtain ⟨⟨t147, t148⟩, A130, H⟩ := H
        replace H : (if (t146 != (t143 != 0)) = true then (greenwoodlaw04_ModpInverts.j1 kj3 a2 t143 t144 t145 t147 true) else (greenwoodlaw04_ModpInverts.j1 kj3 a2 t143 t144 t145 t147 (t148 != (t144 != 0)))) = some r := H
        have A13 := Aside0.mk A130
        clear A130
        have HC14 := Aside0.mk H
        clear H
        go_upto_region 6 with (first | ((with_reducible refine gate_callee (f := 14) rfl ?_); refine goesL_ (some 27) rfl rfl Try.func14 (by kernel_rfl) rfl #[.int .i64 a0, .int .i64 a2] rfl (by (try simp only [List.map_toArray, List.map_cons, List.map_nil]); first | done | rfl | (simp only [List.length_drop, List.length_take]; rfl)) ?_; (with_reducible refine (greenwoodref04_Mod.calls a0 a2 t143 _ A10.out).mono ?_); rintro e w' ⟨rfl, ⟨nd, rfl⟩⟩; refine ⟨_, rfl, ?_⟩) | ((with_reducible refine gate_callee (f := 14) rfl ?_); refine goesL_ (some 30) rfl rfl Try.func14 (by kernel_rfl) rfl #[.int .i64 a1, .int .i64 a2] rfl (by (try simp only [List.map_toArray, List.map_cons, List.map_nil]); first | done | rfl | (simp only [List.length_drop, List.length_take]; rfl)) ?_; (with_reducible refine (greenwoodref04_Mod.calls a1 a2 t144 _ A11.out).mono ?_); rintro e w' ⟨rfl, ⟨nd, rfl⟩⟩; refine ⟨_, rfl, ?_⟩) | ((with_reducible refine gate_callee (f := 8) rfl ?_); refine goesL_ (some 34) rfl rfl Try.func8 (by kernel_rfl) rfl #[.int .i64 a0, .int .i64 a2] rfl (by (try simp only [List.map_toArray, List.map_cons, List.map_nil]); first | done | rfl | (simp only [List.length_drop, List.length_take]; rfl)) ?_; (with_reducible refine (modp_Inv.calls kj3 a0 a2 t145 t146 _ A12.out).mono ?_); rintro e w' ⟨rfl, ⟨nd, rfl⟩⟩; refine ⟨_, rfl, ?_⟩) | ((with_reducible refine gate_callee (f := 8) rfl ?_); refine goesL_ (some 40) rfl rfl Try.func8 (by kernel_rfl) rfl #[.int .i64 a1, .int .i64 a2] rfl (by (try simp only [List.map_toArray, List.map_cons, List.map_nil]); first | done | rfl | (simp only [List.length_drop, List.length_take]; rfl)) ?_; (with_reducible refine (modp_Inv.calls kj3 a1 a2 t147 t148 _ A13.out).mono ?_); rintro e w' ⟨rfl, ⟨nd, rfl⟩⟩; refine ⟨_, rfl, ?_⟩))
        (try simp only [Act.put, List.setIfInBounds_toArray, List.set_cons_zero, List.set_cons_succ])
        go_cut [52] (fun v52 wc => ∃ (kq : Nat) (x52_13 : Bool), v52 = .bool x52_13 ∧ Aside0 (greenwoodlaw04_ModpInverts.j1 kq a2 t143 t144 t145 t147 x52_13 = some r) ∧ Aside0 (kq ≤ kj3) ∧ Drawn0 w wc)
        case first =>
          have H := HC14.out
          clear HC14
          by_cases c15 : (t146 != (t143 != 0)) = true
          · rw [if_pos c15] at H
            have c15b0 : (t146 != (t143 != 0)) = true := c15
            (try (have c15b1 : decide (t146 = (t143 != 0)) = false := by simpa using c15))
            (try (have c15b2 : (t146 == (t143 != 0)) = false := by simpa using c15))
            (try (have c15b3 : ¬ (t146 = (t143 != 0)) := by simpa using c15))
            clear c15
            (first | rw [c15b0] | (simp only [i64_w, i32_w]; rw [c15b0]) | skip)
            have H' := Aside0.mk H
            clear H
            go_wp2
            go_meet
            case rel => exact ⟨_, (true), (by first | rfl | (simp; done) | (simp [*]; done)), H', ⟨by have := HJ3.out; first | omega | exact Nat.le_refl _⟩, by repeat (first | exact Drawn0.refl _ | apply Drawn0.step)⟩
          · rw [if_neg c15] at H
            have c15b0 : (t146 != (t143 != 0)) = false := by simpa using c15
            (try (have c15b1 : decide (t146 = (t143 != 0)) = true := by simpa using c15))
            (try (have c15b2 : (t146 == (t143 != 0)) = true := by simpa using c15))
            clear c15
            (first | rw [c15b0] | (simp only [i64_w, i32_w]; rw [c15b0]) | skip)
            have H' := Aside0.mk H
            clear H
            go_wp2
            go_meet
            case rel => exact ⟨_, ((t148 != (t144 != 0))), (by first | rfl | (simp; done) | (simp [*]; done)), H', ⟨by have := HJ3.out; first | omega | exact Nat.le_refl _⟩, by repeat (first | exact Drawn0.refl _ | apply Drawn0.step)⟩
        case rest =>
          clear HC14
          try clear c1
          try clear p2
          try clear c3
          try clear c4
          try clear c6
          try clear c8
          try clear c10
          try clear c14
          try clear c15
          try clear c15b0
          try clear c15b1
          try clear c15b2
          try clear p2
          obtain ⟨kq, x52_13, rfl, HA, HJ13, ⟨mc13, rfl⟩⟩ := hcut
          cases kq with
          | zero => exact absurd HA.out (by simp [greenwoodlaw04_ModpInverts.j1])
          | succ kj13 =>
            have H := HA.out
            clear HA
            simp only [greenwoodlaw04_ModpInverts.j1] at H
            by_cases c16 : x52_13 = true
            · subst c16
              have H1 : (some false) = some r := by rw [if_pos rfl] at H; exact H
              clear H
              have H := H1
              clear H1
              obtain rfl := Option.some.inj H
              go_wp2
              go_ret
              exact ⟨by first | rfl | (simp; done) | (simp [*]; done), by repeat (first | exact Drawn0.refl _ | apply Drawn0.step)⟩
            · replace c16 := Bool.eq_false_iff.mpr c16
              subst c16
              have H1 : (if t143 = 0 then (greenwoodlaw04_ModpInverts.j2 kj13 a2 t143 t144 t145 t147 true) else (greenwoodlaw04_ModpInverts.j2 kj13 a2 t143 t144 t145 t147 (t144 == 0))) = some r := by rw [if_neg (show ¬ (false = true) by decide)] at H; exact H
              clear H
              have H := H1
              clear H1
              have HC17 := Aside0.mk H
              clear H
              go_upto_region 8 with (fail)
              go_cut [58] (fun v58 wc => ∃ (kq : Nat) (x58_16 : Bool), v58 = .bool x58_16 ∧ Aside0 (greenwoodlaw04_ModpInverts.j2 kq a2 t143 t144 t145 t147 x58_16 = some r) ∧ Aside0 (kq ≤ kj13) ∧ Drawn0 w wc)
              case first =>
                have H := HC17.out
                clear HC17
                by_cases c18 : t143 = 0
                · rw [if_pos c18] at H
                  have c18b0 : (t143 == 0) = true := beq_iff_eq.mpr c18
                  have c18b1 : (t143 != 0) = false := bne_eq_false_iff_eq.mpr c18
                  clear c18
                  (first | rw [c18b0] | (simp only [i64_w, i32_w]; rw [c18b0]) | skip)
                  have H' := Aside0.mk H
                  clear H
                  go_wp2
                  go_meet
                  case rel => exact ⟨_, (true), (by first | rfl | (simp; done) | (simp [*]; done)), H', ⟨by have := HJ3.out; have := HJ13.out; first | omega | exact Nat.le_refl _⟩, by repeat (first | exact Drawn0.refl _ | apply Drawn0.step)⟩
                · rw [if_neg c18] at H
                  have c18b0 : (t143 == 0) = false := beq_eq_false_iff_ne.mpr c18
                  have c18b1 : (t143 != 0) = true := bne_iff_ne.mpr c18
                  (first | rw [c18b0] | (simp only [i64_w, i32_w]; rw [c18b0]) | skip)
                  have H' := Aside0.mk H
                  clear H
                  go_wp2
                  go_meet
                  case rel => exact ⟨_, ((t144 == 0)), (by first | rfl | (simp; done) | (simp [*]; done)), H', ⟨by have := HJ3.out; have := HJ13.out; first | omega | exact Nat.le_refl _⟩, by repeat (first | exact Drawn0.refl _ | apply Drawn0.step)⟩
              case rest =>
                clear HC17
                try clear c1
                try clear p2
                try clear c3
                try clear c4
                try clear c6
                try clear c8
                try clear c10
                try clear c13
                try clear c14
                try clear c15
                try clear c15b0
                try clear c15b1
                try clear c15b2
                try clear c16
                try clear c18
                try clear c18b0
                try clear c18b1
                try clear p2
                obtain ⟨kq, x58_16, rfl, HA, HJ16, ⟨mc16, rfl⟩⟩ := hcut
                cases kq with
                | zero => exact absurd HA.out (by simp [greenwoodlaw04_ModpInverts.j2])
                | succ kj16 =>
                  have H := HA.out
                  clear HA
                  simp only [greenwoodlaw04_ModpInverts.j2] at H
                  by_cases c19 : x58_16 = true
                  · subst c19
                    have H1 : (some true) = some r := by rw [if_pos rfl] at H; exact H
                    clear H
                    have H := H1
                    clear H1
                    obtain rfl := Option.some.inj H
                    go_wp2
                    go_ret
                    exact ⟨by first | rfl | (simp; done) | (simp [*]; done), by repeat (first | exact Drawn0.refl _ | apply Drawn0.step)⟩
                  · replace c19 := Bool.eq_false_iff.mpr c19
                    subst c19
                    have H1 : (if a2 = 0 then (none) else ((modp_Inv.f kj16 (Int.tmod (wrap64 (t143 * t144)) a2) a2).bind fun bt149 => ((modp_Inv.f kj16 t145 a2).bind fun bt151 => (if t145 ≥ 1 then (if t145 < a2 then (if (Int.tmod (wrap64 (t145 * t143)) a2) = 1 then (if bt149.2 = true then (if bt149.1 = (Int.tmod (wrap64 (t145 * t147)) a2) then (if bt151.2 = true then (some (bt151.1 == t143)) else (some false)) else (some false)) else (some false)) else (some false)) else (some false)) else (some false))))) = some r := by rw [if_neg (show ¬ (false = true) by decide)] at H; exact H
                    clear H
                    have H := H1
                    clear H1
                    by_cases c20 : a2 = 0
                    · rw [if_pos c20] at H
                      exact absurd H (by simp)
                    · rw [if_neg c20] at H
                      have c20b0 : (a2 == 0) = false := beq_eq_false_iff_ne.mpr c20
                      have c20b1 : (a2 != 0) = true := bne_iff_ne.mpr c20
                      replace H := Option.bind_eq_some_iff.mp H
                      obtain ⟨⟨t149, t150⟩, A210, H⟩ := H
                      replace H : ((modp_Inv.f kj16 t145 a2).bind fun bt151 => (if t145 ≥ 1 then (if t145 < a2 then (if (Int.tmod (wrap64 (t145 * t143)) a2) = 1 then (if t150 = true then (if t149 = (Int.tmod (wrap64 (t145 * t147)) a2) then (if bt151.2 = true then (some (bt151.1 == t143)) else (some false)) else (some false)) else (some false)) else (some false)) else (some false)) else (some false))) = some r := H
                      have A21 := Aside0.mk A210
                      clear A210
                      replace H := Option.bind_eq_some_iff.mp H
                      obtain ⟨⟨t151, t152⟩, A220, H⟩ := H
                      replace H : (if t145 ≥ 1 then (if t145 < a2 then (if (Int.tmod (wrap64 (t145 * t143)) a2) = 1 then (if t150 = true then (if t149 = (Int.tmod (wrap64 (t145 * t147)) a2) then (if t152 = true then (some (t151 == t143)) else (some false)) else (some false)) else (some false)) else (some false)) else (some false)) else (some false)) = some r := H
                      have A22 := Aside0.mk A220
                      clear A220
                      by_cases c23 : t145 ≥ 1
                      · rw [if_pos c23] at H
                        have c23b0 : decide (1 ≤ t145) = true := decide_eq_true c23
                        clear c23
                        by_cases c24 : t145 < a2
                        · rw [if_pos c24] at H
                          have c24b0 : decide (t145 < a2) = true := decide_eq_true c24
                          clear c24
                          by_cases c25 : (Int.tmod (wrap64 (t145 * t143)) a2) = 1
                          · rw [if_pos c25] at H
                            have c25b0 : ((Int.tmod (wrap64 (t145 * t143)) a2) == 1) = true := beq_iff_eq.mpr c25
                            have c25b1 : ((Int.tmod (wrap64 (t145 * t143)) a2) != 1) = false := bne_eq_false_iff_eq.mpr c25
                            clear c25
                            by_cases c26 : t150 = true
                            · subst c26
                              have H1 : (if t149 = (Int.tmod (wrap64 (t145 * t147)) a2) then (if t152 = true then (some (t151 == t143)) else (some false)) else (some false)) = some r := by rw [if_pos rfl] at H; exact H
                              clear H
                              have H := H1
                              clear H1
                              by_cases c27 : t149 = (Int.tmod (wrap64 (t145 * t147)) a2)
                              · rw [if_pos c27] at H
                                have c27b0 : (t149 == (Int.tmod (wrap64 (t145 * t147)) a2)) = true := beq_iff_eq.mpr c27
                                have c27b1 : (t149 != (Int.tmod (wrap64 (t145 * t147)) a2)) = false := bne_eq_false_iff_eq.mpr c27
                                clear c27
                                by_cases c28 : t152 = true
                                · subst c28
                                  have H1 : (some (t151 == t143)) = some r := by rw [if_pos rfl] at H; exact H
                                  clear H
                                  have H := H1
                                  clear H1
                                  obtain rfl := Option.some.inj H
                                  go_wp2_with (first | ((with_reducible refine gate_callee (f := 8) rfl ?_); refine goesL_ (some 66) rfl rfl Try.func8 (by kernel_rfl) rfl #[.int .i64 (Int.tmod (wrap64 (t143 * t144)) a2), .int .i64 a2] rfl (by (try simp only [List.map_toArray, List.map_cons, List.map_nil]); first | done | rfl | (simp only [List.length_drop, List.length_take]; rfl)) ?_; (with_reducible refine (modp_Inv.calls kj16 (Int.tmod (wrap64 (t143 * t144)) a2) a2 t149 true _ A21.out).mono ?_); rintro e w' ⟨rfl, ⟨nd, rfl⟩⟩; refine ⟨_, rfl, ?_⟩) | ((with_reducible refine gate_callee (f := 8) rfl ?_); refine goesL_ (some 72) rfl rfl Try.func8 (by kernel_rfl) rfl #[.int .i64 t145, .int .i64 a2] rfl (by (try simp only [List.map_toArray, List.map_cons, List.map_nil]); first | done | rfl | (simp only [List.length_drop, List.length_take]; rfl)) ?_; (with_reducible refine (modp_Inv.calls kj16 t145 a2 t151 true _ A22.out).mono ?_); rintro e w' ⟨rfl, ⟨nd, rfl⟩⟩; refine ⟨_, rfl, ?_⟩))
                                  go_ret
                                  exact ⟨by first | rfl | (simp; done) | (simp [*]; done), by repeat (first | exact Drawn0.refl _ | apply Drawn0.step)⟩
                                · replace c28 := Bool.eq_false_iff.mpr c28
                                  subst c28
                                  have H1 : (some false) = some r := by rw [if_neg (show ¬ (false = true) by decide)] at H; exact H
                                  clear H
                                  have H := H1
                                  clear H1
                                  obtain rfl := Option.some.inj H
                                  go_wp2_with (first | ((with_reducible refine gate_callee (f := 8) rfl ?_); refine goesL_ (some 66) rfl rfl Try.func8 (by kernel_rfl) rfl #[.int .i64 (Int.tmod (wrap64 (t143 * t144)) a2), .int .i64 a2] rfl (by (try simp only [List.map_toArray, List.map_cons, List.map_nil]); first | done | rfl | (simp only [List.length_drop, List.length_take]; rfl)) ?_; (with_reducible refine (modp_Inv.calls kj16 (Int.tmod (wrap64 (t143 * t144)) a2) a2 t149 true _ A21.out).mono ?_); rintro e w' ⟨rfl, ⟨nd, rfl⟩⟩; refine ⟨_, rfl, ?_⟩) | ((with_reducible refine gate_callee (f := 8) rfl ?_); refine goesL_ (some 72) rfl rfl Try.func8 (by kernel_rfl) rfl #[.int .i64 t145, .int .i64 a2] rfl (by (try simp only [List.map_toArray, List.map_cons, List.map_nil]); first | done | rfl | (simp only [List.length_drop, List.length_take]; rfl)) ?_; (with_reducible refine (modp_Inv.calls kj16 t145 a2 t151 false _ A22.out).mono ?_); rintro e w' ⟨rfl, ⟨nd, rfl⟩⟩; refine ⟨_, rfl, ?_⟩))
                                  go_ret
                                  exact ⟨by first | rfl | (simp; done) | (simp [*]; done), by repeat (first | exact Drawn0.refl _ | apply Drawn0.step)⟩
                              · rw [if_neg c27] at H
                                have c27b0 : (t149 == (Int.tmod (wrap64 (t145 * t147)) a2)) = false := beq_eq_false_iff_ne.mpr c27
                                have c27b1 : (t149 != (Int.tmod (wrap64 (t145 * t147)) a2)) = true := bne_iff_ne.mpr c27
                                obtain rfl := Option.some.inj H
                                go_wp2_with (first | ((with_reducible refine gate_callee (f := 8) rfl ?_); refine goesL_ (some 66) rfl rfl Try.func8 (by kernel_rfl) rfl #[.int .i64 (Int.tmod (wrap64 (t143 * t144)) a2), .int .i64 a2] rfl (by (try simp only [List.map_toArray, List.map_cons, List.map_nil]); first | done | rfl | (simp only [List.length_drop, List.length_take]; rfl)) ?_; (with_reducible refine (modp_Inv.calls kj16 (Int.tmod (wrap64 (t143 * t144)) a2) a2 t149 true _ A21.out).mono ?_); rintro e w' ⟨rfl, ⟨nd, rfl⟩⟩; refine ⟨_, rfl, ?_⟩) | ((with_reducible refine gate_callee (f := 8) rfl ?_); refine goesL_ (some 72) rfl rfl Try.func8 (by kernel_rfl) rfl #[.int .i64 t145, .int .i64 a2] rfl (by (try simp only [List.map_toArray, List.map_cons, List.map_nil]); first | done | rfl | (simp only [List.length_drop, List.length_take]; rfl)) ?_; (with_reducible refine (modp_Inv.calls kj16 t145 a2 t151 t152 _ A22.out).mono ?_); rintro e w' ⟨rfl, ⟨nd, rfl⟩⟩; refine ⟨_, rfl, ?_⟩))
                                go_ret
                                exact ⟨by first | rfl | (simp; done) | (simp [*]; done), by repeat (first | exact Drawn0.refl _ | apply Drawn0.step)⟩
                            · replace c26 := Bool.eq_false_iff.mpr c26
                              subst c26
                              have H1 : (some false) = some r := by rw [if_neg (show ¬ (false = true) by decide)] at H; exact H
                              clear H
                              have H := H1
                              clear H1
                              obtain rfl := Option.some.inj H
                              go_wp2_with (first | ((with_reducible refine gate_callee (f := 8) rfl ?_); refine goesL_ (some 66) rfl rfl Try.func8 (by kernel_rfl) rfl #[.int .i64 (Int.tmod (wrap64 (t143 * t144)) a2), .int .i64 a2] rfl (by (try simp only [List.map_toArray, List.map_cons, List.map_nil]); first | done | rfl | (simp only [List.length_drop, List.length_take]; rfl)) ?_; (with_reducible refine (modp_Inv.calls kj16 (Int.tmod (wrap64 (t143 * t144)) a2) a2 t149 false _ A21.out).mono ?_); rintro e w' ⟨rfl, ⟨nd, rfl⟩⟩; refine ⟨_, rfl, ?_⟩) | ((with_reducible refine gate_callee (f := 8) rfl ?_); refine goesL_ (some 72) rfl rfl Try.func8 (by kernel_rfl) rfl #[.int .i64 t145, .int .i64 a2] rfl (by (try simp only [List.map_toArray, List.map_cons, List.map_nil]); first | done | rfl | (simp only [List.length_drop, List.length_take]; rfl)) ?_; (with_reducible refine (modp_Inv.calls kj16 t145 a2 t151 t152 _ A22.out).mono ?_); rintro e w' ⟨rfl, ⟨nd, rfl⟩⟩; refine ⟨_, rfl, ?_⟩))
                              go_ret
                              exact ⟨by first | rfl | (simp; done) | (simp [*]; done), by repeat (first | exact Drawn0.refl _ | apply Drawn0.step)⟩
                          · rw [if_neg c25] at H
                            have c25b0 : ((Int.tmod (wrap64 (t145 * t143)) a2) == 1) = false := beq_eq_false_iff_ne.mpr c25
                            have c25b1 : ((Int.tmod (wrap64 (t145 * t143)) a2) != 1) = true := bne_iff_ne.mpr c25
                            obtain rfl := Option.some.inj H
                            go_wp2_with (first | ((with_reducible refine gate_callee (f := 8) rfl ?_); refine goesL_ (some 66) rfl rfl Try.func8 (by kernel_rfl) rfl #[.int .i64 (Int.tmod (wrap64 (t143 * t144)) a2), .int .i64 a2] rfl (by (try simp only [List.map_toArray, List.map_cons, List.map_nil]); first | done | rfl | (simp only [List.length_drop, List.length_take]; rfl)) ?_; (with_reducible refine (modp_Inv.calls kj16 (Int.tmod (wrap64 (t143 * t144)) a2) a2 t149 t150 _ A21.out).mono ?_); rintro e w' ⟨rfl, ⟨nd, rfl⟩⟩; refine ⟨_, rfl, ?_⟩) | ((with_reducible refine gate_callee (f := 8) rfl ?_); refine goesL_ (some 72) rfl rfl Try.func8 (by kernel_rfl) rfl #[.int .i64 t145, .int .i64 a2] rfl (by (try simp only [List.map_toArray, List.map_cons, List.map_nil]); first | done | rfl | (simp only [List.length_drop, List.length_take]; rfl)) ?_; (with_reducible refine (modp_Inv.calls kj16 t145 a2 t151 t152 _ A22.out).mono ?_); rintro e w' ⟨rfl, ⟨nd, rfl⟩⟩; refine ⟨_, rfl, ?_⟩))
                            go_ret
                            exact ⟨by first | rfl | (simp; done) | (simp [*]; done), by repeat (first | exact Drawn0.refl _ | apply Drawn0.step)⟩
                        · rw [if_neg c24] at H
                          have c24b0 : decide (t145 < a2) = false := decide_eq_false c24
                          clear c24
                          obtain rfl := Option.some.inj H
                          go_wp2_with (first | ((with_reducible refine gate_callee (f := 8) rfl ?_); refine goesL_ (some 66) rfl rfl Try.func8 (by kernel_rfl) rfl #[.int .i64 (Int.tmod (wrap64 (t143 * t144)) a2), .int .i64 a2] rfl (by (try simp only [List.map_toArray, List.map_cons, List.map_nil]); first | done | rfl | (simp only [List.length_drop, List.length_take]; rfl)) ?_; (with_reducible refine (modp_Inv.calls kj16 (Int.tmod (wrap64 (t143 * t144)) a2) a2 t149 t150 _ A21.out).mono ?_); rintro e w' ⟨rfl, ⟨nd, rfl⟩⟩; refine ⟨_, rfl, ?_⟩) | ((with_reducible refine gate_callee (f := 8) rfl ?_); refine goesL_ (some 72) rfl rfl Try.func8 (by kernel_rfl) rfl #[.int .i64 t145, .int .i64 a2] rfl (by (try simp only [List.map_toArray, List.map_cons, List.map_nil]); first | done | rfl | (simp only [List.length_drop, List.length_take]; rfl)) ?_; (with_reducible refine (modp_Inv.calls kj16 t145 a2 t151 t152 _ A22.out).mono ?_); rintro e w' ⟨rfl, ⟨nd, rfl⟩⟩; refine ⟨_, rfl, ?_⟩))
                          go_ret
                          exact ⟨by first | rfl | (simp; done) | (simp [*]; done), by repeat (first | exact Drawn0.refl _ | apply Drawn0.step)⟩
                      · rw [if_neg c23] at H
                        have c23b0 : decide (1 ≤ t145) = false := decide_eq_false c23
                        clear c23
                        obtain rfl := Option.some.inj H
                        go_wp2_with (first | ((with_reducible refine gate_callee (f := 8) rfl ?_); refine goesL_ (some 66) rfl rfl Try.func8 (by kernel_rfl) rfl #[.int .i64 (Int.tmod (wrap64 (t143 * t144)) a2), .int .i64 a2] rfl (by (try simp only [List.map_toArray, List.map_cons, List.map_nil]); first | done | rfl | (simp only [List.length_drop, List.length_take]; rfl)) ?_; (with_reducible refine (modp_Inv.calls kj16 (Int.tmod (wrap64 (t143 * t144)) a2) a2 t149 t150 _ A21.out).mono ?_); rintro e w' ⟨rfl, ⟨nd, rfl⟩⟩; refine ⟨_, rfl, ?_⟩) | ((with_reducible refine gate_callee (f := 8) rfl ?_); refine goesL_ (some 72) rfl rfl Try.func8 (by kernel_rfl) rfl #[.int .i64 t145, .int .i64 a2] rfl (by (try simp only [List.map_toArray, List.map_cons, List.map_nil]); first | done | rfl | (simp only [List.length_drop, List.length_take]; rfl)) ?_; (with_reducible refine (modp_Inv.calls kj16 t145 a2 t151 t152 _ A22.out).mono ?_); rintro e w' ⟨rfl, ⟨nd, rfl⟩⟩; refine ⟨_, rfl, ?_⟩))
                        go_ret
                        exact ⟨by first | rfl | (simp; done) | (simp [*]; done), by repeat (first | exact Drawn0.refl _ | apply Drawn0.step)⟩

/-- THE ONE PURE STATEMENT of greenwoodlaw04_ModpInverts: yours. -/
def greenwoodlaw04_ModpInverts.Pure : Prop := ∀ (a0 : Int) (a1 : Int) (a2 : Int), (Lit.int .i64 a0).wf = true → (Lit.int .i64 a1).wf = true → (Lit.int .i64 a2).wf = true → ∃ k, greenwoodlaw04_ModpInverts.f k a0 a1 a2 = some true
theorem greenwoodlaw04_ModpInverts.walk (P : greenwoodlaw04_ModpInverts.Pure) (a0 : Int) (a1 : Int) (a2 : Int) (w : World) (w0 : (Lit.int .i64 a0).wf = true) (w1 : (Lit.int .i64 a1).wf = true) (w2 : (Lit.int .i64 a2).wf = true) :
    Calls Try.prog 4 #[.int .i64 a0, .int .i64 a1, .int .i64 a2] w fun e w' => e = .returned (.bool true) ∧ Below w.heap.size w w' := by
  obtain ⟨k, h⟩ := P a0 a1 a2 w0 w1 w2
  refine (greenwoodlaw04_ModpInverts.calls k a0 a1 a2 true w h).mono ?_
  rintro e w' ⟨rfl, hd⟩
  exact ⟨rfl, hd.below⟩

-- NOT PRINTED: function 5 (greenwoodlaw04_ModpPowers)

-- NOT PRINTED: function 6 (greenwoodlaw04_ModpLinear)

end Go.Proofs.Ytelinpgfjgoofaa.P
