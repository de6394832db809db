/- Law ModpLinear of layer 4, its walk: what a sum, a product, a multiple leaves hangs on what its parts leave. No condition. -/
import Derived.Test.YtelinpgfjgoofaaPx3
import Derived.Test.YtelinpgfjgoofaaModp
namespace Go.Proofs.Ytelinpgfjgoofaa.P
open Go.RowKit Go.Proofs.YtelinpgfjgoofaaW.PrintWords Go.Proofs.YtelinpgfjgoofaaW.PrintLast Go.Proofs.YtelinpgfjgoofaaW.PrintMore
set_option linter.unusedVariables false
set_option linter.unusedSimpArgs false

theorem fixed_c (w : World) : Calls Try.prog 10 #[] w fun e w' => e = .returned (.bool true) ∧ Drawn0 w w' :=
  greenwoodlaw04_fixed.calls 70 true w (by decide +kernel)
theorem Mod_c (a p : Int) (w : World) : Calls Try.prog 13 #[.int .i64 a, .int .i64 p] w fun e w' => e = .returned (.int .i64 (md a p)) ∧ Drawn0 w w' :=
  modp_Mod.calls a p _ w (Mod_eq a p)
theorem Pow_c (a n p : Int) (hn : n ≤ 9223372036854775807) (w : World) : Calls Try.prog 15 #[.int .i64 a, .int .i64 n, .int .i64 p] w fun e w' => e = .returned (.int .i64 (pwz a n p)) ∧ Drawn0 w w' := by
  obtain ⟨k, hk⟩ := (Pow_eq a p hn).rounds
  exact modp_Pow.calls k a n p _ w hk


theorem quiet_add {P : Program} {f : FuncId} {args : Array Value} {w : World} {a n : Nat} {v : Value}
    (h : Calls P f args (w.drewN (a + n)) fun e w' => e = .returned v ∧ Drawn0 (w.drewN (a + n)) w') :
    Calls P f args (w.drewN (a + n)) fun e w'' => e = .returned v ∧ ∃ m, w'' = w.drewN (a + m) :=
  h.mono fun _ _ ⟨he, ⟨m, hm⟩⟩ => ⟨he, n + m, by rw [hm, World.drewN_drewN, Nat.add_assoc]⟩
theorem quiet_one {P : Program} {f : FuncId} {args : Array Value} {w : World} {n : Nat} {v : Value}
    (h : Calls P f args (w.drewN n) fun e w' => e = .returned v ∧ Drawn0 (w.drewN n) w') :
    Calls P f args (w.drewN n) fun e w'' => e = .returned v ∧ ∃ m, w'' = w.drewN m :=
  h.mono fun _ _ ⟨he, ⟨m, hm⟩⟩ => ⟨he, n + m, by rw [hm, World.drewN_drewN]⟩

theorem tm_of (x p : Int) (hp : okP p) (h0 : 0 ≤ x) (h1 : x ≤ 9223372036854775807) : Int.tmod (wrap64 x) p = x % p := by
  rw [wrap_id (by omega) h1, Int.tmod_eq_emod_of_nonneg h0]

theorem lin_math (a b p : Int) (hp : okP p) (ha : -1073741824 ≤ a ∧ a ≤ 1073741824) (hb : -1073741824 ≤ b ∧ b ≤ 1073741824) :
    0 ≤ md a p ∧ md a p < p ∧ md (wrap64 (a + b)) p = Int.tmod (wrap64 (md a p + md b p)) p ∧ md (wrap64 (a * b)) p = Int.tmod (wrap64 (md a p * md b p)) p ∧
    md (wrap64 (a + p)) p = md a p ∧ md (wrap64 (-a)) p = Int.tmod (wrap64 (p - md a p)) p ∧ pwz a 2 p = Int.tmod (wrap64 (md a p * md a p)) p := by
  have h1 := hp.1
  have h2 := hp.2
  have e : ∀ x, md x p = x % p := fun x => by unfold md; rw [if_pos hp]
  simp only [e]
  have a0 := Int.emod_nonneg a (show p ≠ 0 by omega)
  have a1 := Int.emod_lt_of_pos a (show 0 < p by omega)
  have b0 := Int.emod_nonneg b (show p ≠ 0 by omega)
  have b1 := Int.emod_lt_of_pos b (show 0 < p by omega)
  have hab : (a * b).natAbs ≤ 1073741824 * 1073741824 := by
    rw [Int.natAbs_mul]; exact Nat.mul_le_mul (by omega) (by omega)
  have hmul : ∀ x y : Int, 0 ≤ x → x < p → 0 ≤ y → y < p → 0 ≤ x * y ∧ x * y ≤ 9223372036854775807 := by
    intro x y x0 x1 y0 y1
    have h3 : (x * y).natAbs ≤ 2147483647 * 2147483647 := by rw [Int.natAbs_mul]; exact Nat.mul_le_mul (by omega) (by omega)
    have h4 := Int.mul_nonneg x0 y0
    exact ⟨h4, by omega⟩
  have m1 := hmul _ _ a0 a1 b0 b1
  have m2 := hmul _ _ a0 a1 a0 a1
  refine ⟨a0, a1, ?_, ?_, ?_, ?_, ?_⟩
  · rw [tm_of _ p hp (by omega) (by omega), wrap_id (by omega) (by omega)]
    exact Int.add_emod a b p
  · rw [tm_of _ p hp m1.1 m1.2, wrap_id (by omega) (by omega)]
    exact Int.mul_emod a b p
  · rw [wrap_id (by omega) (by omega), Int.add_emod_right]
  · rw [tm_of _ p hp (by omega) (by omega), wrap_id (by omega) (by omega), Int.sub_emod, Int.emod_self, Int.emod_emod_of_dvd a (Int.dvd_refl p)]
    have h3 := Int.sub_emod 0 a p
    rw [Int.zero_emod, Int.zero_sub] at h3
    exact h3
  · rw [tm_of _ p hp m2.1 m2.2]
    unfold pwz pw
    rw [if_pos ⟨hp, by decide⟩, show (2 : Int).toNat = 2 from rfl, Nat.pow_two, Int.natCast_emod, Int.natCast_mul]
    rw [show (((a % p).toNat : Nat) : Int) = a % p by omega, show ((p.toNat : Nat) : Int) = p by omega]

set_option maxHeartbeats 8000000 in
set_option maxRecDepth 100000 in
theorem lin_walk (a b p : Int) (w : World) (wa : (Lit.int .i64 a).wf = true) (wb : (Lit.int .i64 b).wf = true) (wp : (Lit.int .i64 p).wf = true) :
    Calls Try.prog 6 #[.int .i64 a, .int .i64 b, .int .i64 p] w fun e w' => e = .returned (.bool true) ∧ Drawn0 w w' := by
  by_cases c0 : p < 1
  · have c0b : decide (p < 1) = true := decide_eq_true c0
    clear wa wb wp c0
    go_enter Try.func6, Try.ntmps6
    go_wp2_with (go_at_call 10; refine (fixed_c _).mono ?_; rintro e w' ⟨rfl, ⟨nd, rfl⟩⟩)
    go_ret
    exact ⟨rfl, by repeat (first | exact Drawn0.refl _ | apply Drawn0.step)⟩
  have c0b : decide (p < 1) = false := decide_eq_false c0
  by_cases c1 : p > 2147483647
  · have c1b : decide (2147483647 < p) = true := decide_eq_true c1
    clear wa wb wp c0 c1
    go_enter Try.func6, Try.ntmps6
    go_wp2_with (go_at_call 10; refine (fixed_c _).mono ?_; rintro e w' ⟨rfl, ⟨nd, rfl⟩⟩)
    go_ret
    exact ⟨rfl, by repeat (first | exact Drawn0.refl _ | apply Drawn0.step)⟩
  have c1b : decide (2147483647 < p) = false := decide_eq_false c1
  by_cases c2 : a < -1073741824
  · have c2b : decide (a < -1073741824) = true := decide_eq_true c2
    clear wa wb wp c0 c1 c2
    go_enter Try.func6, Try.ntmps6
    go_wp2_with (go_at_call 10; refine (fixed_c _).mono ?_; rintro e w' ⟨rfl, ⟨nd, rfl⟩⟩)
    go_ret
    exact ⟨rfl, by repeat (first | exact Drawn0.refl _ | apply Drawn0.step)⟩
  have c2b : decide (a < -1073741824) = false := decide_eq_false c2
  by_cases c3 : a > 1073741824
  · have c3b : decide (1073741824 < a) = true := decide_eq_true c3
    clear wa wb wp c0 c1 c2 c3
    go_enter Try.func6, Try.ntmps6
    go_wp2_with (go_at_call 10; refine (fixed_c _).mono ?_; rintro e w' ⟨rfl, ⟨nd, rfl⟩⟩)
    go_ret
    exact ⟨rfl, by repeat (first | exact Drawn0.refl _ | apply Drawn0.step)⟩
  have c3b : decide (1073741824 < a) = false := decide_eq_false c3
  by_cases c4 : b < -1073741824
  · have c4b : decide (b < -1073741824) = true := decide_eq_true c4
    clear wa wb wp c0 c1 c2 c3 c4
    go_enter Try.func6, Try.ntmps6
    go_wp2_with (go_at_call 10; refine (fixed_c _).mono ?_; rintro e w' ⟨rfl, ⟨nd, rfl⟩⟩)
    go_ret
    exact ⟨rfl, by repeat (first | exact Drawn0.refl _ | apply Drawn0.step)⟩
  have c4b : decide (b < -1073741824) = false := decide_eq_false c4
  by_cases c5 : b > 1073741824
  · have c5b : decide (1073741824 < b) = true := decide_eq_true c5
    clear wa wb wp c0 c1 c2 c3 c4 c5
    go_enter Try.func6, Try.ntmps6
    go_wp2_with (go_at_call 10; refine (fixed_c _).mono ?_; rintro e w' ⟨rfl, ⟨nd, rfl⟩⟩)
    go_ret
    exact ⟨rfl, by repeat (first | exact Drawn0.refl _ | apply Drawn0.step)⟩
  have c5b : decide (1073741824 < b) = false := decide_eq_false c5
  obtain ⟨h1, h2, h3, h4, h5, h6, h7⟩ := lin_math a b p ⟨by omega, by omega⟩ ⟨by omega, by omega⟩ ⟨by omega, by omega⟩
  have k0 : (p == 0) = false := beq_eq_false_iff_ne.mpr (by omega)
  have k1 : decide (0 ≤ md a p) = true := decide_eq_true h1
  have k2 : decide (md a p < p) = true := decide_eq_true h2
  have k3 : (md (wrap64 (a + b)) p == Int.tmod (wrap64 (md a p + md b p)) p) = true := beq_iff_eq.mpr h3
  have k4 : (md (wrap64 (a * b)) p == Int.tmod (wrap64 (md a p * md b p)) p) = true := beq_iff_eq.mpr h4
  have k5 : (md (wrap64 (a + p)) p == md a p) = true := beq_iff_eq.mpr h5
  have k6 : (md (wrap64 (-a)) p == Int.tmod (wrap64 (p - md a p)) p) = true := beq_iff_eq.mpr h6
  have k7 : (pwz a 2 p == Int.tmod (wrap64 (md a p * md a p)) p) = true := beq_iff_eq.mpr h7
  have hp0 : p ≠ 0 := by omega
  clear wa wb wp h1 h2 h3 h4 h5 h6 h7 c0 c1 c2 c3 c4 c5
  go_enter Try.func6, Try.ntmps6
  go_wp2_with (first
    | (go_at_call 10; refine (fixed_c _).mono ?_; rintro e w' ⟨rfl, ⟨nd, rfl⟩⟩)
    | (go_at_call 13; refine (Mod_c _ _ _).mono ?_; rintro e w' ⟨rfl, ⟨nd, rfl⟩⟩)
    | (go_at_call 15; refine (Pow_c _ _ _ (by decide) _).mono ?_; rintro e w' ⟨rfl, ⟨nd, rfl⟩⟩))
  refine wp_region_quiet_lit (by kernel_rfl) (by kernel_rfl) ?_
  simp only [List.append_eq, List.cons_append, List.nil_append]
  repeat (first
    | go_big_quiet_step ((first
        | (go_at_call 13; exact quiet_add (Mod_c _ _ _))
        | (go_at_call 15; exact quiet_add (Pow_c _ _ _ (by decide) _))))
    | quiet_step ((first
        | (go_at_call 13; exact quiet_add (Mod_c _ _ _))
        | (go_at_call 15; exact quiet_add (Pow_c _ _ _ (by decide) _)))))
  refine wpQuiet_nil ?_
  intro _ hw'
  obtain ⟨nq, hw''⟩ := hw'
  subst hw''
  go_wp2
  go_ret
  exact ⟨rfl, by repeat (first | exact Drawn0.refl _ | apply Drawn0.step)⟩
end Go.Proofs.Ytelinpgfjgoofaa.P
