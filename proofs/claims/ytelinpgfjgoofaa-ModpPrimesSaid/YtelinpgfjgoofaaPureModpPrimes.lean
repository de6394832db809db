/- Law ModpPrimes of layer 4: a product of two numbers above 1 is no prime; of a prime each number below it has but 1 in common with it: it has an inverse. No condition. -/
import Derived.Test.YtelinpgfjgoofaaPx4
import Derived.Test.YtelinpgfjgoofaaModp
namespace Go.Proofs.Ytelinpgfjgoofaa.Pure
open Go.RowKit Go.Proofs.Ytelinpgfjgoofaa.P Go.Proofs.YtelinpgfjgoofaaW.PrintWords Go.Proofs.YtelinpgfjgoofaaW.PrintLast

theorem fixed04'' : Ev (fun k => greenwoodlaw04_fixed.f k) true :=
  Ev.of greenwoodlaw04_fixed.mono (k := 70) (by decide +kernel)

theorem ModpPrimes : greenwoodlaw04_ModpPrimes.Pure := by
  intro a b ha hb
  refine Ev.rounds (g := fun k => greenwoodlaw04_ModpPrimes.f k a b) (r := true) ?_
  unfold greenwoodlaw04_ModpPrimes.f
  refine Ev.bind fixed04'' ?_
  simp only [if_true]
  have out : Ev (fun k => greenwoodlaw04_ModpPrimes.j0 k a b true) true := by
    refine Ev.step (f := fun k => (greenwoodlaw04_fixed.f k).bind fun t => some t) (fun k => ?_) (Ev.bind fixed04'' (Ev.now true))
    rw [greenwoodlaw04_ModpPrimes.j0, if_pos rfl]
  by_cases c1 : a < 2
  · simp only [if_pos c1]; exact out
  simp only [if_neg c1]
  by_cases c2 : b < 2
  · simp only [if_pos c2]; exact out
  simp only [if_neg c2]
  by_cases c3 : a > 1073741824
  · simp only [if_pos c3]; exact out
  simp only [if_neg c3]
  by_cases c4 : b > 1073741824
  · simp only [if_pos c4]; exact out
  simp only [if_neg c4]
  have hab : (a * b).toNat = a.toNat * b.toNat := Int.toNat_mul (by omega) (by omega)
  have hle : a.toNat * b.toNat ≤ 1073741824 * 1073741824 := Nat.mul_le_mul (by omega) (by omega)
  have h0 : 0 ≤ a * b := Int.mul_nonneg (by omega) (by omega)
  have hw : wrap64 (a * b) = a * b := wrap_id (by omega) (by omega)
  rw [hw]
  by_cases c5 : a * b > 2147483647
  · rw [decide_eq_true c5]; exact out
  rw [decide_eq_false c5]
  have hnp : isP (a * b) = false := by
    rw [isP_false, hab]
    rintro ⟨_, _, h⟩
    have h2 : b.toNat * 2 ≤ a.toNat * b.toNat := by rw [Nat.mul_comm]; exact Nat.mul_le_mul (by omega) (Nat.le_refl _)
    rcases h b.toNat ⟨a.toNat, Nat.mul_comm _ _⟩ with h3 | h3 <;> omega
  have hm : Int.tmod b a = b % a := Int.tmod_eq_emod_of_nonneg (by omega)
  refine Ev.step (f := fun k => (modp_Prime.f k (a * b)).bind fun t => if t = true then some false else (modp_Inv.f k b a).bind fun bt => (modp_Prime.f k a).bind fun t2 => if t2 = true then some (bt.2 == (b % a != 0)) else some (bt.2 == false)) (fun k => ?_) ?_
  · rw [greenwoodlaw04_ModpPrimes.j0, if_neg (by decide), hw, hm]
    simp only [if_neg (show ¬ a = 0 by omega)]
  · refine Ev.bind (Prime_eq _) ?_
    simp only [hnp, Bool.false_eq_true, if_false]
    refine Ev.bind (Inv_eq b a) ?_
    refine Ev.bind (Prime_eq a) ?_
    cases hP : isP a with
    | false =>
      simp only [Bool.false_eq_true, if_false, false_and, decide_false]
      exact Ev.now _
    | true =>
      simp only [if_true, true_and]
      have e : (decide (b % a ≠ 0) == (b % a != 0)) = true := by
        by_cases h : b % a = 0
        · rw [h]; rfl
        · rw [decide_eq_true h, bne_iff_ne.mpr h]; rfl
      rw [e]
      exact Ev.now _

end Go.Proofs.Ytelinpgfjgoofaa.Pure
