/- Law ModpInverts of layer 4: modulo a prime each number that it does not divide has an inverse, that times it leaves 1; of a product it is the product of both; of the inverse the number. No condition. -/
import Derived.Test.YtelinpgfjgoofaaPx3
import Derived.Test.YtelinpgfjgoofaaModp
namespace Go.Proofs.Ytelinpgfjgoofaa.Pure
open Go.RowKit Go.Proofs.Ytelinpgfjgoofaa.P Go.Proofs.YtelinpgfjgoofaaW.PrintWords Go.Proofs.YtelinpgfjgoofaaW.PrintLast

theorem fixed04' : Ev (fun k => greenwoodlaw04_fixed.f k) true :=
  Ev.of greenwoodlaw04_fixed.mono (k := 70) (by decide +kernel)

/-- an inverse is no 0, and its own inverse's inverse -/
theorem inv_ne {a p : Int} (hp : isP p = true) (ha : a % p ≠ 0) : inv a p % p ≠ 0 := by
  obtain ⟨h1, h2, h3⟩ := inv_spec hp ha
  intro h
  rw [Int.mul_emod, h, Int.zero_mul, Int.zero_emod] at h3
  omega

theorem ModpInverts : greenwoodlaw04_ModpInverts.Pure := by
  intro a b p ha hb hp
  refine Ev.rounds (g := fun k => greenwoodlaw04_ModpInverts.f k a b p) (r := true) ?_
  unfold greenwoodlaw04_ModpInverts.f
  refine Ev.bind fixed04' ?_
  simp only [if_true]
  refine Ev.bind (rPrime_eq p) ?_
  cases hP : isP p with
  | false =>
    refine Ev.step (f := fun k => (greenwoodlaw04_fixed.f k).bind fun t => some t) (fun k => ?_) ?_
    · show greenwoodlaw04_ModpInverts.j0 (k + 1) a b p (!false) = _
      rw [greenwoodlaw04_ModpInverts.j0, if_pos (by decide)]
    · exact Ev.bind fixed04' (Ev.now true)
  | true =>
    have hok := isP_ok hP
    have hok1 := hok.1
    have hok2 := hok.2
    have hp2 : 2 ≤ p := by have := (isP_true.mp hP).2.1; omega
    have a0 := Int.emod_nonneg a (show p ≠ 0 by omega)
    have a1 := Int.emod_lt_of_pos a (show 0 < p by omega)
    have b0 := Int.emod_nonneg b (show p ≠ 0 by omega)
    have b1 := Int.emod_lt_of_pos b (show 0 < p by omega)
    have ea : (a % p != 0) = decide (isP p = true ∧ a % p ≠ 0) := by
      by_cases h : a % p = 0
      · rw [decide_eq_false (by intro h'; exact h'.2 h), h]; rfl
      · rw [decide_eq_true ⟨hP, h⟩]; exact bne_iff_ne.mpr h
    have eb : (b % p != 0) = decide (isP p = true ∧ b % p ≠ 0) := by
      by_cases h : b % p = 0
      · rw [decide_eq_false (by intro h'; exact h'.2 h), h]; rfl
      · rw [decide_eq_true ⟨hP, h⟩]; exact bne_iff_ne.mpr h
    refine Ev.step (f := fun k => (modp_Inv.f k a p).bind fun bt1 => (modp_Inv.f k b p).bind fun bt2 => greenwoodlaw04_ModpInverts.j1 k p (a % p) (b % p) bt1.1 bt2.1 (if (bt1.2 != (a % p != 0)) = true then true else (bt2.2 != (b % p != 0)))) (fun k => ?_) ?_
    · show greenwoodlaw04_ModpInverts.j0 (k + 1) a b p (!true) = _
      rw [greenwoodlaw04_ModpInverts.j0, if_neg (by decide), rMod_yes a hok, rMod_yes b hok]
      simp only [Option.bind_some]
      congr 1; funext bt1
      congr 1; funext bt2
      split <;> rfl
    · refine Ev.bind (Inv_eq a p) ?_
      refine Ev.bind (Inv_eq b p) ?_
      rw [← ea, ← eb]
      simp only [bne_self_eq_false, Bool.false_eq_true, if_false]
      refine Ev.step (f := fun k => greenwoodlaw04_ModpInverts.j2 k p (a % p) (b % p) (inv a p) (inv b p) (if a % p = 0 then true else (b % p == 0))) (fun k => ?_) ?_
      · rw [greenwoodlaw04_ModpInverts.j1, if_neg (by decide)]
        split <;> rfl
      · by_cases hz : a % p = 0 ∨ b % p = 0
        · have e : (if a % p = 0 then true else (b % p == 0)) = true := by
            by_cases h : a % p = 0
            · rw [if_pos h]
            · rw [if_neg h]; rcases hz with h' | h'
              · exact absurd h' h
              · exact beq_iff_eq.mpr h'
          rw [e]
          exact Ev.step (f := fun _ => some true) (fun k => by rw [greenwoodlaw04_ModpInverts.j2, if_pos rfl]) (Ev.now true)
        · have hza : a % p ≠ 0 := fun h => hz (Or.inl h)
          have hzb : b % p ≠ 0 := fun h => hz (Or.inr h)
          have e : (if a % p = 0 then true else (b % p == 0)) = false := by
            rw [if_neg hza]; exact beq_eq_false_iff_ne.mpr hzb
          rw [e]
          obtain ⟨i0, i1, i2⟩ := inv_spec hP hza
          obtain ⟨j0, j1, j2⟩ := inv_spec hP hzb
          have ei : inv a p % p = inv a p := Int.emod_eq_of_lt i0 i1
          have hi0 : inv a p ≠ 0 := by have := inv_ne hP hza; rw [ei] at this; exact this
          have ew : ∀ x y : Int, 0 ≤ x → x < p → 0 ≤ y → y < p → Int.tmod (wrap64 (x * y)) p = x * y % p := by
            intro x y h1 h2 h3 h4
            have hm := mulmod (A := x.toNat) (B := y.toNat) (P := p.toNat) (by omega) (by omega) (by omega)
            rw [show ((x.toNat : Nat) : Int) = x by omega, show ((y.toNat : Nat) : Int) = y by omega, show ((p.toNat : Nat) : Int) = p by omega, Int.natCast_emod, Int.natCast_mul, show ((x.toNat : Nat) : Int) = x by omega, show ((y.toNat : Nat) : Int) = y by omega, show ((p.toNat : Nat) : Int) = p by omega] at hm
            exact hm
          have hix : inv a p * (a % p) % p = 1 := by
            rw [Int.mul_emod, Int.emod_emod_of_dvd a (Int.dvd_refl p), ← Int.mul_emod]; exact i2
          have hjx : inv b p * (b % p) % p = 1 := by
            rw [Int.mul_emod, Int.emod_emod_of_dvd b (Int.dvd_refl p), ← Int.mul_emod]; exact j2
          -- the product's inverse
          have hab : (a % p * (b % p) % p) % p ≠ 0 := by
            rw [Int.emod_emod_of_dvd _ (Int.dvd_refl p)]
            intro h
            have h1 : (inv a p * inv b p) * (a % p * (b % p)) % p = 1 := by
              have e1 : (inv a p * inv b p) * (a % p * (b % p)) = (inv a p * (a % p)) * (inv b p * (b % p)) := by
                simp only [Int.mul_assoc, Int.mul_left_comm, Int.mul_comm]
              rw [e1, Int.mul_emod, hix, hjx]
              exact Int.emod_eq_of_lt (by omega) (by omega)
            rw [Int.mul_emod, h, Int.mul_zero, Int.zero_emod] at h1
            omega
          have hinv : inv (a % p * (b % p) % p) p = inv a p * inv b p % p := by
            obtain ⟨g0, g1, g2⟩ := inv_spec hP hab
            refine inv_uniq (a := a % p * (b % p) % p) hP ⟨g0, g1⟩ ⟨Int.emod_nonneg _ (by omega), Int.emod_lt_of_pos _ (by omega)⟩ (by rw [Int.mul_comm]; exact g2) ?_
            rw [← Int.mul_emod]
            have e1 : (a % p * (b % p)) * (inv a p * inv b p) = (inv a p * (a % p)) * (inv b p * (b % p)) := by
              simp only [Int.mul_assoc, Int.mul_left_comm, Int.mul_comm]
            rw [e1, Int.mul_emod, hix, hjx]
            exact Int.emod_eq_of_lt (by omega) (by omega)
          have hback : inv (inv a p) p = a % p := by
            obtain ⟨g0, g1, g2⟩ := inv_spec hP (inv_ne hP hza)
            refine inv_uniq (a := inv a p) hP ⟨g0, g1⟩ ⟨a0, a1⟩ (by rw [Int.mul_comm]; exact g2) ?_
            rw [Int.mul_emod, Int.emod_emod_of_dvd a (Int.dvd_refl p), ← Int.mul_emod]; exact i2
          refine Ev.step (f := fun k => (modp_Inv.f k (a % p * (b % p) % p) p).bind fun bt1 => (modp_Inv.f k (inv a p) p).bind fun bt2 => if inv a p ≥ 1 then (if inv a p < p then (if (1 : Int) = 1 then (if bt1.2 = true then (if bt1.1 = inv a p * inv b p % p then (if bt2.2 = true then some (bt2.1 == a % p) else some false) else some false) else some false) else some false) else some false) else some false) (fun k => ?_) ?_
          · rw [greenwoodlaw04_ModpInverts.j2, if_neg (by decide), if_neg (by omega), ew _ _ a0 a1 b0 b1, ew _ _ i0 i1 a0 a1, ew _ _ i0 i1 j0 j1, hix]
          · refine Ev.bind (Inv_eq _ p) ?_
            refine Ev.bind (Inv_eq _ p) ?_
            rw [hinv, hback, decide_eq_true ⟨hP, hab⟩, decide_eq_true ⟨hP, inv_ne hP hza⟩]
            simp only [if_true]
            rw [if_pos (by omega), if_pos (by omega)]
            simp only [beq_self_eq_true]
            exact Ev.now true

end Go.Proofs.Ytelinpgfjgoofaa.Pure
