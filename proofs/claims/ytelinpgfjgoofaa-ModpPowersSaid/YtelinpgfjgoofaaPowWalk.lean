/- Law ModpPowers of layer 4, its walk: powers of a sum of numbers are products of powers; modulo a prime, to the power of it less 1, what it does not divide leaves 1. No condition. -/
import Derived.Test.YtelinpgfjgoofaaPx3
import Derived.Test.YtelinpgfjgoofaaLinWalk
import Derived.WideShapes
import Derived.OpenShut
import Derived.Lib.SmallJoins
namespace Go.Proofs.Ytelinpgfjgoofaa.P
open Go.RowKit Go.Proofs.YtelinpgfjgoofaaW.PrintWords Go.Proofs.YtelinpgfjgoofaaW.PrintLast Go.Proofs.YtelinpgfjgoofaaW.PrintMore
set_option linter.unusedVariables false
set_option linter.unusedSimpArgs false

theorem okWide_arr {P : Program} {w : World} {r : Reach} {base : Nat} {t : TypeId} {v : Value} {n : Nat} {e : TypeId} (ht : P.underlying t = some (.array n e)) (h : Value.okWide P w r base t v) : ∃ cs, v = .agg cs ∧ cs.size = P.cellsOf t := by
  simp only [Value.okWide, ht] at h
  obtain ⟨cs, h1, h2, _⟩ := h
  exact ⟨cs, h1, h2⟩

theorem arr2 {α : Type} {cs : Array α} (h : cs.size = 2) : ∃ c0 c1, cs = #[c0, c1] := by
  obtain ⟨l⟩ := cs
  match l, h with
  | [c0, c1], _ => exact ⟨c0, c1, rfl⟩

theorem open_int2 {H : Type} {enc : TypeId × Value → H} {P : Program} {w : World} {base : Nat} {spare : Nat → Bool} {held : Bool} {r : Reach} {b0 : Nat} {t e : TypeId} {v : Value} {d : DataW H} {p : List MemPlace}
    (ht : P.underlying t = some (.array 2 e)) (he : P.underlying e = some (.int .i64)) (hce : P.cellsOf e = 1) (hct : P.cellsOf t = 2) (hv : Value.okWide P w r b0 t v) (h : DataW.Trod enc P w base spare held t v d p) :
    ∃ a b : Int, v = .agg #[.int .i64 a, .int .i64 b] ∧ (Lit.int .i64 a).wf = true ∧ (Lit.int .i64 b).wf = true := by
  obtain ⟨cs, rfl, hsz⟩ := okWide_arr ht hv
  obtain ⟨c0, c1, rfl⟩ := arr2 (hsz.trans hct)
  obtain ⟨fuel, hf⟩ := h
  obtain ⟨xs, m, _, _, _, hl, hx⟩ := DataW.trod_array ht hf
  match xs, hl with
  | [y0, y1], _ =>
    have h0 := hx 0 (by omega)
    have h1 := hx 1 (by omega)
    rw [hce] at h0 h1
    simp [Value.cells] at h0 h1
    obtain ⟨a, e0, _, wa⟩ := DataW.trod_int he h0
    obtain ⟨b, e1, _, wb⟩ := DataW.trod_int he h1
    simp at e0 e1
    subst e0 e1
    exact ⟨a, b, rfl, wa, wb⟩

theorem pw_add (a m n p : Int) (hp : okP p) (hm : 0 ≤ m) (hn : 0 ≤ n) : pw a (m + n) p = Int.tmod (wrap64 (pw a m p * pw a n p)) p := by
  have h1 := hp.1
  have h2 := hp.2
  unfold pw
  have e3 : p = ((p.toNat : Nat) : Int) := by omega
  have hA := Nat.mod_lt ((a % p).toNat ^ m.toNat) (show 0 < p.toNat by omega)
  have hB := Nat.mod_lt ((a % p).toNat ^ n.toNat) (show 0 < p.toNat by omega)
  have hmm := mulmod hA hB (by omega)
  rw [← e3] at hmm
  rw [hmm, ← Nat.mul_mod, ← Nat.pow_add, Int.toNat_add hm hn]

theorem pw_fermat (a p : Int) (hP : isP p = true) (ha : a % p ≠ 0) : pw a (p - 1) p = 1 := by
  obtain ⟨hle, hpr⟩ := isP_true.mp hP
  have hp2 := hpr.1
  have hb0 := Int.emod_nonneg a (show p ≠ 0 by omega)
  have hb1 := Int.emod_lt_of_pos a (show 0 < p by omega)
  have hnd : ¬ p.toNat ∣ (a % p).toNat := by
    intro h
    have := Nat.le_of_dvd (by omega) h
    omega
  have hf := NumTh.fermat hpr hnd
  unfold pw
  rw [show (p - 1).toNat = p.toNat - 1 by omega, hf]; rfl

theorem below_drewN {B : Nat} {a w : World} (h : Below B a w) (n : Nat) : Below B a (w.drewN n) := ⟨h.os, h.tape, h.output, h.size, h.block⟩

theorem wrap_le (x : Int) : wrap64 x ≤ 9223372036854775807 := by unfold wrap64; omega

theorem rMod_c (a p : Int) (w : World) : Calls Try.prog 14 #[.int .i64 a, .int .i64 p] w fun e w' => e = .returned (.int .i64 (md a p)) ∧ Drawn0 w w' :=
  greenwoodref04_Mod.calls a p _ w (rMod_eq a p)
theorem rPrime_c (p : Int) (w : World) : Calls Try.prog 12 #[.int .i64 p] w fun e w' => e = .returned (.bool (isP p)) ∧ Drawn0 w w' := by
  obtain ⟨k, hk⟩ := (rPrime_eq p).rounds
  exact greenwoodref04_Prime.calls k p _ w hk
theorem rPrime_y (p : Int) (w : World) (h : isP p = true) : Calls Try.prog 12 #[.int .i64 p] w fun e w' => e = .returned (.bool true) ∧ Drawn0 w w' := by
  have := rPrime_c p w; rwa [h] at this
theorem rPrime_n (p : Int) (w : World) (h : isP p = false) : Calls Try.prog 12 #[.int .i64 p] w fun e w' => e = .returned (.bool false) ∧ Drawn0 w w' := by
  have := rPrime_c p w; rwa [h] at this

set_option maxHeartbeats 8000000 in
set_option maxRecDepth 100000 in
theorem pow_walk (a p m n : Int) (w : World) (wa : (Lit.int .i64 a).wf = true) (wp : (Lit.int .i64 p).wf = true) (wm : (Lit.int .i64 m).wf = true) (wn : (Lit.int .i64 n).wf = true) :
    Calls Try.prog 5 #[.int .i64 a, .int .i64 p, .agg #[.int .i64 m, .int .i64 n]] w fun e w' => e = .returned (.bool true) ∧ Below w.heap.size w w' := by
  by_cases c0 : p < 1
  · have c0b : decide (p < 1) = true := decide_eq_true c0
    clear wa wp wm wn c0
    go_enter Try.func5, Try.ntmps5
    go_wp2_with (go_at_call 10; refine (fixed_c _).mono ?_; rintro e w' ⟨rfl, ⟨nd, rfl⟩⟩)
    go_ret
    exact ⟨rfl, by repeat (first | exact Below.refl _ _ | exact (Below.refl _ _).alloc (Nat.le_refl _) _ | apply below_drewN)⟩
  have c0b : decide (p < 1) = false := decide_eq_false c0
  by_cases c1 : p > 2147483647
  · have c1b : decide (2147483647 < p) = true := decide_eq_true c1
    clear wa wp wm wn c0 c1
    go_enter Try.func5, Try.ntmps5
    go_wp2_with (go_at_call 10; refine (fixed_c _).mono ?_; rintro e w' ⟨rfl, ⟨nd, rfl⟩⟩)
    go_ret
    exact ⟨rfl, by repeat (first | exact Below.refl _ _ | exact (Below.refl _ _).alloc (Nat.le_refl _) _ | apply below_drewN)⟩
  have c1b : decide (2147483647 < p) = false := decide_eq_false c1
  by_cases c2 : m < 0
  · have c2b : decide (m < 0) = true := decide_eq_true c2
    clear wa wp wm wn c0 c1 c2
    go_enter Try.func5, Try.ntmps5
    go_wp2_with (go_at_call 10; refine (fixed_c _).mono ?_; rintro e w' ⟨rfl, ⟨nd, rfl⟩⟩)
    go_ret
    exact ⟨rfl, by repeat (first | exact Below.refl _ _ | exact (Below.refl _ _).alloc (Nat.le_refl _) _ | apply below_drewN)⟩
  have c2b : decide (m < 0) = false := decide_eq_false c2
  by_cases c3 : n < 0
  · have c3b : decide (n < 0) = true := decide_eq_true c3
    clear wa wp wm wn c0 c1 c2 c3
    go_enter Try.func5, Try.ntmps5
    go_wp2_with (go_at_call 10; refine (fixed_c _).mono ?_; rintro e w' ⟨rfl, ⟨nd, rfl⟩⟩)
    go_ret
    exact ⟨rfl, by repeat (first | exact Below.refl _ _ | exact (Below.refl _ _).alloc (Nat.le_refl _) _ | apply below_drewN)⟩
  have c3b : decide (n < 0) = false := decide_eq_false c3
  by_cases c4 : m > 1099511627776
  · have c4b : decide (1099511627776 < m) = true := decide_eq_true c4
    clear wa wp wm wn c0 c1 c2 c3 c4
    go_enter Try.func5, Try.ntmps5
    go_wp2_with (go_at_call 10; refine (fixed_c _).mono ?_; rintro e w' ⟨rfl, ⟨nd, rfl⟩⟩)
    go_ret
    exact ⟨rfl, by repeat (first | exact Below.refl _ _ | exact (Below.refl _ _).alloc (Nat.le_refl _) _ | apply below_drewN)⟩
  have c4b : decide (1099511627776 < m) = false := decide_eq_false c4
  by_cases c5 : n > 1099511627776
  · have c5b : decide (1099511627776 < n) = true := decide_eq_true c5
    clear wa wp wm wn c0 c1 c2 c3 c4 c5
    go_enter Try.func5, Try.ntmps5
    go_wp2_with (go_at_call 10; refine (fixed_c _).mono ?_; rintro e w' ⟨rfl, ⟨nd, rfl⟩⟩)
    go_ret
    exact ⟨rfl, by repeat (first | exact Below.refl _ _ | exact (Below.refl _ _).alloc (Nat.le_refl _) _ | apply below_drewN)⟩
  have c5b : decide (1099511627776 < n) = false := decide_eq_false c5
  have hok : okP p := ⟨by omega, by omega⟩
  have hm0 : 0 ≤ m := by omega
  have hn0 : 0 ≤ n := by omega
  have ew : wrap64 (m + n) = m + n := wrap_id (by omega) (by omega)
  have e1 : wrap64 (p - 1) = p - 1 := wrap_id (by omega) (by omega)
  have z : ∀ x, 0 ≤ x → pwz a x p = pw a x p := fun x hx => by unfold pwz; rw [if_pos ⟨hok, hx⟩]
  have k1 : (pwz a (wrap64 (m + n)) p != Int.tmod (wrap64 (pwz a m p * pwz a n p)) p) = false := by
    rw [ew, z _ (by omega), z _ hm0, z _ hn0, pw_add a m n p hok hm0 hn0]
    exact bne_self_eq_false _
  have hp0 : p ≠ 0 := by omega
  have hm2 : m ≤ 9223372036854775807 := by omega
  have hn2 : n ≤ 9223372036854775807 := by omega
  cases hP : isP p with
  | false =>
    have HP := Aside0.mk hP
    clear hP wa wp wm wn c0 c1 c2 c3 c4 c5 hok hm0 hn0 ew e1 z
    go_enter Try.func5, Try.ntmps5
    go_wp2_with (go_at_call 10; refine (fixed_c _).mono ?_; rintro e w' ⟨rfl, ⟨nd, rfl⟩⟩)
    go_quiet ((first | (go_at_call 15; exact quiet_add (Pow_c _ _ _ (by first | assumption | exact wrap_le _) _)) | (go_at_call 15; exact quiet_one (Pow_c _ _ _ (by first | assumption | exact wrap_le _) _)) | (go_at_call 14; exact quiet_add (rMod_c _ _ _)) | (go_at_call 12; exact quiet_add (rPrime_y _ _ HP.out)) | (go_at_call 12; exact quiet_add (rPrime_n _ _ HP.out))))
    go_wp2
    go_quiet ((first | (go_at_call 15; exact quiet_add (Pow_c _ _ _ (by first | assumption | exact wrap_le _) _)) | (go_at_call 15; exact quiet_one (Pow_c _ _ _ (by first | assumption | exact wrap_le _) _)) | (go_at_call 14; exact quiet_add (rMod_c _ _ _)) | (go_at_call 12; exact quiet_add (rPrime_y _ _ HP.out)) | (go_at_call 12; exact quiet_add (rPrime_n _ _ HP.out))))
    go_wp2
    go_ret
    exact ⟨rfl, by repeat (first | exact Below.refl _ _ | exact (Below.refl _ _).alloc (Nat.le_refl _) _ | apply below_drewN)⟩
  | true =>
    by_cases ha : a % p = 0
    · have k2 : (md a p == 0) = true := by unfold md; rw [if_pos hok, ha]; rfl
      have HP := Aside0.mk hP
      clear hP wa wp wm wn c0 c1 c2 c3 c4 c5 hok hm0 hn0 ew e1 z ha
      go_enter Try.func5, Try.ntmps5
      go_wp2_with (go_at_call 10; refine (fixed_c _).mono ?_; rintro e w' ⟨rfl, ⟨nd, rfl⟩⟩)
      go_quiet ((first | (go_at_call 15; exact quiet_add (Pow_c _ _ _ (by first | assumption | exact wrap_le _) _)) | (go_at_call 15; exact quiet_one (Pow_c _ _ _ (by first | assumption | exact wrap_le _) _)) | (go_at_call 14; exact quiet_add (rMod_c _ _ _)) | (go_at_call 12; exact quiet_add (rPrime_y _ _ HP.out)) | (go_at_call 12; exact quiet_add (rPrime_n _ _ HP.out))))
      go_wp2
      go_quiet ((first | (go_at_call 15; exact quiet_add (Pow_c _ _ _ (by first | assumption | exact wrap_le _) _)) | (go_at_call 15; exact quiet_one (Pow_c _ _ _ (by first | assumption | exact wrap_le _) _)) | (go_at_call 14; exact quiet_add (rMod_c _ _ _)) | (go_at_call 12; exact quiet_add (rPrime_y _ _ HP.out)) | (go_at_call 12; exact quiet_add (rPrime_n _ _ HP.out))))
      go_wp2
      go_ret
      exact ⟨rfl, by repeat (first | exact Below.refl _ _ | exact (Below.refl _ _).alloc (Nat.le_refl _) _ | apply below_drewN)⟩
    · have k2 : (md a p == 0) = false := by unfold md; rw [if_pos hok]; exact beq_eq_false_iff_ne.mpr ha
      have hp2 : 2 ≤ p := by have := (isP_true.mp hP).2.1; omega
      have k3 : (pwz a (wrap64 (p - 1)) p == Int.tmod 1 p) = true := by
        rw [e1, z _ (by omega), pw_fermat a p hP ha, Int.tmod_eq_emod_of_nonneg (by omega), Int.emod_eq_of_lt (by omega) (by omega)]; rfl
      have k4 : (pwz a (wrap64 (p - 1)) p == 1 % p) = true := by
        rw [e1, z _ (by omega), pw_fermat a p hP ha, Int.emod_eq_of_lt (by omega) (by omega)]; rfl
      have HP := Aside0.mk hP
      clear hP wa wp wm wn c0 c1 c2 c3 c4 c5 hok hm0 hn0 ew e1 z ha hp2
      go_enter Try.func5, Try.ntmps5
      go_wp2_with (go_at_call 10; refine (fixed_c _).mono ?_; rintro e w' ⟨rfl, ⟨nd, rfl⟩⟩)
      go_quiet ((first | (go_at_call 15; exact quiet_add (Pow_c _ _ _ (by first | assumption | exact wrap_le _) _)) | (go_at_call 15; exact quiet_one (Pow_c _ _ _ (by first | assumption | exact wrap_le _) _)) | (go_at_call 14; exact quiet_add (rMod_c _ _ _)) | (go_at_call 12; exact quiet_add (rPrime_y _ _ HP.out)) | (go_at_call 12; exact quiet_add (rPrime_n _ _ HP.out))))
      go_wp2
      go_quiet ((first | (go_at_call 15; exact quiet_add (Pow_c _ _ _ (by first | assumption | exact wrap_le _) _)) | (go_at_call 15; exact quiet_one (Pow_c _ _ _ (by first | assumption | exact wrap_le _) _)) | (go_at_call 14; exact quiet_add (rMod_c _ _ _)) | (go_at_call 12; exact quiet_add (rPrime_y _ _ HP.out)) | (go_at_call 12; exact quiet_add (rPrime_n _ _ HP.out))))
      go_wp2
      go_ret
      exact ⟨rfl, by repeat (first | exact Below.refl _ _ | exact (Below.refl _ _).alloc (Nat.le_refl _) _ | apply below_drewN)⟩
end Go.Proofs.Ytelinpgfjgoofaa.P
