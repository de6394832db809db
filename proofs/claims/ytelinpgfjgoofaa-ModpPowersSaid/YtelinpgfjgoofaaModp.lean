/- What the functions of package modp, and of the document's answer for them, tell: primes, powers, inverses. No condition. -/
import Derived.Test.YtelinpgfjgoofaaPx2
import Derived.Test.YtelinpgfjgoofaaNumD
namespace Go.Proofs.Ytelinpgfjgoofaa.P
open Go.RowKit Go.Proofs.YtelinpgfjgoofaaW.PrintWords NumTh
set_option linter.unusedVariables false
set_option linter.unusedSimpArgs false

theorem wfI {a : Int} (h : (Lit.int .i64 a).wf = true) : -9223372036854775808 ≤ a ∧ a ≤ 9223372036854775807 := by
  simp only [Lit.wf, Bool.and_eq_true, decide_eq_true_eq] at h
  exact h
theorem wrap_id {a : Int} (h1 : -9223372036854775808 ≤ a) (h2 : a ≤ 9223372036854775807) : wrap64 a = a := by
  unfold wrap64; omega

/-! ## numbers modulo -/
def okP (p : Int) : Prop := 1 ≤ p ∧ p ≤ 2147483647
instance (p : Int) : Decidable (okP p) := inferInstanceAs (Decidable (_ ∧ _))

theorem may_eq (p : Int) : modp_may.f p = some (decide (okP p)) := by
  unfold modp_may.f
  by_cases h : p ≥ 1
  · rw [if_pos h]
    by_cases h2 : p ≤ 2147483647
    · rw [decide_eq_true h2, decide_eq_true (show okP p from ⟨h, h2⟩)]
    · rw [decide_eq_false h2, decide_eq_false (show ¬ okP p from fun h3 => h2 h3.2)]
  · rw [if_neg h, decide_eq_false (show ¬ okP p from fun h3 => h h3.1)]

theorem tmod_neg_step {a p : Int} (hp : 0 < p) (h : Int.tmod a p < 0) : Int.tmod a p + p = a % p := by
  rw [Int.tmod_eq_emod] at h ⊢
  have h1 := Int.emod_nonneg a (show p ≠ 0 by omega)
  split at h
  · omega
  · rename_i hc
    rw [if_neg hc]; omega
theorem tmod_pos_step {a p : Int} (hp : 0 < p) (h : ¬ Int.tmod a p < 0) : Int.tmod a p = a % p := by
  rw [Int.tmod_eq_emod] at h ⊢
  have h1 := Int.emod_lt_of_pos a hp
  split at h
  · rename_i hc
    rw [if_pos hc]; omega
  · omega

theorem tmod_bd {a p : Int} (hp : 0 < p) : -p < Int.tmod a p ∧ Int.tmod a p < p := by
  by_cases h : 0 ≤ a
  · have h1 := Int.emod_lt_of_pos a hp
    have h2 := Int.emod_nonneg a (show p ≠ 0 by omega)
    rw [Int.tmod_eq_emod_of_nonneg h]
    omega
  · have h0 : 0 ≤ -a := by omega
    have h1 := Int.emod_lt_of_pos (-a) hp
    have h2 := Int.emod_nonneg (-a) (show p ≠ 0 by omega)
    have e : Int.tmod a p = - Int.tmod (-a) p := by rw [Int.neg_tmod, Int.neg_neg]
    rw [e, Int.tmod_eq_emod_of_nonneg h0]
    omega

theorem Mod_yes (a : Int) {p : Int} (hp : okP p) : modp_Mod.f a p = some (a % p) := by
  have h1 := hp.1
  have h2 := hp.2
  unfold modp_Mod.f
  rw [may_eq, decide_eq_true hp]
  simp only [Option.bind_some, if_true]
  rw [if_neg (by omega)]
  have hb := tmod_bd (a := a) (p := p) (by omega)
  by_cases h : Int.tmod a p < 0
  · rw [if_pos h, wrap_id (by omega) (by omega), tmod_neg_step (by omega) h]
  · rw [if_neg h, tmod_pos_step (by omega) h]
theorem Mod_no (a : Int) {p : Int} (hp : ¬ okP p) : modp_Mod.f a p = some 0 := by
  unfold modp_Mod.f
  rw [may_eq, decide_eq_false hp]
  rfl
theorem rMod_yes (a : Int) {p : Int} (hp : okP p) : greenwoodref04_Mod.f a p = some (a % p) := by
  have h1 := hp.1
  have h2 := hp.2
  unfold greenwoodref04_Mod.f
  rw [if_neg (by omega), if_neg (by omega), if_neg (by omega)]
  have hb := tmod_bd (a := a) (p := p) (by omega)
  rw [wrap_id (by omega) (by omega), Int.tmod_eq_emod_of_nonneg (by omega)]
  by_cases h : Int.tmod a p < 0
  · rw [tmod_neg_step (by omega) h]
    rw [Int.emod_emod_of_dvd a (Int.dvd_refl p)]
  · rw [tmod_pos_step (by omega) h, Int.add_emod_right, Int.emod_emod_of_dvd a (Int.dvd_refl p)]
theorem rMod_no (a : Int) {p : Int} (hp : ¬ okP p) : greenwoodref04_Mod.f a p = some 0 := by
  unfold greenwoodref04_Mod.f
  by_cases h : p < 1
  · rw [if_pos h]
  · rw [if_neg h]
    by_cases h2 : p > 2147483647
    · rw [if_pos h2]
    · exact absurd ⟨by omega, by omega⟩ hp

/-- products of what is left -/
theorem mulmod {A B P : Nat} (hA : A < P) (hB : B < P) (hP : P ≤ 2147483647) : Int.tmod (wrap64 ((A : Int) * (B : Int))) (P : Int) = ((A * B % P : Nat) : Int) := by
  have h : A * B ≤ 2147483647 * 2147483647 := Nat.mul_le_mul (by omega) (by omega)
  have h2 : ((A * B : Nat) : Int) ≤ 2147483647 * 2147483647 := by omega
  have e : (A : Int) * (B : Int) = ((A * B : Nat) : Int) := (Int.natCast_mul A B).symm
  rw [e, wrap_id (by omega) (by omega), Int.tmod_eq_emod_of_nonneg (by omega)]
  rfl

theorem bit_and (x : Int) (h0 : 0 ≤ x) (h1 : x ≤ 9223372036854775807) : Go.bits .and .i64 x 1 = x % 2 :=
  bits_mask .i64 63 (by decide) (fun n h h' => by rw [IntKind.wrap_i64]; omega) 1 (by decide) x h0 (by omega)

theorem pow_step (O A P m : Nat) (h : 0 < m) : (O * (if m % 2 = 1 then A else 1) % P) * (A * A % P) ^ (m / 2) % P = O * A ^ m % P := by
  have e : A ^ m = (if m % 2 = 1 then A else 1) * (A * A) ^ (m / 2) := by
    rw [← Nat.pow_two, ← Nat.pow_mul]
    by_cases h1 : m % 2 = 1
    · rw [if_pos h1, Nat.mul_comm, ← Nat.pow_succ]; congr 1; omega
    · rw [if_neg h1, Nat.one_mul]; congr 1; omega
  rw [Nat.mul_mod, Nat.mod_mod, ← Nat.pow_mod, ← Nat.mul_mod, e, Nat.mul_assoc]

/-- the loop of Pow -/
theorem Pow_l0 (P : Nat) (h1 : 1 ≤ P) (hP : P ≤ 2147483647) : ∀ (m A O : Nat), A < P → O < P → m ≤ 9223372036854775807 →
    ∃ k, modp_Pow.l0 k (A : Int) (m : Int) (P : Int) (O : Int) = some ((O * A ^ m % P : Nat) : Int) := by
  intro m
  induction m using Nat.strongRecOn with
  | ind m ih =>
    intro A O hA hO hm
    by_cases h0 : m = 0
    · subst h0
      refine ⟨1, ?_⟩
      unfold modp_Pow.l0
      rw [if_neg (by omega), Nat.pow_zero, Nat.mul_one, Nat.mod_eq_of_lt hO]
    · have hs := pow_step O A P m (by omega)
      have hAA : A * A % P < P := Nat.mod_lt _ (by omega)
      have hdiv : ((m : Int) / 2) = ((m / 2 : Nat) : Int) := by omega
      by_cases h2 : m % 2 = 1
      · rw [if_pos h2] at hs
        obtain ⟨k, hk⟩ := ih (m / 2) (by omega) (A * A % P) (O * A % P) hAA (Nat.mod_lt _ (by omega)) (by omega)
        refine ⟨k + 1, ?_⟩
        unfold modp_Pow.l0
        rw [if_pos (by omega), bit_and _ (by omega) (by omega), if_pos (by omega), if_neg (by omega), mulmod hA hA hP, mulmod hO hA hP, hdiv, hk, hs]
      · rw [if_neg h2, Nat.mul_one, Nat.mod_eq_of_lt hO] at hs
        obtain ⟨k, hk⟩ := ih (m / 2) (by omega) (A * A % P) O hAA hO (by omega)
        refine ⟨k + 1, ?_⟩
        unfold modp_Pow.l0
        rw [if_pos (by omega), bit_and _ (by omega) (by omega), if_neg (by omega), if_neg (by omega), mulmod hA hA hP, hdiv, hk, hs]

/-- a power, modulo -/
def pw (a n p : Int) : Int := (((a % p).toNat ^ n.toNat % p.toNat : Nat) : Int)

theorem Pow_yes (a : Int) {n p : Int} (hp : okP p) (hn : 0 ≤ n) (hn2 : n ≤ 9223372036854775807) : Ev (fun k => modp_Pow.f k a n p) (pw a n p) := by
  have h1 := hp.1
  have h2 := hp.2
  have hb0 := Int.emod_nonneg a (show p ≠ 0 by omega)
  have hb1 := Int.emod_lt_of_pos a (show 0 < p by omega)
  have hl : ∃ k, modp_Pow.l0 k (a % p) n p (1 % p) = some (pw a n p) := by
    obtain ⟨k, hk⟩ := Pow_l0 p.toNat (by omega) (by omega) n.toNat (a % p).toNat (1 % p.toNat) (by omega) (Nat.mod_lt _ (by omega)) (by omega)
    refine ⟨k, ?_⟩
    have e1 : (((a % p).toNat : Nat) : Int) = a % p := by omega
    have e2 : ((n.toNat : Nat) : Int) = n := by omega
    have e3 : ((p.toNat : Nat) : Int) = p := by omega
    have e4 : ((1 % p.toNat : Nat) : Int) = 1 % p := by rw [Int.natCast_emod, e3]; rfl
    rw [e1, e2, e3, e4] at hk
    rw [hk]
    unfold pw
    rw [Nat.mul_mod, Nat.mod_mod, ← Nat.mul_mod, Nat.one_mul]
  obtain ⟨k, hk⟩ := hl
  refine Ev.of (modp_Pow.mono a n p) (k := k + 1) ?_
  unfold modp_Pow.f
  rw [may_eq, decide_eq_true hp]
  simp only [Option.bind_some, if_true]
  rw [decide_eq_false (by omega), modp_Pow.j0, if_neg (by decide), Mod_yes a hp, Mod_yes 1 hp]
  simp only [Option.bind_some]
  exact hk
theorem Pow_no (a : Int) {n p : Int} (h : ¬ (okP p ∧ 0 ≤ n)) : Ev (fun k => modp_Pow.f k a n p) 0 := by
  refine Ev.of (modp_Pow.mono a n p) (k := 1) ?_
  unfold modp_Pow.f
  rw [may_eq]
  by_cases hp : okP p
  · rw [decide_eq_true hp]
    simp only [Option.bind_some, if_true]
    rw [decide_eq_true (show n < 0 by have : ¬ 0 ≤ n := fun h' => h ⟨hp, h'⟩; omega), modp_Pow.j0, if_pos rfl]
  · rw [decide_eq_false hp]
    rfl

theorem rPow_l0 (P : Nat) (h1 : 1 ≤ P) (hP : P ≤ 2147483647) : ∀ (m A O : Nat), A < P → O < P → m ≤ 9223372036854775807 →
    ∃ k, greenwoodref04_Pow.l0 k (m : Int) (P : Int) (O : Int) (A : Int) = some ((O * A ^ m % P : Nat) : Int) := by
  intro m
  induction m using Nat.strongRecOn with
  | ind m ih =>
    intro A O hA hO hm
    by_cases h0 : m = 0
    · subst h0
      refine ⟨1, ?_⟩
      unfold greenwoodref04_Pow.l0
      rw [if_neg (by omega), Nat.pow_zero, Nat.mul_one, Nat.mod_eq_of_lt hO]
    · have hs := pow_step O A P m (by omega)
      have hAA : A * A % P < P := Nat.mod_lt _ (by omega)
      have hdiv : wrap64 (Int.tdiv (m : Int) 2) = ((m / 2 : Nat) : Int) := by
        rw [Int.tdiv_eq_ediv_of_nonneg (by omega), wrap_id (by omega) (by omega)]; omega
      have hmod : Int.tmod (m : Int) 2 = (m : Int) % 2 := Int.tmod_eq_emod_of_nonneg (by omega)
      by_cases h2 : m % 2 = 1
      · rw [if_pos h2] at hs
        obtain ⟨k, hk⟩ := ih (m / 2) (by omega) (A * A % P) (O * A % P) hAA (Nat.mod_lt _ (by omega)) (by omega)
        refine ⟨k + 1, ?_⟩
        unfold greenwoodref04_Pow.l0
        rw [if_pos (by omega), hmod, if_pos (by omega), if_neg (by omega), mulmod hA hA hP, mulmod hO hA hP, hdiv, hk, hs]
      · rw [if_neg h2, Nat.mul_one, Nat.mod_eq_of_lt hO] at hs
        obtain ⟨k, hk⟩ := ih (m / 2) (by omega) (A * A % P) O hAA hO (by omega)
        refine ⟨k + 1, ?_⟩
        unfold greenwoodref04_Pow.l0
        rw [if_pos (by omega), hmod, if_neg (by omega), if_neg (by omega), mulmod hA hA hP, hdiv, hk, hs]

theorem rPow_yes (a : Int) {n p : Int} (hp : okP p) (hn : 0 ≤ n) (hn2 : n ≤ 9223372036854775807) : Ev (fun k => greenwoodref04_Pow.f k a n p) (pw a n p) := by
  have h1 := hp.1
  have h2 := hp.2
  have hb0 := Int.emod_nonneg a (show p ≠ 0 by omega)
  have hb1 := Int.emod_lt_of_pos a (show 0 < p by omega)
  have hl : ∃ k, greenwoodref04_Pow.l0 k n p (1 % p) (a % p) = some (pw a n p) := by
    obtain ⟨k, hk⟩ := rPow_l0 p.toNat (by omega) (by omega) n.toNat (a % p).toNat (1 % p.toNat) (by omega) (Nat.mod_lt _ (by omega)) (by omega)
    refine ⟨k, ?_⟩
    have e1 : (((a % p).toNat : Nat) : Int) = a % p := by omega
    have e2 : ((n.toNat : Nat) : Int) = n := by omega
    have e3 : ((p.toNat : Nat) : Int) = p := by omega
    have e4 : ((1 % p.toNat : Nat) : Int) = 1 % p := by rw [Int.natCast_emod, e3]; rfl
    rw [e1, e2, e3, e4] at hk
    rw [hk]
    unfold pw
    rw [Nat.mul_mod, Nat.mod_mod, ← Nat.mul_mod, Nat.one_mul]
  obtain ⟨k, hk⟩ := hl
  refine Ev.of (greenwoodref04_Pow.mono a n p) (k := k + 1) ?_
  unfold greenwoodref04_Pow.f
  rw [if_neg (by omega), if_neg (by omega)]
  rw [decide_eq_false (by omega), greenwoodref04_Pow.j0, if_neg (by decide), if_neg (by omega), rMod_yes a hp]
  simp only [Option.bind_some]
  exact hk
theorem rPow_no (a : Int) {n p : Int} (h : ¬ (okP p ∧ 0 ≤ n)) : Ev (fun k => greenwoodref04_Pow.f k a n p) 0 := by
  refine Ev.of (greenwoodref04_Pow.mono a n p) (k := 1) ?_
  unfold greenwoodref04_Pow.f
  by_cases h1 : p < 1
  · rw [if_pos h1]; rfl
  · rw [if_neg h1]
    by_cases h2 : p > 2147483647
    · rw [if_pos h2]; rfl
    · rw [if_neg h2, decide_eq_true (show n < 0 by have : ¬ 0 ≤ n := fun h' => h ⟨⟨by omega, by omega⟩, h'⟩; omega)]
      rfl

/-! ## primes -/
/-- so many squares, none of which is -1 -/
def wl (P : Nat) : Nat → Nat → Bool
  | 0, _ => true
  | r + 1, x => if x * x % P = P - 1 then false else wl P r (x * x % P)

theorem wl_false (P : Nat) : ∀ r x, wl P r x = false ↔ ∃ j, 1 ≤ j ∧ j ≤ r ∧ x ^ (2 ^ j) % P = P - 1 := by
  intro r
  induction r with
  | zero => intro x; constructor
            · intro h; cases h
            · intro ⟨j, h1, h2, _⟩; omega
  | succ r ih =>
    intro x
    have e : ∀ j, (x * x % P) ^ (2 ^ j) % P = x ^ (2 ^ (j + 1)) % P := by
      intro j
      rw [← Nat.pow_mod, ← Nat.pow_two, ← Nat.pow_mul, Nat.pow_succ, Nat.mul_comm 2]
    unfold wl
    by_cases h : x * x % P = P - 1
    · rw [if_pos h]
      refine ⟨fun _ => ⟨1, Nat.le_refl _, by omega, ?_⟩, fun _ => rfl⟩
      rw [Nat.pow_one, Nat.pow_two]; exact h
    · rw [if_neg h, ih]
      constructor
      · intro ⟨j, h1, h2, h3⟩
        rw [e] at h3
        exact ⟨j + 1, by omega, by omega, h3⟩
      · intro ⟨j, h1, h2, h3⟩
        by_cases hj : j = 1
        · subst hj; rw [Nat.pow_one, Nat.pow_two] at h3; exact absurd h3 h
        · refine ⟨j - 1, by omega, by omega, ?_⟩
          rw [e, show j - 1 + 1 = j by omega]; exact h3

theorem witness_l0 (P : Nat) (h1 : 1 < P) (hP : P ≤ 2147483647) (t : Int) (ht : t ≤ 1000) : ∀ (r x : Nat) (i : Int), 0 ≤ i → r = (t - i).toNat → x < P →
    ∃ k, modp_witness.l0 k (P : Int) (x : Int) t i = some (wl P r x) := by
  intro r
  induction r with
  | zero =>
    intro x i hi hr hx
    refine ⟨1, ?_⟩
    unfold modp_witness.l0 wl
    rw [if_neg (by omega)]
  | succ r ih =>
    intro x i hi hr hx
    have hxx : x * x % P < P := Nat.mod_lt _ (by omega)
    obtain ⟨k, hk⟩ := ih (x * x % P) (i + 1) (by omega) (by omega) hxx
    refine ⟨k + 1, ?_⟩
    unfold modp_witness.l0 wl
    rw [if_pos (by omega), if_neg (by omega), mulmod hx hx hP, wrap_id (by omega) (by omega), wrap_id (by omega) (by omega)]
    by_cases h : x * x % P = P - 1
    · rw [if_pos h, if_pos (by omega)]
    · rw [if_neg h, if_neg (by omega)]; exact hk

/-- does a number show that another one is no prime? -/
def witB (P d s a : Nat) : Bool :=
  if a ^ d % P = 1 ∨ a ^ d % P = P - 1 ∨ a ^ d % P = 0 then false else wl P (s - 1) (a ^ d % P)

theorem witness_eq (P d s a : Nat) (h1 : 2 < P) (hP : P ≤ 2147483647) (hs : s ≤ 100) (hs0 : 1 ≤ s) (hd : d ≤ 9223372036854775807) :
    Ev (fun k => modp_witness.f k (a : Int) (d : Int) (s : Int) (P : Int)) (witB P d s a) := by
  have hp : okP (P : Int) := ⟨by omega, by omega⟩
  have hpw : pw (a : Int) (d : Int) (P : Int) = ((a ^ d % P : Nat) : Int) := by
    unfold pw
    have e1 : ((a : Int) % (P : Int)).toNat = a % P := by
      rw [← Int.natCast_emod]; rfl
    rw [e1]
    show ((((a % P) ^ d % P : Nat)) : Int) = _
    rw [← Nat.pow_mod]
  have hx : a ^ d % P < P := Nat.mod_lt _ (by omega)
  obtain ⟨kp, hkp⟩ := (Pow_yes (a : Int) (n := (d : Int)) hp (by omega) (by omega)).rounds
  rw [hpw] at hkp
  obtain ⟨kl, hkl⟩ := witness_l0 P (by omega) hP ((s : Int) - 1) (by omega) (s - 1) (a ^ d % P) 0 (by omega) (by omega) hx
  have hk1 := at_rounds (modp_Pow.mono (a : Int) (d : Int) (P : Int)) (show kp ≤ kp + kl + 1 by omega) hkp
  have hk2 := at_rounds (g := fun k => modp_witness.l0 k (P : Int) ((a ^ d % P : Nat) : Int) ((s : Int) - 1) 0) (fun k => (modp_witness.mono_l k).2 _ _ _ _) (show kl ≤ kp + kl by omega) hkl
  refine Ev.of (modp_witness.mono _ _ _ _) (k := kp + kl + 1) ?_
  unfold modp_witness.f
  rw [hk1]
  simp only [Option.bind_some]
  unfold witB
  generalize a ^ d % P = x at hx hk2
  rw [wrap_id (a := (P : Int) - 1) (by omega) (by omega)]
  by_cases c1 : x = 1
  · rw [if_pos (by omega), if_pos (Or.inl c1), modp_witness.j0, if_pos rfl]
  · rw [if_neg (by omega)]
    by_cases c2 : x = P - 1
    · rw [if_pos (by omega), if_pos (Or.inr (Or.inl c2)), modp_witness.j0, if_pos rfl]
    · rw [if_neg (by omega)]
      by_cases c3 : x = 0
      · subst c3
        rw [if_pos (Or.inr (Or.inr rfl)), modp_witness.j0]; rfl
      · rw [if_neg (by omega), show (((x : Int) == 0) = false) from beq_eq_false_iff_ne.mpr (by omega), modp_witness.j0, if_neg (by decide), wrap_id (by omega) (by omega)]
        exact hk2

/-- no witness: it passes -/
theorem witB_false {P d s a : Nat} (h1 : 2 < P) (hs0 : 1 ≤ s) (h0 : a ^ d % P ≠ 0) : witB P d s a = false ↔ Pass P d s a := by
  have e : ∀ j, (a ^ d % P) ^ (2 ^ j) % P = a ^ (2 ^ j * d) % P := by
    intro j
    rw [← Nat.pow_mod, ← Nat.pow_mul, Nat.mul_comm]
  unfold witB Pass
  by_cases c1 : a ^ d % P = 1
  · rw [if_pos (Or.inl c1)]; exact ⟨fun _ => Or.inl c1, fun _ => rfl⟩
  by_cases c2 : a ^ d % P = P - 1
  · rw [if_pos (Or.inr (Or.inl c2))]
    exact ⟨fun _ => Or.inr ⟨0, by omega, by rw [Nat.pow_zero, Nat.one_mul]; exact c2⟩, fun _ => rfl⟩
  rw [if_neg (by intro h; rcases h with h | h | h <;> contradiction), wl_false]
  constructor
  · intro ⟨j, h2, h3, h4⟩
    rw [e] at h4
    exact Or.inr ⟨j, by omega, h4⟩
  · intro h
    rcases h with h | ⟨i, hi, h⟩
    · exact absurd h c1
    · by_cases hi0 : i = 0
      · subst hi0; rw [Nat.pow_zero, Nat.one_mul] at h; exact absurd h c2
      · exact ⟨i, by omega, by omega, by rw [e]; exact h⟩

open Classical in
/-- is a number a prime, up to 2^31 - 1? -/
noncomputable def isP (p : Int) : Bool := decide (p ≤ 2147483647 ∧ Pr p.toNat)
theorem isP_true {p : Int} : isP p = true ↔ p ≤ 2147483647 ∧ Pr p.toNat := by unfold isP; simp
theorem isP_false {p : Int} : isP p = false ↔ ¬ (p ≤ 2147483647 ∧ Pr p.toNat) := by unfold isP; simp
theorem isP_ok {p : Int} (h : isP p = true) : okP p := by
  obtain ⟨h1, h2, _⟩ := isP_true.mp h
  exact ⟨by omega, h1⟩

/-- the four, one by one -/
def fourB (P d s : Nat) : List Nat → Bool
  | [] => true
  | a :: r => if P = a then true else if P % a = 0 then false else if witB P d s a = true then false else fourB P d s r

theorem at4_eq (P d s : Nat) (h1 : 2 < P) (hP : P ≤ 2147483647) (hs : s ≤ 100) (hs0 : 1 ≤ s) (hd : d ≤ 9223372036854775807) : ∀ l : List Nat, (∀ a ∈ l, 2 ≤ a) →
    Ev (fun k => modp_Prime.at4 k (P : Int) (d : Int) (s : Int) (l.map fun (a : Nat) => (a : Int))) (fourB P d s l) := by
  intro l
  induction l with
  | nil => intro _; exact Ev.of (fun k => LeO.refl _) (k := 0) rfl
  | cons a l ih =>
    intro hl
    have ha := hl a (List.mem_cons_self)
    have hih := ih (fun b hb => hl b (List.mem_cons_of_mem _ hb))
    have hw := witness_eq P d s a h1 hP hs hs0 hd
    rw [List.map_cons]
    unfold fourB
    by_cases c1 : P = a
    · rw [if_pos c1]
      refine Ev.congr (f := fun _ => some true) (fun k => ?_) (Ev.now true)
      rw [modp_Prime.at4, if_pos (by omega)]
    rw [if_neg c1]
    have hm : Int.tmod (P : Int) (a : Int) = ((P % a : Nat) : Int) := by
      rw [Int.tmod_eq_emod_of_nonneg (by omega)]; rfl
    by_cases c2 : P % a = 0
    · rw [if_pos c2]
      refine Ev.congr (f := fun _ => some false) (fun k => ?_) (Ev.now false)
      rw [modp_Prime.at4, if_neg (by omega), hm, if_pos (by omega)]
    rw [if_neg c2]
    refine Ev.congr (f := fun k => (modp_witness.f k (a : Int) (d : Int) (s : Int) (P : Int)).bind fun t => if t = true then some false else modp_Prime.at4 k (P : Int) (d : Int) (s : Int) (l.map fun (a : Nat) => (a : Int))) (fun k => ?_) ?_
    · rw [modp_Prime.at4, if_neg (by omega), hm, if_neg (by omega)]
    · refine Ev.bind hw ?_
      by_cases c3 : witB P d s a = true
      · rw [if_pos c3]
        exact Ev.congr (fun k => if_pos c3) (Ev.now false)
      · rw [if_neg c3]
        exact Ev.congr (fun k => if_neg c3) hih

theorem four_prime {P d s : Nat} (h1 : 2 < P) (hP : P ≤ 2147483647) (ho : P % 2 = 1) (hds : P - 1 = 2 ^ s * d) (hdo : d % 2 = 1) (hs0 : 1 ≤ s) : fourB P d s [2, 3, 5, 7] = true ↔ Pr P := by
  have small : ∀ a, a = 2 ∨ a = 3 ∨ a = 5 ∨ a = 7 → Pr a := by
    intro a ha
    refine ⟨by omega, fun e he => ?_⟩
    have hle := Nat.le_of_dvd (by omega) he
    have h0 : e ≠ 0 := by intro h; subst h; have := Nat.eq_zero_of_zero_dvd he; omega
    rcases ha with rfl | rfl | rfl | rfl
    · omega
    · have : e = 1 ∨ e = 2 ∨ e = 3 := by omega
      rcases this with rfl | rfl | rfl <;> revert he <;> decide
    · have : e = 1 ∨ e = 2 ∨ e = 3 ∨ e = 4 ∨ e = 5 := by omega
      rcases this with rfl | rfl | rfl | rfl | rfl <;> revert he <;> decide
    · have : e = 1 ∨ e = 2 ∨ e = 3 ∨ e = 4 ∨ e = 5 ∨ e = 6 ∨ e = 7 := by omega
      rcases this with rfl | rfl | rfl | rfl | rfl | rfl | rfl <;> revert he <;> decide
  constructor
  · intro h
    -- none of the four shows anything
    by_cases e2 : P = 2
    · omega
    by_cases e3 : P = 3
    · subst e3; exact small 3 (by simp)
    by_cases e5 : P = 5
    · subst e5; exact small 5 (by simp)
    by_cases e7 : P = 7
    · subst e7; exact small 7 (by simp)
    unfold fourB at h
    rw [if_neg e2] at h
    split at h; · cases h
    rename_i m2
    split at h; · cases h
    rename_i w2
    unfold fourB at h
    rw [if_neg e3] at h
    split at h; · cases h
    rename_i m3
    split at h; · cases h
    rename_i w3
    unfold fourB at h
    rw [if_neg e5] at h
    split at h; · cases h
    rename_i m5
    split at h; · cases h
    rename_i w5
    unfold fourB at h
    rw [if_neg e7] at h
    split at h; · cases h
    rename_i m7
    split at h; · cases h
    rename_i w7
    refine pass_prime (by omega) hP m2 m3 m5 m7 ?_
    intro d' s' hds' hdo' a ha
    have hnz : a ^ d % P ≠ 0 := by
      intro h0
      obtain ⟨q, hq, hqP⟩ := exists_pr P (by omega)
      have h2 : q ∣ a := pr_dvd_pow hq (Nat.dvd_trans hqP (Nat.dvd_of_mod_eq_zero h0))
      have hqa : q = a := by
        rcases (small a ha).2 q h2 with h3 | h3
        · have := hq.1; omega
        · exact h3
      subst hqa
      have := Nat.mod_eq_zero_of_dvd hqP
      rcases ha with rfl | rfl | rfl | rfl <;> contradiction
    have hw : witB P d s a = false := by
      rcases ha with rfl | rfl | rfl | rfl
      · exact Bool.eq_false_iff.mpr w2
      · exact Bool.eq_false_iff.mpr w3
      · exact Bool.eq_false_iff.mpr w5
      · exact Bool.eq_false_iff.mpr w7
    have hpass := (witB_false h1 hs0 hnz).mp hw
    -- the odd part is one alone
    have huniq : ∀ (s s' d d' : Nat), d % 2 = 1 → d' % 2 = 1 → 2 ^ s * d = 2 ^ s' * d' → s = s' := by
      intro s
      induction s with
      | zero =>
        intro s' d d' hd hd' he
        cases s' with
        | zero => rfl
        | succ s' => rw [Nat.pow_zero, Nat.one_mul, Nat.pow_succ, Nat.mul_right_comm] at he; omega
      | succ s ih =>
        intro s' d d' hd hd' he
        cases s' with
        | zero => rw [Nat.pow_zero, Nat.one_mul, Nat.pow_succ, Nat.mul_right_comm] at he; omega
        | succ s' =>
          rw [Nat.pow_succ, Nat.pow_succ, Nat.mul_right_comm, Nat.mul_right_comm (2 ^ s')] at he
          rw [ih s' d d' hd hd' (by omega)]
    have hss : s = s' := huniq s s' d d' hdo hdo' (by rw [← hds, ← hds'])
    subst hss
    have hdd : d = d' := Nat.eq_of_mul_eq_mul_left (Nat.two_pow_pos s) (by rw [← hds, ← hds'])
    subst hdd
    exact hpass
  · intro hp
    have step : ∀ a r, (a = 2 ∨ a = 3 ∨ a = 5 ∨ a = 7) → fourB P d s r = true → fourB P d s (a :: r) = true := by
      intro a r ha hr
      unfold fourB
      by_cases e : P = a
      · rw [if_pos e]
      rw [if_neg e]
      have hPa : ¬ P ∣ a := by
        intro h
        rcases (small a ha).2 P h with h3 | h3 <;> omega
      rw [if_neg (by
        intro h0
        rcases hp.2 a (Nat.dvd_of_mod_eq_zero h0) with h3 | h3 <;> omega)]
      have hnz : a ^ d % P ≠ 0 := fun h0 => hPa (pr_dvd_pow hp (Nat.dvd_of_mod_eq_zero h0))
      rw [(witB_false h1 hs0 hnz).mpr (prime_pass hp h1 hds hPa), if_neg (by decide)]
      exact hr
    exact step 2 _ (by simp) (step 3 _ (by simp) (step 5 _ (by simp) (step 7 _ (by simp) rfl)))

theorem Prime_l0 (P : Nat) (h1 : 2 < P) (hP : P ≤ 2147483647) (ho : P % 2 = 1) : ∀ (d s : Nat), P - 1 = 2 ^ s * d → s ≤ 31 →
    Ev (fun k => modp_Prime.l0 k (P : Int) (d : Int) (s : Int)) (isP (P : Int)) := by
  intro d
  induction d using Nat.strongRecOn with
  | ind d ih =>
    intro s hds hs
    have hd0 : 0 < d := by
      apply Nat.pos_of_ne_zero
      intro h; subst h; simp at hds; omega
    have hdP : d ≤ P - 1 := by
      rw [hds]; have := Nat.mul_le_mul (Nat.two_pow_pos s) (Nat.le_refl d); omega
    have hm : Int.tmod (d : Int) 2 = ((d % 2 : Nat) : Int) := by
      rw [Int.tmod_eq_emod_of_nonneg (by omega)]; rfl
    by_cases h2 : d % 2 = 0
    · have hs' : s + 1 ≤ 31 := by
        apply Classical.byContradiction
        intro hx
        have hs31 : s = 31 := by omega
        subst hs31
        have : 2 ^ 31 * 1 ≤ 2 ^ 31 * d := Nat.mul_le_mul (Nat.le_refl _) hd0
        omega
      have hih := ih (d / 2) (by omega) (s + 1) (by rw [hds, Nat.pow_succ, Nat.mul_assoc]; congr 1; omega) hs'
      refine Ev.step (fun k => ?_) hih
      show modp_Prime.l0 (k + 1) (P : Int) (d : Int) (s : Int) = _
      rw [modp_Prime.l0, hm, if_pos (by omega), Int.tdiv_eq_ediv_of_nonneg (by omega), wrap_id (by omega) (by omega), wrap_id (by omega) (by omega)]
      rfl
    · have hs0 : 1 ≤ s := by
        apply Nat.pos_of_ne_zero
        intro h; subst h; rw [Nat.pow_zero, Nat.one_mul] at hds; omega
      have h4 := at4_eq P d s h1 hP (by omega) hs0 (by omega) [2, 3, 5, 7] (by decide)
      have e : fourB P d s [2, 3, 5, 7] = isP (P : Int) := by
        have := four_prime h1 hP ho hds (by omega) hs0
        rw [Bool.eq_iff_iff, this, isP_true]
        exact ⟨fun h => ⟨by omega, h⟩, fun h => h.2⟩
      rw [e] at h4
      refine Ev.step (fun k => ?_) h4
      rw [modp_Prime.l0, hm, if_neg (by omega)]
      rfl

theorem pr_two : Pr 2 := ⟨Nat.le_refl _, fun d hd => by
  have hle := Nat.le_of_dvd (by decide) hd
  have h0 : d ≠ 0 := by intro h; subst h; exact absurd hd (by decide)
  omega⟩

/-- WHAT Prime TELLS -/
theorem Prime_eq (p : Int) : Ev (fun k => modp_Prime.f k p) (isP p) := by
  by_cases c1 : p < 2
  · have e : (p == 2) = isP p := by
      rw [isP_false.mpr (by rintro ⟨_, h, _⟩; omega)]
      exact beq_eq_false_iff_ne.mpr (by omega)
    rw [← e]
    refine Ev.congr (fun k => ?_) (Ev.now _)
    unfold modp_Prime.f
    rw [if_pos c1]
  by_cases c2 : p > 2147483647
  · have e : (p == 2) = isP p := by
      rw [isP_false.mpr (by rintro ⟨h, _⟩; omega)]
      exact beq_eq_false_iff_ne.mpr (by omega)
    rw [← e]
    refine Ev.congr (fun k => ?_) (Ev.now _)
    unfold modp_Prime.f
    rw [if_neg c1, if_pos c2]
  have hm : Int.tmod p 2 = p % 2 := Int.tmod_eq_emod_of_nonneg (by omega)
  by_cases c3 : p % 2 = 0
  · have e : (p == 2) = isP p := by
      by_cases h2 : p = 2
      · subst h2
        rw [show isP 2 = true from isP_true.mpr ⟨by omega, pr_two⟩]; rfl
      · rw [isP_false.mpr (by
          rintro ⟨_, h3, h⟩
          rcases h 2 (Nat.dvd_of_mod_eq_zero (by omega)) with h4 | h4 <;> omega)]
        exact beq_eq_false_iff_ne.mpr h2
    rw [← e]
    refine Ev.congr (fun k => ?_) (Ev.now _)
    unfold modp_Prime.f
    rw [if_neg c1, if_neg c2, hm, if_pos c3]
  have h := Prime_l0 p.toNat (by omega) (by omega) (by omega) (p.toNat - 1) 0 (by rw [Nat.pow_zero, Nat.one_mul]) (by omega)
  have e1 : ((p.toNat : Nat) : Int) = p := by omega
  have e2 : ((p.toNat - 1 : Nat) : Int) = p - 1 := by omega
  rw [e1, e2] at h
  refine Ev.congr (fun k => ?_) h
  unfold modp_Prime.f
  rw [if_neg c1, if_neg c2, hm, if_neg c3, wrap_id (by omega) (by omega)]
  rfl

theorem rPrime_l0 (P : Nat) (h1 : 2 ≤ P) (hP : P ≤ 2147483647) : ∀ (m d : Nat), m = 46341 - d → 2 ≤ d → d ≤ 46341 → (∀ e, 2 ≤ e → e < d → ¬ e ∣ P) →
    ∃ k, greenwoodref04_Prime.l0 k (P : Int) (d : Int) = some (isP (P : Int)) := by
  intro m
  induction m with
  | zero =>
    intro d hm hd hd2 hno
    have hd4 : d = 46341 := by omega
    subst hd4
    refine ⟨1, ?_⟩
    unfold greenwoodref04_Prime.l0
    rw [wrap_id (by omega) (by omega), if_neg (by omega)]
    congr 1
    symm
    rw [isP_true]
    refine ⟨by omega, ?_⟩
    apply Classical.byContradiction
    intro hn
    obtain ⟨q, hq, hqP, hqq⟩ := exists_small_pr P h1 hn
    refine hno q hq.1 ?_ hqP
    apply Classical.byContradiction
    intro hx
    have := Nat.mul_le_mul (show 46341 ≤ q by omega) (show 46341 ≤ q by omega)
    omega
  | succ m ih =>
    intro d hm hd hd2 hno
    have hdd : d * d ≤ 46341 * 46341 := Nat.mul_le_mul hd2 hd2
    have edd : (d : Int) * (d : Int) = ((d * d : Nat) : Int) := (Int.natCast_mul d d).symm
    have hmod : Int.tmod (P : Int) (d : Int) = ((P % d : Nat) : Int) := by
      rw [Int.tmod_eq_emod_of_nonneg (by omega)]; rfl
    by_cases hle : d * d ≤ P
    · by_cases h0 : P % d = 0
      · refine ⟨1, ?_⟩
        unfold greenwoodref04_Prime.l0
        rw [edd, wrap_id (by omega) (by omega), if_pos (by omega), if_neg (by omega), hmod, if_pos (by omega)]
        congr 1
        symm
        rw [isP_false]
        rintro ⟨_, _, h⟩
        have hdlt : d < P := by
          have := Nat.mul_le_mul hd (Nat.le_refl d); omega
        rcases h d (Nat.dvd_of_mod_eq_zero h0) with h4 | h4
        · omega
        · have h5 : d = P := h4
          omega
      · obtain ⟨k, hk⟩ := ih (d + 1) (by omega) (by omega) (by omega) (by
          intro e he1 he2 hdv
          by_cases hed : e = d
          · subst hed; exact h0 (Nat.mod_eq_zero_of_dvd hdv)
          · exact hno e he1 (by omega) hdv)
        refine ⟨k + 1, ?_⟩
        unfold greenwoodref04_Prime.l0
        rw [edd, wrap_id (by omega) (by omega), if_pos (by omega), if_neg (by omega), hmod, if_neg (by omega), wrap_id (by omega) (by omega)]
        exact hk
    · refine ⟨1, ?_⟩
      unfold greenwoodref04_Prime.l0
      rw [edd, wrap_id (by omega) (by omega), if_neg (by omega)]
      congr 1
      symm
      rw [isP_true]
      refine ⟨by omega, ?_⟩
      apply Classical.byContradiction
      intro hn
      obtain ⟨q, hq, hqP, hqq⟩ := exists_small_pr P h1 hn
      refine hno q hq.1 ?_ hqP
      apply Classical.byContradiction
      intro hx
      have := Nat.mul_le_mul (show d ≤ q by omega) (show d ≤ q by omega)
      omega

/-- WHAT THE DOCUMENT'S Prime TELLS -/
theorem rPrime_eq (p : Int) : Ev (fun k => greenwoodref04_Prime.f k p) (isP p) := by
  by_cases c1 : p < 2
  · rw [isP_false.mpr (by rintro ⟨_, h, _⟩; omega)]
    refine Ev.of (greenwoodref04_Prime.mono p) (k := 1) ?_
    unfold greenwoodref04_Prime.f
    rw [if_pos c1]; rfl
  by_cases c2 : p > 2147483647
  · rw [isP_false.mpr (by rintro ⟨h, _⟩; omega)]
    refine Ev.of (greenwoodref04_Prime.mono p) (k := 1) ?_
    unfold greenwoodref04_Prime.f
    rw [if_neg c1, decide_eq_true c2]; rfl
  obtain ⟨k, hk⟩ := rPrime_l0 p.toNat (by omega) (by omega) 46339 2 (by omega) (by omega) (by omega) (by intro e h1 h2; omega)
  have e1 : ((p.toNat : Nat) : Int) = p := by omega
  rw [e1] at hk
  refine Ev.of (greenwoodref04_Prime.mono p) (k := k + 1) ?_
  unfold greenwoodref04_Prime.f
  rw [if_neg c1, decide_eq_false c2, greenwoodref04_Prime.j0, if_neg (by decide)]
  exact hk

/-! ## inverses -/
/-- an inverse, modulo -/
theorem inv_uniq {a i j p : Int} (hp : isP p = true) (hi : 0 ≤ i ∧ i < p) (hj : 0 ≤ j ∧ j < p) (h1 : a * i % p = 1) (h2 : a * j % p = 1) : i = j := by
  obtain ⟨hle, hpr⟩ := isP_true.mp hp
  have hp2 := hpr.1
  have e : i % p = j % p := by
    have h3 : i * (a * j) % p = i % p := by rw [Int.mul_emod, h2, Int.mul_one, Int.emod_emod_of_dvd i (Int.dvd_refl p)]
    have h4 : j * (a * i) % p = j % p := by rw [Int.mul_emod, h1, Int.mul_one, Int.emod_emod_of_dvd j (Int.dvd_refl p)]
    rw [← h3, ← h4]
    congr 1
    rw [Int.mul_left_comm, Int.mul_left_comm j, Int.mul_comm i j]
  rwa [Int.emod_eq_of_lt hi.1 hi.2, Int.emod_eq_of_lt hj.1 hj.2] at e

theorem Inv_l0 (a p : Int) (hp : isP p = true) : ∀ (m : Nat) (x y u v : Int), y.toNat = m → 0 < x → 0 ≤ y → x ≤ p → y ≤ p → (u * a) % p = x % p → (v * a) % p = y % p →
    ((0 ≤ u ∧ v ≤ 0) ∨ (u ≤ 0 ∧ 0 ≤ v)) → u.natAbs * y.toNat + v.natAbs * x.toNat = p.toNat → Int.gcd x y = 1 →
    ∃ (k : Nat) (i : Int), modp_Inv.l0 k p x y u v = some (i, true) ∧ 0 ≤ i ∧ i < p ∧ (i * a) % p = 1 := by
  have hok := isP_ok hp
  obtain ⟨hle, hpr⟩ := isP_true.mp hp
  have hp2 := hpr.1
  intro m
  induction m using Nat.strongRecOn with
  | ind m ih =>
    intro x y u v hm hx hy hxp hyp hu hv hsg hsum hg
    by_cases h0 : y = 0
    · subst h0
      rw [Int.gcd_zero_right] at hg
      have hx1 : x = 1 := by omega
      subst hx1
      refine ⟨1, u % p, ?_, Int.emod_nonneg _ (by omega), Int.emod_lt_of_pos _ (by omega), ?_⟩
      · unfold modp_Inv.l0
        rw [if_pos rfl, Mod_yes u hok]; rfl
      · rw [Int.mul_emod, Int.emod_emod_of_dvd u (Int.dvd_refl p), ← Int.mul_emod, hu]
        exact Int.emod_eq_of_lt (by omega) (by omega)
    · -- one step: q
      have hqd : Int.tdiv x y = x / y := Int.tdiv_eq_ediv_of_nonneg (by omega)
      have hq0 : 0 ≤ x / y := Int.ediv_nonneg (by omega) hy
      have hdm := Int.mul_ediv_add_emod x y
      have hr0 := Int.emod_nonneg x h0
      have hr1 := Int.emod_lt_of_pos x (show 0 < y by omega)
      have hqy : x / y * y = x - x % y := by rw [Int.mul_comm]; omega
      have hqx : x / y ≤ x := Int.ediv_le_self y (by omega)
      -- how great what is multiplied gets
      have hvb : (x / y).toNat * v.natAbs ≤ p.toNat := by
        have h1 : (x / y).toNat ≤ x.toNat := by omega
        have h2 := Nat.mul_le_mul h1 (Nat.le_refl v.natAbs)
        rw [Nat.mul_comm x.toNat] at h2
        omega
      have hub : u.natAbs ≤ p.toNat := by
        have h1 := Nat.mul_le_mul (Nat.le_refl u.natAbs) (show 1 ≤ y.toNat by omega)
        omega
      have hvb2 : v.natAbs ≤ p.toNat := by
        have h1 := Nat.mul_le_mul (Nat.le_refl v.natAbs) (show 1 ≤ x.toNat by omega)
        omega
      have hqv : (x / y * v).natAbs ≤ p.toNat := by
        rw [Int.natAbs_mul, show (x / y).natAbs = (x / y).toNat by omega]; exact hvb
      have hwq : wrap64 (Int.tdiv x y) = x / y := by rw [hqd]; exact wrap_id (by omega) (by omega)
      have hwqy : wrap64 (x / y * y) = x / y * y := wrap_id (by omega) (by omega)
      have hwr : wrap64 (x - x / y * y) = x % y := by rw [wrap_id (by omega) (by omega)]; omega
      have hwqv : wrap64 (x / y * v) = x / y * v := wrap_id (by omega) (by omega)
      have hwuv : wrap64 (u - x / y * v) = u - x / y * v := wrap_id (by omega) (by omega)
      have hnext : ((u - x / y * v) * a) % p = (x % y) % p := by
        have e1 : (u - x / y * v) * a = u * a - x / y * (v * a) := by rw [Int.sub_mul, Int.mul_assoc]
        have e2 : x % y = x - x / y * y := by omega
        rw [e1, e2, Int.sub_emod, hu, Int.mul_emod (x / y) (v * a), hv, ← Int.mul_emod, ← Int.sub_emod]
      have hsg' : (0 ≤ v ∧ u - x / y * v ≤ 0) ∨ (v ≤ 0 ∧ 0 ≤ u - x / y * v) := by
        rcases hsg with ⟨h1, h2⟩ | ⟨h1, h2⟩
        · right
          have : x / y * v ≤ 0 := Int.mul_nonpos_of_nonneg_of_nonpos hq0 h2
          exact ⟨h2, by omega⟩
        · left
          have : 0 ≤ x / y * v := Int.mul_nonneg hq0 h2
          exact ⟨h2, by omega⟩
      have habs : (u - x / y * v).natAbs = u.natAbs + (x / y).toNat * v.natAbs := by
        have h3 : (x / y * v).natAbs = (x / y).toNat * v.natAbs := by rw [Int.natAbs_mul, show (x / y).natAbs = (x / y).toNat by omega]
        rw [← h3]
        rcases hsg with ⟨h1, h2⟩ | ⟨h1, h2⟩
        · have : x / y * v ≤ 0 := Int.mul_nonpos_of_nonneg_of_nonpos hq0 h2
          omega
        · have : 0 ≤ x / y * v := Int.mul_nonneg hq0 h2
          omega
      have hsum' : v.natAbs * (x % y).toNat + (u - x / y * v).natAbs * y.toNat = p.toNat := by
        rw [habs]
        have hxn : x.toNat = (x / y).toNat * y.toNat + (x % y).toNat := by
          have hm0 := Int.mul_nonneg hq0 hy
          rw [hqy] at hm0
          rw [← Int.toNat_mul hq0 hy, hqy]
          omega
        rw [hxn, Nat.mul_add] at hsum
        rw [Nat.add_mul]
        have e4 : v.natAbs * ((x / y).toNat * y.toNat) = (x / y).toNat * v.natAbs * y.toNat := by
          rw [Nat.mul_comm (x / y).toNat v.natAbs, Nat.mul_assoc]
        omega
      have hg' : Int.gcd y (x % y) = 1 := by
        rw [← hg, Int.gcd_comm x y, Int.gcd_comm y (x % y)]
        show Nat.gcd (x % y).natAbs y.natAbs = Nat.gcd y.natAbs x.natAbs
        have e5 : (x % y).natAbs = x.natAbs % y.natAbs := by
          have := Int.toNat_emod (x := x) (y := y) (by omega) (by omega)
          rw [show (x % y).natAbs = (x % y).toNat by omega, show x.natAbs = x.toNat by omega, show y.natAbs = y.toNat by omega]
          exact this
        rw [e5, ← Nat.gcd_rec]
      obtain ⟨k, i, hk, h5⟩ := ih (x % y).toNat (by omega) y (x % y) v (u - x / y * v) rfl (by omega) hr0 hyp (by omega) hv hnext hsg' hsum' hg'
      refine ⟨k + 1, i, ?_, h5⟩
      unfold modp_Inv.l0
      rw [if_neg h0, hwq, hwqy, hwr, hwqv, hwuv]
      exact hk

/-- the inverse -/
noncomputable def inv (a p : Int) : Int := if isP p = true ∧ a % p ≠ 0 then pw a (p - 2) p else 0

theorem inv_spec {a p : Int} (hp : isP p = true) (ha : a % p ≠ 0) : 0 ≤ inv a p ∧ inv a p < p ∧ (inv a p * a) % p = 1 := by
  obtain ⟨hle, hpr⟩ := isP_true.mp hp
  have hp2 := hpr.1
  unfold inv
  rw [if_pos ⟨hp, ha⟩]
  unfold pw
  have hb0 := Int.emod_nonneg a (show p ≠ 0 by omega)
  have hb1 := Int.emod_lt_of_pos a (show 0 < p by omega)
  have hnd : ¬ p.toNat ∣ (a % p).toNat := by
    intro h
    have := Nat.le_of_dvd (by omega) h
    omega
  have hf := NumTh.fermat hpr hnd
  have hlt : (a % p).toNat ^ (p - 2).toNat % p.toNat < p.toNat := Nat.mod_lt _ (by omega)
  refine ⟨by omega, by omega, ?_⟩
  rw [Int.mul_emod]
  have e1 : a % p = (((a % p).toNat : Nat) : Int) := by omega
  have e3 : p = ((p.toNat : Nat) : Int) := by omega
  have e4 : (p.toNat - 1) = (p - 2).toNat + 1 := by omega
  rw [e4, Nat.pow_succ] at hf
  generalize (a % p).toNat = A at *
  generalize (p - 2).toNat = n at *
  rw [e1]
  rw [e3]
  generalize p.toNat = P at *
  rw [← Int.natCast_emod, ← Int.natCast_mul, ← Int.natCast_emod, Int.toNat_natCast, Nat.mod_mod, Nat.mod_mul_mod, hf]
  rfl

/-- WHAT Inv TELLS -/
theorem Inv_eq (a p : Int) : Ev (fun k => modp_Inv.f k a p) (inv a p, decide (isP p = true ∧ a % p ≠ 0)) := by
  obtain ⟨k1, hk1⟩ := (Prime_eq p).rounds
  by_cases hp : isP p = true
  · have hok := isP_ok hp
    obtain ⟨hle, hpr⟩ := isP_true.mp hp
    have hp2 := hpr.1
    rw [hp] at hk1
    by_cases ha : a % p = 0
    · have e : inv a p = 0 := by unfold inv; rw [if_neg (by intro h; exact h.2 ha)]
      rw [e, decide_eq_false (by intro h; exact h.2 ha)]
      refine Ev.of (modp_Inv.mono a p) (k := k1 + 1) ?_
      unfold modp_Inv.f
      rw [at_rounds (modp_Prime.mono p) (show k1 ≤ k1 + 1 by omega) hk1]
      simp only [Option.bind_some, if_true]
      rw [Mod_yes a hok, ha]
      rfl
    · have hb0 := Int.emod_nonneg a (show p ≠ 0 by omega)
      have hb1 := Int.emod_lt_of_pos a (show 0 < p by omega)
      have hgcd : Int.gcd (a % p) p = 1 := by
        have hnd : ¬ p.toNat ∣ (a % p).toNat := by
          intro h
          have := Nat.le_of_dvd (by omega) h
          omega
        have := pr_coprime hpr hnd
        show Nat.gcd (a % p).natAbs p.natAbs = 1
        rw [show (a % p).natAbs = (a % p).toNat by omega, show p.natAbs = p.toNat by omega, Nat.gcd_comm]
        exact this
      obtain ⟨k2, i, hk2, h1, h2, h3⟩ := Inv_l0 a p hp p.toNat (a % p) p 1 0 rfl (by omega) (by omega) (by omega) (by omega)
        (by rw [Int.one_mul, Int.emod_emod_of_dvd a (Int.dvd_refl p)]) (by rw [Int.zero_mul, Int.emod_self]; rfl) (Or.inl ⟨by omega, by omega⟩)
        (by show 1 * p.toNat + 0 * _ = _; omega) hgcd
      obtain ⟨g1, g2, g3⟩ := inv_spec hp ha
      have e : i = inv a p := inv_uniq (a := a) hp ⟨h1, h2⟩ ⟨g1, g2⟩ (by rw [Int.mul_comm]; exact h3) (by rw [Int.mul_comm]; exact g3)
      rw [e] at hk2
      rw [decide_eq_true ⟨hp, ha⟩]
      refine Ev.of (modp_Inv.mono a p) (k := k1 + k2 + 1) ?_
      unfold modp_Inv.f
      rw [at_rounds (modp_Prime.mono p) (show k1 ≤ k1 + k2 + 1 by omega) hk1]
      simp only [Option.bind_some, if_true]
      rw [Mod_yes a hok]
      simp only [Option.bind_some]
      rw [show ((a % p == 0) = false) from beq_eq_false_iff_ne.mpr ha, modp_Inv.j0, if_neg (by decide), Mod_yes a hok]
      simp only [Option.bind_some]
      exact at_rounds (g := fun k => modp_Inv.l0 k p (a % p) p 1 0) (fun k => (modp_Inv.mono_l k).2 _ _ _ _ _) (show k2 ≤ k1 + k2 by omega) hk2
  · have hpf := Bool.eq_false_iff.mpr hp
    rw [hpf] at hk1
    have e : inv a p = 0 := by unfold inv; rw [if_neg (by intro h; exact hp h.1)]
    rw [e, decide_eq_false (by intro h; exact hp h.1)]
    refine Ev.of (modp_Inv.mono a p) (k := k1 + 1) ?_
    unfold modp_Inv.f
    rw [at_rounds (modp_Prime.mono p) (show k1 ≤ k1 + 1 by omega) hk1]
    rfl

/-- WHAT THE DOCUMENT'S Inv TELLS -/
theorem rInv_eq (a p : Int) : Ev (fun k => greenwoodref04_Inv.f k a p) (inv a p, decide (isP p = true ∧ a % p ≠ 0)) := by
  obtain ⟨k1, hk1⟩ := (rPrime_eq p).rounds
  by_cases hp : isP p = true
  · have hok := isP_ok hp
    obtain ⟨hle, hpr⟩ := isP_true.mp hp
    have hp2 := hpr.1
    rw [hp] at hk1
    by_cases ha : a % p = 0
    · have e : inv a p = 0 := by unfold inv; rw [if_neg (by intro h; exact h.2 ha)]
      rw [e, decide_eq_false (by intro h; exact h.2 ha)]
      refine Ev.of (greenwoodref04_Inv.mono a p) (k := k1) ?_
      unfold greenwoodref04_Inv.f
      rw [hk1]
      simp only [Option.bind_some, if_true]
      rw [rMod_yes a hok, ha]
      rfl
    · obtain ⟨k2, hk2⟩ := (rPow_yes a (n := p - 2) hok (by omega) (by omega)).rounds
      have e : inv a p = pw a (p - 2) p := by unfold inv; rw [if_pos ⟨hp, ha⟩]
      rw [e, decide_eq_true ⟨hp, ha⟩]
      refine Ev.of (greenwoodref04_Inv.mono a p) (k := k1 + k2) ?_
      unfold greenwoodref04_Inv.f
      rw [at_rounds (greenwoodref04_Prime.mono p) (show k1 ≤ k1 + k2 by omega) hk1]
      simp only [Option.bind_some, if_true]
      rw [rMod_yes a hok]
      simp only [Option.bind_some]
      rw [if_neg ha, wrap_id (by omega) (by omega), at_rounds (greenwoodref04_Pow.mono a (p - 2) p) (show k2 ≤ k1 + k2 by omega) hk2]
      rfl
  · have hpf := Bool.eq_false_iff.mpr hp
    rw [hpf] at hk1
    have e : inv a p = 0 := by unfold inv; rw [if_neg (by intro h; exact hp h.1)]
    rw [e, decide_eq_false (by intro h; exact hp h.1)]
    refine Ev.of (greenwoodref04_Inv.mono a p) (k := k1) ?_
    unfold greenwoodref04_Inv.f
    rw [hk1]
    rfl

/-- what is left, whatever the modulus -/
def md (a p : Int) : Int := if okP p then a % p else 0
theorem Mod_eq (a p : Int) : modp_Mod.f a p = some (md a p) := by
  unfold md
  by_cases h : okP p
  · rw [if_pos h, Mod_yes a h]
  · rw [if_neg h, Mod_no a h]
theorem rMod_eq (a p : Int) : greenwoodref04_Mod.f a p = some (md a p) := by
  unfold md
  by_cases h : okP p
  · rw [if_pos h, rMod_yes a h]
  · rw [if_neg h, rMod_no a h]
/-- a power, whatever the modulus -/
def pwz (a n p : Int) : Int := if okP p ∧ 0 ≤ n then pw a n p else 0
theorem Pow_eq (a : Int) {n : Int} (p : Int) (hn : n ≤ 9223372036854775807) : Ev (fun k => modp_Pow.f k a n p) (pwz a n p) := by
  unfold pwz
  by_cases h : okP p ∧ 0 ≤ n
  · rw [if_pos h]; exact Pow_yes a h.1 h.2 hn
  · rw [if_neg h]; exact Pow_no a h
theorem rPow_eq (a : Int) {n : Int} (p : Int) (hn : n ≤ 9223372036854775807) : Ev (fun k => greenwoodref04_Pow.f k a n p) (pwz a n p) := by
  unfold pwz
  by_cases h : okP p ∧ 0 ≤ n
  · rw [if_pos h]; exact rPow_yes a h.1 h.2 hn
  · rw [if_neg h]; exact rPow_no a h
end Go.Proofs.Ytelinpgfjgoofaa.P
