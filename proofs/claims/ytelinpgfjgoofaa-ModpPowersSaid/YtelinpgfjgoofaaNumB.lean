import Derived.Test.YtelinpgfjgoofaaNumA
namespace NumTh

def NMax : Nat := 2147483647

/-- what is supposed of a number that passes all four -/
structure Liar (n : Nat) : Prop where
  big : 1 < n
  le : n ≤ NMax
  cop : Nat.gcd n 210 = 1
  comp : ¬ Pr n
  pass : ∀ d s, n - 1 = 2 ^ s * d → d % 2 = 1 → ∀ a, a = 2 ∨ a = 3 ∨ a = 5 ∨ a = 7 → Pass n d s a

theorem odd_part (n : Nat) (h : 0 < n) : ∃ s d, n = 2 ^ s * d ∧ d % 2 = 1 := by
  induction n using Nat.strongRecOn with
  | ind n ih =>
    by_cases ho : n % 2 = 1
    · exact ⟨0, n, by simp, ho⟩
    · obtain ⟨s, d, h1, h2⟩ := ih (n / 2) (by omega) (by omega)
      exact ⟨s + 1, d, by rw [Nat.pow_succ, Nat.mul_right_comm, ← h1]; omega, h2⟩

theorem Liar.fermat {n a : Nat} (h : Liar n) (ha : a = 2 ∨ a = 3 ∨ a = 5 ∨ a = 7) : a ^ (n - 1) % n = 1 := by
  have hb := h.big
  obtain ⟨s, d, h1, h2⟩ := odd_part (n - 1) (by omega)
  exact pass_fermat h.big h1 (h.pass d s h1 h2 a ha)

theorem mod_one_of_dvd {q n x : Nat} (hq : 1 < q) (hn : 1 < n) (hd : q ∣ n) (h : x % n = 1) : x % q = 1 := by
  have := mod_of_dvd (r := 1) hd (by rw [h, Nat.mod_eq_of_lt hn])
  rw [this, Nat.mod_eq_of_lt hq]

theorem Liar.fermat_at {n a q : Nat} (h : Liar n) (hq : 1 < q) (hd : q ∣ n) (ha : a = 2 ∨ a = 3 ∨ a = 5 ∨ a = 7) : a ^ (n - 1) % q = 1 :=
  mod_one_of_dvd hq h.big hd (h.fermat ha)

theorem Liar.odd {n : Nat} (h : Liar n) : n % 2 = 1 := by
  have hc := h.cop
  apply Classical.byContradiction
  intro ho
  have : 2 ∣ Nat.gcd n 210 := Nat.dvd_gcd (Nat.dvd_of_mod_eq_zero (by omega)) (by decide)
  rw [hc] at this
  have := Nat.le_of_dvd (by decide) this
  omega

theorem Liar.not_dvd {n a q : Nat} (h : Liar n) (hq : Pr q) (hd : q ∣ n) (ha : a = 2 ∨ a = 3 ∨ a = 5 ∨ a = 7) : ¬ q ∣ a := by
  intro hqa
  have h210 : q ∣ 210 := Nat.dvd_trans hqa (by rcases ha with rfl | rfl | rfl | rfl <;> decide)
  have : q ∣ Nat.gcd n 210 := Nat.dvd_gcd hd h210
  rw [h.cop] at this
  have := Nat.le_of_dvd (by decide) this
  have := hq.1
  omega

/-- a prime factor is 11 at least -/
theorem Liar.ge11 {n q : Nat} (h : Liar n) (hq : Pr q) (hd : q ∣ n) : 11 ≤ q := by
  apply Classical.byContradiction
  intro hlt
  have h2 := h.not_dvd hq hd (a := 2) (by simp)
  have h3 := h.not_dvd hq hd (a := 3) (by simp)
  have h5 := h.not_dvd hq hd (a := 5) (by simp)
  have h7 := h.not_dvd hq hd (a := 7) (by simp)
  have hq1 := hq.1
  have hp : ∀ d, d ∣ q → d = 1 ∨ d = q := hq.2
  have h22 := hp 2
  have h33 := hp 3
  have : q = 2 ∨ q = 3 ∨ q = 4 ∨ q = 5 ∨ q = 6 ∨ q = 7 ∨ q = 8 ∨ q = 9 ∨ q = 10 := by omega
  rcases this with rfl | rfl | rfl | rfl | rfl | rfl | rfl | rfl | rfl <;> revert h2 h3 h5 h7 h22 h33 <;> decide

/-! the signs -/
theorem odd_gcd_two_pow (d t : Nat) (hd : d % 2 = 1) : Nat.gcd d (2 ^ t) = 1 := by
  induction t with
  | zero => simp
  | succ t ih =>
    rw [Nat.pow_succ]
    have h2 : Nat.Coprime d 2 := by
      show Nat.gcd d 2 = 1
      rw [Nat.gcd_comm, Nat.gcd_rec, hd]; decide
    exact Nat.Coprime.mul_right ih h2

/-- of a prime factor: how often a's odd power is squared until it is 1 -/
theorem lev_same {n d a q t u : Nat} (hn : 1 < n) (hodd : n % 2 = 1) (hd : d % 2 = 1) (hq : Pr q) (hqn : q ∣ n) (hqa : ¬ q ∣ a) (hu : q - 1 = 2 ^ t * u) (huo : u % 2 = 1) (i : Nat) (v : Nat)
    (h : (v = 0 ∧ a ^ d % n = 1) ∨ (v = i + 1 ∧ a ^ (2 ^ i * d) % n = n - 1)) (k : Nat) (hk : v < k) :
    lev k q (a ^ u % q) = v := by
  have hq2 := hq.1
  have hqo : q % 2 = 1 := by
    obtain ⟨c, hc⟩ := hqn
    apply Classical.byContradiction
    intro hx
    have : q = 2 * (q / 2) := by omega
    rw [this, Nat.mul_assoc] at hc
    omega
  have hf : (a ^ u) ^ (2 ^ t) % q = 1 := by
    rw [← Nat.pow_mul, Nat.mul_comm, ← hu]; exact NumTh.fermat hq hqa
  have hpm : ∀ j, (a ^ u % q) ^ (2 ^ j) % q = (a ^ u) ^ (2 ^ j) % q := fun j => by rw [← Nat.pow_mod]
  rcases h with ⟨rfl, h⟩ | ⟨rfl, h⟩
  · apply lev_eq q (by omega) k 0 _ hk (Nat.mod_lt _ (by omega)) (fun j hj => absurd hj (by omega))
    rw [hpm, Nat.pow_zero, Nat.pow_one]
    have h1 : (a ^ u) ^ d % q = 1 := by
      rw [← Nat.pow_mul, Nat.mul_comm]
      exact pow_one_mul (by omega) (mod_one_of_dvd (by omega) hn hqn h)
    have := pow_one_gcd (by omega : 1 < q) d (2 ^ t) h1 hf
    rwa [odd_gcd_two_pow d t hd, Nat.pow_one] at this
  · have hqm : a ^ (2 ^ i * d) % q = q - 1 := by
      obtain ⟨c, hc⟩ := hqn
      have hc0 : c ≠ 0 := by intro h0; subst h0; simp at hc; omega
      have h1 := mod_of_dvd (r := n - 1) ⟨c, hc⟩ (by rw [h, Nat.mod_eq_of_lt (by omega)])
      rw [h1]
      obtain ⟨e, rfl⟩ : ∃ e, c = e + 1 := ⟨c - 1, by omega⟩
      have : n - 1 = (q - 1) + q * e := by rw [hc, Nat.mul_add]; omega
      rw [this, Nat.add_mul_mod_self_left, Nat.mod_eq_of_lt (by omega)]
    -- z, whose d-th power is -1
    have hz1 : ((a ^ u) ^ (2 ^ i)) ^ d % q = q - 1 := by
      rw [← Nat.pow_mul, ← Nat.pow_mul, Nat.mul_comm u (2 ^ i * d), Nat.pow_mul]
      exact neg_odd_pow (by omega) hqm huo
    have hz2 : ((a ^ u) ^ (2 ^ i)) ^ (2 * d) % q = 1 := by
      rw [Nat.mul_comm, Nat.pow_mul, Nat.pow_two]
      exact sq_mod (by omega) hz1
    have hz3 : ((a ^ u) ^ (2 ^ i)) ^ (2 ^ t) % q = 1 := by
      rw [← Nat.pow_mul, Nat.mul_comm, Nat.pow_mul]
      rw [Nat.pow_mod, hf, Nat.one_pow, Nat.mod_eq_of_lt (by omega)]
    have hz4 := pow_one_gcd (by omega : 1 < q) _ _ hz2 hz3
    have hg : Nat.gcd (2 * d) (2 ^ t) ∣ 2 := by
      have : Nat.gcd (2 * d) (2 ^ t) ∣ Nat.gcd (2 * d) (2 * 2 ^ t) := Nat.gcd_dvd_gcd_mul_left_right _ _ _
      rw [Nat.gcd_mul_left, odd_gcd_two_pow d t hd] at this
      exact this
    have hz5 := pow_one_dvd (by omega : 1 < q) hz4 hg
    rw [Nat.pow_two] at hz5
    have hz6 : (a ^ u) ^ (2 ^ i) % q = q - 1 := by
      rcases sqrt_one hq hz5 with h1 | h1
      · exfalso
        have : ((a ^ u) ^ (2 ^ i)) ^ d % q = 1 := by rw [Nat.pow_mod, h1, Nat.one_pow, Nat.mod_eq_of_lt (by omega)]
        omega
      · exact h1
    apply lev_eq q (by omega) k (i + 1) _ hk (Nat.mod_lt _ (by omega))
    · intro j hj h1
      rw [hpm] at h1
      have : (a ^ u) ^ (2 ^ i) % q = 1 := by
        refine pow_one_dvd (by omega) h1 ?_
        exact Nat.pow_dvd_pow 2 (by omega)
      omega
    · rw [hpm, Nat.pow_succ, Nat.pow_mul, Nat.pow_two]
      exact sq_mod (by omega) hz6

/-- the odd part of what is less by one, below 65537 -/
def oddp (q : Nat) : Nat := Nat.div (Nat.pred q) (Nat.gcd (Nat.pred q) 65536)
def sig1 (a q : Nat) : Nat := lev 40 q (Nat.mod (Nat.pow a (oddp q)) q)

theorem oddp_spec (q : Nat) (h1 : 1 < q) (h2 : q < 65537) : ∃ t, q - 1 = 2 ^ t * oddp q ∧ oddp q % 2 = 1 := by
  obtain ⟨t, u, hu, huo⟩ := odd_part (q - 1) (by omega)
  have ht : t ≤ 16 := by
    apply Classical.byContradiction
    intro h
    have : 2 ^ 17 ≤ 2 ^ t := Nat.pow_le_pow_right (by decide) (by omega)
    have hu1 : 1 ≤ u := by omega
    have : 2 ^ 17 * 1 ≤ 2 ^ t * u := Nat.mul_le_mul this hu1
    omega
  have hg : Nat.gcd (q - 1) 65536 = 2 ^ t := by
    rw [hu]
    have e : (65536 : Nat) = 2 ^ t * 2 ^ (16 - t) := by rw [← Nat.pow_add, show t + (16 - t) = 16 by omega]
    rw [e, Nat.gcd_mul_left, odd_gcd_two_pow u _ huo, Nat.mul_one]
  refine ⟨t, ?_, ?_⟩
  · show q - 1 = 2 ^ t * ((q - 1) / Nat.gcd (q - 1) 65536)
    rw [hg, hu, Nat.mul_div_cancel_left _ (Nat.two_pow_pos t)]
  · show (q - 1) / Nat.gcd (q - 1) 65536 % 2 = 1
    rw [hg, hu, Nat.mul_div_cancel_left _ (Nat.two_pow_pos t)]; exact huo

theorem Liar.sig {n a q r : Nat} (h : Liar n) (ha : a = 2 ∨ a = 3 ∨ a = 5 ∨ a = 7) (hq : Pr q) (hqn : q ∣ n) (hr : Pr r) (hrn : r ∣ n) (hql : q < 65537) (hrl : r < 65537) : sig1 a q = sig1 a r := by
  have hb := h.big
  obtain ⟨s, d, h1, h2⟩ := odd_part (n - 1) (by omega)
  have hs : s < 31 := by
    apply Classical.byContradiction
    intro hx
    have : 2 ^ 31 ≤ 2 ^ s := Nat.pow_le_pow_right (by decide) (by omega)
    have hu1 : 1 ≤ d := by omega
    have : 2 ^ 31 * 1 ≤ 2 ^ s * d := Nat.mul_le_mul this hu1
    have := h.le
    unfold NMax at this
    omega
  obtain ⟨tq, q1, q2⟩ := oddp_spec q hq.1 hql
  obtain ⟨tr, r1, r2⟩ := oddp_spec r hr.1 hrl
  rcases h.pass d s h1 h2 a ha with hp | ⟨i, hi, hp⟩
  · have e1 := lev_same h.big h.odd h2 hq hqn (h.not_dvd hq hqn ha) q1 q2 0 0 (Or.inl ⟨rfl, hp⟩) 40 (by omega)
    have e2 := lev_same h.big h.odd h2 hr hrn (h.not_dvd hr hrn ha) r1 r2 0 0 (Or.inl ⟨rfl, hp⟩) 40 (by omega)
    exact e1.trans e2.symm
  · have e1 := lev_same h.big h.odd h2 hq hqn (h.not_dvd hq hqn ha) q1 q2 i (i + 1) (Or.inr ⟨rfl, hp⟩) 40 (by omega)
    have e2 := lev_same h.big h.odd h2 hr hrn (h.not_dvd hr hrn ha) r1 r2 i (i + 1) (Or.inr ⟨rfl, hp⟩) 40 (by omega)
    exact e1.trans e2.symm

/-- the square of a prime -/
theorem pow_near (p t : Nat) : ∀ j, (1 + p * t) ^ j % (p * p) = (1 + j * (p * t)) % (p * p) := by
  intro j
  induction j with
  | zero => simp
  | succ j ih =>
    rw [Nat.pow_succ, Nat.mul_mod, ih, ← Nat.mul_mod]
    have : (1 + j * (p * t)) * (1 + p * t) = (1 + (j + 1) * (p * t)) + (p * p) * (j * t * t) := by
      simp only [Nat.add_mul, Nat.mul_add, Nat.one_mul, Nat.mul_one]
      have : j * (p * t) * (p * t) = p * p * (j * t * t) := by
        simp only [Nat.mul_left_comm, Nat.mul_comm]
      omega
    rw [this, Nat.add_mul_mod_self_left]

theorem wieferich {n a p : Nat} (hn : 1 < n) (hp : Pr p) (hd : p * p ∣ n) (ha : ¬ p ∣ a) (h : a ^ (n - 1) % n = 1) : a ^ (p - 1) % (p * p) = 1 := by
  have hp2 := hp.1
  have hpp : 1 < p * p := by have := Nat.mul_le_mul hp2 hp2; omega
  have h1 : a ^ (n - 1) % (p * p) = 1 := mod_one_of_dvd hpp hn hd h
  have hf := NumTh.fermat hp ha
  have e : a ^ (p - 1) = 1 + p * (a ^ (p - 1) / p) := by
    have := Nat.div_add_mod (a ^ (p - 1)) p
    omega
  have h2 : (a ^ (p - 1)) ^ (n - 1) % (p * p) = 1 := by
    rw [← Nat.pow_mul, Nat.mul_comm]; exact pow_one_mul hpp h1
  generalize a ^ (p - 1) / p = t at e
  rw [e] at h2 ⊢
  rw [pow_near] at h2
  have h3 : p * p ∣ (n - 1) * (p * t) := by
    have := mod_sub_dvd (a := 1 + (n - 1) * (p * t)) (b := 1) (p := p * p) (by rw [h2, Nat.mod_eq_of_lt hpp])
    rwa [Nat.add_sub_cancel_left] at this
  have h4 : p ∣ (n - 1) * t := by
    obtain ⟨c, hc⟩ := h3
    refine ⟨c, Nat.eq_of_mul_eq_mul_left (show 0 < p by omega) ?_⟩
    rw [← Nat.mul_assoc p p c, ← hc, Nat.mul_left_comm]
  have h5 : p ∣ t := by
    rcases pr_dvd_mul hp h4 with h5 | h5
    · exfalso
      have hpn : p ∣ n := Nat.dvd_trans ⟨p, rfl⟩ hd
      have : p ∣ n - (n - 1) := Nat.dvd_sub hpn h5
      rw [show n - (n - 1) = 1 by omega] at this
      have := Nat.le_of_dvd (by decide) this
      omega
    · exact h5
  obtain ⟨c, rfl⟩ := h5
  rw [← Nat.mul_assoc, Nat.add_mul_mod_self_left, Nat.mod_eq_of_lt hpp]
end NumTh
