namespace NumTh

def Pr (p : Nat) : Prop := 2 ≤ p ∧ ∀ d, d ∣ p → d = 1 ∨ d = p

theorem exists_pr : ∀ n, 2 ≤ n → ∃ p, Pr p ∧ p ∣ n := by
  intro n
  induction n using Nat.strongRecOn with
  | ind n ih =>
    intro h
    by_cases hp : Pr n
    · exact ⟨n, hp, Nat.dvd_refl n⟩
    · have : ∃ d, d ∣ n ∧ d ≠ 1 ∧ d ≠ n := by
        apply Classical.byContradiction
        intro hc
        apply hp
        refine ⟨h, fun d hd => ?_⟩
        by_cases h1 : d = 1
        · exact Or.inl h1
        · by_cases h2 : d = n
          · exact Or.inr h2
          · exact absurd ⟨d, hd, h1, h2⟩ hc
      obtain ⟨d, hd, h1, h2⟩ := this
      have hle := Nat.le_of_dvd (by omega) hd
      have hpos : 0 < d := Nat.pos_of_dvd_of_pos hd (by omega)
      obtain ⟨p, hp1, hp2⟩ := ih d (by omega) (by omega)
      exact ⟨p, hp1, Nat.dvd_trans hp2 hd⟩

/-- a composite number has a prime factor whose square is not above it -/
theorem exists_small_pr (n : Nat) (h : 2 ≤ n) (hn : ¬ Pr n) : ∃ p, Pr p ∧ p ∣ n ∧ p * p ≤ n := by
  have : ∃ d, d ∣ n ∧ d ≠ 1 ∧ d ≠ n := by
    apply Classical.byContradiction
    intro hc
    apply hn
    refine ⟨h, fun d hd => ?_⟩
    by_cases h1 : d = 1
    · exact Or.inl h1
    · by_cases h2 : d = n
      · exact Or.inr h2
      · exact absurd ⟨d, hd, h1, h2⟩ hc
  obtain ⟨d, ⟨e, he⟩, h1, h2⟩ := this
  have hd0 : d ≠ 0 := by intro h0; subst h0; simp at he; omega
  have he0 : e ≠ 0 := by intro h0; subst h0; simp at he; omega
  have he1 : e ≠ 1 := by intro h0; subst h0; simp at he; omega
  by_cases hle : d ≤ e
  · obtain ⟨p, hp, hpd⟩ := exists_pr d (by omega)
    have hpl := Nat.le_of_dvd (by omega) hpd
    refine ⟨p, hp, Nat.dvd_trans hpd ⟨e, he⟩, ?_⟩
    rw [he]; exact Nat.mul_le_mul hpl (by omega)
  · obtain ⟨p, hp, hpd⟩ := exists_pr e (by omega)
    have hpl := Nat.le_of_dvd (by omega) hpd
    refine ⟨p, hp, Nat.dvd_trans hpd ⟨d, by rw [he, Nat.mul_comm]⟩, ?_⟩
    rw [he]; exact Nat.mul_le_mul (by omega) hpl

theorem pr_coprime {p a : Nat} (hp : Pr p) (h : ¬ p ∣ a) : Nat.Coprime p a := by
  rcases hp.2 _ (Nat.gcd_dvd_left p a) with h1 | h1
  · exact h1
  · exact absurd (h1 ▸ Nat.gcd_dvd_right p a) h

theorem pr_dvd_mul {p a b : Nat} (hp : Pr p) (h : p ∣ a * b) : p ∣ a ∨ p ∣ b := by
  by_cases ha : p ∣ a
  · exact Or.inl ha
  · exact Or.inr ((pr_coprime hp ha).dvd_of_dvd_mul_left h)

theorem pr_dvd_pow {p a n : Nat} (hp : Pr p) (h : p ∣ a ^ n) : p ∣ a := by
  induction n with
  | zero => have h1 := Nat.le_of_dvd (by simp) h; have h2 := hp.1; simp at h1; omega
  | succ n ih =>
    rw [Nat.pow_succ] at h
    rcases pr_dvd_mul hp h with h | h
    · exact ih h
    · exact h

/-! binomials, Fermat -/
def ch : Nat → Nat → Nat
  | _, 0 => 1
  | 0, _ + 1 => 0
  | n + 1, k + 1 => ch n k + ch n (k + 1)

theorem ch_zero (n : Nat) : ch n 0 = 1 := by cases n <;> rfl
theorem ch_gt : ∀ n k, n < k → ch n k = 0 := by
  intro n
  induction n with
  | zero => intro k hk; cases k with
    | zero => omega
    | succ k => rfl
  | succ n ih => intro k hk; cases k with
    | zero => omega
    | succ k => simp only [ch]; rw [ih k (by omega), ih (k + 1) (by omega)]
theorem ch_self (n : Nat) : ch n n = 1 := by
  induction n with
  | zero => rfl
  | succ n ih => simp only [ch]; rw [ih, ch_gt n (n + 1) (by omega)]
theorem ch_mul : ∀ n k, (k + 1) * ch (n + 1) (k + 1) = (n + 1) * ch n k := by
  intro n
  induction n with
  | zero => intro k; cases k with
    | zero => rfl
    | succ k => simp [ch]
  | succ n ih => intro k; cases k with
    | zero =>
      have h := ih 0
      simp only [ch_zero] at h ⊢
      have e : ch (n + 1 + 1) (0 + 1) = ch (n + 1) 0 + ch (n + 1) (0 + 1) := rfl
      rw [e, ch_zero]; omega
    | succ k =>
      have h1 := ih k
      have h2 := ih (k + 1)
      have e : ch (n + 1 + 1) (k + 1 + 1) = ch (n + 1) (k + 1) + ch (n + 1) (k + 1 + 1) := rfl
      have e2 : ch (n + 1) (k + 1) = ch n k + ch n (k + 1) := rfl
      rw [e, Nat.mul_add, h2]
      have e3 : (k + 1 + 1) * ch (n + 1) (k + 1) = (k + 1) * ch (n + 1) (k + 1) + ch (n + 1) (k + 1) := by
        rw [Nat.add_mul (k + 1) 1, Nat.one_mul]
      rw [e3, h1]
      have e4 : (n + 1 + 1) * ch (n + 1) (k + 1) = (n + 1) * ch (n + 1) (k + 1) + ch (n + 1) (k + 1) := by
        rw [Nat.add_mul (n + 1) 1, Nat.one_mul]
      rw [e4]
      have e5 : (n + 1) * ch (n + 1) (k + 1) = (n + 1) * ch n k + (n + 1) * ch n (k + 1) := by rw [e2, Nat.mul_add]
      omega

/-- the sum of the first m terms of (1 + a)^n -/
def bs (n a : Nat) : Nat → Nat
  | 0 => 0
  | m + 1 => bs n a m + ch n m * a ^ m

theorem bs_step (n a m : Nat) : bs (n + 1) a (m + 1) = bs n a (m + 1) + a * bs n a m := by
  induction m with
  | zero => simp [bs, ch_zero]
  | succ m ih =>
    rw [bs, ih]
    have e2 : bs n a (m + 1 + 1) = bs n a (m + 1) + ch n (m + 1) * a ^ (m + 1) := rfl
    have e3 : bs n a (m + 1) = bs n a m + ch n m * a ^ m := rfl
    have e4 : ch (n + 1) (m + 1) = ch n m + ch n (m + 1) := rfl
    have e5 : a * bs n a (m + 1) = a * bs n a m + a * (ch n m * a ^ m) := by rw [e3, Nat.mul_add]
    have e6 : a * (ch n m * a ^ m) = ch n m * a ^ (m + 1) := by
      rw [Nat.pow_succ, Nat.mul_left_comm, Nat.mul_comm a]
    rw [e2, e4, e5, Nat.add_mul, e6]
    omega
theorem bs_all (n a : Nat) : bs n a (n + 1) = (a + 1) ^ n := by
  induction n with
  | zero => simp [bs, ch]
  | succ n ih =>
    rw [bs_step]
    have : bs n a (n + 1 + 1) = bs n a (n + 1) := by
      rw [bs, ch_gt n (n + 1) (by omega)]; simp
    rw [this, ih, Nat.pow_succ, Nat.mul_add, Nat.mul_one, Nat.mul_comm a]
    omega

theorem pr_dvd_ch {p k : Nat} (hp : Pr p) (h0 : 0 < k) (hk : k < p) : p ∣ ch p k := by
  have hp2 := hp.1
  obtain ⟨k, rfl⟩ : ∃ j, k = j + 1 := ⟨k - 1, by omega⟩
  obtain ⟨m, rfl⟩ : ∃ j, p = j + 1 := ⟨p - 1, by omega⟩
  have h := ch_mul m k
  have hd : (m + 1) ∣ (k + 1) * ch (m + 1) (k + 1) := ⟨ch m k, h⟩
  rcases pr_dvd_mul hp hd with h1 | h1
  · have := Nat.le_of_dvd (by omega) h1; omega
  · exact h1

theorem bs_mod {p : Nat} (hp : Pr p) (a m : Nat) (hm : m < p) : bs p a (m + 1) % p = 1 := by
  induction m with
  | zero =>
    have h2 := hp.1
    simp only [bs, ch_zero, Nat.pow_zero]
    exact Nat.mod_eq_of_lt (by omega)
  | succ m ih =>
    rw [bs]
    obtain ⟨c, hc⟩ := pr_dvd_ch hp (k := m + 1) (by omega) hm
    rw [hc, Nat.mul_assoc, Nat.add_mul_mod_self_left]
    exact ih (by omega)

theorem fermat' {p : Nat} (hp : Pr p) (a : Nat) : a ^ p % p = a % p := by
  have hp2 := hp.1
  induction a with
  | zero => rw [Nat.zero_pow (by omega)]
  | succ a ih =>
    rw [← bs_all, bs, ch_self, Nat.one_mul]
    obtain ⟨m, rfl⟩ : ∃ j, p = j + 1 := ⟨p - 1, by omega⟩
    rw [Nat.add_mod, bs_mod hp a m (by omega), ih]
    rw [Nat.add_mod a 1, Nat.add_comm, Nat.mod_eq_of_lt (show 1 < m + 1 by omega)]

theorem mod_sub_dvd {a b p : Nat} (h : a % p = b % p) : p ∣ a - b :=
  Nat.dvd_of_mod_eq_zero (Nat.sub_mod_eq_zero_of_mod_eq h)

/-- the little theorem -/
theorem fermat {p a : Nat} (hp : Pr p) (h : ¬ p ∣ a) : a ^ (p - 1) % p = 1 := by
  have hp2 := hp.1
  have h1 := mod_sub_dvd (fermat' hp a)
  obtain ⟨m, rfl⟩ : ∃ j, p = j + 1 := ⟨p - 1, by omega⟩
  have ha : 0 < a := Nat.pos_of_ne_zero (fun h0 => h (h0 ▸ Nat.dvd_zero _))
  have e : a ^ (m + 1) - a = a * (a ^ m - 1) := by
    rw [Nat.pow_succ, Nat.mul_sub, Nat.mul_one, Nat.mul_comm]
  rw [e] at h1
  rcases pr_dvd_mul hp h1 with h1 | h1
  · exact absurd h1 h
  · obtain ⟨c, hc⟩ := h1
    have hpos : 0 < a ^ m := Nat.pow_pos ha
    have e2 : a ^ m = 1 + (m + 1) * c := by omega
    rw [Nat.add_sub_cancel, e2, Nat.add_mul_mod_self_left, Nat.mod_eq_of_lt (by omega)]

theorem pow_one_mul {n x a b : Nat} (hn : 1 < n) (h : x ^ a % n = 1) : x ^ (a * b) % n = 1 := by
  rw [Nat.pow_mul, Nat.pow_mod, h, Nat.one_pow, Nat.mod_eq_of_lt hn]

theorem pow_one_dvd {n x a b : Nat} (hn : 1 < n) (h : x ^ a % n = 1) (hd : a ∣ b) : x ^ b % n = 1 := by
  obtain ⟨c, rfl⟩ := hd
  exact pow_one_mul hn h

theorem pow_one_mod {n x a b : Nat} (hn : 1 < n) (ha : x ^ a % n = 1) (hb : x ^ b % n = 1) : x ^ (b % a) % n = 1 := by
  have e : x ^ b = x ^ (a * (b / a)) * x ^ (b % a) := by rw [← Nat.pow_add, Nat.div_add_mod]
  rw [e, Nat.mul_mod, pow_one_mul hn ha, Nat.one_mul, Nat.mod_mod] at hb
  exact hb

theorem pow_one_gcd {n x : Nat} (hn : 1 < n) : ∀ a b, x ^ a % n = 1 → x ^ b % n = 1 → x ^ (Nat.gcd a b) % n = 1 := by
  intro a b
  induction a, b using Nat.gcd.induction with
  | H0 b => intro _ hb; rw [Nat.gcd_zero_left]; exact hb
  | H1 a b hpos ih =>
    intro ha hb
    rw [Nat.gcd_rec]
    exact ih (pow_one_mod hn ha hb) ha

/-- the square roots of 1 -/
theorem sqrt_one {p x : Nat} (hp : Pr p) (h : x * x % p = 1) : x % p = 1 ∨ x % p = p - 1 := by
  have hp2 := hp.1
  by_cases h0 : x = 0
  · subst h0; simp at h
  have h1 : p ∣ x * x - 1 := mod_sub_dvd (by rw [h, Nat.mod_eq_of_lt (by omega)])
  have e : x * x - 1 = (x - 1) * (x + 1) := by
    obtain ⟨y, rfl⟩ : ∃ y, x = y + 1 := ⟨x - 1, by omega⟩
    rw [Nat.add_sub_cancel]; simp only [Nat.add_mul, Nat.mul_add, Nat.mul_one, Nat.one_mul]; omega
  rw [e] at h1
  rcases pr_dvd_mul hp h1 with ⟨c, hc⟩ | ⟨c, hc⟩
  · left
    have : x = 1 + p * c := by omega
    rw [this, Nat.add_mul_mod_self_left, Nat.mod_eq_of_lt (by omega)]
  · right
    obtain ⟨c, rfl⟩ : ∃ d, c = d + 1 := ⟨c - 1, by
      have : c ≠ 0 := by intro hz; subst hz; simp at hc
      omega⟩
    have : x = (p - 1) + p * c := by rw [Nat.mul_add] at hc; omega
    rw [this, Nat.add_mul_mod_self_left, Nat.mod_eq_of_lt (by omega)]

theorem sq_mod {p x : Nat} (hp : 1 < p) (h : x % p = p - 1) : x * x % p = 1 := by
  rw [Nat.mul_mod, h]
  obtain ⟨m, rfl⟩ : ∃ j, p = j + 1 := ⟨p - 1, by omega⟩
  rw [Nat.add_sub_cancel]
  by_cases hm : m = 1
  · subst hm; rfl
  have : m * m = 1 + (m + 1) * (m - 1) := by
    obtain ⟨y, rfl⟩ : ∃ y, m = y + 1 := ⟨m - 1, by omega⟩
    rw [Nat.add_sub_cancel]; simp only [Nat.add_mul, Nat.mul_add]; omega
  rw [this, Nat.add_mul_mod_self_left, Nat.mod_eq_of_lt (by omega)]

theorem neg_odd_pow {p x d : Nat} (hp : 2 < p) (h : x % p = p - 1) (hd : d % 2 = 1) : x ^ d % p = p - 1 := by
  have e : d = 2 * (d / 2) + 1 := by omega
  rw [e, Nat.pow_succ, Nat.pow_mul, Nat.mul_mod, Nat.pow_mod, Nat.pow_two, sq_mod (by omega) h, Nat.one_pow, Nat.mod_eq_of_lt (by omega : 1 < p), Nat.one_mul, Nat.mod_mod, h]

/-- Pass: what the test by one witness tells -/
def Pass (n d s a : Nat) : Prop := a ^ d % n = 1 ∨ ∃ i, i < s ∧ a ^ (2 ^ i * d) % n = n - 1

/-- a prime passes -/
theorem prime_pass {p d s a : Nat} (hp : Pr p) (hp2 : 2 < p) (hs : p - 1 = 2 ^ s * d) (ha : ¬ p ∣ a) : Pass p d s a := by
  have hf := fermat hp ha
  rw [hs] at hf
  clear hs
  induction s with
  | zero => left; simpa using hf
  | succ s ih =>
    have e : 2 ^ (s + 1) * d = 2 ^ s * d * 2 := by rw [Nat.pow_succ, Nat.mul_right_comm]
    rw [e, Nat.pow_mul, Nat.pow_two] at hf
    rcases sqrt_one hp hf with h | h
    · rcases ih h with h | ⟨i, hi, h⟩
      · exact Or.inl h
      · exact Or.inr ⟨i, by omega, h⟩
    · exact Or.inr ⟨s, by omega, h⟩

theorem pass_fermat {n d s a : Nat} (hn : 1 < n) (hs : n - 1 = 2 ^ s * d) (h : Pass n d s a) : a ^ (n - 1) % n = 1 := by
  rw [hs]
  rcases h with h | ⟨i, hi, h⟩
  · rw [Nat.mul_comm]; exact pow_one_mul hn h
  · have h2 := sq_mod hn h
    rw [← Nat.pow_two, ← Nat.pow_mul] at h2
    refine pow_one_dvd hn h2 ?_
    obtain ⟨j, rfl⟩ : ∃ j, s = i + 1 + j := ⟨s - (i + 1), by omega⟩
    refine ⟨2 ^ j, ?_⟩
    rw [Nat.pow_add, Nat.pow_succ, Nat.mul_right_comm, Nat.mul_right_comm (2 ^ i) 2 d]

theorem mod_of_dvd {q n x r : Nat} (hd : q ∣ n) (h : x % n = r % n) : x % q = r % q := by
  obtain ⟨c, rfl⟩ := hd
  rw [← Nat.mod_mul_right_mod x q c, h, Nat.mod_mul_right_mod]

/-- how often y is squared until it is 1 -/
def lev : Nat → Nat → Nat → Nat
  | 0, _, _ => 0
  | k + 1, q, y => cond (Nat.beq y 1) 0 (Nat.succ (lev k q (Nat.mod (Nat.mul y y) q)))

theorem lev_eq (q : Nat) (hq : 1 < q) : ∀ (k i y : Nat), i < k → y < q → (∀ j, j < i → y ^ (2 ^ j) % q ≠ 1) → y ^ (2 ^ i) % q = 1 → lev k q y = i := by
  intro k
  induction k with
  | zero => intro i y h; omega
  | succ k ih =>
    intro i y hik hy hne he
    cases i with
    | zero =>
      rw [Nat.pow_zero, Nat.pow_one, Nat.mod_eq_of_lt hy] at he
      subst he; simp [lev]
    | succ i =>
      have h0 := hne 0 (by omega)
      rw [Nat.pow_zero, Nat.pow_one, Nat.mod_eq_of_lt hy] at h0
      have hb : Nat.beq y 1 = false := by
        cases hb : Nat.beq y 1 with
        | false => rfl
        | true => exact absurd (Nat.eq_of_beq_eq_true hb) h0
      simp only [lev, hb, cond_false]
      have e : ∀ j, (y * y % q) ^ (2 ^ j) % q = y ^ (2 ^ (j + 1)) % q := by
        intro j
        rw [← Nat.pow_mod, ← Nat.pow_two, ← Nat.pow_mul, Nat.pow_succ, Nat.mul_comm 2]
      have := ih i (y * y % q) (by omega) (Nat.mod_lt _ (by omega)) (fun j hj => by rw [e]; exact hne (j + 1) (by omega)) (by rw [e]; exact he)
      show Nat.succ (lev k q (y * y % q)) = i + 1
      rw [this]
end NumTh
